/- The document's answer for texts: One, Runes, Name, Pass, Note, Escape say what the plain ones say. -/
import Derived.Test.YtlehjehnapjioaaDoorTx3
namespace Go.Proofs.YtlehjehnapjioaaDoor.E
open Go.RowKit Go.Lib Go.Proofs.YtlehjehnapjioaaDoorW.PrintWords Go.Proofs.YtlehjehnapjioaaDoorW.PrintLast Go.Proofs.YtlehjehnapjioaaDoorW.PrintMore Go.Proofs.YtlehjehnapjioaaDoor.Pr
set_option linter.unusedVariables false
set_option linter.unusedSimpArgs false
def moreN (b : Nat) : Int := if b < 128 then 0 else if 194 ≤ b ∧ b ≤ 223 then 1 else if 224 ≤ b ∧ b ≤ 239 then 2 else if 240 ≤ b ∧ b ≤ 244 then 3 else -1
theorem more_f (b k : Nat) (hk : 2 ≤ k) : wicketmanref06_more.f k (b : Int) = some (moreN b) := by
  obtain ⟨m, rfl⟩ : ∃ m, k = m + 1 + 1 := ⟨k - 2, by omega⟩
  unfold wicketmanref06_more.f moreN
  simp only [wicketmanref06_more.j0, wicketmanref06_more.j1]
  by_cases h1 : b < 128
  · rw [if_pos (by omega), if_pos h1]
  rw [if_neg (by omega), if_neg h1]
  by_cases h2 : 194 ≤ b ∧ b ≤ 223
  · rw [if_pos (by omega), decide_eq_true (by omega), if_pos rfl, if_pos h2]
  rw [if_neg h2]
  have e : (if (b : Int) ≥ 194 then (if decide ((b : Int) ≤ 223) = true then some (1 : Int) else (if (b : Int) ≥ 224 then (if decide ((b : Int) ≤ 239) = true then some 2 else (if (b : Int) ≥ 240 then (if (b : Int) ≤ 244 then some 3 else some (-1)) else some (-1))) else (if false = true then some 2 else (if (b : Int) ≥ 240 then (if (b : Int) ≤ 244 then some 3 else some (-1)) else some (-1)))))
      else (if false = true then some 1 else (if (b : Int) ≥ 224 then (if decide ((b : Int) ≤ 239) = true then some 2 else (if (b : Int) ≥ 240 then (if (b : Int) ≤ 244 then some 3 else some (-1)) else some (-1))) else (if false = true then some 2 else (if (b : Int) ≥ 240 then (if (b : Int) ≤ 244 then some 3 else some (-1)) else some (-1)))))) =
      some (if 224 ≤ b ∧ b ≤ 239 then 2 else if 240 ≤ b ∧ b ≤ 244 then 3 else -1) := by
    simp only [decide_eq_true_eq, Bool.false_eq_true, if_false]
    by_cases h3 : 224 ≤ b ∧ b ≤ 239
    · rw [if_pos h3, if_pos (by omega), if_neg (by omega), if_pos (by omega), if_pos (by omega)]
    · rw [if_neg h3]
      by_cases h4 : 240 ≤ b ∧ b ≤ 244
      · rw [if_pos h4, if_pos (by omega), if_neg (by omega), if_pos (by omega), if_neg (by omega), if_pos (by omega), if_pos (by omega)]
      · rw [if_neg h4]
        repeat' split
        all_goals first | rfl | (exfalso; omega)
  exact e
def leastN (n : Nat) : Nat := if n = 0 then 0 else if n = 1 then 128 else if n = 2 then 2048 else 65536
theorem one_fin (s : ByteArray) (n r k : Nat) (hn : n ≤ 3) (ii : Int) (hii : ii = ((n + 1 : Nat) : Int)) : wicketmanref06_One.l0 (k + 1) s (n : Int) (r : Int) ii = some (if r < leastN n ∨ (55296 ≤ r ∧ r ≤ 57343) ∨ 1114111 < r then (0, 0) else ((r : Int), ((n + 1 : Nat) : Int))) := by
  subst hii
  simp only [wicketmanref06_One.l0]
  have hl : rd [0, 128, 2048, 65536] (n : Int) = ((leastN n : Nat) : Int) := by
    match n, hn with
    | 0, _ => rfl
    | 1, _ => rfl
    | 2, _ => rfl
    | 3, _ => rfl
  have hlen : (([0, 128, 2048, 65536] : List Int).length : Int) = 4 := rfl
  rw [if_neg (by omega), Option.bind_some, if_pos (by omega), hlen, if_pos (by omega), hl, w64_id (by omega) (by omega)]
  by_cases h1 : r < leastN n
  · rw [if_pos (by omega), if_pos (.inl h1)]
  rw [if_neg (by omega)]
  by_cases h2 : 55296 ≤ r ∧ r ≤ 57343
  · rw [if_pos (by omega), if_pos (by omega), if_pos (.inr (.inl h2))]
  by_cases h3 : 1114111 < r
  · rw [if_pos (by omega), if_neg (by omega), if_pos (by omega), if_pos (.inr (.inr h3))]
  rw [if_neg (show ¬ (r < leastN n ∨ (55296 ≤ r ∧ r ≤ 57343) ∨ 1114111 < r) by omega)]
  repeat' split
  all_goals first | rfl | (exfalso; omega)
theorem step_val (r b : Nat) (hr : r ≤ 1000000) (hb : b < 256) : wrap64 (wrap64 (64 * (r : Int)) + wrap64 (Int.tmod (b : Int) 64)) = ((64 * r + b % 64 : Nat) : Int) := by
  have a1 : wrap64 (64 * (r : Int)) = 64 * (r : Int) := w64_id (by omega) (by omega)
  have a2 : wrap64 ((b : Int) % 64) = (b : Int) % 64 := w64_id (by omega) (by omega)
  have a3 : wrap64 (64 * (r : Int) + (b : Int) % 64) = 64 * (r : Int) + (b : Int) % 64 := w64_id (by omega) (by omega)
  rw [tm_id (by omega), a1, a2, a3]; omega
theorem w64_next (i : Nat) (h : i ≤ 1000000) : wrap64 ((i : Int) + 1) = ((i + 1 : Nat) : Int) := by rw [w64_id (by omega) (by omega)]; omega
theorem one_step (s : ByteArray) (n r i k : Nat) (hi : i ≤ n) (hs : i < s.size) (hr : r ≤ 1000000) (hn : n ≤ 3) (ii : Int) (hii : ii = (i : Int)) :
    wicketmanref06_One.l0 (k + 1) s (n : Int) (r : Int) ii = if ((strL s).getD i 0).toNat < 128 ∨ 191 < ((strL s).getD i 0).toNat then some (0, 0) else wicketmanref06_One.l0 k s (n : Int) ((64 * r + ((strL s).getD i 0).toNat % 64 : Nat) : Int) ((i + 1 : Nat) : Int) := by
  subst hii
  have hb := ((strL s).getD i 0).toNat_lt
  have e0 := bt_L s i
  obtain ⟨b, hbe⟩ : ∃ b, b = ((strL s).getD i 0).toNat := ⟨_, rfl⟩
  rw [← hbe] at hb e0 ⊢
  clear hbe
  have h1 : (i : Int) ≤ (n : Int) := by omega
  have h2 : (0 : Int) ≤ (i : Int) := by omega
  have h3 : (i : Int) < (s.size : Int) := by omega
  have hR := step_val r b hr hb
  have hN := w64_next i (by omega)
  obtain ⟨R, hRe⟩ : ∃ R : Int, R = ((64 * r + b % 64 : Nat) : Int) := ⟨_, rfl⟩
  obtain ⟨N, hNe⟩ : ∃ N : Int, N = ((i + 1 : Nat) : Int) := ⟨_, rfl⟩
  rw [← hRe] at hR ⊢
  rw [← hNe] at hN ⊢
  clear hRe hNe
  rw [wicketmanref06_One.l0, if_pos h1, if_pos h2, if_pos h3, e0, hR, hN]
  clear hR hN e0 h1 h2 h3
  by_cases c1 : b < 128
  · rw [if_pos (show (b : Int) < 128 by omega), if_pos (.inl c1)]
  · rw [if_neg (show ¬ (b : Int) < 128 by omega)]
    by_cases c2 : 191 < b
    · rw [if_pos (show (b : Int) > 191 by omega), if_pos (.inr c2)]
    · rw [if_neg (show ¬ (b : Int) > 191 by omega), if_neg (show ¬ (b < 128 ∨ 191 < b) by omega)]
theorem shr64 : shr .i64 64 1 = 32 ∧ shr .i64 64 2 = 16 ∧ shr .i64 64 3 = 8 := ⟨rfl, rfl, rfl⟩
theorem dec_val {l : Bs} {r w : Nat} (h : decodeL l = (r, w)) (hb : ¬ (r = 65533 ∧ w = 1)) : ¬ badL l ∧ run1 l = r ∧ wid l = w := by
  unfold badL run1 wid
  rw [h]
  exact ⟨hb, rfl, rfl⟩
/-- What One tells of a text that is not empty. -/
def oneV (l : Bs) : Int × Int := if badL l then (0, 0) else ((run1 l : Int), (wid l : Int))
set_option maxHeartbeats 2000000 in
theorem one_f (s : ByteArray) (hne : strL s ≠ []) (k : Nat) (hk : 12 ≤ k) : wicketmanref06_One.f k s = some (oneV (strL s)) := by
  obtain ⟨m, rfl⟩ : ∃ m, k = m + 1 + 1 + 1 + 1 + 1 + 1 + 1 + 1 := ⟨k - 8, by omega⟩
  have hlen := List.length_pos_iff.2 hne
  have hsz := strL_len s
  have hsh := shapeL (strL s) hne
  have hN := decodeL_N (strL s)
  have hb0 := ((strL s).getD 0 0).toNat_lt
  have hb1 := ((strL s).getD 1 0).toNat_lt
  have hb2 := ((strL s).getD 2 0).toNat_lt
  have hb3 := ((strL s).getD 3 0).toNat_lt
  have st1 := fun n r k => one_step s n r 1 k
  have st2 := fun n r k => one_step s n r 2 k
  have st3 := fun n r k => one_step s n r 3 k
  have hfin := one_fin s
  have hbt := bt_0 s
  have hempty : ¬ s.toList = [] := by rw [strL_toList]; exact hne
  unfold oneV
  obtain ⟨l, hl⟩ : ∃ l, l = strL s := ⟨_, rfl⟩
  rw [← hl] at hsh hN hb0 hb1 hb2 hb3 st1 st2 st3 hbt hlen hsz ⊢
  obtain ⟨b0, e0⟩ : ∃ b, b = (l.getD 0 0).toNat := ⟨_, rfl⟩
  obtain ⟨b1, e1⟩ : ∃ b, b = (l.getD 1 0).toNat := ⟨_, rfl⟩
  obtain ⟨b2, e2⟩ : ∃ b, b = (l.getD 2 0).toNat := ⟨_, rfl⟩
  obtain ⟨b3, e3⟩ : ∃ b, b = (l.getD 3 0).toNat := ⟨_, rfl⟩
  rw [← e0, ← e1, ← e2, ← e3] at hsh
  rw [← e0, ← e1, ← e2, ← e3] at hN
  rw [← e0] at hb0 hbt
  rw [← e1] at hb1
  rw [← e2] at hb2
  rw [← e3] at hb3
  simp only [← e1] at st1
  simp only [← e2] at st2
  simp only [← e3] at st3
  have hm := fun k hk => more_f b0 k hk
  have HSH := Aside0.mk hsh
  clear hsh
  have hone : wicketmanref06_One.f (m + 1 + 1 + 1 + 1 + 1 + 1 + 1 + 1) s = if moreN b0 < 0 ∨ moreN b0 ≥ (s.size : Int) then some (0, 0) else
      (if moreN b0 > 0 then wicketmanref06_One.l0 (m + 1 + 1 + 1 + 1 + 1 + 1) s (moreN b0) (Int.tmod (wrap64 (b0 : Int)) (shr .i64 64 (IntKind.u64.wrap (moreN b0)))) 1 else wicketmanref06_One.l0 (m + 1 + 1 + 1 + 1 + 1 + 1) s (moreN b0) (wrap64 (b0 : Int)) 1) := by
    unfold wicketmanref06_One.f
    rw [if_neg hempty, if_pos (by omega), hbt, hm _ (by omega), Option.bind_some]
    by_cases h1 : moreN b0 < 0
    · rw [if_pos h1, if_pos (.inl h1)]
      simp only [wicketmanref06_One.j0]
      rw [if_pos trivial]
    rw [if_neg h1, Option.bind_some]
    by_cases h2 : moreN b0 ≥ (s.size : Int)
    · rw [if_pos (.inr h2), decide_eq_true h2]
      simp only [wicketmanref06_One.j0]
      rw [if_pos trivial]
    rw [if_neg (show ¬ (moreN b0 < 0 ∨ moreN b0 ≥ (s.size : Int)) by omega), decide_eq_false h2]
    have hrange : moreN b0 = 0 ∨ moreN b0 = 1 ∨ moreN b0 = 2 ∨ moreN b0 = 3 := by
      unfold moreN at h1 ⊢
      repeat' split
      all_goals first | omega | (simp_all)
    have hw : IntKind.u64.wrap (moreN b0) = moreN b0 := by rw [IntKind.wrap_u64]; omega
    have hsr : ¬ shr .i64 64 (moreN b0) = 0 ∨ moreN b0 = 0 := by
      rcases hrange with h | h | h | h
      · right; exact h
      · left; rw [h]; decide
      · left; rw [h]; decide
      · left; rw [h]; decide
    simp only [wicketmanref06_One.j0, wicketmanref06_One.j1]
    rw [if_neg (by decide), if_pos (by omega), hbt, hm _ (by omega), Option.bind_some, hw]
    by_cases h3 : moreN b0 > 0
    · rw [if_pos h3, if_pos (by omega), if_neg (by rcases hsr with h | h; exact h; omega), if_pos h3]
    · rw [if_neg h3, if_neg h3]
  rw [hone]
  have w0 : wrap64 (b0 : Int) = (b0 : Int) := w64_id (by omega) (by omega)
  rw [w0]
  clear w0 hone hm hempty hbt
  by_cases c0 : b0 < 128
  · have hmo : moreN b0 = ((0 : Nat) : Int) := by unfold moreN; rw [if_pos c0]; rfl
    have hd : decodeL l = (b0, 1) := by rw [hN]; exact dN1 c0
    have hv := dec_val hd (by omega)
    rw [hmo, if_neg (by omega), if_neg (by omega), if_neg hv.1, hv.2.1, hv.2.2]
    rw [hfin 0 b0 (m + 1 + 1 + 1 + 1 + 1) (by omega) 1 rfl, if_neg (show ¬ (b0 < leastN 0 ∨ (55296 ≤ b0 ∧ b0 ≤ 57343) ∨ 1114111 < b0) by unfold leastN; simp only [if_true]; omega)]
  by_cases c1 : 194 ≤ b0 ∧ b0 ≤ 223
  · have hmo : moreN b0 = ((1 : Nat) : Int) := by unfold moreN; rw [if_neg c0, if_pos c1]; rfl
    rw [hmo]
    have e64 : Int.tmod (b0 : Int) (shr .i64 64 (IntKind.u64.wrap ((1 : Nat) : Int))) = ((b0 % 32 : Nat) : Int) := by
      rw [show shr .i64 64 (IntKind.u64.wrap ((1 : Nat) : Int)) = 32 from rfl, tm_id (by omega)]; omega
    rw [e64]
    by_cases cs : ((1 : Nat) : Int) ≥ (s.size : Int)
    · rw [if_pos (.inr cs), if_pos]
      rcases HSH.out with ⟨h, -⟩ | h | h | h | h
      · exact h
      all_goals (exfalso; omega)
    rw [if_neg (by omega), if_pos (by omega)]
    rw [st1 1 (b0 % 32) (m + 1 + 1 + 1 + 1 + 1) (by omega) (by omega) (by omega) (by omega) 1 rfl]
    by_cases d1 : b1 < 128 ∨ 191 < b1
    · rw [if_pos d1, if_pos]
      rcases HSH.out with ⟨h, -⟩ | h | h | h | h
      · exact h
      all_goals (exfalso; omega)
    rw [if_neg d1]
    rw [hfin 1 (64 * (b0 % 32) + b1 % 64) (m + 1 + 1 + 1 + 1) (by omega) _ rfl]
    have hl2 : leastN 1 = 128 := rfl
    rw [hl2]
    have hd : decodeL l = (b0 % 32 * 64 + b1 % 64, 2) := by rw [hN]; exact dN2 (by omega) (by omega) (by omega) (by omega)
    have hv := dec_val hd (by omega)
    rw [if_neg (by omega), if_neg hv.1, hv.2.1, hv.2.2, Nat.mul_comm 64]
  by_cases c2 : 224 ≤ b0 ∧ b0 ≤ 239
  · have hmo : moreN b0 = ((2 : Nat) : Int) := by unfold moreN; rw [if_neg c0, if_neg c1, if_pos c2]; rfl
    rw [hmo]
    have e64 : Int.tmod (b0 : Int) (shr .i64 64 (IntKind.u64.wrap ((2 : Nat) : Int))) = ((b0 % 16 : Nat) : Int) := by
      rw [show shr .i64 64 (IntKind.u64.wrap ((2 : Nat) : Int)) = 16 from rfl, tm_id (by omega)]; omega
    rw [e64]
    by_cases cs : ((2 : Nat) : Int) ≥ (s.size : Int)
    · rw [if_pos (.inr cs), if_pos]
      rcases HSH.out with ⟨h, -⟩ | h | h | h | h
      · exact h
      all_goals (exfalso; omega)
    rw [if_neg (by omega), if_pos (by omega)]
    rw [st1 2 (b0 % 16) (m + 1 + 1 + 1 + 1 + 1) (by omega) (by omega) (by omega) (by omega) 1 rfl]
    by_cases d1 : b1 < 128 ∨ 191 < b1
    · rw [if_pos d1, if_pos]
      rcases HSH.out with ⟨h, -⟩ | h | h | h | h
      · exact h
      all_goals (exfalso; omega)
    rw [if_neg d1, st2 2 (64 * (b0 % 16) + b1 % 64) (m + 1 + 1 + 1 + 1) (by omega) (by omega) (by omega) (by omega) _ rfl]
    by_cases d2 : b2 < 128 ∨ 191 < b2
    · rw [if_pos d2, if_pos]
      rcases HSH.out with ⟨h, -⟩ | h | h | h | h
      · exact h
      all_goals (exfalso; omega)
    rw [if_neg d2, hfin 2 (64 * (64 * (b0 % 16) + b1 % 64) + b2 % 64) (m + 1 + 1 + 1) (by omega) _ rfl]
    have hl2 : leastN 2 = 2048 := rfl
    rw [hl2]
    have ea : 64 * (64 * (b0 % 16) + b1 % 64) + b2 % 64 = b0 % 16 * 4096 + b1 % 64 * 64 + b2 % 64 := by omega
    rw [ea]
    by_cases dv : b0 % 16 * 4096 + b1 % 64 * 64 + b2 % 64 < 2048 ∨ (55296 ≤ b0 % 16 * 4096 + b1 % 64 * 64 + b2 % 64 ∧ b0 % 16 * 4096 + b1 % 64 * 64 + b2 % 64 ≤ 57343) ∨ 1114111 < b0 % 16 * 4096 + b1 % 64 * 64 + b2 % 64
    · rw [if_pos dv, if_pos]
      rcases HSH.out with ⟨h, -⟩ | h | h | h | h
      · exact h
      all_goals (exfalso; omega)
    have hd : decodeL l = (b0 % 16 * 4096 + b1 % 64 * 64 + b2 % 64, 3) := by rw [hN]; exact dN3 (by omega) (by omega) (by omega) (by omega) (by omega) (by omega)
    have hv := dec_val hd (by omega)
    rw [if_neg dv, if_neg hv.1, hv.2.1, hv.2.2]
  by_cases c3 : 240 ≤ b0 ∧ b0 ≤ 244
  · have hmo : moreN b0 = ((3 : Nat) : Int) := by unfold moreN; rw [if_neg c0, if_neg c1, if_neg c2, if_pos c3]; rfl
    rw [hmo]
    have e64 : Int.tmod (b0 : Int) (shr .i64 64 (IntKind.u64.wrap ((3 : Nat) : Int))) = ((b0 % 8 : Nat) : Int) := by
      rw [show shr .i64 64 (IntKind.u64.wrap ((3 : Nat) : Int)) = 8 from rfl, tm_id (by omega)]; omega
    rw [e64]
    by_cases cs : ((3 : Nat) : Int) ≥ (s.size : Int)
    · rw [if_pos (.inr cs), if_pos]
      rcases HSH.out with ⟨h, -⟩ | h | h | h | h
      · exact h
      all_goals (exfalso; omega)
    rw [if_neg (by omega), if_pos (by omega)]
    rw [st1 3 (b0 % 8) (m + 1 + 1 + 1 + 1 + 1) (by omega) (by omega) (by omega) (by omega) 1 rfl]
    by_cases d1 : b1 < 128 ∨ 191 < b1
    · rw [if_pos d1, if_pos]
      rcases HSH.out with ⟨h, -⟩ | h | h | h | h
      · exact h
      all_goals (exfalso; omega)
    rw [if_neg d1, st2 3 (64 * (b0 % 8) + b1 % 64) (m + 1 + 1 + 1 + 1) (by omega) (by omega) (by omega) (by omega) _ rfl]
    by_cases d2 : b2 < 128 ∨ 191 < b2
    · rw [if_pos d2, if_pos]
      rcases HSH.out with ⟨h, -⟩ | h | h | h | h
      · exact h
      all_goals (exfalso; omega)
    rw [if_neg d2, st3 3 (64 * (64 * (b0 % 8) + b1 % 64) + b2 % 64) (m + 1 + 1 + 1) (by omega) (by omega) (by omega) (by omega) _ rfl]
    by_cases d3 : b3 < 128 ∨ 191 < b3
    · rw [if_pos d3, if_pos]
      rcases HSH.out with ⟨h, -⟩ | h | h | h | h
      · exact h
      all_goals (exfalso; omega)
    rw [if_neg d3, hfin 3 (64 * (64 * (64 * (b0 % 8) + b1 % 64) + b2 % 64) + b3 % 64) (m + 1 + 1) (by omega) _ rfl]
    have hl2 : leastN 3 = 65536 := rfl
    rw [hl2]
    have ea : 64 * (64 * (64 * (b0 % 8) + b1 % 64) + b2 % 64) + b3 % 64 = b0 % 8 * 262144 + b1 % 64 * 4096 + b2 % 64 * 64 + b3 % 64 := by omega
    rw [ea]
    by_cases dv : b0 % 8 * 262144 + b1 % 64 * 4096 + b2 % 64 * 64 + b3 % 64 < 65536 ∨ (55296 ≤ b0 % 8 * 262144 + b1 % 64 * 4096 + b2 % 64 * 64 + b3 % 64 ∧ b0 % 8 * 262144 + b1 % 64 * 4096 + b2 % 64 * 64 + b3 % 64 ≤ 57343) ∨ 1114111 < b0 % 8 * 262144 + b1 % 64 * 4096 + b2 % 64 * 64 + b3 % 64
    · rw [if_pos dv, if_pos]
      rcases HSH.out with ⟨h, -⟩ | h | h | h | h
      · exact h
      all_goals (exfalso; omega)
    have hd : decodeL l = (b0 % 8 * 262144 + b1 % 64 * 4096 + b2 % 64 * 64 + b3 % 64, 4) := by rw [hN]; exact dN4 (by omega) (by omega) (by omega) (by omega) (by omega) (by omega) (by omega)
    have hv := dec_val hd (by omega)
    rw [if_neg dv, if_neg hv.1, hv.2.1, hv.2.2]
  · have hmo : moreN b0 = -1 := by unfold moreN; rw [if_neg c0, if_neg c1, if_neg c2, if_neg c3]
    rw [hmo, if_pos (.inl (by omega)), if_pos]
    rcases HSH.out with ⟨h, -⟩ | h | h | h | h
    · exact h
    all_goals (exfalso; omega)
theorem ref_runes : ∀ (l : Bs) (s : ByteArray) (c k : Nat), strL s = l → c + l.length ≤ 1000000 → l.length + 14 ≤ k →
    wicketmanref06_Runes.l0 k s (c : Int) = some (if (runesL l).isSome then ((c + (runesL l).getD 0 : Nat) : Int) else 0, (runesL l).isSome) := by
  intro l
  refine L_ind (P := fun l => ∀ (s : ByteArray) (c k : Nat), strL s = l → c + l.length ≤ 1000000 → l.length + 14 ≤ k → wicketmanref06_Runes.l0 k s (c : Int) = some (if (runesL l).isSome then ((c + (runesL l).getD 0 : Nat) : Int) else 0, (runesL l).isSome)) ?_ ?_ l
  · intro s c k hs hc hk
    obtain ⟨k, rfl⟩ : ∃ m, k = m + 1 := ⟨k - 1, by omega⟩
    simp only [wicketmanref06_Runes.l0]
    rw [if_pos (by rw [strL_toList, hs])]
    rfl
  · intro l hne ih s c k hs hc hk
    obtain ⟨k, rfl⟩ : ∃ m, k = m + 1 := ⟨k - 1, by omega⟩
    have hlen := List.length_pos_iff.2 hne
    have hz : s.size = l.length := by rw [size_L, hs]
    have hw := wid_le l hne
    have hp := wid_pos l
    simp only [wicketmanref06_Runes.l0]
    rw [if_neg (by rw [strL_toList, hs]; exact hne), one_f s (by rw [hs]; exact hne) k (by omega), Option.bind_some, hs, runesL_step l hne]
    unfold oneV
    by_cases hb : badL l
    · rw [if_pos hb, if_pos hb]
      simp
    · rw [if_neg hb, if_neg hb]
      have := ih (s.extract (wid l) s.size) (c + 1) k (by rw [strL_drop, hs]) (by rw [List.length_drop]; omega) (by rw [List.length_drop]; omega)
      rw [if_neg (by show ¬ (wid l : Int) = 0; omega), if_pos (by show 0 ≤ (wid l : Int); omega), if_pos (by show (wid l : Int) ≤ (s.size : Int); omega), Int.toNat_natCast, w64_id (by omega) (by omega), show ((c : Int) + 1) = ((c + 1 : Nat) : Int) by omega, this]
      cases runesL (l.drop (wid l)) with
      | none => rfl
      | some x => simp only [Option.isSome_some, Option.map_some, Option.getD_some, if_true]; congr 2; omega
theorem ref_runes_f (s : ByteArray) (h : s.size ≤ 100000) (k : Nat) (hk : s.size + 14 ≤ k) : wicketmanref06_Runes.f k s = some ((((runesL (strL s)).getD 0 : Nat) : Int), (runesL (strL s)).isSome) := by
  unfold wicketmanref06_Runes.f
  have := ref_runes (strL s) s 0 k rfl (by rw [strL_len]; omega) (by rw [strL_len]; omega)
  rw [show ((0 : Nat) : Int) = 0 from rfl] at this
  rw [this]
  cases runesL (strL s) <;> simp
theorem drop_cons {l : Bs} {i : Nat} (h : i < l.length) : l.drop i = l.getD i 0 :: l.drop (i + 1) := by
  rw [List.drop_eq_getElem_cons h, List.getD_eq_getElem?_getD, List.getElem?_eq_getElem h]; rfl
theorem ref_name_l0 (s : ByteArray) (hs : s.size ≤ 100000) : ∀ (d i k : Nat), i + d = s.size → d < k → wicketmanref06_Name.l0 k s (i : Int) = some (allB nameMay i ((strL s).drop i) && (decide (1 ≤ s.size) && decide (s.size ≤ 20))) := by
  intro d
  induction d with
  | zero =>
    intro i k hi hk
    obtain ⟨k, rfl⟩ : ∃ m, k = m + 1 := ⟨k - 1, by omega⟩
    simp only [wicketmanref06_Name.l0]
    rw [if_neg (by omega), List.drop_eq_nil_of_le (by rw [strL_len]; omega), allB, Bool.true_and]
    by_cases h : 1 ≤ s.size
    · rw [if_pos (by omega), decide_eq_true h, Bool.true_and]
      congr 1
      rw [Bool.eq_iff_iff]; simp only [decide_eq_true_eq]; omega
    · rw [if_neg (by omega), decide_eq_false h, Bool.false_and]
  | succ d ih =>
    intro i k hi hk
    obtain ⟨k, rfl⟩ : ∃ m, k = m + 1 := ⟨k - 1, by omega⟩
    have hih := ih (i + 1) k (by omega) (by omega)
    have e0 := bt_L s i
    have hlt := ((strL s).getD i 0).toNat_lt
    rw [drop_cons (by rw [strL_len]; omega), allB]
    obtain ⟨b, hb⟩ : ∃ b, b = ((strL s).getD i 0).toNat := ⟨_, rfl⟩
    rw [← hb] at e0 hlt ⊢
    simp only [wicketmanref06_Name.l0]
    rw [if_pos (by omega), if_pos (by omega), e0, w64_id (by omega) (by omega), show ((i : Int) + 1) = ((i + 1 : Nat) : Int) by omega, hih]
    by_cases hm : nameMay i b = true
    · rw [hm, Bool.true_and]
      unfold nameMay letterB at hm
      simp only [Bool.or_eq_true, Bool.and_eq_true, decide_eq_true_eq, beq_iff_eq] at hm
      repeat' split
      all_goals first | rfl | (exfalso; omega)
    · rw [Bool.eq_false_iff.2 hm, Bool.false_and, Bool.false_and]
      unfold nameMay letterB at hm
      simp only [Bool.or_eq_true, Bool.and_eq_true, decide_eq_true_eq, beq_iff_eq] at hm
      repeat' split
      all_goals first | rfl | (exfalso; omega)
theorem ref_name_f (s : ByteArray) (h : s.size ≤ 100000) (k : Nat) (hk : s.size + 14 ≤ k) : wicketmanref06_Name.f k s = some (nameL (strL s)) := by
  unfold wicketmanref06_Name.f
  have := ref_name_l0 s h s.size 0 k (by omega) (by omega)
  rw [show ((0 : Nat) : Int) = 0 from rfl] at this
  rw [this, List.drop_zero]
  unfold nameL
  rw [strL_len]
  cases allB nameMay 0 (strL s) <;> simp
def mayOf (feeds : Bool) : Nat → Nat → Bool := if feeds then noteMay else passMay
theorem ref_plain_l0 (s : ByteArray) (hs : s.size ≤ 100000) (feeds ok : Bool) : ∀ (d i k : Nat), i + d = s.size → d < k → wicketmanref06_plain.l0 k s feeds ok (i : Int) = some (allB (mayOf feeds) i ((strL s).drop i) && ok) := by
  intro d
  induction d with
  | zero =>
    intro i k hi hk
    obtain ⟨k, rfl⟩ : ∃ m, k = m + 1 := ⟨k - 1, by omega⟩
    simp only [wicketmanref06_plain.l0]
    rw [if_neg (by omega), List.drop_eq_nil_of_le (by rw [strL_len]; omega), allB, Bool.true_and]
  | succ d ih =>
    intro i k hi hk
    obtain ⟨k, rfl⟩ : ∃ m, k = m + 1 := ⟨k - 1, by omega⟩
    have hih := ih (i + 1) k (by omega) (by omega)
    have e0 := bt_L s i
    have hlt := ((strL s).getD i 0).toNat_lt
    rw [drop_cons (by rw [strL_len]; omega), allB]
    obtain ⟨b, hb⟩ : ∃ b, b = ((strL s).getD i 0).toNat := ⟨_, rfl⟩
    rw [← hb] at e0 hlt ⊢
    simp only [wicketmanref06_plain.l0]
    rw [if_pos (by omega), if_pos (by omega), e0, w64_id (by omega) (by omega), show ((i : Int) + 1) = ((i + 1 : Nat) : Int) by omega, hih]
    cases feeds with
    | true =>
      simp only [mayOf, if_true]
      by_cases hm : noteMay i b = true
      · rw [hm, Bool.true_and]
        unfold noteMay at hm
        simp only [Bool.or_eq_true, Bool.and_eq_true, decide_eq_true_eq, beq_iff_eq, bne_iff_ne] at hm
        repeat' split
        all_goals first | rfl | (exfalso; omega)
      · rw [Bool.eq_false_iff.2 hm, Bool.false_and, Bool.false_and]
        unfold noteMay at hm
        simp only [Bool.or_eq_true, Bool.and_eq_true, decide_eq_true_eq, beq_iff_eq, bne_iff_ne] at hm
        repeat' split
        all_goals first | rfl | (exfalso; omega)
    | false =>
      simp only [mayOf, Bool.false_eq_true, if_false]
      by_cases hm : passMay i b = true
      · rw [hm, Bool.true_and]
        unfold passMay at hm
        simp only [Bool.or_eq_true, Bool.and_eq_true, decide_eq_true_eq, beq_iff_eq, bne_iff_ne] at hm
        repeat' split
        all_goals first | rfl | (exfalso; omega)
      · rw [Bool.eq_false_iff.2 hm, Bool.false_and, Bool.false_and]
        unfold passMay at hm
        simp only [Bool.or_eq_true, Bool.and_eq_true, decide_eq_true_eq, beq_iff_eq, bne_iff_ne] at hm
        repeat' split
        all_goals first | rfl | (exfalso; omega)
theorem ref_plain_f (s : ByteArray) (h : s.size ≤ 100000) (k : Nat) (hk : s.size + 14 ≤ k) (feeds : Bool) : wicketmanref06_plain.f k s feeds = some ((runesL (strL s)).isSome && allB (mayOf feeds) 0 (strL s)) := by
  unfold wicketmanref06_plain.f
  rw [ref_runes_f s h k hk, Option.bind_some]
  have := ref_plain_l0 s h feeds (runesL (strL s)).isSome s.size 0 k (by omega) (by omega)
  rw [show ((0 : Nat) : Int) = 0 from rfl] at this
  rw [this, List.drop_zero, Bool.and_comm]
theorem ref_pass_f (s : ByteArray) (h : s.size ≤ 100000) (k : Nat) (hk : s.size + 14 ≤ k) : wicketmanref06_Pass.f k s = some (passL (strL s)) := by
  unfold wicketmanref06_Pass.f passL
  rw [strL_len]
  by_cases h1 : 1 ≤ s.size
  · rw [if_pos (by omega)]
    by_cases h2 : s.size ≤ 60
    · rw [if_pos (by omega), ref_plain_f s h k hk false, Option.bind_some, decide_eq_true h1, decide_eq_true h2]; rfl
    · rw [if_neg (by omega), decide_eq_false h2]; simp
  · rw [if_neg (by omega), decide_eq_false h1]; simp
theorem ref_note_f (s : ByteArray) (h : s.size ≤ 100000) (k : Nat) (hk : s.size + 14 ≤ k) : wicketmanref06_Note.f k s = some (noteL (strL s)) := by
  unfold wicketmanref06_Note.f noteL
  rw [strL_len]
  by_cases h2 : s.size ≤ 200
  · rw [if_pos (by omega), ref_plain_f s h k hk true, Option.bind_some, decide_eq_true h2]; rfl
  · rw [if_neg (by omega), decide_eq_false h2]; simp
theorem app_L (x : ByteArray) (l : Bs) : strL (x ++ ⟨l.toArray⟩) = strL x ++ l := by
  have h : strL (⟨l.toArray⟩ : ByteArray) = l := strL_mk l
  rw [strL_app, h]
theorem ref_escape : ∀ (l : Bs) (s x : ByteArray) (k : Nat), strL s = l → x.size + 5 * l.length ≤ 1000000 → l.length + 14 ≤ k →
    wicketmanref06_Escape.l0 k s x = some ⟨(strL x ++ escL l).toArray⟩ := by
  intro l
  refine L_ind (P := fun l => ∀ (s x : ByteArray) (k : Nat), strL s = l → x.size + 5 * l.length ≤ 1000000 → l.length + 14 ≤ k → wicketmanref06_Escape.l0 k s x = some ⟨(strL x ++ escL l).toArray⟩) ?_ ?_ l
  · intro s x k hs hc hk
    obtain ⟨k, rfl⟩ : ∃ m, k = m + 1 := ⟨k - 1, by omega⟩
    simp only [wicketmanref06_Escape.l0]
    rw [if_pos (by rw [strL_toList, hs]), escL_nil, List.append_nil]
    exact congrArg some (strL_inj (strL_mk (strL x)).symm)
  · intro l hne ih s x k hs hc hk
    obtain ⟨k, rfl⟩ : ∃ m, k = m + 1 := ⟨k - 1, by omega⟩
    have hlen := List.length_pos_iff.2 hne
    have hz : s.size = l.length := by rw [size_L, hs]
    have hw := wid_le l hne
    have hp := wid_pos l
    have hpl := piece_le l hne
    have hstep : ∀ (y : ByteArray), strL y = strL x ++ piece l → wicketmanref06_Escape.l0 k (s.extract (wid l) s.size) y = some ⟨(strL x ++ escL l).toArray⟩ := by
      intro y hy
      have hyz : y.size = x.size + (piece l).length := by rw [size_L, hy, List.length_append, strL_len]
      rw [ih (s.extract (wid l) s.size) y k (by rw [strL_drop, hs]) (by rw [List.length_drop]; omega) (by rw [List.length_drop]; omega), hy, escL_step l hne, List.append_assoc]
    have hmx : mx (oneV l).2 1 = (wid l : Int) := by
      unfold oneV mx
      by_cases hb : badL l
      · rw [if_pos hb]
        have : wid l = 1 := hb.2
        rw [this]; rfl
      · rw [if_neg hb]
        split
        · rename_i h; have h : (wid l : Int) < 1 := h; omega
        · rfl
    have hbt := bt_0 s
    rw [hs] at hbt
    simp only [wicketmanref06_Escape.l0]
    rw [if_neg (by rw [strL_toList, hs]; exact hne), one_f s (by rw [hs]; exact hne) k (by omega), Option.bind_some, hs, hmx, if_pos (by omega), if_pos (by omega), if_pos (by omega), hbt, Int.toNat_natCast]
    have hxz : ∀ n : Nat, n ≤ 5 → x.size + n ≤ 9223372036854775807 := fun n hn => by omega
    rcases piece_cases l hne with ⟨w, hb, hr, hh⟩ | ⟨hb, w, e⟩ | ⟨hb, n1, n2, n3, n4, n5, e, hh⟩
    · have ho : ¬ (oneV l).2 = 0 := by unfold oneV; rw [if_neg hb]; show ¬ (wid l : Int) = 0; omega
      rcases hh with ⟨h, e⟩ | ⟨h, e⟩ | ⟨h, e⟩ | ⟨h, e⟩ | ⟨h, e⟩
      · rw [if_pos (by omega), if_neg ho, if_pos (hxz 5 (by omega))]; exact hstep _ (by rw [app_L x, e])
      · rw [if_neg (by omega), if_pos (by omega), if_neg ho, if_pos (hxz 4 (by omega))]; exact hstep _ (by rw [app_L x, e])
      · rw [if_neg (by omega), if_neg (by omega), if_pos (by omega), if_neg ho, if_pos (hxz 4 (by omega))]; exact hstep _ (by rw [app_L x, e])
      · rw [if_neg (by omega), if_neg (by omega), if_neg (by omega), if_pos (by omega), if_neg ho, if_pos (hxz 5 (by omega))]; exact hstep _ (by rw [app_L x, e])
      · rw [if_neg (by omega), if_neg (by omega), if_neg (by omega), if_neg (by omega), if_pos (by omega), if_neg ho, if_pos (hxz 5 (by omega))]; exact hstep _ (by rw [app_L x, e])
    · have ho : (oneV l).2 = 0 := by unfold oneV; rw [if_pos hb]
      have h128 : 128 ≤ (l.getD 0 0).toNat := by
        by_cases h : (l.getD 0 0).toNat < 128
        · have := ascii_step (l.getD 0 0) (l.drop 1) h
          rw [← head_getD l hne] at this
          exact absurd hb this.1
        · omega
      rw [if_neg (by omega), if_neg (by omega), if_neg (by omega), if_neg (by omega), if_neg (by omega), if_pos ho, if_pos (hxz 1 (by omega))]
      exact hstep _ (by rw [app_L x, e])
    · have ho : ¬ (oneV l).2 = 0 := by unfold oneV; rw [if_neg hb]; show ¬ (wid l : Int) = 0; omega
      have h0 : (l.getD 0 0).toNat = run1 l ∨ 128 ≤ (l.getD 0 0).toNat := by
        rcases hh with ⟨-, h, -⟩ | ⟨-, -, h⟩
        · exact .inl h
        · exact .inr (h 0 (by omega))
      have hez : (s.extract 0 (wid l)).size ≤ 4 * wid l := by rw [size_L, strL_take, List.length_take]; omega
      rw [if_neg (by omega), if_neg (by omega), if_neg (by omega), if_neg (by omega), if_neg (by omega), if_neg ho, if_pos (by omega)]
      exact hstep _ (by rw [strL_app, strL_take, hs, e])
theorem ref_escape_f (s : ByteArray) (h : s.size ≤ 100000) (k : Nat) (hk : s.size + 14 ≤ k) : wicketmanref06_Escape.f k s = some ⟨(escL (strL s)).toArray⟩ := by
  unfold wicketmanref06_Escape.f
  have := ref_escape (strL s) s ⟨#[]⟩ k rfl (by rw [strL_len]; show 0 + 5 * s.size ≤ _; omega) (by rw [strL_len]; omega)
  rw [this]
  rfl
end Go.Proofs.YtlehjehnapjioaaDoor.E
