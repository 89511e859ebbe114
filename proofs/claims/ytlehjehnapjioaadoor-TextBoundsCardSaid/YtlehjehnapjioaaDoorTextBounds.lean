/- TextBounds: names have 1 to 20 bytes, passwords 1 to 60, notes up to 200, whatever is in them. -/
import Derived.Test.YtlehjehnapjioaaDoorF6
import Derived.Test.YtlehjehnapjioaaDoorTx3
namespace Go.Proofs.YtlehjehnapjioaaDoor.Pure
open Go.RowKit Go.Lib Go.Proofs.YtlehjehnapjioaaDoorW.PrintWords Go.Proofs.YtlehjehnapjioaaDoorW.PrintLast Go.Proofs.YtlehjehnapjioaaDoorW.PrintMore Go.Proofs.YtlehjehnapjioaaDoor.Pr Go.Proofs.YtlehjehnapjioaaDoor.E
set_option linter.unusedVariables false
set_option linter.unusedSimpArgs false
theorem u8_wf {a : Int} (h : 0 ≤ a ∧ a ≤ 255) : (Lit.int .u8 a).wf = true := by simpa [Lit.wf, IntKind.min, IntKind.max, IntKind.signed, IntKind.bits] using h
theorem wf_u8 {a : Int} (h : (Lit.int .u8 a).wf = true) : 0 ≤ a ∧ a ≤ 255 := by simpa [Lit.wf, IntKind.min, IntKind.max, IntKind.signed, IntKind.bits] using h
theorem bounds_end (l0 : List Int) (t : ByteArray) (n : Nat) (hn : n ≤ 255) (x : ByteArray) (hx : strL x = List.replicate n 97) (ht : t.size ≤ 240) (k : Nat) (hk : wicketmanlaw06_Text.f k l0 = some t) : wicketmanlaw06_TextBounds.l0 (k + 1) l0 (n : Int) x (n : Int) = some true := by
  have hz : x.size = n := by rw [size_L, hx, List.length_replicate]
  have z1 : (x ++ (⟨#[10]⟩ : ByteArray)).size = n + 1 := by rw [ByteArray.size_append, hz]; rfl
  have e1 : strL (x ++ (⟨#[10]⟩ : ByteArray)) = List.replicate n 97 ++ [10] := by rw [strL_app, hx]; rfl
  have g1 : text_Note.f (x ++ (⟨#[10]⟩ : ByteArray)) = some (decide (n < 200)) := by rw [note_f _ (by omega), e1, noteL_rep_nl]
  have g2 : text_Pass.f (x ++ (⟨#[10]⟩ : ByteArray)) = some false := by rw [pass_f _ (by omega), e1, passL_nl]
  have g3 : text_Name.f x = some (decide (1 ≤ n) && decide (n ≤ 20)) := by rw [name_f _ (by omega), hx, nameL_rep]
  have g4 : text_Pass.f x = some (decide (1 ≤ n) && decide (n ≤ 60)) := by rw [pass_f _ (by omega), hx, passL_rep]
  have g5 : text_Note.f x = some (decide (n ≤ 200)) := by rw [note_f _ (by omega), hx, noteL_rep]
  have q0 : wrap64 (n : Int) = (n : Int) := w64_id (by omega) (by omega)
  have q1 : decide ((n : Int) ≤ 20) = decide (n ≤ 20) := by rw [Bool.eq_iff_iff]; simp only [decide_eq_true_eq]; omega
  have q2 : decide ((n : Int) ≤ 60) = decide (n ≤ 60) := by rw [Bool.eq_iff_iff]; simp only [decide_eq_true_eq]; omega
  have q3 : decide ((n : Int) ≤ 200) = decide (n ≤ 200) := by rw [Bool.eq_iff_iff]; simp only [decide_eq_true_eq]; omega
  have q4 : decide ((n : Int) < 200) = decide (n < 200) := by rw [Bool.eq_iff_iff]; simp only [decide_eq_true_eq]; omega
  have hnp : nameL (strL t) = true → passL (strL t) = true := name_pass
  have hpn : passL (strL t) = true → noteL (strL t) = true := pass_note
  simp only [wicketmanlaw06_TextBounds.l0]
  rw [q0, if_neg (by omega), hk, Option.bind_some, name_f t (by omega), Option.bind_some, pass_f t (by omega), Option.bind_some, note_f t (by omega), Option.bind_some, known_f, Option.bind_some, if_pos rfl, g3, Option.bind_some, g4, g5]
  simp only [Option.bind_some, q1, q2, q3, q4]
  have hxz : x.size + 1 ≤ 9223372036854775807 := by omega
  rw [g1, g2]
  simp only [Option.bind_some, if_pos hxz]
  by_cases h1 : 1 ≤ n
  · rw [if_pos (by omega), decide_eq_true h1, Bool.true_and, Bool.true_and]
    cases hN : nameL (strL t) with
    | true =>
      have hP := hnp hN
      have hO := hpn hP
      rw [hP, hO]
      simp
    | false =>
      cases hP : passL (strL t) with
      | true => rw [hpn hP]; simp
      | false => simp
  · rw [if_neg (by omega), decide_eq_false h1, Bool.false_and, Bool.false_and]
    cases hN : nameL (strL t) with
    | true =>
      have hP := hnp hN
      have hO := hpn hP
      rw [hP, hO]
      simp
    | false =>
      cases hP : passL (strL t) with
      | true => rw [hpn hP]; simp
      | false => simp
theorem bounds_l0 (l0 : List Int) (hb : ∀ x ∈ l0, 0 ≤ x ∧ x ≤ 255) (n : Nat) (hn : n ≤ 255) : ∀ (d i k : Nat) (x : ByteArray), i + d = n → strL x = List.replicate i 97 → d + 100 < k → wicketmanlaw06_TextBounds.l0 k l0 (n : Int) x (i : Int) = some true := by
  intro d
  induction d with
  | zero =>
    intro i k x hi hx hk
    obtain ⟨k, rfl⟩ : ∃ m, k = m + 1 := ⟨k - 1, by omega⟩
    obtain rfl : n = i := by omega
    obtain ⟨t, ht, htz⟩ := text_f l0 hb k (by omega)
    exact bounds_end l0 t n hn x hx htz k ht
  | succ d ih =>
    intro i k x hi hx hk
    obtain ⟨k, rfl⟩ : ∃ m, k = m + 1 := ⟨k - 1, by omega⟩
    have hz : x.size = i := by rw [size_L, hx, List.length_replicate]
    have e1 : strL (x ++ (⟨#[97]⟩ : ByteArray)) = List.replicate (i + 1) 97 := by rw [strL_app, hx, List.replicate_succ']; rfl
    simp only [wicketmanlaw06_TextBounds.l0]
    rw [w64_id (by omega) (by omega), if_pos (by omega), if_pos (by omega), w64_id (by omega) (by omega)]
    exact ih (i + 1) k _ (by omega) e1 (by omega)
theorem TextBounds : wicketmanlaw06_TextBounds.Pure := by
  intro l0 a1 _ hl0 hb0 w1
  have h1 := wf_u8 w1
  have hc0 : ∀ x ∈ l0, 0 ≤ x ∧ x ≤ 255 := fun x hx => wf_u8 (hb0 x hx)
  obtain ⟨n, rfl⟩ : ∃ n : Nat, a1 = (n : Int) := ⟨a1.toNat, by omega⟩
  exact ⟨1000, bounds_l0 l0 hc0 n (by omega) n 0 1000 ⟨#[]⟩ (Nat.zero_add n) rfl (by omega)⟩
theorem TextBounds_at (W : World) (A0 : Option Addr) (c0 : Nat) (l0 : List Int) (hr0 : Kd.C (Kd.int .u8) W A0 l0.length l0) (hc0 : l0.length ≤ c0) (hb0 : ∀ x ∈ l0, 0 ≤ x ∧ x ≤ 255) (hl0 : l0.length ≤ 140737488351232) (a1 : Int) (w1 : (Lit.int .u8 a1).wf = true) (hG : RootsIn W) :
    Calls Tryd.prog 6 #[.slice A0 l0.length c0, .int .u8 a1] W fun e w' => e = .returned (.bool true) ∧ Below W.heap.size W w' := by
  obtain ⟨k, hk⟩ := TextBounds l0 a1 (by unfold maxLen; omega) (by omega) (fun x hx => u8_wf (hb0 x hx)) w1
  exact wicketmanlaw06_TextBounds.calls k A0 c0 l0 a1 true W hr0 hc0 hk hG
end Go.Proofs.YtlehjehnapjioaaDoor.Pure
