/- TextSafe: what is escaped has no sign of a page, and is UTF-8; of two texts, one behind the other, each a whole one, it is both; plain letters stay. -/
import Derived.Test.YtlehjehnapjioaaDoorF5
import Derived.Test.YtlehjehnapjioaaDoorTx3
namespace Go.Proofs.YtlehjehnapjioaaDoor.Pure
open Go.RowKit Go.Lib Go.Proofs.YtlehjehnapjioaaDoorW.PrintWords Go.Proofs.YtlehjehnapjioaaDoorW.PrintLast Go.Proofs.YtlehjehnapjioaaDoorW.PrintMore Go.Proofs.YtlehjehnapjioaaDoor.Pr Go.Proofs.YtlehjehnapjioaaDoor.E
set_option linter.unusedVariables false
set_option linter.unusedSimpArgs false
theorem u8_wf {a : Int} (h : 0 ≤ a ∧ a ≤ 255) : (Lit.int .u8 a).wf = true := by simpa [Lit.wf, IntKind.min, IntKind.max, IntKind.signed, IntKind.bits] using h
theorem wf_u8 {a : Int} (h : (Lit.int .u8 a).wf = true) : 0 ≤ a ∧ a ≤ 255 := by simpa [Lit.wf, IntKind.min, IntKind.max, IntKind.signed, IntKind.bits] using h
theorem plain_esc : ∀ j : Nat, j < 8 → escL (([97, 98, 99, 32, 120, 121, 122] : Bs).take j) = ([97, 98, 99, 32, 120, 121, 122] : Bs).take j := by decide +kernel
theorem safe_l0 (s t E : ByteArray) (hs : s.size ≤ 240) (ht : t.size ≤ 240) (hE : strL E = escL (strL s)) (hEz : E.size ≤ 1200) (x2 : Int) (h0 : 0 ≤ x2) (h1 : x2 ≤ 255) :
    ∀ (d i k : Nat), i + d = E.size → d < k → wicketmanlaw06_TextSafe.l0 k x2 s t E (i : Int) = some true := by
  intro d
  induction d with
  | zero =>
    intro i k hi hk
    obtain ⟨k, rfl⟩ : ∃ m, k = m + 1 := ⟨k - 1, by omega⟩
    simp only [wicketmanlaw06_TextSafe.l0]
    obtain ⟨m, hm, -⟩ := esc_runes (strL s)
    obtain ⟨j, hj⟩ : ∃ j : Nat, (j : Int) = x2 % 8 := ⟨(x2 % 8).toNat, by omega⟩
    have e1 : wrap64 (Int.tmod x2 8) = (j : Int) := by rw [tm_id h0, ← hj]; exact w64_id (by omega) (by omega)
    have hj8 : j < 8 := by omega
    obtain ⟨P, hP⟩ : ∃ P : ByteArray, P = (⟨#[97, 98, 99, 32, 120, 121, 122]⟩ : ByteArray).extract 0 j := ⟨_, rfl⟩
    have hPL : strL P = ([97, 98, 99, 32, 120, 121, 122] : Bs).take j := by rw [hP, strL_take]; rfl
    have hPz : P.size ≤ 7 := by rw [size_L, hPL, List.length_take]; simp; omega
    have hPE : escL (strL P) = strL P := by rw [hPL]; exact plain_esc j hj8
    have hfin : ((text_Escape.f P).bind fun t113 => some (t113.toList == P.toList)) = some true := by
      rw [escape_f P (by omega), Option.bind_some, strL_toList, strL_toList, strL_mk, hPE, beq_self_eq_true]
    rw [if_neg (by omega), runes_f E (by omega), Option.bind_some, runes_f s (by omega), Option.bind_some, runes_f t (by omega), Option.bind_some, e1, if_pos (by omega), if_pos (by omega), known_f, Option.bind_some, if_pos rfl, hE, hm]
    rw [Int.toNat_natCast, ← hP]
    simp only [Option.isSome_some, if_true, hfin]
    have z1 : (s ++ t).size = s.size + t.size := ByteArray.size_append
    cases hrs : runesL (strL s) with
    | none => simp
    | some a =>
      cases hrt : runesL (strL t) with
      | none => simp
      | some b =>
        have hle := esc_le (strL t)
        rw [strL_len] at hle
        have hz : (⟨(escL (strL t)).toArray⟩ : ByteArray).size = (escL (strL t)).length := by rw [size_L, strL_mk]
        simp only [Option.isSome_some, if_true]
        rw [if_pos (by omega), escape_f (s ++ t) (by omega), Option.bind_some, escape_f t (by omega), Option.bind_some, if_pos (by omega), if_pos]
        have eA : strL (⟨(escL (strL (s ++ t))).toArray⟩ : ByteArray) = escL (strL (s ++ t)) := strL_mk _
        have eB : strL (⟨(escL (strL t)).toArray⟩ : ByteArray) = escL (strL t) := strL_mk _
        have eC : strL (E ++ (⟨(escL (strL t)).toArray⟩ : ByteArray)) = escL (strL s) ++ escL (strL t) := by rw [strL_app, hE, eB]
        rw [strL_toList, strL_toList, eA, eC, strL_app s t]
        exact esc_app _ _ (by rw [hrs]; simp)
  | succ d ih =>
    intro i k hi hk
    obtain ⟨k, rfl⟩ : ∃ m, k = m + 1 := ⟨k - 1, by omega⟩
    simp only [wicketmanlaw06_TextSafe.l0]
    have hsg := esc_signs (strL s) ((strL E).getD i 0) (by
      rw [← hE]
      have hlt : i < (strL E).length := by rw [strL_len]; omega
      rw [List.getD_eq_getElem?_getD, List.getElem?_eq_getElem hlt]
      exact List.getElem_mem hlt)
    rw [if_pos (by omega), if_pos (by omega), bt_L, if_neg (by omega), if_neg (by omega), if_neg (by omega), if_neg (by omega), w64_id (by omega) (by omega)]
    exact ih (i + 1) k (by omega) (by omega)
theorem TextSafe : wicketmanlaw06_TextSafe.Pure := by
  intro l0 l1 a2 _ hl0 hb0 _ hl1 hb1 w2
  have h2 := wf_u8 w2
  have hc0 : ∀ x ∈ l0, 0 ≤ x ∧ x ≤ 255 := fun x hx => wf_u8 (hb0 x hx)
  have hc1 : ∀ x ∈ l1, 0 ≤ x ∧ x ≤ 255 := fun x hx => wf_u8 (hb1 x hx)
  obtain ⟨s, hs, hsz⟩ := text_f l0 hc0 2000 (by omega)
  obtain ⟨t, ht, htz⟩ := text_f l1 hc1 2000 (by omega)
  refine ⟨2000, ?_⟩
  unfold wicketmanlaw06_TextSafe.f
  have hle := esc_le (strL s)
  rw [strL_len] at hle
  rw [hs, Option.bind_some, ht, Option.bind_some, escape_f s (by omega), Option.bind_some]
  have hz : (⟨(escL (strL s)).toArray⟩ : ByteArray).size = (escL (strL s)).length := by rw [size_L, strL_mk]
  exact safe_l0 s t _ hsz htz (strL_mk _) (by omega) a2 h2.1 h2.2 _ 0 2000 (Nat.zero_add _) (by omega)
theorem TextSafe_at (W : World) (A0 : Option Addr) (c0 : Nat) (l0 : List Int) (hr0 : Kd.C (Kd.int .u8) W A0 l0.length l0) (hc0 : l0.length ≤ c0) (hb0 : ∀ x ∈ l0, 0 ≤ x ∧ x ≤ 255) (hl0 : l0.length ≤ 140737488351232) (A1 : Option Addr) (c1 : Nat) (l1 : List Int) (hr1 : Kd.C (Kd.int .u8) W A1 l1.length l1) (hc1 : l1.length ≤ c1) (hb1 : ∀ x ∈ l1, 0 ≤ x ∧ x ≤ 255) (hl1 : l1.length ≤ 140737488351232) (a2 : Int) (w2 : (Lit.int .u8 a2).wf = true) (hG : RootsIn W) :
    Calls Tryd.prog 5 #[.slice A0 l0.length c0, .slice A1 l1.length c1, .int .u8 a2] W fun e w' => e = .returned (.bool true) ∧ Below W.heap.size W w' := by
  obtain ⟨k, hk⟩ := TextSafe l0 l1 a2 (by unfold maxLen; omega) (by omega) (fun x hx => u8_wf (hb0 x hx)) (by unfold maxLen; omega) (by omega) (fun x hx => u8_wf (hb1 x hx)) w2
  exact wicketmanlaw06_TextSafe.calls k A0 c0 l0 A1 c1 l1 a2 true W hr0 hc0 hr1 hc1 hk hG
end Go.Proofs.YtlehjehnapjioaaDoor.Pure
