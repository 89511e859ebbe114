/- TextLong: what is escaped is no shorter, and has as many runes and more. -/
import Derived.Test.YtlehjehnapjioaaDoorF8
import Derived.Test.YtlehjehnapjioaaDoorTx3
namespace Go.Proofs.YtlehjehnapjioaaDoor.Pure
open Go.RowKit Go.Lib Go.Proofs.YtlehjehnapjioaaDoorW.PrintWords Go.Proofs.YtlehjehnapjioaaDoorW.PrintLast Go.Proofs.YtlehjehnapjioaaDoorW.PrintMore Go.Proofs.YtlehjehnapjioaaDoor.Pr Go.Proofs.YtlehjehnapjioaaDoor.E
set_option linter.unusedVariables false
set_option linter.unusedSimpArgs false
theorem u8_wf {a : Int} (h : 0 ≤ a ∧ a ≤ 255) : (Lit.int .u8 a).wf = true := by simpa [Lit.wf, IntKind.min, IntKind.max, IntKind.signed, IntKind.bits] using h
theorem wf_u8 {a : Int} (h : (Lit.int .u8 a).wf = true) : 0 ≤ a ∧ a ≤ 255 := by simpa [Lit.wf, IntKind.min, IntKind.max, IntKind.signed, IntKind.bits] using h
theorem TextLong : wicketmanlaw06_TextLong.Pure := by
  intro l0 _ hl0 hb0
  have hc0 : ∀ x ∈ l0, 0 ≤ x ∧ x ≤ 255 := fun x hx => wf_u8 (hb0 x hx)
  obtain ⟨s, hs, hsz⟩ := text_f l0 hc0 1000 (by omega)
  refine ⟨1000, ?_⟩
  unfold wicketmanlaw06_TextLong.f
  have hle := esc_le (strL s)
  have hlg := esc_long (strL s)
  rw [strL_len] at hle hlg
  obtain ⟨E, hE⟩ : ∃ E : ByteArray, E = ⟨(escL (strL s)).toArray⟩ := ⟨_, rfl⟩
  have hEL : strL E = escL (strL s) := by rw [hE, strL_mk]
  have hEz : E.size = (escL (strL s)).length := by rw [← hEL, strL_len]
  have hle2 := esc_le (strL E)
  rw [strL_len] at hle2
  obtain ⟨m, hm, hmn⟩ := esc_runes (strL s)
  have hsame := esc_same (strL E) (by rw [hEL, hm]; simp)
  rw [strL_len] at hsame
  rw [hs, Option.bind_some, escape_f s (by omega), Option.bind_some, ← hE, runes_f s (by omega), Option.bind_some, runes_f E (by omega), Option.bind_some, known_f, Option.bind_some, if_pos rfl, hEL, hm]
  simp only [Option.isSome_some, Option.getD_some, if_true, escape_f E (show E.size ≤ 1000000 by omega), Option.bind_some]
  have hz : (⟨(escL (strL E)).toArray⟩ : ByteArray).size = (escL (strL E)).length := by rw [size_L, strL_mk]
  have hfin : (if (⟨(escL (strL E)).toArray⟩ : ByteArray).toList = E.toList then (some true : Option Bool) else some (decide (((⟨(escL (strL E)).toArray⟩ : ByteArray).size : Int) > (E.size : Int)))) = some true := by
    rw [hz]
    rcases hsame with h | h
    · rw [if_pos (by rw [strL_toList, strL_toList, strL_mk, h])]
    · by_cases hq : (⟨(escL (strL E)).toArray⟩ : ByteArray).toList = E.toList
      · rw [if_pos hq]
      · rw [if_neg hq, decide_eq_true (by omega)]
  cases hrs : runesL (strL s) with
  | none =>
    simp only [Option.isSome_none, Bool.false_eq_true, if_false]
    rw [if_pos (by omega)]
    exact hfin
  | some n =>
    have := hmn n hrs
    simp only [Option.isSome_some, Option.getD_some, if_true]
    rw [if_pos (by omega), if_pos (by omega)]
    exact hfin
theorem TextLong_at (W : World) (A0 : Option Addr) (c0 : Nat) (l0 : List Int) (hr0 : Kd.C (Kd.int .u8) W A0 l0.length l0) (hc0 : l0.length ≤ c0) (hb0 : ∀ x ∈ l0, 0 ≤ x ∧ x ≤ 255) (hl0 : l0.length ≤ 140737488351232) (hG : RootsIn W) :
    Calls Tryd.prog 8 #[.slice A0 l0.length c0] W fun e w' => e = .returned (.bool true) ∧ Below W.heap.size W w' := by
  obtain ⟨k, hk⟩ := TextLong l0 (by unfold maxLen; omega) (by omega) (fun x hx => u8_wf (hb0 x hx))
  exact wicketmanlaw06_TextLong.calls k A0 c0 l0 true W hr0 hc0 hk hG
end Go.Proofs.YtlehjehnapjioaaDoor.Pure
