/- TextRunes: the runes of two texts, one behind the other, are those of both; a byte that begins no rune makes it none. -/
import Derived.Test.YtlehjehnapjioaaDoorF4
import Derived.Test.YtlehjehnapjioaaDoorTx3
namespace Go.Proofs.YtlehjehnapjioaaDoor.Pure
open Go.RowKit Go.Lib Go.Proofs.YtlehjehnapjioaaDoorW.PrintWords Go.Proofs.YtlehjehnapjioaaDoorW.PrintLast Go.Proofs.YtlehjehnapjioaaDoorW.PrintMore Go.Proofs.YtlehjehnapjioaaDoor.Pr Go.Proofs.YtlehjehnapjioaaDoor.E
set_option linter.unusedVariables false
set_option linter.unusedSimpArgs false
theorem u8_wf {a : Int} (h : 0 ≤ a ∧ a ≤ 255) : (Lit.int .u8 a).wf = true := by simpa [Lit.wf, IntKind.min, IntKind.max, IntKind.signed, IntKind.bits] using h
theorem wf_u8 {a : Int} (h : (Lit.int .u8 a).wf = true) : 0 ≤ a ∧ a ≤ 255 := by simpa [Lit.wf, IntKind.min, IntKind.max, IntKind.signed, IntKind.bits] using h
theorem TextRunes : wicketmanlaw06_TextRunes.Pure := by
  intro l0 l1 _ hl0 hb0 _ hl1 hb1
  have hc0 : ∀ x ∈ l0, 0 ≤ x ∧ x ≤ 255 := fun x hx => wf_u8 (hb0 x hx)
  have hc1 : ∀ x ∈ l1, 0 ≤ x ∧ x ≤ 255 := fun x hx => wf_u8 (hb1 x hx)
  obtain ⟨s, hs, hsz⟩ := text_f l0 hc0 1000 (by omega)
  obtain ⟨t, ht, htz⟩ := text_f l1 hc1 1000 (by omega)
  refine ⟨1000, ?_⟩
  unfold wicketmanlaw06_TextRunes.f
  have z1 : (s ++ t).size = s.size + t.size := ByteArray.size_append
  have z2 : (s ++ (⟨#[255]⟩ : ByteArray)).size = s.size + 1 := ByteArray.size_append
  have z3 : ((s ++ (⟨#[255]⟩ : ByteArray)) ++ t).size = s.size + 1 + t.size := by rw [ByteArray.size_append, z2]
  have e3 : strL ((s ++ (⟨#[255]⟩ : ByteArray)) ++ t) = strL s ++ 255 :: strL t := by
    rw [strL_app, strL_app, List.append_assoc]; rfl
  rw [hs, Option.bind_some, ht, Option.bind_some, runes_f s (by omega), Option.bind_some, runes_f t (by omega), Option.bind_some, if_pos (by omega), runes_f (s ++ t) (by omega), Option.bind_some, if_pos (by omega), if_pos (by omega), runes_f _ (by omega), Option.bind_some, known_f, Option.bind_some, if_pos rfl,
    e3, runes_ff, strL_app]
  cases hrs : runesL (strL s) with
  | none => simp
  | some a =>
    cases hrt : runesL (strL t) with
    | none => simp
    | some b =>
      have ha := runesL_le _ _ hrs
      have hb := runesL_le _ _ hrt
      rw [strL_len] at ha hb
      rw [runes_app _ _ a hrs, hrt]
      have e : wrap64 ((a : Int) + (b : Int)) = ((b + a : Nat) : Int) := by unfold wrap64; omega
      simp [e]
theorem TextRunes_at (W : World) (A0 : Option Addr) (c0 : Nat) (l0 : List Int) (hr0 : Kd.C (Kd.int .u8) W A0 l0.length l0) (hc0 : l0.length ≤ c0) (hb0 : ∀ x ∈ l0, 0 ≤ x ∧ x ≤ 255) (hl0 : l0.length ≤ 140737488351232) (A1 : Option Addr) (c1 : Nat) (l1 : List Int) (hr1 : Kd.C (Kd.int .u8) W A1 l1.length l1) (hc1 : l1.length ≤ c1) (hb1 : ∀ x ∈ l1, 0 ≤ x ∧ x ≤ 255) (hl1 : l1.length ≤ 140737488351232) (hG : RootsIn W) :
    Calls Tryd.prog 4 #[.slice A0 l0.length c0, .slice A1 l1.length c1] W fun e w' => e = .returned (.bool true) ∧ Below W.heap.size W w' := by
  obtain ⟨k, hk⟩ := TextRunes l0 l1 (by unfold maxLen; omega) (by omega) (fun x hx => u8_wf (hb0 x hx)) (by unfold maxLen; omega) (by omega) (fun x hx => u8_wf (hb1 x hx))
  exact wicketmanlaw06_TextRunes.calls k A0 c0 l0 A1 c1 l1 true W hr0 hc0 hr1 hc1 hk hG
end Go.Proofs.YtlehjehnapjioaaDoor.Pure
