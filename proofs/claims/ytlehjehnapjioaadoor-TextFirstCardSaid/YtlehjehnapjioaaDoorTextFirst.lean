/- TextFirst: a name begins with a letter; each front of it is one. -/
import Derived.Test.YtlehjehnapjioaaDoorF7
import Derived.Test.YtlehjehnapjioaaDoorTx3
namespace Go.Proofs.YtlehjehnapjioaaDoor.Pure
open Go.RowKit Go.Lib Go.Proofs.YtlehjehnapjioaaDoorW.PrintWords Go.Proofs.YtlehjehnapjioaaDoorW.PrintLast Go.Proofs.YtlehjehnapjioaaDoorW.PrintMore Go.Proofs.YtlehjehnapjioaaDoor.Pr Go.Proofs.YtlehjehnapjioaaDoor.E
set_option linter.unusedVariables false
set_option linter.unusedSimpArgs false
theorem u8_wf {a : Int} (h : 0 ≤ a ∧ a ≤ 255) : (Lit.int .u8 a).wf = true := by simpa [Lit.wf, IntKind.min, IntKind.max, IntKind.signed, IntKind.bits] using h
theorem wf_u8 {a : Int} (h : (Lit.int .u8 a).wf = true) : 0 ≤ a ∧ a ≤ 255 := by simpa [Lit.wf, IntKind.min, IntKind.max, IntKind.signed, IntKind.bits] using h
theorem TextFirst : wicketmanlaw06_TextFirst.Pure := by
  intro l0 a1 _ hl0 hb0 w1
  have h1 := wf_u8 w1
  have hc0 : ∀ x ∈ l0, 0 ≤ x ∧ x ≤ 255 := fun x hx => wf_u8 (hb0 x hx)
  obtain ⟨s, hs, hsz⟩ := text_f l0 hc0 1000 (by omega)
  refine ⟨1000, ?_⟩
  unfold wicketmanlaw06_TextFirst.f
  rw [hs, Option.bind_some, name_f s (by omega), Option.bind_some]
  have zb : ∀ c : UInt8, (s ++ (⟨#[c]⟩ : ByteArray)).size = s.size + 1 := fun c => ByteArray.size_append
  have zf : ∀ c : UInt8, ((⟨#[c]⟩ : ByteArray) ++ s).size = 1 + s.size := fun c => ByteArray.size_append
  have eb : ∀ c : UInt8, strL (s ++ (⟨#[c]⟩ : ByteArray)) = strL s ++ [c] := fun c => by rw [strL_app]; rfl
  have ef : ∀ c : UInt8, strL ((⟨#[c]⟩ : ByteArray) ++ s) = c :: strL s := fun c => by rw [strL_app]; rfl
  cases hn : nameL (strL s) with
  | false =>
    rw [if_neg (by decide), known_f, Option.bind_some, if_pos rfl, if_pos (by omega), name_f _ (by rw [zb]; omega), Option.bind_some, eb, nameL_back (fun i => by unfold nameMay letterB; simp), if_neg (by decide), if_pos (by omega), name_f _ (by rw [zf]; omega), Option.bind_some, ef, nameL_front (by decide)]
    rfl
  | true =>
    have hd := nameL_head hn
    have hl : 1 ≤ s.size := by
      unfold nameL at hn
      simp only [Bool.and_eq_true, decide_eq_true_eq] at hn
      rw [size_L]; exact hn.1.1
    obtain ⟨j, hj⟩ : ∃ j : Nat, (j : Int) = a1 % (s.size : Int) := ⟨(a1 % (s.size : Int)).toNat, Int.toNat_of_nonneg (Int.emod_nonneg _ (by omega))⟩
    have hjl : j < s.size := by have := Int.emod_lt_of_pos a1 (show (0 : Int) < (s.size : Int) by omega); omega
    have e1 : wrap64 (1 + Int.tmod (wrap64 a1) (s.size : Int)) = ((1 + j : Nat) : Int) := by
      rw [w64_id h1.1 (by omega), tm_id h1.1, ← hj]
      exact (w64_id (by omega) (by omega)).trans (by omega)
    have zt : (s.extract 0 (1 + j)).size ≤ 240 := by rw [size_L, strL_take, List.length_take, strL_len]; omega
    rw [if_pos rfl, if_neg (by omega), known_f, Option.bind_some, if_pos rfl, if_pos (by omega), bt_0, if_pos (by omega), if_pos (by omega), e1, if_pos (by omega), if_pos (by omega), Int.toNat_natCast, name_f _ (by omega), Option.bind_some, strL_take, nameL_take (1 + j) (by omega) (by rw [strL_len]; omega) hn, if_pos rfl, if_pos (by omega),
      name_f _ (by rw [zf]; omega), Option.bind_some, ef, nameL_front (by decide), if_neg (by decide), if_pos (by omega), name_f _ (by rw [zb]; omega), Option.bind_some, eb, nameL_back (fun i => by unfold nameMay letterB; simp)]
    rfl
theorem TextFirst_at (W : World) (A0 : Option Addr) (c0 : Nat) (l0 : List Int) (hr0 : Kd.C (Kd.int .u8) W A0 l0.length l0) (hc0 : l0.length ≤ c0) (hb0 : ∀ x ∈ l0, 0 ≤ x ∧ x ≤ 255) (hl0 : l0.length ≤ 140737488351232) (a1 : Int) (w1 : (Lit.int .u8 a1).wf = true) (hG : RootsIn W) :
    Calls Tryd.prog 7 #[.slice A0 l0.length c0, .int .u8 a1] W fun e w' => e = .returned (.bool true) ∧ Below W.heap.size W w' := by
  obtain ⟨k, hk⟩ := TextFirst l0 a1 (by unfold maxLen; omega) (by omega) (fun x hx => u8_wf (hb0 x hx)) w1
  exact wicketmanlaw06_TextFirst.calls k A0 c0 l0 a1 true W hr0 hc0 hk hG
end Go.Proofs.YtlehjehnapjioaaDoor.Pure
