/- CrcFrames, where what comes in is of bulk at most 1048576: true; the input reads as it did. -/
import Derived.Test.YtmepclalglmleaaRows
import Derived.Test.YtmepclalglmleaaF12
import Derived.Test.YtmepclalglmleaaOP
import Derived.Test.YtmepclalglmleaaPureCrcFrames
import Derived.WalkKit
import Derived.ProofKit
import Derived.OpenShut
import Derived.ShutString
import Derived.ChangeOld
import Derived.Below
import Derived.JoinedCond
namespace Go.Proofs.Ytmepclalglmleaa.crcFrames
open Go.ChangeShapes Go.WideShapes Go.ChangeAt Go.RowKit Go.Proofs.Ytmepclalglmleaa.E Go.Proofs.YtmepclalglmleaaW.PrintWords
set_option linter.unusedVariables false
theorem own : ownKnob Try.prog.godebug = none := by kernel_rfl
theorem laidOut : laidOutB Try.prog = true := by kernel_rfl
theorem sum17 : ∀ ls : List (List Int), Pure.bulk ls ≤ 16 * (ls.map fun l => 1 + l.length).sum
  | [] => Nat.le_refl _
  | l :: ls => by
    have := sum17 ls
    have e : Pure.bulk (l :: ls) = 16 + l.length + Pure.bulk ls := rfl
    rw [e, List.map_cons, List.sum_cons]
    omega
theorem contract (H : Type) (enc : TypeId × Value → H) (W : World) (base : Nat) (args : Array Value) (ds gs : List (DataW H)) (before : List MemPlace)
    (hval0 : ∀ (j : Nat) t v, Try.f12.params[j]? = some t → args[j]? = some v → Value.okWide Try.prog W .any base t v)
    (hW : DataW.Whole enc Try.prog Try.f12.params.toList Rows.crcFramesSpec.vars false W args.toList ds gs before) (hk : Rows.uptoSmall H (ds ++ gs) = true) :
    Calls Try.prog 12 args W fun e W' => ∃ v, e = .returned v ∧ Rows.crcFramesSpec.post enc Try.prog Try.f12 false true false false W args v W' := by
  have hval : ∀ (j : Nat) t v, Try.f12.params[j]? = some t → args[j]? = some v → Value.okWide Try.prog W .any base t v := hval0
  have hW' := hW
  obtain ⟨p, q, hA0, hV, rfl, hfz, hnd⟩ := hW
  have hA : DataW.TrodAll enc Try.prog W 0 (fun _ => true) true Try.f12.params.toList args.toList ds p := hA0
  rw [Try.params12] at hA hval
  obtain ⟨v0, vs0, d0, ds0, p0, q0, hargs, rfl, rfl, h0, r0⟩ := trodAll_cons hA
  obtain ⟨v1, vs1, d1, ds1, p1, q1, rfl, rfl, rfl, h1, r1⟩ := trodAll_cons r0
  obtain ⟨v2, vs2, d2, ds2, p2, q2, rfl, rfl, rfl, h2, r2⟩ := trodAll_cons r1
  obtain ⟨v3, vs3, d3, ds3, p3, q3, rfl, rfl, rfl, h3, r3⟩ := trodAll_cons r2
  obtain ⟨v4, vs4, d4, ds4, p4, q4, rfl, rfl, rfl, h4, r4⟩ := trodAll_cons r3
  obtain ⟨v5, vs5, d5, ds5, p5, q5, rfl, rfl, rfl, h5, r5⟩ := trodAll_cons r4
  obtain ⟨rfl, rfl, rfl⟩ := trodAll_nil r5
  obtain rfl : args = #[v0, v1, v2, v3, v4, v5] := by cases args; simp_all
  obtain ⟨rfl, rfl⟩ := trodVars_none hV
  obtain ⟨a0, len0, cap0, rfl⟩ := okWide_slice Try.underlying22 (hval 0 22 v0 rfl rfl)
  have k0 := h0
  have lt0 : ∀ x ∈ p0, x.block < W.heap.size := by obtain ⟨m, hm⟩ := k0; exact DataW.trod_lt m _ _ _ hm
  obtain ⟨l0, hc0, hr0, hb0, hl0⟩ : ∃ l0 : List Int, len0 ≤ cap0 ∧ Kd.C (Kd.int .u8) W a0 len0 l0 ∧ (∀ n ∈ l0, 0 ≤ n ∧ n ≤ 255) ∧ l0.length = len0 := by
    obtain ⟨fuel, hf⟩ := h0
    obtain ⟨A, c, zs, hv, hl, hC, hb, _⟩ := row_ints Try.underlying22 Try.underlying5 (by kernel_rfl) (v := .slice a0 len0 cap0) (by simpa [Value.cells] using hf)
    injection hv with e1 e2 e3
    subst e1; subst e2; subst e3
    exact ⟨zs, hl, hC, hb, rfl⟩
  subst hl0
  obtain ⟨a1, rfl, rfl, rfl, w1⟩ := open_int Try.underlying35 (hval 1 35 v1 rfl rfl) h1
  obtain ⟨a2, len2, cap2, rfl⟩ := okWide_slice Try.underlying48 (hval 2 48 v2 rfl rfl)
  have k2 := h2
  have lt2 : ∀ x ∈ p2, x.block < W.heap.size := by obtain ⟨m, hm⟩ := k2; exact DataW.trod_lt m _ _ _ hm
  obtain ⟨l2, rfl, hc2, hr2, hb2, hs2⟩ := open_rows Try.underlying48 Try.underlying22 Try.underlying5 (by kernel_rfl) (by kernel_rfl) h2
  obtain ⟨a3, rfl, rfl, rfl, w3⟩ := open_int Try.underlying36 (hval 3 36 v3 rfl rfl) h3
  obtain ⟨a4, rfl, rfl, rfl, w4⟩ := open_int Try.underlying5 (hval 4 5 v4 rfl rfl) h4
  obtain ⟨a5, rfl, rfl, rfl, w5⟩ := open_int Try.underlying5 (hval 5 5 v5 rfl rfl) h5
  have hbulk : Pure.bulk l2 < 4611686018427387904 := by
    have h4 : Rows.uptoBulkAll _ ≤ 1048576 := of_decide_eq_true hk
    have h5 := bulk_le (H := H) (d := d2) (l := [d0, .lit (.int .u64 a1), d2, .lit (.int .u16 a3), .lit (.int .u8 a4), .lit (.int .u8 a5)] ++ []) (by simp)
    have h6 := sum17 l2
    have h7 := Nat.le_trans h5 h4
    omega
  obtain ⟨k, hkk⟩ := Pure.CrcFrames l0 a1 l2 a3 a4 a5 hb0 w1 hbulk hb2 w3 w4 w5
  clear hA0 hval0
  refine (Pr.wicketmanlaw13_CrcFrames.calls k a0 cap0 l0 a1 a2 cap2 l2 a3 a4 a5 true W hr0 hc0 hr2 hc2 hkk).mono fun e W' ⟨he, bel⟩ => ?_
  subst he
  exact ⟨_, rfl, _, _, _, [], _, [], hW', trodAll_mk1 (shut_bool Try.underlying4 _), (trodAll_cons_mk (Below.trod laidOut (by kernel_rfl) (of_decide_eq_true (by kernel_rfl)) k0 bel lt0) (trodAll_cons_mk (shut_int Try.underlying35 w1) (trodAll_cons_mk (Below.trod laidOut (by kernel_rfl) (of_decide_eq_true (by kernel_rfl)) k2 bel lt2) (trodAll_cons_mk (shut_int Try.underlying36 w3) (trodAll_cons_mk (shut_int Try.underlying5 w4) (trodAll_cons_mk (shut_int Try.underlying5 w5) trodAll_mk0)))))), rfl, bel.frame _, fun h => by cases h⟩
set_option maxRecDepth 100000 in
theorem lifted (os : Os) (started : os.Started) (H : Type) (enc : TypeId × Value → H) (F : Stop.Interp) :
    ReturnsInHanded {} Try.checked os 12 .any ((Rows.OpenSpec.upto Rows.crcFramesSpec).pre6 enc Try.prog Try.f12 Rows.crcFramesUptoRow.domain false) (((Rows.OpenSpec.upto Rows.crcFramesSpec).at F).post enc Try.prog Try.f12 false true false false) := by
  refine returnsInHanded_of_cond (C := Try.checked) (s := Rows.OpenSpec.upto Rows.crcFramesSpec) (k := Rows.uptoSmall) rfl own started (by kernel_rfl) Try.func12
    (OpenSpec.witness (enc := enc) (C := Try.checked) (s := Rows.OpenSpec.upto Rows.crcFramesSpec) (k := Rows.uptoSmall) rfl false ⟨#[], #[.slice none 0 0, .int .u64 0, .slice none 0 0, .int .u16 0, .int .u8 0, .int .u8 0], []⟩ 8 (by kernel_rfl) (by kernel_rfl) (by kernel_rfl)
      (x := ([.nil, .lit (.int .u64 0), .nil, .lit (.int .u16 0), .lit (.int .u8 0), .lit (.int .u8 0)], [], [])) (by kernel_rfl) rfl (by kernel_rfl)) ?_
  intro W base args ds gs before hval hW _ hk _
  exact contract H enc W base args ds gs before hval hW hk
theorem proved : Rows.CrcFramesUptoSaid :=
  OpenClaim.holds_of_cond 12 Try.f12 rfl rfl rfl rfl rfl rfl rfl ⟨rfl, rfl, rfl, rfl, rfl⟩ rfl rfl rfl rfl rfl (by kernel_rfl) Try.func12 (by kernel_rfl)
    (of_decide_eq_true (by kernel_rfl)) (by unfold Func.isWrapper; first | (rw [if_pos (by decide +kernel)]; kernel_rfl) | (rw [if_neg (by decide +kernel)]; exact ⟨rfl, rfl⟩))
    (fun os started H enc _ F => lifted os started H enc F)
#print axioms proved
end Go.Proofs.Ytmepclalglmleaa.crcFrames
namespace Go.Proofs.Ytmepclalglmleaa
/-- The row, under a short name, for the claim. -/
theorem crcFramesUpto_holds : Rows.CrcFramesUptoSaid := crcFrames.proved
end Go.Proofs.Ytmepclalglmleaa
