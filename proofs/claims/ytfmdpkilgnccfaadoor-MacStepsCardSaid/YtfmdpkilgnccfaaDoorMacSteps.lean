/- MacSteps: how many steps a comparison needs hangs on the lengths alone. -/
import Derived.Test.YtfmdpkilgnccfaaDoorF13
import Derived.Test.YtfmdpkilgnccfaaDoorMacM
namespace Go.Proofs.YtfmdpkilgnccfaaDoor.Pure
open Go.RowKit Go.Proofs.YtfmdpkilgnccfaaDoorW.PrintWords Go.Proofs.YtfmdpkilgnccfaaDoorW.PrintLast Go.Proofs.YtfmdpkilgnccfaaDoorW.PrintMore Go.Proofs.YtfmdpkilgnccfaaDoor.Pr Go.Proofs.YtfmdpkilgnccfaaDoor.E
set_option linter.unusedVariables false
set_option linter.unusedSimpArgs false
theorem equal_k (a b : List Int) (ha : ∀ x ∈ a, 0 ≤ x ∧ x ≤ 255) (hb : ∀ x ∈ b, 0 ≤ x ∧ x ≤ 255) (hs : a.length < 1000000) (k : Nat) (hk : a.length + 1 ≤ k) : mac_Equal.f k a b = some (decide (a = b)) := by
  obtain ⟨j, rfl⟩ : ∃ j, k = a.length + 1 + j := ⟨k - (a.length + 1), by omega⟩
  clear hk
  induction j with
  | zero => exact equal_some a b ha hb hs
  | succ j ih => exact mac_Equal.mono a b (a.length + 1 + j) _ ih
theorem steps_some (a b : List Int) : mac_Steps.f a b = some (if a.length = b.length then (a.length : Int) else 0) := by
  unfold mac_Steps.f
  by_cases h : a.length = b.length
  · rw [if_pos h, if_pos (by omega)]
  · rw [if_neg h, if_neg (by omega)]
theorem set_eq_iff (l : List Int) (j : Nat) (hj : j < l.length) (v : Int) : decide (l = l.set j v) = (rd l (j : Int) == v) := by
  have e : rd l (j : Int) = l[j] := by simp [rd, List.getD_eq_getElem?_getD, hj]
  rw [e]
  by_cases h : l[j] = v
  · rw [h, beq_self_eq_true, decide_eq_true]
    subst h
    rw [List.set_getElem_self]
  · rw [beq_eq_false_iff_ne.2 h, decide_eq_false]
    intro h2
    apply h
    have := congrArg (fun m : List Int => m[j]?) h2
    simp only [List.getElem?_set_self hj, List.getElem?_eq_getElem hj, Option.some.injEq] at this
    exact this
theorem u8_wf {a : Int} (h : 0 ≤ a ∧ a ≤ 255) : (Lit.int .u8 a).wf = true := by simpa [Lit.wf, IntKind.min, IntKind.max, IntKind.signed, IntKind.bits] using h
theorem MacSteps : wicketmanlaw03_MacSteps.Pure := by
  intro l0 l1 a2 a3 _ hl0 hb0 _ hl1 hb1 w2 w3
  have h2 := wf_u8 w2
  have h3 := wf_u8 w3
  have hc0 : ∀ x ∈ l0, 0 ≤ x ∧ x ≤ 255 := fun x hx => wf_u8 (hb0 x hx)
  have hc1 : ∀ x ∈ l1, 0 ≤ x ∧ x ≤ 255 := fun x hx => wf_u8 (hb1 x hx)
  refine ⟨400, ?_⟩
  unfold wicketmanlaw03_MacSteps.f
  have e1 : wrap64 ((l0.length : Int) + (l1.length : Int)) = (l0.length : Int) + (l1.length : Int) := by unfold wrap64; omega
  rw [e1]
  have hout : wicketmanlaw03_MacSteps.j0 400 l0 l1 a2 a3 true = some true := by
    show wicketmanlaw03_MacSteps.j0 (399 + 1) l0 l1 a2 a3 true = some true
    obtain ⟨K, hK⟩ : ∃ K, K = 399 := ⟨_, rfl⟩
    rw [← hK]
    simp only [wicketmanlaw03_MacSteps.j0]
    rw [if_pos trivial]
    rfl
  by_cases h300 : 300 < l0.length + l1.length
  · rw [if_pos (by omega), hout]
  rw [if_neg (by omega)]
  by_cases h0 : l0.length = 0
  · rw [h0]; exact hout
  have e2 : ((l0.length : Int) == 0) = false := by rw [beq_eq_false_iff_ne]; omega
  rw [e2]
  show wicketmanlaw03_MacSteps.j0 (399 + 1) l0 l1 a2 a3 false = some true
  obtain ⟨K, hK⟩ : ∃ K, K = 399 := ⟨_, rfl⟩
  rw [← hK]
  simp only [wicketmanlaw03_MacSteps.j0]
  rw [if_neg (by decide), List.nil_append]
  have e3 : wrap64 a2 = a2 := by unfold wrap64; omega
  obtain ⟨j, hj⟩ : ∃ j : Nat, (j : Int) = a2 % (l0.length : Int) := ⟨(a2 % (l0.length : Int)).toNat, Int.toNat_of_nonneg (Int.emod_nonneg _ (by omega))⟩
  have hjl : j < l0.length := by have := Int.emod_lt_of_pos a2 (show (0 : Int) < (l0.length : Int) by omega); omega
  have e4 : Int.tmod a2 (l0.length : Int) = (j : Int) := by rw [Int.tmod_eq_emod_of_nonneg (by omega), hj]
  obtain ⟨y, hy⟩ : ∃ y, y = l0.set j a3 := ⟨_, rfl⟩
  have hyl : y.length = l0.length := by rw [hy, List.length_set]
  have hcy : ∀ x ∈ y, 0 ≤ x ∧ x ≤ 255 := by
    intro x hx
    rw [hy] at hx
    rcases List.mem_or_eq_of_mem_set hx with h | h
    · exact hc0 x h
    · omega
  have hd := set_eq_iff l0 j hjl a3
  rw [← hy] at hd
  have hk : wicketmanlaw03_known.f = some true := rfl
  have q1 := equal_k l0 y hc0 hcy (by omega) K (by omega)
  have q2 := equal_k l0 l1 hc0 hc1 (by omega) K (by omega)
  rw [if_pos (by simp; omega), Option.bind_some, if_neg (by omega), e3, e4, if_pos (by omega), if_pos (by omega), Option.bind_some, Int.toNat_natCast, ← hy, hk, Option.bind_some, if_pos rfl,
    steps_some, Option.bind_some, if_pos hyl.symm, if_pos rfl, Option.bind_some, steps_some, Option.bind_some, if_pos rfl, if_pos rfl]
  by_cases hl : l0.length = l1.length
  · rw [if_pos (by omega), q1, Option.bind_some, if_neg (by omega), if_pos (by omega), if_pos (by omega), hd]
    simp
  · rw [if_neg (by omega), steps_some, Option.bind_some, if_neg hl, if_pos rfl, q2, Option.bind_some, decide_eq_false (fun h => hl (by rw [h])), if_neg (by decide), q1, Option.bind_some, if_neg (by omega), if_pos (by omega), if_pos (by omega), hd]
    simp
theorem MacSteps_at (W : World) (A0 : Option Addr) (c0 : Nat) (l0 : List Int) (hr0 : Kd.C (Kd.int .u8) W A0 l0.length l0) (hc0 : l0.length ≤ c0) (hb0 : ∀ x ∈ l0, 0 ≤ x ∧ x ≤ 255) (hl0 : l0.length ≤ 140737488351232)
    (A1 : Option Addr) (c1 : Nat) (l1 : List Int) (hr1 : Kd.C (Kd.int .u8) W A1 l1.length l1) (hc1 : l1.length ≤ c1) (hb1 : ∀ x ∈ l1, 0 ≤ x ∧ x ≤ 255) (hl1 : l1.length ≤ 140737488351232)
    (a2 : Int) (w2 : (Lit.int .u8 a2).wf = true) (a3 : Int) (w3 : (Lit.int .u8 a3).wf = true) (hG : RootsIn W) :
    Calls Tryd.prog 13 #[.slice A0 l0.length c0, .slice A1 l1.length c1, .int .u8 a2, .int .u8 a3] W fun e w' => e = .returned (.bool true) ∧ Below W.heap.size W w' := by
  obtain ⟨k, hk⟩ := MacSteps l0 l1 a2 a3 (by unfold maxLen; omega) (by omega) (fun x hx => u8_wf (hb0 x hx)) (by unfold maxLen; omega) (by omega) (fun x hx => u8_wf (hb1 x hx)) w2 w3
  exact wicketmanlaw03_MacSteps.calls k A0 c0 l0 A1 c1 l1 a2 a3 true W hr0 hc0 hr1 hc1 hk hG
end Go.Proofs.YtfmdpkilgnccfaaDoor.Pure
