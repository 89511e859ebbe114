/- sha.turn, at the numbers that it is called with. -/
import Derived.Test.YtfmdpkilgnccfaaDoorSha0
namespace Go.Proofs.YtfmdpkilgnccfaaDoor.E
open Go.RowKit Go.Proofs.YtfmdpkilgnccfaaDoorW.PrintWords Go.Proofs.YtfmdpkilgnccfaaDoorW.PrintLast Go.Proofs.YtfmdpkilgnccfaaDoorW.PrintMore Go.Proofs.YtfmdpkilgnccfaaDoor.Pr
set_option linter.unusedVariables false
set_option linter.unusedSimpArgs false
def turns : List Nat := [2, 6, 7, 11, 13, 17, 18, 19, 22, 25]
theorem rotr_int (x n : Nat) (hx : x < 4294967296) (hn : n ≤ 32) : bits .or .u32 ((x : Int) * 2 ^ (32 - n) % 4294967296) ((x : Int) / 2 ^ (32 - (32 - n))) = ((rotr x n : Nat) : Int) := by
  rw [show 32 - (32 - n) = n by omega]
  have e1 : (x : Int) * 2 ^ (32 - n) % 4294967296 = (((x <<< (32 - n)) % 4294967296 : Nat) : Int) := by rw [Nat.shiftLeft_eq]; simp
  have e2 : (x : Int) / 2 ^ n = ((x >>> n : Nat) : Int) := by rw [Nat.shiftRight_eq_div_pow]; simp
  rw [e1, e2, or32 _ _ (Nat.mod_lt _ (by decide)) (shr_lt n hx)]
  rfl
theorem neg_and (n : Nat) (h : n ∈ turns) : bits .and .u64 (IntKind.u64.wrap (-(n : Int))) 31 = ((32 - n : Nat) : Int) := by
  simp only [turns, List.mem_cons, List.mem_nil_iff, or_false] at h
  rcases h with rfl | rfl | rfl | rfl | rfl | rfl | rfl | rfl | rfl | rfl <;> decide
set_option maxHeartbeats 4000000 in
theorem rot_any (x n : Nat) (hx : x < 4294967296) (hn : n ∈ turns) (w : World) :
    Calls Tryd.prog 62 #[.int .u32 (x : Int), .int .i64 (-(n : Int))] w fun e w' => e = .returned (.int .u32 ((rotr x n : Nat) : Int)) ∧ w' = w := by
  have h0 := neg_and n hn
  have h1 : 2 ≤ n ∧ n ≤ 25 := by
    simp only [turns, List.mem_cons, List.mem_nil_iff, or_false] at hn
    omega
  have HR := Aside0.mk (rotr_int x n hx (by omega))
  obtain ⟨n0, n1⟩ := h1
  clear hn
  go_enter Tryd.func62, Tryd.ntmps62
  go_wp2
  go_ret
  exact ⟨congrArg (fun z => Ending.returned (.int .u32 z)) HR.out, rfl⟩
theorem turn_any (x n : Nat) (hx : x < 4294967296) (hn : n ∈ turns) (w : World) :
    Calls Tryd.prog 50 #[.int .u32 (x : Int), .int .i64 (n : Int)] w fun e w' => e = .returned (.int .u32 ((rotr x n : Nat) : Int)) ∧ w' = w := by
  have h1 : 2 ≤ n ∧ n ≤ 25 := by
    simp only [turns, List.mem_cons, List.mem_nil_iff, or_false] at hn
    omega
  have HT := Aside0.mk (rot_any x n hx hn w)
  obtain ⟨n0, n1⟩ := h1
  clear hn
  go_enter Tryd.func50, Tryd.ntmps50
  go_wp2_with (go_at_call 62; refine (HT.out).mono ?_; rintro e w' ⟨rfl, rfl⟩)
  go_ret
  exact ⟨rfl, rfl⟩
end Go.Proofs.YtfmdpkilgnccfaaDoor.E
