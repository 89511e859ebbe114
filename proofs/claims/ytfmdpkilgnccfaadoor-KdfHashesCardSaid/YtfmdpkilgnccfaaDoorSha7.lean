/- sha.Sum, sha.Block, sha.Pad in the print's form. -/
import Derived.Test.YtfmdpkilgnccfaaDoorSha6
namespace Go.Proofs.YtfmdpkilgnccfaaDoor.E
open Go.RowKit Go.Proofs.YtfmdpkilgnccfaaDoorW.PrintWords
def sha_Sum.f (l0 : List (List Int)) : Option (List Int) := if l0.flatten.length ≤ 1000000 ∧ ∀ x ∈ l0.flatten, 0 ≤ x ∧ x ≤ 255 then some (shaL l0.flatten) else none
theorem sha_Sum.calls (A0 : Option Addr) (c0 : Nat) (l0 : List (List Int)) (r : List Int) (w : World) (hr0 : Kd.C (Kd.slice 5 (Kd.int .u8)) w A0 l0.length l0) (hc0 : l0.length ≤ c0) (h : sha_Sum.f l0 = some r) (hG : RootsIn w) :
    Calls Tryd.prog 22 #[.slice A0 l0.length c0] w fun e w' => ∃ v0_ : Value, e = .returned (v0_) ∧ Kd.R (Kd.int .u8) 5 w' w.heap.size (fun _ => True) v0_ r ∧ Below w.heap.size w w' := by
  unfold sha_Sum.f at h
  split at h
  · rename_i h2
    obtain rfl := Option.some.inj h
    exact sum_any A0 c0 l0 w hr0 hc0 h2.1 h2.2 hG
  · exact absurd h (by simp)
theorem sha_Sum_some {l : List (List Int)} (h : l.flatten.length ≤ 1000000) (hb : ∀ x ∈ l.flatten, 0 ≤ x ∧ x ≤ 255) : sha_Sum.f l = some (shaL l.flatten) := if_pos ⟨h, hb⟩
end Go.Proofs.YtfmdpkilgnccfaaDoor.E
