/- The document's Code, in the print's form. -/
import Derived.Test.YtlddionmkblioaaDoorRefM
namespace Go.Proofs.YtlddionmkblioaaDoor.E
open Go.RowKit Go.Proofs.YtlddionmkblioaaDoorW.PrintWords Go.Proofs.YtlddionmkblioaaDoor.Pr
def wicketmanref03_Code.f (l0 l1 : List Int) : Option (List Int) := if l0.length ≤ 1000000 ∧ l1.length ≤ 900000 ∧ (∀ x ∈ l0, 0 ≤ x ∧ x ≤ 255) ∧ ∀ x ∈ l1, 0 ≤ x ∧ x ≤ 255 then some (codeL l0 l1) else none
theorem wicketmanref03_Code.calls (A0 : Option Addr) (c0 : Nat) (l0 : List Int) (A1 : Option Addr) (c1 : Nat) (l1 : List Int) (r : List Int) (w : World) (hr0 : Kd.C (Kd.int .u8) w A0 l0.length l0) (hc0 : l0.length ≤ c0) (hr1 : Kd.C (Kd.int .u8) w A1 l1.length l1) (hc1 : l1.length ≤ c1) (h : wicketmanref03_Code.f l0 l1 = some r) :
    Calls Tryd.prog 10 #[.slice A0 l0.length c0, .slice A1 l1.length c1] w fun e w' => ∃ v0_ : Value, e = .returned (v0_) ∧ Kd.R (Kd.int .u8) 5 w' w.heap.size (fun _ => True) v0_ r ∧ Below w.heap.size w w' := by
  unfold wicketmanref03_Code.f at h
  split at h
  · rename_i h2
    obtain rfl := Option.some.inj h
    exact rcode_any A0 c0 l0 A1 c1 l1 w hr0 hc0 h2.2.2.1 h2.1 hr1 hc1 h2.2.2.2 h2.2.1
  · exact absurd h (by simp)
end Go.Proofs.YtlddionmkblioaaDoor.E
namespace Go.Proofs.YtlddionmkblioaaDoor.Pr
open Go.RowKit
theorem info9 : (Tryd.prog.info? 9).map (fun i => (i.zero, i.size, i.bytes)) = some (some (.string ⟨#[]⟩), 1, 16) := by kernel_rfl
theorem info22 : (Tryd.prog.info? 24).map (fun i => (i.zero, i.size, i.bytes)) = some (some (.slice none 0 0), 1, 24) := by kernel_rfl
end Go.Proofs.YtlddionmkblioaaDoor.Pr

