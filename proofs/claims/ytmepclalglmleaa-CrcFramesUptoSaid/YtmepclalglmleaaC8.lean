/- The law's same, by hand: of two rows of rows that are alike it is true. -/
import Derived.Test.YtmepclalglmleaaC7
namespace Go.Proofs.Ytmepclalglmleaa.E
open Go.RowKit Go.Proofs.YtmepclalglmleaaW.PrintWords Go.Proofs.YtmepclalglmleaaW.PrintLast Go.Proofs.YtmepclalglmleaaW.PrintMore Go.Proofs.Ytmepclalglmleaa.Pr
set_option linter.unusedVariables false
set_option linter.unusedSimpArgs false
set_option maxHeartbeats 4000000 in
set_option maxRecDepth 100000 in
theorem same_any (A0 A1 : Option Addr) (c0 c1 : Nat) (l : List (List Int)) (w : World) (hr0 : Kd.C (Kd.slice 5 (Kd.int .u8)) w A0 l.length l) (hr1 : Kd.C (Kd.slice 5 (Kd.int .u8)) w A1 l.length l) :
    Calls Try.prog 34 #[.slice A0 l.length c0, .slice A1 l.length c1] w fun e w' => e = .returned (.bool true) ∧ Below w.heap.size w w' := by
  have hmx := Kd.C_max hr0
  have HR0 := Aside0.mk hr0
  have HR1 := Aside0.mk hr1
  clear hr0 hr1
  go_enter Try.func34, Try.ntmps34
  go_wp2
  go_loopw [5] (fun v5 wr => ∃ (k : Nat), k ≤ l.length ∧ v5 = .int .i64 k ∧ Below w.heap.size w wr) (fun v5 _ => l.length - (intOf v5).toNat)
  case atStart => exact ⟨0, Nat.zero_le _, rfl, Below.refl _ w⟩
  case round =>
    obtain ⟨k, hk, rfl, hbw⟩ := hrel
    have HBW := Aside0.mk hbw
    by_cases hp : k < l.length
    · obtain ⟨ad, B0, d0, rfl, hx, hd0, hq0⟩ := at_LL HR0.out (k : Int) (by omega) (by omega)
      obtain ⟨ad2, B1, d1, rfl, hy, hd1, hq1⟩ := at_LL HR1.out (k : Int) (by omega) (by omega)
      have hx' : wr.cell? (ad.add k) = some (.slice B0 (rdR l k).length d0) := pw_cell_below hbw (by simpa using hx)
      have hy' : wr.cell? (ad2.add k) = some (.slice B1 (rdR l k).length d1) := pw_cell_below hbw (by simpa using hy)
      have hv0 := Kd.C_string (P := Try.prog) (c := d0) Try.underlying22 Try.underlying5 Try.underlying9 (Kd.C_below hq0 hbw)
      have hv1 := Kd.C_string (P := Try.prog) (c := d1) Try.underlying22 Try.underlying5 Try.underlying9 (Kd.C_below hq1 hbw)
      have hv0' := Kd.C_string (P := Try.prog) (c := d0) Try.underlying22 Try.underlying5 Try.underlying9 (Kd.C_below hq0 hbw.drew)
      have hv1' := Kd.C_string (P := Try.prog) (c := d1) Try.underlying22 Try.underlying5 Try.underlying9 (Kd.C_below hq1 hbw.drew)
      obtain ⟨R, hR⟩ : ∃ R, R = rdR l k := ⟨_, rfl⟩
      rw [← hR] at hx' hy' hv0 hv1 hv0' hv1'
      clear hx hy hq0 hq1 hR
      go_wp2
      go_region
      all_goals go_wp2
      all_goals go_roundw
      case rel => exact ⟨k + 1, by omega, by go_num, HBW.out.drew⟩
      case measure => simp [intOf]; omega
    · obtain rfl : k = l.length := by omega
      go_wp2
      go_ret
      exact ⟨rfl, HBW.out⟩
def wicketmanlaw13_same.f (l0 l1 : List (List Int)) : Option Bool := if l0 = l1 then some true else none
theorem wicketmanlaw13_same.calls (A0 : Option Addr) (c0 : Nat) (l0 : List (List Int)) (A1 : Option Addr) (c1 : Nat) (l1 : List (List Int)) (r : Bool) (w : World) (hr0 : Kd.C (Kd.slice 5 (Kd.int .u8)) w A0 l0.length l0) (hc0 : l0.length ≤ c0) (hr1 : Kd.C (Kd.slice 5 (Kd.int .u8)) w A1 l1.length l1) (hc1 : l1.length ≤ c1) (h : wicketmanlaw13_same.f l0 l1 = some r) :
    Calls Try.prog 34 #[.slice A0 l0.length c0, .slice A1 l1.length c1] w fun e w' => e = .returned (.bool r) ∧ Below w.heap.size w w' := by
  unfold wicketmanlaw13_same.f at h
  split at h
  · rename_i h2
    subst h2
    obtain rfl := Option.some.inj h
    exact same_any A0 A1 c0 c1 l0 w hr0 hr1
  · exact absurd h (by simp)
end Go.Proofs.Ytmepclalglmleaa.E
