/- The law's known, of chapter 2, by hand. -/
import Derived.Test.YtfmdpkilgnccfaaDoorSha7
import Derived.Lib.SlBytesConst
namespace Go.Proofs.YtfmdpkilgnccfaaDoor.E
open Go.RowKit Go.Proofs.YtfmdpkilgnccfaaDoorW.PrintWords Go.Proofs.YtfmdpkilgnccfaaDoorW.PrintLast Go.Proofs.YtfmdpkilgnccfaaDoorW.PrintMore Go.Proofs.YtfmdpkilgnccfaaDoor.Pr
set_option linter.unusedVariables false
set_option linter.unusedSimpArgs false
set_option maxRecDepth 100000 in
theorem sha_abc : shaL [97, 98, 99] = [186, 120, 22, 191, 143, 1, 207, 234, 65, 65, 64, 222, 93, 174, 34, 35, 176, 3, 97, 163, 150, 23, 122, 156, 180, 16, 255, 97, 242, 0, 21, 173] := by decide +kernel
def wicketmanlaw02_known.f : Option Bool := some true
set_option maxHeartbeats 4000000 in
set_option maxRecDepth 100000 in
theorem wicketmanlaw02_known.calls (r : Bool) (w : World) (h : wicketmanlaw02_known.f = some r) (hG : RootsIn w) :
    Calls Tryd.prog 21 #[] w fun e w' => e = .returned (.bool r) ∧ Below w.heap.size w w' := by
  obtain rfl := Option.some.inj h
  have kc := fun (w : World) (C : Array Value) (n c : Nat) => Lib.run_convert_bytes_const (P := Tryd.prog) w 22 5 C n c Tryd.underlying22 Tryd.underlying5
  have hab := lit_C w [97, 98] (2, 3) (by simp)
  have hc := lit_C (w.alloc (.cells ([97, 98].map (Value.int .u8)).toArray 5 (2, 3))) [99] (1, 2) (by simp)
  have hrows := rows_new ((w.alloc (.cells ([97, 98].map (Value.int .u8)).toArray 5 (2, 3))).alloc (.cells ([99].map (Value.int .u8)).toArray 5 (1, 2))) [(some ⟨w.heap.size, 0, none⟩, 2, [97, 98]), (some ⟨w.heap.size + 1, 0, none⟩, 1, [99])] (by
    intro x hx
    simp only [List.mem_cons, List.mem_nil_iff, or_false] at hx
    rcases hx with rfl | rfl
    · exact ⟨Kd.C_alloc hab _, Nat.le_refl _⟩
    · exact ⟨by simpa using hc, Nat.le_refl _⟩) (by simp)
  simp only [List.map_cons, List.map_nil, List.length_cons, List.length_nil, Nat.zero_add, Nat.reduceAdd, World.size_alloc] at hrows
  have hs : sha_Sum.f [[97, 98], [99]] = some (shaL [97, 98, 99]) := sha_Sum_some (l := [[97, 98], [99]]) (by decide) (by decide)
  rw [sha_abc] at hs
  have HB3 := Aside0.mk ((((Below.refl _ w).alloc (Nat.le_refl _) (.cells #[.int .u8 97, .int .u8 98] 5 (2, 3))).alloc (by simp) (.cells #[.int .u8 99] 5 (1, 2))).alloc (by simp; omega) (.cells #[.slice (some ⟨w.heap.size, 0, none⟩) 2 2, .slice (some ⟨w.heap.size + 1, 0, none⟩) 1 1] 22))
  have HROWS := Aside0.mk hrows
  have HS := Aside0.mk hs
  have HG3 := Aside0.mk (hG.below rfl HB3.out)
  have kc2 := kc (w.alloc (.cells #[.int .u8 97, .int .u8 98] 5 (2, 3))) #[.int .u8 99] 1 1
  simp only [World.size_alloc] at kc2
  clear hab hc hrows hs hG h
  go_enter Tryd.func21, Tryd.ntmps21
  go_wp2_with (go_at_call 22; go_loud (refine (sha_Sum.calls _ 2 [[97, 98], [99]] _ _ HROWS.out (Nat.le_refl _) HS.out HG3.out).mono ?_))
  rintro e w1 ⟨v1, rfl, hv1, hb1⟩
  obtain ⟨A1, c1, rfl, hl1, hC⟩ := Kd.R_reads hv1
  have HB := Aside0.mk (below_step HB3.out hb1)
  obtain ⟨ad, rfl, h0⟩ := Kd.at_int hC 0 (by decide) (by decide)
  obtain ⟨_, e1, h1⟩ := Kd.at_int hC 1 (by decide) (by decide)
  obtain ⟨_, e2, h2⟩ := Kd.at_int hC 2 (by decide) (by decide)
  obtain ⟨_, e3, h3⟩ := Kd.at_int hC 3 (by decide) (by decide)
  obtain ⟨_, e31, h31⟩ := Kd.at_int hC 31 (by decide) (by decide)
  cases e1; cases e2; cases e3; cases e31
  have g0 : w1.cell? ad = some (.int .u8 186) := by have := h0; rwa [show (0 : Int).toNat = 0 from rfl, Addr.add_zero'] at this
  have g1 : w1.cell? ⟨ad.block, ad.off + 1, none⟩ = some (.int .u8 120) := by have := h1; rwa [show (1 : Int).toNat = 0 + 1 from rfl, Addr.add_succ'] at this
  have g2 : w1.cell? ⟨ad.block, ad.off + 2, none⟩ = some (.int .u8 22) := by have := h2; rwa [show (2 : Int).toNat = 1 + 1 from rfl, Addr.add_succ'] at this
  have g3 : w1.cell? ⟨ad.block, ad.off + 3, none⟩ = some (.int .u8 191) := by have := h3; rwa [show (3 : Int).toNat = 2 + 1 from rfl, Addr.add_succ'] at this
  have g31 : w1.cell? ⟨ad.block, ad.off + 31, none⟩ = some (.int .u8 173) := by have := h31; rwa [show (31 : Int).toNat = 30 + 1 from rfl, Addr.add_succ'] at this
  clear h0 h1 h2 h3 h31 hv1 hC hl1 hb1
  go_wp2
  go_ret
  exact ⟨rfl, HB.out⟩
end Go.Proofs.YtfmdpkilgnccfaaDoor.E
