/- crc.Sum, and the law's known answers, by hand. -/
import Derived.Test.YtmepclalglmleaaP
import Derived.Lib.SlBytesConst
namespace Go.Proofs.Ytmepclalglmleaa.E
open Go.RowKit Go.Proofs.YtmepclalglmleaaW.PrintWords Go.Proofs.YtmepclalglmleaaW.PrintLast Go.Proofs.YtmepclalglmleaaW.PrintMore Go.Proofs.Ytmepclalglmleaa.Pr
set_option linter.unusedVariables false
set_option linter.unusedSimpArgs false
def crc_Sum.f (l0 : List Int) : Option Int := if ∀ x ∈ l0, 0 ≤ x ∧ x ≤ 255 then some ((crcN l0 : Nat) : Int) else none
theorem crc_Sum.calls (A0 : Option Addr) (c0 : Nat) (l0 : List Int) (r : Int) (w : World) (hr0 : Kd.C (Kd.int .u8) w A0 l0.length l0) (hc0 : l0.length ≤ c0) (h : crc_Sum.f l0 = some r) :
    Calls Try.prog 27 #[.slice A0 l0.length c0] w fun e w' => e = .returned (.int .u32 r) ∧ Below w.heap.size w w' := by
  unfold crc_Sum.f at h
  split at h
  · rename_i hall
    injection h with h
    have hs : crc_sum.f [l0] = some r := by
      unfold crc_sum.f
      rw [if_pos]
      · rw [← h]; simp
      · intro r hr; rw [List.mem_singleton] at hr; subst hr; exact hall
    have hrows := rows_new w [(A0, c0, l0)] (by
      intro v hv
      rw [List.mem_singleton] at hv
      subst hv
      exact ⟨hr0, hc0⟩) (by simp)
    simp only [List.map_cons, List.map_nil, List.length_cons, List.length_nil, Nat.zero_add, Nat.reduceAdd] at hrows
    have HROWS := Aside0.mk hrows
    have HS := Aside0.mk hs
    clear hall h hs hrows hr0
    go_enter Try.func27, Try.ntmps27
    go_wp2_with (go_at_call 41; refine (crc_sum.calls _ 1 [l0] r _ HROWS.out (Nat.le_refl _) HS.out).mono ?_)
    rintro e w1 ⟨rfl, hb⟩
    have HB := Aside0.mk (((Below.refl _ w).alloc (Nat.le_refl _) _).trans (hb.mono (by simp)))
    clear hb HROWS
    go_wp2
    go_ret
    exact ⟨rfl, HB.out⟩
  · exact absurd h (by simp)
theorem lit_C (w : World) (cs : List Int) (fr : Nat × Nat) (h : cs.length ≤ 1000) : Kd.C (Kd.int .u8) (w.alloc (.cells (cs.map (Value.int .u8)).toArray 5 fr)) (some ⟨w.heap.size, 0, none⟩) cs.length cs := by
  refine Kd.C_of_reads (d := (0 : Int)) (h1 := fun _ => rfl) ⟨rfl, by omega, fun hn => ⟨_, rfl, fun j hj => ?_⟩⟩
  have e : (⟨w.heap.size, 0, none⟩ : Addr).add j = ⟨w.heap.size, j, none⟩ := add_plain _ _
  rw [e, World.cell?_alloc_mark w _ _ fr j]
  simp [List.getD_eq_getElem?_getD, hj]
def wicketmanlaw13_known.f : Option Bool := some true
theorem wicketmanlaw13_known.calls (r : Bool) (w : World) (h : wicketmanlaw13_known.f = some r) :
    Calls Try.prog 24 #[] w fun e w' => e = .returned (.bool r) ∧ Below w.heap.size w w' := by
  obtain rfl := Option.some.inj h
  have kc := fun (w : World) (C : Array Value) (n c : Nat) => Lib.run_convert_bytes_const (P := Try.prog) w 22 5 C n c Try.underlying22 Try.underlying5
  have k1 : crc_Frame.f 1 [97] = some (frameL 1 [97], 0) := by unfold crc_Frame.f; decide +kernel
  have l1 : (frameL 1 [97]).length = 17 := by decide +kernel
  have k2 : crc_Next.f (frameL 1 [97]) = some (1, [97], 17) := by unfold crc_Next.f; decide +kernel
  have k3 : crc_Sum.f [49, 50, 51, 52, 53, 54, 55, 56, 57] = some 3421780262 := by unfold crc_Sum.f; decide +kernel
  have hA := lit_C w [97] (1, 2) (by simp)
  simp only [List.map_cons, List.map_nil, List.length_cons, List.length_nil, Nat.zero_add, Nat.reduceAdd] at hA
  obtain ⟨F, hF⟩ : ∃ F, F = frameL 1 [97] := ⟨_, rfl⟩
  rw [← hF] at k1 l1 k2
  have K1 := Aside0.mk k1
  have K2 := Aside0.mk k2
  have K3 := Aside0.mk k3
  have HA := Aside0.mk hA
  clear hF k1 k2 k3 hA
  go_enter Try.func24, Try.ntmps24
  go_wp2_with (go_at_call 25; refine (crc_Frame.calls 1 _ 1 [97] F 0 _ HA.out (Nat.le_refl _) K1.out).mono ?_)
  rintro e w1 ⟨v1, rfl, hv1, hb1⟩
  obtain ⟨Af, cf, rfl⟩ := R_form4 hv1 l1
  have HB1 := Aside0.mk (((Below.refl _ w).alloc (Nat.le_refl _) (.cells #[.int .u8 97] 5 (1, 2))).trans (hb1.mono (by simp)))
  have HV1 := Aside0.mk (R_C hv1 l1).1
  have hcf := (R_C hv1 l1).2
  clear hv1 hb1
  have hv2 := Aside0.mk (show Kd.C (Kd.int .u8) w1 Af F.length F from by rw [l1]; exact HV1.out)
  go_wp2_with (go_at_call 26; refine (show Calls Try.prog 26 #[.slice Af 17 cf] w1 _ from l1 ▸ (crc_Next.calls Af cf F 1 [97] 17 w1 hv2.out (by omega) K2.out)).mono ?_)
  rintro e w2 ⟨v2, rfl, hvr2, hb2⟩
  obtain ⟨Ag, cg, rfl⟩ := R_form4 hvr2 rfl
  have HB2 := Aside0.mk (HB1.out.trans (hb2.mono HB1.out.size))
  clear hvr2 hb2
  have hB := lit_C w2 [49, 50, 51, 52, 53, 54, 55, 56, 57] (9, 10) (by simp)
  simp only [List.map_cons, List.map_nil, List.length_cons, List.length_nil, Nat.zero_add, Nat.reduceAdd] at hB
  have HBb := Aside0.mk hB
  clear hB
  go_wp2_with (go_at_call 27; refine (crc_Sum.calls _ 9 [49, 50, 51, 52, 53, 54, 55, 56, 57] _ _ HBb.out (Nat.le_refl _) K3.out).mono ?_)
  rintro e w3 ⟨rfl, hb3⟩
  have HB3 := Aside0.mk ((HB2.out.alloc HB2.out.size (.cells #[.int .u8 49, .int .u8 50, .int .u8 51, .int .u8 52, .int .u8 53, .int .u8 54, .int .u8 55, .int .u8 56, .int .u8 57] 5 (9, 10))).trans (hb3.mono (by have := HB2.out.size; simp; omega)))
  clear hb3 HBb
  go_wp2
  go_ret
  exact ⟨rfl, HB3.out⟩
end Go.Proofs.Ytmepclalglmleaa.E
