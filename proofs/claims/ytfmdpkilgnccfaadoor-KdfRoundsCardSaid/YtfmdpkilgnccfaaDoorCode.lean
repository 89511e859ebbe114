/- mac.Code, kdf.Round by hand. -/
import Derived.Test.YtfmdpkilgnccfaaDoorPad
namespace Go.Proofs.YtfmdpkilgnccfaaDoor.E
open Go.RowKit Go.Proofs.YtfmdpkilgnccfaaDoorW.PrintWords Go.Proofs.YtfmdpkilgnccfaaDoorW.PrintLast Go.Proofs.YtfmdpkilgnccfaaDoorW.PrintMore Go.Proofs.YtfmdpkilgnccfaaDoor.Pr
set_option linter.unusedVariables false
set_option linter.unusedSimpArgs false
def codeL (k m : List Int) : List Int := shaL (padK k 92 ++ shaL (padK k 54 ++ m))
theorem codeL_len (k m : List Int) : (codeL k m).length = 32 := shaL_len _
theorem codeL_bytes (k m : List Int) : ∀ x ∈ codeL k m, 0 ≤ x ∧ x ≤ 255 := shaL_bytes _
theorem bytes_app {a b : List Int} (ha : ∀ x ∈ a, 0 ≤ x ∧ x ≤ 255) (hb : ∀ x ∈ b, 0 ≤ x ∧ x ≤ 255) : ∀ x ∈ a ++ b, 0 ≤ x ∧ x ≤ 255 := fun x hx => (List.mem_append.1 hx).elim (ha x) (hb x)
set_option maxRecDepth 100000 in
set_option maxHeartbeats 8000000 in
theorem code_any (A0 : Option Addr) (c0 : Nat) (l0 : List Int) (A1 : Option Addr) (c1 : Nat) (l1 : List Int) (W : World) (hr0 : Kd.C (Kd.int .u8) W A0 l0.length l0) (hc0 : l0.length ≤ c0) (hb0 : ∀ x ∈ l0, 0 ≤ x ∧ x ≤ 255) (hl0 : l0.length ≤ 1000000)
    (hr1 : Kd.C (Kd.int .u8) W A1 l1.length l1) (hc1 : l1.length ≤ c1) (hb1 : ∀ x ∈ l1, 0 ≤ x ∧ x ≤ 255) (hl1 : l1.length ≤ 900000) (hG : RootsIn W) :
    Calls Tryd.prog 33 #[.slice A0 l0.length c0, .slice A1 l1.length c1] W fun e w' => ∃ v, e = .returned v ∧ Kd.R (Kd.int .u8) 5 w' W.heap.size (fun _ => True) v (codeL l0 l1) ∧ Below W.heap.size W w' := by
  have h92 : ∀ X, Below W.heap.size W X → Calls Tryd.prog 54 #[.slice A0 l0.length c0, .int .u8 92] X fun e w' => ∃ v, e = .returned v ∧ RowB (padK l0 92) v w' ∧ Below X.heap.size X w' := fun X hX => pad_any A0 c0 l0 92 (by decide) X (Kd.C_below hr0 hX) hc0 hb0 hl0 (hG.below rfl hX)
  have h54 : ∀ X, Below W.heap.size W X → Calls Tryd.prog 54 #[.slice A0 l0.length c0, .int .u8 54] X fun e w' => ∃ v, e = .returned v ∧ RowB (padK l0 54) v w' ∧ Below X.heap.size X w' := fun X hX => pad_any A0 c0 l0 54 (by decide) X (Kd.C_below hr0 hX) hc0 hb0 hl0 (hG.below rfl hX)
  have p92 := padK_len l0 92
  have p54 := padK_len l0 54
  have b92 := padK_bytes hb0 (c := 92) (by decide)
  have b54 := padK_bytes hb0 (c := 54) (by decide)
  obtain ⟨P, hP⟩ : ∃ P, P = padK l0 92 := ⟨_, rfl⟩
  obtain ⟨Q, hQ⟩ : ∃ Q, Q = padK l0 54 := ⟨_, rfl⟩
  have hcode : codeL l0 l1 = shaL (P ++ shaL (Q ++ l1)) := by rw [hP, hQ]; rfl
  rw [← hP] at h92 p92 b92
  rw [← hQ] at h54 p54 b54
  have H92 := Aside0.mk h92
  have H54 := Aside0.mk h54
  have P92 := Aside0.mk p92
  have P54 := Aside0.mk p54
  have B92 := Aside0.mk b92
  have B54 := Aside0.mk b54
  have HR1 := Aside0.mk hr1
  have HB1 := Aside0.mk hb1
  have HG := Aside0.mk hG
  have HCODE := Aside0.mk hcode
  clear h92 h54 p92 p54 b92 b54 hP hQ hcode hr0 hb0 hr1 hb1 hG
  go_enter Tryd.func33, Tryd.ntmps33
  go_wp2_with (go_at_call 54; ((with_reducible refine (H92.out _ (Below.refl _ _)).mono ?_)))
  rintro e w1 ⟨v1, rfl, ⟨B1, d1, rfl, hC1, hd1⟩, hb1⟩
  rw [P92.out] at hC1 hd1 ⊢
  have HC1 := Aside0.mk hC1
  have HW1 := Aside0.mk hb1
  clear hC1 hb1
  go_wp2_with (go_at_call 54; ((with_reducible refine (H54.out _ HW1.out).mono ?_)))
  rintro e w2 ⟨v2, rfl, ⟨B2, d2, rfl, hC2, hd2⟩, hb2⟩
  rw [P54.out] at hC2 hd2 ⊢
  have HC1 := Aside0.mk (Kd.C_below HC1.out hb2)
  have HC2 := Aside0.mk hC2
  have HW2 := Aside0.mk (below_step HW1.out hb2)
  have hs1 := sum2 w2 B2 64 d2 Q A1 l1.length c1 l1 (Kd.C_alloc hC2 _) hd2 (Kd.C_alloc (Kd.C_below HR1.out HW2.out) _) hc1 (Q ++ l1) rfl (by rw [List.length_append, P54.out]; omega) (bytes_app B54.out HB1.out) (HG.out.below rfl (HW2.out.alloc HW2.out.size _))
  have HS1 := Aside0.mk hs1
  clear hC2 hb2 hs1 HW1
  go_wp2_with (go_at_call 22; ((with_reducible refine (HS1.out).mono ?_)))
  rintro e w3 ⟨v3, rfl, hR3, hb3⟩
  obtain ⟨B3, d3, rfl, hl3, hC3⟩ := Kd.R_reads hR3
  have e32 := shaL_len (Q ++ l1)
  rw [e32] at hC3 hl3 ⊢
  have HW3 := Aside0.mk (below_step (HW2.out.alloc HW2.out.size (.cells #[.slice B2 64 d2, .slice A1 l1.length c1] 22)) hb3)
  have hC13 := Kd.C_below (Kd.C_alloc HC1.out (.cells #[.slice B2 64 d2, .slice A1 l1.length c1] 22)) hb3
  have hs2 := sum2 w3 B1 64 d1 P B3 32 d3 (shaL (Q ++ l1)) (Kd.C_alloc hC13 _) hd1 (Kd.C_alloc hC3 _) hl3 (P ++ shaL (Q ++ l1)) rfl (by rw [List.length_append, P92.out, e32]; decide) (bytes_app B92.out (shaL_bytes _)) (HG.out.below rfl (HW3.out.alloc HW3.out.size _))
  have HS2 := Aside0.mk hs2
  clear hR3 hb3 hC3 hC13 hs2 e32 HS1
  go_wp2_with (go_at_call 22; ((with_reducible refine (HS2.out).mono ?_)))
  rintro e w4 ⟨v4, rfl, hR4, hb4⟩
  have HW4 := Aside0.mk (below_step (HW3.out.alloc HW3.out.size (.cells #[.slice B1 64 d1, .slice B3 32 d3] 22)) hb4)
  have HV := Aside0.mk (show Kd.R (Kd.int .u8) 5 w4 W.heap.size (fun _ => True) v4 (codeL l0 l1) by rw [HCODE.out]; exact Kd.R_lower hR4 (HW3.out.alloc HW3.out.size _).size)
  clear hR4 hb4
  go_wp2
  go_ret
  exact ⟨_, rfl, HV.out, HW4.out⟩
theorem SumVal.of_R {P : List Int} {w : World} {n : Nat} {v : Value} (h : Kd.R (Kd.int .u8) 5 w n (fun _ => True) v P) (hp : P.length = 32) : SumVal P v w := by
  obtain ⟨B, d, rfl, hl, hC⟩ := Kd.R_reads h
  rw [hp] at hC hl ⊢
  exact ⟨B, d, rfl, hC, hl⟩
theorem round_any (A0 : Option Addr) (c0 : Nat) (l0 : List Int) (A1 : Option Addr) (c1 : Nat) (l1 : List Int) (W : World) (hr0 : Kd.C (Kd.int .u8) W A0 l0.length l0) (hc0 : l0.length ≤ c0) (hb0 : ∀ x ∈ l0, 0 ≤ x ∧ x ≤ 255) (hl0 : l0.length ≤ 1000000)
    (hr1 : Kd.C (Kd.int .u8) W A1 l1.length l1) (hc1 : l1.length ≤ c1) (hb1 : ∀ x ∈ l1, 0 ≤ x ∧ x ≤ 255) (hl1 : l1.length ≤ 900000) (hG : RootsIn W) :
    Calls Tryd.prog 36 #[.slice A0 l0.length c0, .slice A1 l1.length c1] W fun e w' => ∃ v, e = .returned v ∧ Kd.R (Kd.int .u8) 5 w' W.heap.size (fun _ => True) v (codeL l0 l1) ∧ Below W.heap.size W w' := by
  have H := Aside0.mk (code_any A0 c0 l0 A1 c1 l1 W hr0 hc0 hb0 hl0 hr1 hc1 hb1 hl1 hG)
  clear hr0 hb0 hr1 hb1 hG
  go_enter Tryd.func36, Tryd.ntmps36
  go_wp2_with (go_at_call 33; ((with_reducible refine (H.out).mono ?_)))
  rintro e w1 ⟨v1, rfl, hV, hb⟩
  have HV := Aside0.mk hV
  have HB := Aside0.mk hb
  clear hV hb
  go_wp2
  go_ret
  exact ⟨_, rfl, HV.out, HB.out⟩
end Go.Proofs.YtfmdpkilgnccfaaDoor.E
