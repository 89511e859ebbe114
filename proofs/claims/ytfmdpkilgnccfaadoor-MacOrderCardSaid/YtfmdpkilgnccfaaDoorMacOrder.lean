/- MacOrder: an ideal Maker tells a message the same code, whatever it is asked between. -/
import Derived.Test.YtfmdpkilgnccfaaDoorMacI
import Derived.Test.YtfmdpkilgnccfaaDoorWZeros
import Derived.Lib.MinMax
namespace Go.Proofs.YtfmdpkilgnccfaaDoor.Pure
open Go.RowKit Go.Proofs.YtfmdpkilgnccfaaDoorW.PrintWords Go.Proofs.YtfmdpkilgnccfaaDoorW.PrintLast Go.Proofs.YtfmdpkilgnccfaaDoorW.PrintMore Go.Proofs.YtfmdpkilgnccfaaDoor.Pr Go.Proofs.YtfmdpkilgnccfaaDoor.E
set_option linter.unusedVariables false
set_option linter.unusedSimpArgs false
attribute [local go_sem] opVal opUpon
structure OrderInv (p b : Nat) (W : World) (l0 l1 E0 E1 : List Int) (made : List (List Int)) (k : Nat) (wr : World) : Prop where
  ideal : IdealS p b made wr
  rows : ByteRows made
  nodup : made.Nodup
  len : made.length ≤ 2 + k
  c0 : icode made l0 = some E0
  c1 : icode made l1 = some E1
  below : Below W.heap.size W wr
set_option maxHeartbeats 8000000 in
set_option maxRecDepth 100000 in
theorem MacOrder_at (W : World) (A0 : Option Addr) (c0 : Nat) (l0 : List Int) (hr0 : Kd.C (Kd.int .u8) W A0 l0.length l0) (hc0 : l0.length ≤ c0) (hb0 : ∀ x ∈ l0, 0 ≤ x ∧ x ≤ 255) (hl0 : l0.length ≤ 140737488351232) (A1 : Option Addr) (c1 : Nat) (l1 : List Int) (hr1 : Kd.C (Kd.int .u8) W A1 l1.length l1) (hc1 : l1.length ≤ c1) (hb1 : ∀ x ∈ l1, 0 ≤ x ∧ x ≤ 255) (hl1 : l1.length ≤ 140737488351232) (a2 : Int) (w2 : (Lit.int .u8 a2).wf = true) (hG : RootsIn W) :
    Calls Tryd.prog 11 #[.slice A0 l0.length c0, .slice A1 l1.length c1, .int .u8 a2] W fun e w' => e = .returned (.bool true) ∧ Below W.heap.size W w' := by
  have h2 := wf_u8 w2
  have KN := Aside0.mk (fun (X : World) (hX : Below W.heap.size W X) => known3 X (hG.below rfl hX))
  by_cases h150 : 150 < l0.length + l1.length
  · have g1 : (150 : Int) < (l0.length : Int) + (l1.length : Int) := by omega
    have g2 : decide ((150 : Int) < (l0.length : Int) + (l1.length : Int)) = true := decide_eq_true g1
    clear hr0 hr1 hb0 hb1 hG w2
    go_enter Tryd.func11, Tryd.ntmps11
    go_wp2_with (go_at_call 29; ((with_reducible refine (KN.out _ (Below.refl _ _)).mono ?_); rintro e w1 ⟨rfl, hb1⟩); have HB1 := Aside0.mk hb1; clear hb1)
    go_ret
    exact ⟨rfl, HB1.out⟩
  have g1 : ¬ (150 : Int) < (l0.length : Int) + (l1.length : Int) := by omega
  have g2 : decide ((150 : Int) < (l0.length : Int) + (l1.length : Int)) = false := decide_eq_false g1
  obtain ⟨n, hn⟩ : ∃ n : Nat, (n : Int) = a2 % 8 := ⟨(a2 % 8).toNat, by omega⟩
  have hn8 : n < 8 := by omega
  have e5 : a2 % 8 = (n : Int) := by omega
  have HR0 := Aside0.mk hr0
  have HR1 := Aside0.mk hr1
  have HB0 := Aside0.mk hb0
  have HB1 := Aside0.mk hb1
  have HG := Aside0.mk hG
  have HL := Aside0.mk (show l0.length ≤ 150 ∧ l1.length ≤ 150 by omega)
  have q1 := iNilM
  have q2 := iNilP
  have q3 := iMetM
  have q4 := iMetP
  clear hr0 hr1 hb0 hb1 hG w2 hn
  go_enter Tryd.func11, Tryd.ntmps11
  go_wp2_with (go_at_call 30; ((with_reducible refine (ideal_any _).mono ?_)))
  rintro e w1 ⟨p, b, rfl, hpb, hp, hbb, hI, hb1⟩
  have hm0 := imake_any p b [] A0 c0 l0 w1 hI hpb (by intro m hm; cases hm) (Kd.C_below HR0.out hb1) hc0 HB0.out (by omega) List.nodup_nil (by decide) (HG.out.below rfl hb1)
  obtain ⟨E0, hE0⟩ : ∃ E, E = codeM [] l0 := ⟨_, rfl⟩
  have HM0 := Aside0.mk hm0
  have HE0 := Aside0.mk hE0
  have HPB := Aside0.mk hpb
  have HLO := Aside0.mk (show W.heap.size ≤ p ∧ W.heap.size ≤ b from ⟨hp, hbb⟩)
  have HW1 := Aside0.mk hb1
  clear hm0 hE0 hpb hp hbb hI hb1
  go_wp2_with (go_at_call 85; ((with_reducible refine (HM0.out).mono ?_)))
  rintro e w2 ⟨v2, rfl, hnr, hI2, hgr⟩
  rw [← HE0.out] at hnr
  obtain ⟨g2, d2, rfl, -, hd2, hC2⟩ := NewRow_form hnr
  have hW2 : Below W.heap.size W w2 := HW1.out.grown hgr HW1.out.size (fun i hi => by cases hi; exact HLO.out.2)
  have hst2 := Kd.C_string (P := Tryd.prog) (c := d2) Tryd.underlying22 Tryd.underlying5 Tryd.underlying9 hC2
  have hbr1 : ByteRows (addM [] l0) := addM_rows (by intro m hm; cases hm) HB0.out (by omega)
  have hnd1 : (addM [] l0).Nodup := addM_nodup List.nodup_nil
  have hln1 : (addM [] l0).length ≤ 1 := addM_len [] l0
  have hic0 : icode (addM [] l0) l0 = some E0 := by rw [HE0.out]; exact icode_add_self [] l0
  obtain ⟨m1, hm1⟩ : ∃ m, m = addM [] l0 := ⟨_, rfl⟩
  rw [← hm1] at hbr1 hnd1 hln1 hic0 hI2
  have hmk := imake_any p b m1 A1 c1 l1 w2 hI2 HPB.out hbr1 (Kd.C_below HR1.out hW2) hc1 HB1.out (by omega) hnd1 (by omega) (HG.out.below rfl hW2)
  obtain ⟨E1, hE1⟩ : ∃ E, E = codeM m1 l1 := ⟨_, rfl⟩
  have HM1 := Aside0.mk hmk
  have HE1 := Aside0.mk hE1
  have HW2 := Aside0.mk hW2
  have HQ := Aside0.mk (And.intro hbr1 (And.intro hnd1 (And.intro hln1 hic0)))
  clear hnr hI2 hgr hC2 hW2 hbr1 hnd1 hln1 hic0 hm1 hmk hE1
  go_wp2_with (go_at_call 85; ((with_reducible refine (HM1.out).mono ?_)))
  rintro e w3 ⟨v3, rfl, hnr, hI3, hgr⟩
  rw [← HE1.out] at hnr
  obtain ⟨g3, d3, rfl, -, hd3, hC3⟩ := NewRow_form hnr
  have hW3 : Below W.heap.size W w3 := HW2.out.grown hgr HW2.out.size (fun i hi => by cases hi; exact HLO.out.2)
  have hst3 := Kd.C_string (P := Tryd.prog) (c := d3) Tryd.underlying22 Tryd.underlying5 Tryd.underlying9 hC3
  have hinv : OrderInv p b W l0 l1 E0 E1 (addM m1 l1) 0 w3 := ⟨hI3, addM_rows HQ.out.1 HB1.out (by omega), addM_nodup HQ.out.2.1, by have := addM_len m1 l1; have := HQ.out.2.2.1; omega, icode_add_keep HQ.out.2.2.2, by rw [HE1.out]; exact icode_add_self m1 l1, hW3⟩
  have HINV := Aside0.mk hinv
  have HEE : Aside0 (l0 = l1 → E0 = E1) := ⟨fun h => by
    have h1 := HINV.out.c0
    have h2 := HINV.out.c1
    rw [h, h2] at h1
    exact (Option.some.inj h1).symm⟩
  have HEB := Aside0.mk (And.intro (icode_len hinv.c0) (icode_len hinv.c1))
  clear hnr hI3 hgr hC3 hW3 hinv hd2 hd3
  go_wp2
  go_loopw [10] (fun v10 wr => ∃ (k : Nat) (made : List (List Int)), k ≤ n ∧ v10 = .int .i64 (k : Int) ∧ Aside0 (OrderInv p b W l0 l1 E0 E1 made k wr)) (fun v10 _ => n - (intOf v10).toNat)
  case atStart => exact ⟨0, _, Nat.zero_le _, rfl, HINV⟩
  case round =>
    obtain ⟨k, made, hkn, rfl, hH⟩ := hrel
    by_cases hlt : k < n
    · have hz : ((k : Int)) < (n : Int) := by omega
      have hk8 : (k : Int) < 8 := by omega
      have hk256 : (k : Int) % 256 = (k : Int) := by omega
      have hku : IntKind.u8.wrap (k : Int) = (k : Int) := by rw [IntKind.wrap_u8]; omega
      have hl := lit_C wr [(k : Int), 7] (0, 0) (by simp)
      have hba := (Below.refl wr.heap.size wr).alloc (Nat.le_refl _) (.cells ([(k : Int), 7].map (Value.int .u8)).toArray 5 (0, 0))
      have hwa := hH.out.below.alloc hH.out.below.size (.cells ([(k : Int), 7].map (Value.int .u8)).toArray 5 (0, 0))
      have hmk : Calls Tryd.prog 85 #[.pointer (some ⟨p, 0, none⟩), .slice (some ⟨wr.heap.size, 0, none⟩) 2 2] (wr.alloc (.cells #[.int .u8 (k : Int), .int .u8 7] 5)) (MakeAny p b made [(k : Int), 7] (wr.alloc (.cells #[.int .u8 (k : Int), .int .u8 7] 5))) :=
        imake_any p b made (some ⟨wr.heap.size, 0, none⟩) 2 [(k : Int), 7] _ (hH.out.ideal.below hba) HPB.out hH.out.rows hl (Nat.le_refl _) (by intro x hx; simp only [List.mem_cons, List.mem_nil_iff, or_false] at hx; omega) (by simp) hH.out.nodup (by have := hH.out.len; omega) (HG.out.below rfl hwa)
      have HMK := Aside0.mk hmk
      have HWA := Aside0.mk hwa
      clear hl hba hwa hmk
      go_wp2_with (go_at_call 85; ((with_reducible refine (HMK.out).mono ?_)))
      rintro e w4 ⟨v4, rfl, hnr, hI4, hgr⟩
      have hW4 : Below W.heap.size W w4 := HWA.out.grown hgr HWA.out.size (fun i hi => by cases hi; exact HLO.out.2)
      have hinv4 : OrderInv p b W l0 l1 E0 E1 (addM made [(k : Int), 7]) (k + 1) w4 := ⟨hI4, addM_rows hH.out.rows (by intro x hx; simp only [List.mem_cons, List.mem_nil_iff, or_false] at hx; omega) (by simp), addM_nodup hH.out.nodup, by have := addM_len made [(k : Int), 7]; have := hH.out.len; omega, icode_add_keep hH.out.c0, icode_add_keep hH.out.c1, hW4⟩
      have HI4 := Aside0.mk hinv4
      clear hnr hI4 hgr hW4 hinv4
      go_wp2
      go_roundw
      case rel => exact ⟨k + 1, _, by omega, by go_num, HI4⟩
      case measure => simp [intOf]; omega
    · have hz : ¬ ((k : Int)) < (n : Int) := by omega
      have HI := Aside0.mk hH.out.ideal
      have HBE := Aside0.mk hH.out.below
      have HRW := Aside0.mk hH.out.rows
      have HC0 := Aside0.mk hH.out.c0
      have HC1 := Aside0.mk hH.out.c1
      have hcvA := fun X : World => (conv_row E0 HEB.out.1.2 (by rw [HEB.out.1.1]; decide) X).1
      have hcvB := fun X : World => (conv_row E1 HEB.out.2.2 (by rw [HEB.out.2.1]; decide) X).1
      clear hH
      have key : E0 = E1 ∨ (E0 ≠ E1 ∧ l0 ≠ l1) := by
        by_cases hE : E0 = E1
        · exact .inl hE
        · exact .inr ⟨hE, fun h => hE (HEE.out h)⟩
      clear hst2 hst3
      rcases key with hE | ⟨hE, hL⟩
      · subst hE
        go_wp2_with (go_at_call 29; ((with_reducible refine (KN.out _ HBE.out).mono ?_); rintro e wA ⟨rfl, hbA⟩))
        have hWA := below_step HBE.out hbA
        have hma := imake_old p b made A0 c0 l0 wA (HI.out.below hbA) HPB.out HRW.out (Kd.C_below HR0.out hWA) hc0 HB0.out (by have := HL.out; omega) E0 HC0.out
        have HMA := Aside0.mk hma
        have HBA := Aside0.mk hbA
        have HWA := Aside0.mk hWA
        clear hma hbA hWA
        go_wp2_with (go_at_call 85; ((with_reducible refine (HMA.out).mono ?_)))
        rintro e wB ⟨vB, rfl, hnB, hbB⟩
        obtain ⟨gB, dB, rfl, -, hdB, hCB⟩ := NewRow_form hnB
        have hstB := Kd.C_string (P := Tryd.prog) (c := dB) Tryd.underlying22 Tryd.underlying5 Tryd.underlying9 hCB
        have hbrB := below_step HBA.out hbB
        have hWB := below_step HWA.out hbB
        have hmb := imake_old p b made A1 c1 l1 wB (HI.out.below hbrB) HPB.out HRW.out (Kd.C_below HR1.out hWB) hc1 HB1.out (by have := HL.out; omega) E0 HC1.out
        have HMB := Aside0.mk hmb
        have HBB := Aside0.mk hbrB
        have HWB := Aside0.mk hWB
        clear hnB hbB hCB hmb hbrB hWB
        go_wp2_with (go_at_call 85; ((with_reducible refine (HMB.out).mono ?_)))
        rintro e wC ⟨vC, rfl, hnC, hbC⟩
        obtain ⟨gC, dC, rfl, -, hdC, hCC⟩ := NewRow_form hnC
        have hstC := Kd.C_string (P := Tryd.prog) (c := dC) Tryd.underlying22 Tryd.underlying5 Tryd.underlying9 hCC
        have hbrC := below_step HBB.out hbC
        have hWC := below_step HWB.out hbC
        have hcr := conv_row E0 HEB.out.1.2 (by rw [HEB.out.1.1]; decide) wC
        obtain ⟨Br, dr, er, hCr, hdr⟩ := hcr.2.1
        have hpa := iprove_any p b made A0 c0 l0 (Lib.bytesWorld wC 5 (strOfNums E0)) (HI.out.below (below_step hbrC hcr.2.2)) HPB.out HRW.out (Kd.C_below HR0.out (below_step hWC hcr.2.2)) hc0 HB0.out (by have := HL.out; omega) (some ⟨wC.heap.size, 0, none⟩) (grownCap wC E0.length 0 5) E0 (by injection er with x1 x2 x3; rw [x1]; exact hCr) (by injection er with x1 x2 x3; rw [x3]; exact hdr) HEB.out.1.2
        rw [HC0.out, decide_eq_true rfl] at hpa
        have HPA := Aside0.mk hpa
        have HBC := Aside0.mk (below_step hbrC hcr.2.2)
        have HWC := Aside0.mk (below_step hWC hcr.2.2)
        clear hnC hbC hCC hbrC hWC hcr er hCr hdr hpa
        go_wp2_with (go_at_call 86; ((with_reducible refine (HPA.out).mono ?_)))
        rintro e wD ⟨rfl, hbD⟩
        have hbrD := below_step HBC.out hbD
        have hWD := below_step HWC.out hbD
        have hcr := conv_row E0 HEB.out.1.2 (by rw [HEB.out.1.1]; decide) wD
        obtain ⟨Br, dr, er, hCr, hdr⟩ := hcr.2.1
        have hpb2 := iprove_any p b made A1 c1 l1 (Lib.bytesWorld wD 5 (strOfNums E0)) (HI.out.below (below_step hbrD hcr.2.2)) HPB.out HRW.out (Kd.C_below HR1.out (below_step hWD hcr.2.2)) hc1 HB1.out (by have := HL.out; omega) (some ⟨wD.heap.size, 0, none⟩) (grownCap wD E0.length 0 5) E0 (by injection er with x1 x2 x3; rw [x1]; exact hCr) (by injection er with x1 x2 x3; rw [x3]; exact hdr) HEB.out.1.2
        rw [HC1.out, decide_eq_true rfl] at hpb2
        have HPB2 := Aside0.mk hpb2
        have HWD := Aside0.mk (below_step hWD hcr.2.2)
        clear hbD hbrD hWD hcr er hCr hdr hpb2
        go_wp2_with (go_at_call 86; ((with_reducible refine (HPB2.out).mono ?_)))
        rintro e wE ⟨rfl, hbE⟩
        have HWE := Aside0.mk (below_step HWD.out hbE)
        clear hbE
        go_wp2
        go_ret
        exact ⟨rfl, HWE.out⟩
      · have hEs := strOfNums_ne HEB.out.1.2 HEB.out.2.2 hE
        have hLs := strOfNums_ne HB0.out HB1.out hL
        clear hE hL
        go_wp2_with (go_at_call 29; ((with_reducible refine (KN.out _ HBE.out).mono ?_); rintro e wA ⟨rfl, hbA⟩))
        have hWA := below_step HBE.out hbA
        have hma := imake_old p b made A0 c0 l0 wA (HI.out.below hbA) HPB.out HRW.out (Kd.C_below HR0.out hWA) hc0 HB0.out (by have := HL.out; omega) E0 HC0.out
        have HMA := Aside0.mk hma
        have HBA := Aside0.mk hbA
        have HWA := Aside0.mk hWA
        clear hma hbA hWA
        go_wp2_with (go_at_call 85; ((with_reducible refine (HMA.out).mono ?_)))
        rintro e wB ⟨vB, rfl, hnB, hbB⟩
        obtain ⟨gB, dB, rfl, -, hdB, hCB⟩ := NewRow_form hnB
        have hstB := Kd.C_string (P := Tryd.prog) (c := dB) Tryd.underlying22 Tryd.underlying5 Tryd.underlying9 hCB
        have hbrB := below_step HBA.out hbB
        have hWB := below_step HWA.out hbB
        have hmb := imake_old p b made A1 c1 l1 wB (HI.out.below hbrB) HPB.out HRW.out (Kd.C_below HR1.out hWB) hc1 HB1.out (by have := HL.out; omega) E1 HC1.out
        have HMB := Aside0.mk hmb
        have HBB := Aside0.mk hbrB
        have HWB := Aside0.mk hWB
        clear hnB hbB hCB hmb hbrB hWB
        go_wp2_with (go_at_call 85; ((with_reducible refine (HMB.out).mono ?_)))
        rintro e wC ⟨vC, rfl, hnC, hbC⟩
        obtain ⟨gC, dC, rfl, -, hdC, hCC⟩ := NewRow_form hnC
        have hstC := Kd.C_string (P := Tryd.prog) (c := dC) Tryd.underlying22 Tryd.underlying5 Tryd.underlying9 hCC
        have hbrC := below_step HBB.out hbC
        have hWC := below_step HWB.out hbC
        have hsl0 := Kd.C_string (P := Tryd.prog) (c := c0) Tryd.underlying22 Tryd.underlying5 Tryd.underlying9 (Kd.C_below HR0.out hWC)
        have hsl1 := Kd.C_string (P := Tryd.prog) (c := c1) Tryd.underlying22 Tryd.underlying5 Tryd.underlying9 (Kd.C_below HR1.out hWC)
        have hcr := conv_row E0 HEB.out.1.2 (by rw [HEB.out.1.1]; decide) wC
        obtain ⟨Br, dr, er, hCr, hdr⟩ := hcr.2.1
        have hpa := iprove_any p b made A0 c0 l0 (Lib.bytesWorld wC 5 (strOfNums E0)) (HI.out.below (below_step hbrC hcr.2.2)) HPB.out HRW.out (Kd.C_below HR0.out (below_step hWC hcr.2.2)) hc0 HB0.out (by have := HL.out; omega) (some ⟨wC.heap.size, 0, none⟩) (grownCap wC E0.length 0 5) E0 (by injection er with x1 x2 x3; rw [x1]; exact hCr) (by injection er with x1 x2 x3; rw [x3]; exact hdr) HEB.out.1.2
        rw [HC0.out, decide_eq_true rfl] at hpa
        have HPA := Aside0.mk hpa
        have HBC := Aside0.mk (below_step hbrC hcr.2.2)
        have HWC := Aside0.mk (below_step hWC hcr.2.2)
        clear hnC hbC hCC hbrC hWC hcr er hCr hdr hpa
        go_wp2_with (go_at_call 86; ((with_reducible refine (HPA.out).mono ?_)))
        rintro e wD ⟨rfl, hbD⟩
        have hbrD := below_step HBC.out hbD
        have hWD := below_step HWC.out hbD
        have hcr := conv_row E1 HEB.out.2.2 (by rw [HEB.out.2.1]; decide) wD
        obtain ⟨Br, dr, er, hCr, hdr⟩ := hcr.2.1
        have hpb2 := iprove_any p b made A1 c1 l1 (Lib.bytesWorld wD 5 (strOfNums E1)) (HI.out.below (below_step hbrD hcr.2.2)) HPB.out HRW.out (Kd.C_below HR1.out (below_step hWD hcr.2.2)) hc1 HB1.out (by have := HL.out; omega) (some ⟨wD.heap.size, 0, none⟩) (grownCap wD E1.length 0 5) E1 (by injection er with x1 x2 x3; rw [x1]; exact hCr) (by injection er with x1 x2 x3; rw [x3]; exact hdr) HEB.out.2.2
        rw [HC1.out, decide_eq_true rfl] at hpb2
        have HPB2 := Aside0.mk hpb2
        have HWD := Aside0.mk (below_step hWD hcr.2.2)
        clear hbD hbrD hWD hcr er hCr hdr hpb2
        go_wp2_with (go_at_call 86; ((with_reducible refine (HPB2.out).mono ?_)))
        rintro e wE ⟨rfl, hbE⟩
        have HWE := Aside0.mk (below_step HWD.out hbE)
        clear hbE
        go_wp2
        go_ret
        exact ⟨rfl, HWE.out⟩
end Go.Proofs.YtfmdpkilgnccfaaDoor.Pure
