/- MacIdeal: an ideal Maker, whatever it is asked, tells what the chapter says. -/
import Derived.Test.YtlddionmkblioaaDoorMacX
namespace Go.Proofs.YtlddionmkblioaaDoor.Pure
open Go.RowKit Go.Proofs.YtlddionmkblioaaDoorW.PrintWords Go.Proofs.YtlddionmkblioaaDoorW.PrintLast Go.Proofs.YtlddionmkblioaaDoorW.PrintMore Go.Proofs.YtlddionmkblioaaDoor.Pr Go.Proofs.YtlddionmkblioaaDoor.E
set_option linter.unusedVariables false
set_option linter.unusedSimpArgs false
attribute [local go_sem] opVal opUpon
set_option maxHeartbeats 8000000 in
set_option maxRecDepth 100000 in
theorem MacIdeal_at (W : World) (A0 : Option Addr) (c0 : Nat) (L0 : List (List Int)) (hr0 : Kd.C (Kd.slice 5 (Kd.int .u8)) W A0 L0.length L0) (hc0 : L0.length ≤ c0) (hb0 : ∀ r ∈ L0, ∀ x ∈ r, 0 ≤ x ∧ x ≤ 255) (hl0 : ∀ r ∈ L0, r.length ≤ 140737488351232)
    (A1 : Option Addr) (c1 : Nat) (l1 : List Bool) (hr1 : Kd.C Kd.bool W A1 l1.length l1) (hc1 : l1.length ≤ c1) (A2 : Option Addr) (c2 : Nat) (l2 : List Int) (hr2 : Kd.C (Kd.int .u8) W A2 l2.length l2) (hc2 : l2.length ≤ c2) (hb2 : ∀ x ∈ l2, 0 ≤ x ∧ x ≤ 255) (hl2 : l2.length ≤ 140737488351232) (hG : RootsIn W) :
    Calls Tryd.prog 3 #[.slice A0 L0.length c0, .slice A1 l1.length c1, .slice A2 l2.length c2] W fun e w' => e = .returned (.bool true) ∧ Below W.heap.size W w' := by
  have KN := Aside0.mk (fun (X : World) (hX : Below W.heap.size W X) => known3 X (hG.below rfl hX))
  have HR0 := Aside0.mk hr0
  have HR1 := Aside0.mk hr1
  have HR2 := Aside0.mk hr2
  have HB := Aside0.mk (And.intro hb0 (And.intro hl0 hb2))
  have HG := Aside0.mk hG
  have hmx0 := Kd.C_max hr0
  have hmx1 := Kd.C_max hr1
  have hmx2 := Kd.C_max hr2
  clear hr0 hr1 hr2 hb0 hl0 hb2 hl2 hG
  by_cases h20 : 20 < L0.length
  · have g1 : (20 : Int) < (L0.length : Int) := by omega
    have g2 : decide ((20 : Int) < (L0.length : Int)) = true := decide_eq_true g1
    go_enter Tryd.func3, Tryd.ntmps3
    go_wp2_with (go_at_call 5; ((with_reducible refine (KN.out _ (Below.refl _ _)).mono ?_); rintro e w1 ⟨rfl, hb1⟩); have HB1 := Aside0.mk hb1; clear hb1)
    go_ret
    exact ⟨rfl, HB1.out⟩
  have g1 : ¬ (20 : Int) < (L0.length : Int) := by omega
  have g2 : decide ((20 : Int) < (L0.length : Int)) = false := decide_eq_false g1
  by_cases h0 : L0.length = 0
  · have g3 : (L0.length : Int) = 0 := by omega
    obtain rfl : L0 = [] := List.eq_nil_of_length_eq_zero h0
    go_enter Tryd.func3, Tryd.ntmps3
    go_wp2_with (go_at_call 5; ((with_reducible refine (KN.out _ (Below.refl _ _)).mono ?_); rintro e w1 ⟨rfl, hb1⟩); have HB1 := Aside0.mk hb1; clear hb1)
    go_ret
    exact ⟨rfl, HB1.out⟩
  have g3 : ((L0.length : Int) == 0) = false := by rw [beq_eq_false_iff_ne]; omega
  have hbig := fun X (hX : Below W.heap.size W X) => wicketmanlaw03_big.calls 30 A0 c0 L0 _ X (Kd.C_below HR0.out hX) hc0 (big_some L0 (by omega) HB.out.2.1)
  by_cases hT : ((total L0 : Nat) : Int) > 400
  · rw [decide_eq_true hT] at hbig
    have HBIG := Aside0.mk hbig
    clear hbig hT
    go_enter Tryd.func3, Tryd.ntmps3
    go_wp2_with (first | (go_at_call 4; ((with_reducible refine (HBIG.out _ (Below.refl _ _)).mono ?_); rintro e w2 ⟨rfl, hd⟩); have HB2 := Aside0.mk (Drawn0.below hd); clear hd) | (go_at_call 5; ((with_reducible refine (KN.out _ HB2.out).mono ?_); rintro e w1 ⟨rfl, hb1⟩); have HB1 := Aside0.mk hb1; clear hb1))
    go_ret
    exact ⟨rfl, below_step HB2.out HB1.out⟩
  rw [decide_eq_false hT] at hbig
  have HBIG := Aside0.mk hbig
  have HT := Aside0.mk (show total L0 ≤ 400 by omega)
  have q1 := iNilM
  have q2 := iNilP
  have q3 := iMetM
  have q4 := iMetP
  clear hbig hT
  go_enter Tryd.func3, Tryd.ntmps3
  go_wp2_with (first | (go_at_call 4; ((with_reducible refine (HBIG.out _ (Below.refl _ _)).mono ?_); rintro e w2 ⟨rfl, hd⟩); have HB2 := Aside0.mk (Drawn0.below hd); clear hd) | (go_at_call 5; ((with_reducible refine (KN.out _ HB2.out).mono ?_); rintro e w1 ⟨rfl, hb1⟩); have HB1 := Aside0.mk (below_step HB2.out hb1); clear hb1) | (go_at_call 6; ((with_reducible refine (ideal_any _).mono ?_); rintro e w3 ⟨p, b, rfl, hpb, hp, hbb, hI, hb3⟩); have HPB := Aside0.mk hpb; have HLO := Aside0.mk (And.intro hp hbb); have HI := Aside0.mk hI; have HB3 := Aside0.mk (below_step HB1.out hb3); clear hpb hp hbb hI hb3))
  have HS0 := Aside0.mk (heap_alloc_new w3 (.cells #[.slice none 0 0, .bool true, .slice none 0 0, .slice none 0 0] 32))
  have HBS := Aside0.mk (below_alloc (Below.refl _ w3) (.cells #[.slice none 0 0, .bool true, .slice none 0 0, .slice none 0 0] 32))
  go_wp2
  go_loopw [9] (fun v9 wr => ∃ (k : Nat) (m : List (List Int)) (B2 B3 : Option Addr) (d2 d3 : Nat), k ≤ l1.length ∧ v9 = .int .i64 (k : Int) ∧ Aside0 (IdInv p b w3.heap.size w3.heap.size L0 W m B2 B3 d2 d3 wr)) (fun v9 _ => l1.length - (intOf v9).toNat)
  case atStart => exact ⟨0, [], none, none, 0, 0, Nat.zero_le _, rfl, ⟨HI.out.below HBS.out, (RefS_nil w3).below HBS.out, (by intro m hm; cases hm), List.nodup_nil, (by intro m hm; cases hm), HS0.out, below_step HB3.out HBS.out⟩⟩
  case round =>
    obtain ⟨k, m, B2, B3, d2, d3, hk, rfl, HV⟩ := hrel
    by_cases ha : k < l1.length
    · have z1 : (k : Int) < (l1.length : Int) := by omega
      have z1d : decide ((k : Int) < (l1.length : Int)) = true := decide_eq_true z1
      by_cases hb : k < l2.length
      · have z2 : (k : Int) < (l2.length : Int) := by omega
        have z2d : decide ((k : Int) < (l2.length : Int)) = true := decide_eq_true z2
        have HK := Aside0.mk (And.intro ha hb)
        have hl20 : 0 < L0.length := by omega
        obtain ⟨adA, haA, hxA⟩ := Kd.at_int (Kd.C_below HR2.out HV.out.below) (k : Int) (by omega) (by omega)
        have hpk : 0 ≤ rd l2 k ∧ rd l2 k ≤ 255 := HB.out.2.2 _ (rd_mem hb)
        obtain ⟨t, ht⟩ : ∃ t : Nat, (t : Int) = Int.tmod (rd l2 k) (L0.length : Int) := ⟨(Int.tmod (rd l2 k) (L0.length : Int)).toNat, by
          have := Int.tmod_nonneg (L0.length : Int) hpk.1
          omega⟩
        have htl : t < L0.length := by
          have := Int.tmod_lt_of_pos (rd l2 k) (show (0 : Int) < (L0.length : Int) by omega)
          omega
        obtain ⟨adL, B4, d4, haL, hxL0, hd4, hrL⟩ := at_LL HR0.out (t : Int) (by omega) (by omega)
        have hxL := pw_cell_below HV.out.below hxL0
        obtain ⟨adB, cB, haB, -, hKB, hcB0⟩ := Kd.C_get (Kd.C_below HR1.out HV.out.below) false (k : Int) (by omega) (by omega)
        have hKB' : cB = [Value.bool (l1.getD (k : Int).toNat false)] := hKB
        have hcB : ∀ j u, cB[j]? = some u → wr.cell? (adB.add ((k : Int).toNat * 1 + j)) = some u := hcB0
        have hxB := hcB 0 _ (by rw [hKB']; rfl)
        rw [Nat.mul_one, Nat.add_zero, Int.toNat_natCast] at hxB
        obtain ⟨ak, hak⟩ : ∃ ak, ak = l1.getD k false := ⟨_, rfl⟩
        rw [← hak] at hxB
        subst haA haB haL
        have htm : Int.tmod (rd l2 (k : Int)) (L0.length : Int) = (t : Int) := ht.symm
        have hxA' : wr.cell? (adA.add k) = some (.int .u8 (rd l2 (k : Int))) := by simpa using hxA
        have hxL' : wr.cell? (adL.add t) = some (.slice B4 (rdR L0 t).length d4) := by simpa using hxL
        have hrL' : Kd.C (Kd.int .u8) W B4 (rdR L0 t).length (rdR L0 t) := by simpa using hrL
        have hd4' : (rdR L0 t).length ≤ d4 := by simpa using hd4
        have hmem : rdR L0 t ∈ L0 := rdR_mem htl
        have HX := Aside0.mk (And.intro hmem (And.intro hrL' hd4'))
        obtain ⟨x, hx⟩ : ∃ x, x = rdR L0 (t : Int) := ⟨_, rfl⟩
        rw [← hx] at hxL' HX
        have tl1 : (t : Int) < (L0.length : Int) := by omega
        clear hxA hxL hxL0 hrL hrL' hd4 hd4' hmem hKB hKB' hcB hcB0 hak hx ht hl20
        have t0 : wr.cell? ⟨w3.heap.size, 0, none⟩ = some (.slice none 0 0) := blk_cell HV.out.cell 0
        have t1 : wr.cell? ⟨w3.heap.size, 1, none⟩ = some (.bool true) := blk_cell HV.out.cell 1
        have t2 : wr.cell? ⟨w3.heap.size, 2, none⟩ = some (.slice B2 m.length d2) := blk_cell HV.out.cell 2
        have t3 : wr.cell? ⟨w3.heap.size, 3, none⟩ = some (.slice B3 m.length d3) := blk_cell HV.out.cell 3
        have hm20 : m.length ≤ 20 := by have := nodup_len m L0 HV.out.nodup HV.out.sub; omega
        have hx400 : x.length ≤ 400 := by have := total_mem HX.out.1; have := HT.out; omega
        have HXB := Aside0.mk (HB.out.1 x HX.out.1)
        have HM20 := Aside0.mk hm20
        have HX4 := Aside0.mk hx400
        have HLOW := Aside0.mk (show W.heap.size ≤ b by have := HLO.out.2; have := HB1.out.size; omega)
        have HLT3 := Aside0.mk (And.intro HI.out.lt (show W.heap.size ≤ w3.heap.size from HB3.out.size))
        cases ak
        case' true =>
          have hmk := rmake_any w3.heap.size m B2 B3 d2 d3 wr HV.out.ref HV.out.rows HV.out.nodup (by omega) B4 d4 x (Kd.C_below HX.out.2.1 HV.out.below) HX.out.2.2 HXB.out (by omega)
          unfold recV at hmk
          have HMK := Aside0.mk hmk
          clear hmk hm20 hx400
          go_wp2_with (go_at_call 7; ((with_reducible refine (HMK.out).mono ?_)); rintro e w4 ⟨A5, A6, c5, c6, Ac, cc, rfl, hRef, hCc, hcc, hb4⟩; unfold recV; have HRF := Aside0.mk hRef; have HCC := Aside0.mk (And.intro hCc hcc); have HB4 := Aside0.mk hb4; have hT4 := (hb4.block w3.heap.size (Array.getElem?_eq_some_iff.1 HV.out.cell).1).trans HV.out.cell; have hT5 := (((Below.refl w4.heap.size w4).alloc (Nat.le_refl _) (.cells #[.slice none 0 0, .bool true, .slice A5 (addM m x).length c5, .slice A6 (addM m x).length c6] 32)).block w3.heap.size (Array.getElem?_eq_some_iff.1 hT4).1).trans hT4; have HT5 := Aside0.mk hT5; have s0 := blk_cell hT5 0; have s1 := blk_cell hT5 1; have s2 := blk_cell hT5 2; have s3 := blk_cell hT5 3; have z0 := blk_frozen hT5 0; have z1 := blk_frozen hT5 1; have z2 := blk_frozen hT5 2; have z3 := blk_frozen hT5 3; simp only [List.getElem?_toArray, List.getElem?_cons_zero, List.getElem?_cons_succ] at s0 s1 s2 s3; clear hRef hCc hcc hb4 hT4 hT5)
          have hBA := (Below.refl w4.heap.size w4).alloc (Nat.le_refl _) (.cells #[.slice none 0 0, .bool true, .slice A5 (addM m x).length c5, .slice A6 (addM m x).length c6] 32)
          have hwr4 := below_step HV.out.below (below_step HB4.out hBA)
          have q := set4 HT5.out (.slice none 0 0) (.bool true) (.slice A5 (addM m x).length c5) (.slice A6 (addM m x).length c6)
          have hC5 := C_set4 HT5.out (Kd.C_below HCC.out.1 hBA) (.slice none 0 0) (.bool true) (.slice A5 (addM m x).length c5) (.slice A6 (addM m x).length c6)
          have hS5 := R_set4 (HRF.out.below hBA).hs HT5.out (by decide) (.slice none 0 0) (.bool true) (.slice A5 (addM m x).length c5) (.slice A6 (addM m x).length c6)
          have hK5 := R_set4 (HRF.out.below hBA).hc HT5.out (by decide) (.slice none 0 0) (.bool true) (.slice A5 (addM m x).length c5) (.slice A6 (addM m x).length c6)
          have hp5 := heap_set4 (w := w4.alloc (.cells #[.slice none 0 0, .bool true, .slice A5 (addM m x).length c5, .slice A6 (addM m x).length c6] 32)) (show p ≠ w3.heap.size by have := HLT3.out; omega) (.slice none 0 0) (.bool true) (.slice A5 (addM m x).length c5) (.slice A6 (addM m x).length c6)
          have hb5 := heap_set4 (w := w4.alloc (.cells #[.slice none 0 0, .bool true, .slice A5 (addM m x).length c5, .slice A6 (addM m x).length c6] 32)) (show b ≠ w3.heap.size by have := HLT3.out; omega) (.slice none 0 0) (.bool true) (.slice A5 (addM m x).length c5) (.slice A6 (addM m x).length c6)
          have hI5 := (HV.out.ideal.below (below_step HB4.out hBA)).kept hp5 hb5
          have hW5 := below_set' (below_set' (below_set' (below_set' hwr4 HLT3.out.2 (j := 0) (v := .slice none 0 0)) HLT3.out.2 (j := 1) (v := .bool true)) HLT3.out.2 (j := 2) (v := .slice A5 (addM m x).length c5)) HLT3.out.2 (j := 3) (v := .slice A6 (addM m x).length c6)
          have HMKS := Aside0.mk (fun (X0 X : World) (hW : Below W.heap.size W X0) (hC : MkC p b m x X0 X) => mk_step p b m x B4 d4 W X0 X hC HPB.out HV.out.rows hW HLOW.out HX.out.2.1 HX.out.2.2 HXB.out (by have := HX4.out; omega) HV.out.nodup (by have := HM20.out; omega) HG.out)
          obtain ⟨X0, hX0⟩ : ∃ X0, X0 = (((((w4.alloc (.cells #[.slice none 0 0, .bool true, .slice A5 (addM m x).length c5, .slice A6 (addM m x).length c6] 32)).setCell ⟨w3.heap.size, 0, none⟩ (.slice none 0 0)).setCell ⟨w3.heap.size, 1, none⟩ (.bool true)).setCell ⟨w3.heap.size, 2, none⟩ (.slice A5 (addM m x).length c5)).setCell ⟨w3.heap.size, 3, none⟩ (.slice A6 (addM m x).length c6)) := ⟨_, rfl⟩
          rw [← hX0] at q hC5 hS5 hK5 hI5 hW5 ⊢
          have HQ := Aside0.mk q
          have HC5 := Aside0.mk hC5
          have HSK := Aside0.mk (And.intro hS5 (And.intro hK5 (show w3.heap.size ≤ X0.heap.size from Nat.le_of_lt (Array.getElem?_eq_some_iff.1 q).1)))
          have HI5 := Aside0.mk hI5
          have HW5 := Aside0.mk hW5
          have HCL := Aside0.mk (And.intro (codeM_len m x) HCC.out.2)
          obtain ⟨E, hE⟩ : ∃ E, E = codeM m x := ⟨_, rfl⟩
          have HE := Aside0.mk hE
          clear q hC5 hS5 hK5 hI5 hW5 hX0 hBA hwr4 hp5 hb5 s0 s1 s2 s3 z0 z1 z2 z3 HT5 HRF HCC HB4 HMK t0 t1 t2 t3 hE
          refine wp_region_inv_ex (MkC p b m x X0) (MkSt p b m x) (BMk [some (.iface 40 (.pointer (some ⟨p, 0, none⟩))), some (.slice B4 x.length d4), none, some (.string (strOfNums E)), some (.slice Ac 32 cc), some (.string (strOfNums E)), some (.bool false)] p b m x 2)
            (by kernel_rfl) (by kernel_rfl) (by kernel_rfl) MkSt.refl BMk_st ⟨grown_below (Below.refl _ _).drew _, .inl (HI5.out.below (Below.refl _ _).drew)⟩ ?allM
          apply Exists.intro
          refine ⟨?hAM, ?stepsM, ?finM⟩
          case hAM =>
            simp only [lay, Act.put, List.setIfInBounds_toArray, List.set_cons_zero, List.set_cons_succ, Nat.zero_add, Nat.reduceAdd]
            exact rfl
          case stepsM =>
            repeat' (first | exact Steps.nil | refine Steps.cons ?_ ?_)
            all_goals (intro us X F hC hd hF; simp only [Deps, BMk, pureAt] at hd hF)
            all_goals (try simp only [Nat.reduceAdd, Nat.reduceEqDiff, false_implies, true_implies, and_true, true_and] at hd hF)
            all_goals (have hsC := Kd.C_string (P := Tryd.prog) (c := cc) Tryd.underlying24 Tryd.underlying5 Tryd.underlying9 (C_made HI5.out HC5.out hC.1); rw [← HE.out] at hsC)
            all_goals (try (first | (obtain ⟨gv, dv, ev, hdv, hnv, hCv, hIv⟩ := hd; have hsV := Kd.C_string (P := Tryd.prog) (c := dv) Tryd.underlying24 Tryd.underlying5 Tryd.underlying9 hCv; rw [← HE.out] at hsV)))
            all_goals go_simp
            all_goals (first
              | exact hF _ _ hC (MkSt.refl _) rfl
              | exact hF _ _ hC (MkSt.refl _) (by simp)
              | ((with_reducible refine (HMKS.out _ _ HW5.out hC).mono ?_); rintro e w' ⟨v, rfl, hv, hc, hs⟩; exact ⟨_, rfl, hF _ _ hc hs hv⟩))
          case' finM =>
            intro us wr hC hB
            have hL : us 6 = .bool false := (hB 6 (by decide)).1
            obtain ⟨gv, dv, ev, hdv, hnv, hCv, hIv⟩ := (hB 2 (by decide)).2 rfl
            rw [hL]
            have hW6 := HW5.out.grown hC.1 HW5.out.size (fun q e => by injection e with e; have := HLOW.out; omega)
            have hq6 := (hC.1.block w3.heap.size (Array.getElem?_eq_some_iff.1 HQ.out).1 (fun e => by injection e with e; have := HLT3.out; omega)).trans HQ.out
            have hr6 := (RefS.mk HSK.out.1 HSK.out.2.1 HSK.out.2.2).grown hC.1 HLT3.out.1.2
            have hinv : IdInv p b w3.heap.size w3.heap.size L0 W (addM m x) A5 A6 c5 c6 wr := ⟨hIv, hr6, addM_rows HV.out.rows HXB.out (by have := HX4.out; omega), addM_nodup HV.out.nodup, addM_sub HV.out.sub HX.out.1, hq6, hW6⟩
            clear hC hB hL ev hdv hnv hCv hIv hW6 hq6 hr6
            clear HV HM20 HMKS HQ HC5 HSK HI5 HW5 HCL HE
            obtain ⟨m, hm1⟩ : ∃ m1, m1 = addM m x := ⟨_, rfl⟩
            rw [← hm1] at hinv
            clear hm1
            obtain ⟨B2, eB2⟩ : ∃ B2, B2 = A5 := ⟨_, rfl⟩
            obtain ⟨B3, eB3⟩ : ∃ B3, B3 = A6 := ⟨_, rfl⟩
            obtain ⟨d2, ed2⟩ : ∃ d2, d2 = c5 := ⟨_, rfl⟩
            obtain ⟨d3, ed3⟩ : ∃ d3, d3 = c6 := ⟨_, rfl⟩
            rw [← eB2, ← eB3, ← ed2, ← ed3] at hinv
            clear eB2 eB3 ed2 ed3
            have HV := Aside0.mk hinv
            clear hinv
        case' false => clear hm20 hx400 HM20 t0 t1 t2 t3 HLOW
        all_goals
          have t0 : wr.cell? ⟨w3.heap.size, 0, none⟩ = some (.slice none 0 0) := blk_cell HV.out.cell 0
          have t1 : wr.cell? ⟨w3.heap.size, 1, none⟩ = some (.bool true) := blk_cell HV.out.cell 1
          have t2 : wr.cell? ⟨w3.heap.size, 2, none⟩ = some (.slice B2 m.length d2) := blk_cell HV.out.cell 2
          have t3 : wr.cell? ⟨w3.heap.size, 3, none⟩ = some (.slice B3 m.length d3) := blk_cell HV.out.cell 3
          have hm20 : m.length ≤ 20 := by have := nodup_len m L0 HV.out.nodup HV.out.sub; omega
          go_wp2
          obtain ⟨wo, rfl⟩ : ∃ wo : World, wo = wr := ⟨_, rfl⟩
          go_loopw [13] (fun v13 wq => ∃ (k2 : Nat), k2 ≤ m.length ∧ v13 = .int .i64 (k2 : Int) ∧ Aside0 (Below wo.heap.size wo wq)) (fun v13 _ => m.length - (intOf v13).toNat)
          case' atStart => exact ⟨0, Nat.zero_le _, rfl, ⟨Below.refl _ _⟩⟩
          case' round =>
            obtain ⟨k2, hk2, rfl, HQB⟩ := hrel
            have HVQ := Aside0.mk (HV.out.to HQB.out)
            clear t0 t1 t2 t3
            have t0 : wr.cell? ⟨w3.heap.size, 0, none⟩ = some (.slice none 0 0) := blk_cell HVQ.out.cell 0
            have t1 : wr.cell? ⟨w3.heap.size, 1, none⟩ = some (.bool true) := blk_cell HVQ.out.cell 1
            have t2 : wr.cell? ⟨w3.heap.size, 2, none⟩ = some (.slice B2 m.length d2) := blk_cell HVQ.out.cell 2
            have t3 : wr.cell? ⟨w3.heap.size, 3, none⟩ = some (.slice B3 m.length d3) := blk_cell HVQ.out.cell 3
            by_cases hlt : k2 < m.length
            · have zk : (k2 : Int) < (m.length : Int) := by omega
              have zkd : decide ((k2 : Int) < (m.length : Int)) = true := decide_eq_true zk
              have hK2 := Aside0.mk hlt
              have hrd := HVQ.out.ref.reads
              have h32 := codesM_rows m _ (List.mem_reverse.1 (rdR_mem (l := (codesM m).reverse) (k := k2) (by rw [List.length_reverse, codesM_len]; exact hlt)))
              obtain ⟨ad3, A4, c4, e3, hyc, hc4, hr4⟩ := at_LL hrd.2.2.1 (k2 : Int) (by omega) (by omega)
              rw [Int.toNat_natCast] at hyc
              obtain ⟨y, hy⟩ : ∃ y, y = rdR (codesM m).reverse (k2 : Int) := ⟨_, rfl⟩
              rw [← hy] at h32 hyc hc4 hr4
              obtain ⟨V, hV⟩ : ∃ V, V = decide (icode m x = some y) := ⟨_, rfl⟩
              have HPR := Aside0.mk (fun (X : World) (hX : Below wr.heap.size wr X) => both_prove HVQ.out HPB.out B4 d4 x HX.out.2.1 HX.out.2.2 HXB.out (by have := HX4.out; omega) A4 c4 32 y h32.1.symm hr4 hc4 h32.2 X hX)
              rw [← hV] at HPR
              rw [h32.1] at hyc
              rw [e3] at t3 HPR
              clear hrd h32 e3 hc4 hr4 hy hV
              go_wp2
              refine wp_region_inv_ex (fun X => Below wr.heap.size wr X) (fun X Y => Below X.heap.size X Y) (BOf
                  [some (.iface 40 (.pointer (some ⟨p, 0, none⟩))), some (.slice B4 x.length d4), some (.pointer (some ⟨w3.heap.size, 3, none⟩)), some (.slice (some ad3) m.length d3), some (.int .i64 (k2 : Int)), some (.pointer (some (ad3.add k2))), some (.slice A4 32 c4), some (.func (.method "Prove") #[.iface 40 (.pointer (some ⟨p, 0, none⟩))] #[]), none, some (.iface 40 (.pointer (some ⟨p, 0, none⟩))), some (.bool V), some (.agg #[.slice none 0 0, .bool true, .slice B2 m.length d2, .slice (some ad3) m.length d3]), some (.slice B4 x.length d4), some (.pointer (some ⟨w3.heap.size, 3, none⟩)), some (.slice (some ad3) m.length d3), some (.int .i64 (k2 : Int)), some (.pointer (some (ad3.add k2))), some (.slice A4 32 c4), some (.bool V), some (.bool false)] [])
                (by kernel_rfl) (by kernel_rfl) (by kernel_rfl) (fun X => Below.refl _ X) (fun i v w w' h _ => ⟨h.1, trivial⟩) (Below.refl _ _).drew ?_
              apply Exists.intro
              refine ⟨?_, ?_, ?_⟩
              · skip
                simp only [lay, Act.put, List.setIfInBounds_toArray, List.set_cons_zero, List.set_cons_succ, Nat.zero_add, Nat.reduceAdd]
                exact rfl
              · skip
                repeat' (first | exact Steps.nil | refine Steps.cons ?_ ?_)
                all_goals (intro us X F hC hd hF; simp only [Deps, BOf, pureAt, spAt] at hd hF)
                all_goals (try simp only [Nat.reduceAdd, Nat.reduceEqDiff, false_implies, true_implies, and_true, true_and] at hd hF)
                all_goals (have g0 := pw_cell_below hC t0; have g1 := pw_cell_below hC t1; have g2 := pw_cell_below hC t2; have g3 := pw_cell_below hC t3; have g4 := pw_cell_below hC hyc)
                all_goals go_simp
                all_goals (first
                  | exact hF _ _ hC (Below.refl _ _) rfl
                  | exact hF _ _ hC (Below.refl _ _)
                  | exact hF _ _ hC (Below.refl _ _) (by simp)
                  | ((with_reducible refine ((HPR.out _ hC).1).mono ?_); rintro e w' ⟨rfl, hb⟩; exact ⟨_, rfl, hF _ _ (below_step hC hb) hb rfl⟩)
                  | ((with_reducible refine ((HPR.out _ hC).2).mono ?_); rintro e w' ⟨rfl, hb⟩; exact ⟨_, rfl, hF _ _ (below_step hC hb) hb rfl⟩))
              · skip
                intro us wz hC hB
                have hL : us 19 = .bool false := (hB 19 (by decide)).1
                rw [hL]
                have HZ := Aside0.mk (below_step HQB.out hC)
                go_wp2
                go_roundw
                case' rel => exact ⟨k2 + 1, by have := hK2.out; omega, by go_num, HZ⟩
                case' measure => have := hK2.out; simp [intOf]; omega
            · have zk : ¬ (k2 : Int) < (m.length : Int) := by omega
              have zkd : decide ((k2 : Int) < (m.length : Int)) = false := decide_eq_false zk
              obtain ⟨V, hV⟩ : ∃ V, V = decide (icode m x = some x) := ⟨_, rfl⟩
              have HPR := Aside0.mk (fun (X : World) (hX : Below wr.heap.size wr X) => both_prove HVQ.out HPB.out B4 d4 x HX.out.2.1 HX.out.2.2 HXB.out (by have := HX4.out; omega) B4 d4 x.length x rfl (Kd.C_below HX.out.2.1 HVQ.out.below) HX.out.2.2 HXB.out X hX)
              rw [← hV] at HPR
              clear hV
              go_wp2
              refine wp_region_inv_ex (fun X => Below wr.heap.size wr X) (fun X Y => Below X.heap.size X Y) (BOf
                  [some (.iface 40 (.pointer (some ⟨p, 0, none⟩))), some (.slice B4 x.length d4), some (.slice B4 x.length d4), some (.bool V), some (.agg #[.slice none 0 0, .bool true, .slice B2 m.length d2, .slice B3 m.length d3]), some (.slice B4 x.length d4), some (.slice B4 x.length d4), some (.bool V), some (.bool false)] [])
                (by kernel_rfl) (by kernel_rfl) (by kernel_rfl) (fun X => Below.refl _ X) (fun i v w w' h _ => ⟨h.1, trivial⟩) (Below.refl _ _).drew ?_
              apply Exists.intro
              refine ⟨?_, ?_, ?_⟩
              · skip
                simp only [lay, Act.put, List.setIfInBounds_toArray, List.set_cons_zero, List.set_cons_succ, Nat.zero_add, Nat.reduceAdd]
                exact rfl
              · skip
                repeat' (first | exact Steps.nil | refine Steps.cons ?_ ?_)
                all_goals (intro us X F hC hd hF; simp only [Deps, BOf, pureAt, spAt] at hd hF)
                all_goals (try simp only [Nat.reduceAdd, Nat.reduceEqDiff, false_implies, true_implies, and_true, true_and] at hd hF)
                all_goals (have g0 := pw_cell_below hC t0; have g1 := pw_cell_below hC t1; have g2 := pw_cell_below hC t2; have g3 := pw_cell_below hC t3; skip)
                all_goals go_simp
                all_goals (first
                  | exact hF _ _ hC (Below.refl _ _) rfl
                  | exact hF _ _ hC (Below.refl _ _)
                  | exact hF _ _ hC (Below.refl _ _) (by simp)
                  | ((with_reducible refine ((HPR.out _ hC).1).mono ?_); rintro e w' ⟨rfl, hb⟩; exact ⟨_, rfl, hF _ _ (below_step hC hb) hb rfl⟩)
                  | ((with_reducible refine ((HPR.out _ hC).2).mono ?_); rintro e w' ⟨rfl, hb⟩; exact ⟨_, rfl, hF _ _ (below_step hC hb) hb rfl⟩))
              · skip
                intro us wz hC hB
                have hL : us 8 = .bool false := (hB 8 (by decide)).1
                rw [hL]
                have HZ := Aside0.mk (HVQ.out.to hC)
                go_wp2
                go_roundw
                case' rel => exact ⟨k + 1, m, B2, B3, d2, d3, by have := HK.out; omega, by go_num, HZ⟩
                case' measure => have := HK.out; simp [intOf]; omega
      · have z2 : ¬ (k : Int) < (l2.length : Int) := by omega
        have z2d : decide ((k : Int) < (l2.length : Int)) = false := decide_eq_false z2
        have HBE := Aside0.mk HV.out.below
        go_wp2
        go_ret
        exact ⟨rfl, HBE.out⟩
    · have z1 : ¬ (k : Int) < (l1.length : Int) := by omega
      have z1d : decide ((k : Int) < (l1.length : Int)) = false := decide_eq_false z1
      have HBE := Aside0.mk HV.out.below
      go_wp2
      go_ret
      exact ⟨rfl, HBE.out⟩
end Go.Proofs.YtlddionmkblioaaDoor.Pure

