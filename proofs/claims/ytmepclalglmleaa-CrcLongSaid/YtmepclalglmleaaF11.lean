-- Written for this claim by wip/myprint.py, this session's driver over the kit's print.py. Not trusted: Lean checks it.
import Derived.Test.YtmepclalglmleaaF
import Derived.Test.YtmepclalglmleaaC3
import Derived.Test.YtmepclalglmleaaC5
namespace Go.Proofs.Ytmepclalglmleaa.Pr
open Go.RowKit Go.Proofs.YtmepclalglmleaaW.PrintWords Go.Proofs.YtmepclalglmleaaW.PrintLast Go.Proofs.YtmepclalglmleaaW.PrintMore Go.Proofs.Ytmepclalglmleaa.E
attribute [local go_sem] max2_int min2_int max_two min_two max_three min_three max_four min_four   -- for this text's walks alone
set_option linter.unusedVariables false
set_option linter.unusedSimpArgs false

/-! ### wicketmanlaw13_CrcLong: function 11 -/
def wicketmanlaw13_CrcLong.f (a0 : Int) (a1 : Int) : Option (Bool) := if 0 ≤ (wrap64 (Int.tmod a0 70000)) then (if (wrap64 (Int.tmod a0 70000) : Int).toNat ≤ 281474976710656 then ((crc_Frame.f a1 (List.replicate (wrap64 (Int.tmod a0 70000) : Int).toNat 0)).bind fun bt104 => ((wicketmanlaw13_known.f).bind fun t108 => (if t108 = true then (if ((bt104.2 == 0) == (decide ((wrap64 (Int.tmod a0 70000)) ≤ 65536))) = true then (if bt104.2 = 0 then (if (bt104.1.length : Int) = (wrap64 ((wrap64 (Int.tmod a0 70000)) + 16)) then (some true) else (if bt104.2 = 3 then (some ((bt104.1.length : Int) == 0)) else (none))) else (if bt104.2 = 3 then (some ((bt104.1.length : Int) == 0)) else (none))) else (none)) else (none)))) else (none)) else (none)
set_option maxHeartbeats 8000000 in
set_option maxRecDepth 1000000 in
theorem wicketmanlaw13_CrcLong.calls (a0 : Int) (a1 : Int) (r : Bool) (w : World) (h : wicketmanlaw13_CrcLong.f a0 a1 = some r) :
    Calls Try.prog 11 #[.int .u32 a0, .int .u64 a1] w fun e w' => e = .returned (.bool r) ∧ Below w.heap.size w w' := by
  have HB := Aside0.mk (Below.refl w.heap.size w)
  have H : (if 0 ≤ (wrap64 (Int.tmod a0 70000)) then (if (wrap64 (Int.tmod a0 70000) : Int).toNat ≤ 281474976710656 then ((crc_Frame.f a1 (List.replicate (wrap64 (Int.tmod a0 70000) : Int).toNat 0)).bind fun bt104 => ((wicketmanlaw13_known.f).bind fun t108 => (if t108 = true then (if ((bt104.2 == 0) == (decide ((wrap64 (Int.tmod a0 70000)) ≤ 65536))) = true then (if bt104.2 = 0 then (if (bt104.1.length : Int) = (wrap64 ((wrap64 (Int.tmod a0 70000)) + 16)) then (some true) else (if bt104.2 = 3 then (some ((bt104.1.length : Int) == 0)) else (none))) else (if bt104.2 = 3 then (some ((bt104.1.length : Int) == 0)) else (none))) else (none)) else (none)))) else (none)) else (none)) = some r := h
  clear h
  obtain ⟨ji3, hji3⟩ : ∃ j_ : Int, (wrap64 (Int.tmod a0 70000)) = j_ := ⟨_, rfl⟩
  replace H : (if 0 ≤ (ji3) then (if (ji3 : Int).toNat ≤ 281474976710656 then ((crc_Frame.f a1 (List.replicate (ji3 : Int).toNat 0)).bind fun bt104 => ((wicketmanlaw13_known.f).bind fun t108 => (if t108 = true then (if ((bt104.2 == 0) == (decide ((ji3) ≤ 65536))) = true then (if bt104.2 = 0 then (if (bt104.1.length : Int) = (wrap64 ((ji3) + 16)) then (some true) else (if bt104.2 = 3 then (some ((bt104.1.length : Int) == 0)) else (none))) else (if bt104.2 = 3 then (some ((bt104.1.length : Int) == 0)) else (none))) else (none)) else (none)))) else (none)) else (none)) = some r := by first | (rw [hji3] at H; exact H) | (simp only [hji3] at H ⊢; exact H)
  have hji3w : (IntKind.i64.wrap (Int.tmod a0 70000)) = ji3 := (i64_w _).trans hji3
  by_cases c4 : 0 ≤ (ji3)
  · rw [if_pos c4] at H
    have c4b0 := eq_true c4
    have c4b1 : decide (0 ≤ (ji3)) = true := decide_eq_true c4
    clear c4
    by_cases c5 : (ji3 : Int).toNat ≤ 281474976710656
    · rw [if_pos c5] at H
      have c5b0 := eq_true c5
      have c5b1 : decide ((ji3 : Int).toNat ≤ 281474976710656) = true := decide_eq_true c5
      clear c5
      obtain ⟨y101, hy101⟩ : ∃ y_ : List Int, y_ = (List.replicate (ji3 : Int).toNat 0) := ⟨_, rfl⟩
      replace H : ((crc_Frame.f a1 y101).bind fun bt104 => ((wicketmanlaw13_known.f).bind fun t108 => (if t108 = true then (if ((bt104.2 == 0) == (decide ((ji3) ≤ 65536))) = true then (if bt104.2 = 0 then (if (bt104.1.length : Int) = (wrap64 ((ji3) + 16)) then (some true) else (if bt104.2 = 3 then (some ((bt104.1.length : Int) == 0)) else (none))) else (if bt104.2 = 3 then (some ((bt104.1.length : Int) == 0)) else (none))) else (none)) else (none)))) = some r := by first | (rw [hy101]; with_reducible exact H) | (have H2_ := (Option.bind_some _ _).symm.trans H; rw [hy101]; with_reducible exact H2_) | (have H2_ := (Option.bind_some _ _).symm.trans H; with_reducible exact H2_) | with_reducible exact H | (rw [hy101]; exact H) | exact H
      have Ny101 := Aside0.mk hy101
      clear hy101
      replace H := Option.bind_eq_some_iff.mp H
      obtain ⟨⟨t104, t105⟩, A60, H⟩ := H
      replace H : ((wicketmanlaw13_known.f).bind fun t108 => (if t108 = true then (if ((t105 == 0) == (decide ((ji3) ≤ 65536))) = true then (if t105 = 0 then (if (t104.length : Int) = (wrap64 ((ji3) + 16)) then (some true) else (if t105 = 3 then (some ((t104.length : Int) == 0)) else (none))) else (if t105 = 3 then (some ((t104.length : Int) == 0)) else (none))) else (none)) else (none))) = some r := H
      have A6 := Aside0.mk A60
      clear A60
      replace H := Option.bind_eq_some_iff.mp H
      obtain ⟨t108, A70, H⟩ := H
      replace H : (if t108 = true then (if ((t105 == 0) == (decide ((ji3) ≤ 65536))) = true then (if t105 = 0 then (if (t104.length : Int) = (wrap64 ((ji3) + 16)) then (some true) else (if t105 = 3 then (some ((t104.length : Int) == 0)) else (none))) else (if t105 = 3 then (some ((t104.length : Int) == 0)) else (none))) else (none)) else (none)) = some r := H
      have A7 := Aside0.mk A70
      clear A70
      by_cases c8 : t108 = true
      · subst c8
        have H1 : (if ((t105 == 0) == (decide ((ji3) ≤ 65536))) = true then (if t105 = 0 then (if (t104.length : Int) = (wrap64 ((ji3) + 16)) then (some true) else (if t105 = 3 then (some ((t104.length : Int) == 0)) else (none))) else (if t105 = 3 then (some ((t104.length : Int) == 0)) else (none))) else (none)) = some r := by rw [if_pos rfl] at H; exact H
        clear H
        have H := H1
        clear H1
        by_cases c9 : ((t105 == 0) == (decide ((ji3) ≤ 65536))) = true
        · rw [if_pos c9] at H
          have c9b0 : ((t105 == 0) == (decide ((ji3) ≤ 65536))) = true := c9
          (try (have c9b1 : decide ((t105 == 0) = (decide ((ji3) ≤ 65536))) = true := by simpa using c9))
          (try (have c9b2 : ((t105 == 0) == (decide ((ji3) ≤ 65536))) = true := by simpa using c9))
          clear c9
          by_cases c10 : t105 = 0
          · rw [if_pos c10] at H
            have c10b0 : (t105 == 0) = true := beq_iff_eq.mpr c10
            have c10b1 : (t105 != 0) = false := bne_eq_false_iff_eq.mpr c10
            clear c10
            by_cases c11 : (t104.length : Int) = (wrap64 ((ji3) + 16))
            · rw [if_pos c11] at H
              have c11b0 : ((t104.length : Int) == (wrap64 ((ji3) + 16))) = true := beq_iff_eq.mpr c11
              have c11b1 : ((t104.length : Int) != (wrap64 ((ji3) + 16))) = false := bne_eq_false_iff_eq.mpr c11
              clear c11
              obtain rfl := Option.some.inj H
              (first | (have hk_ : ji3 ≤ 65536 := (by simpa [c10b0] using c9b0); have hk1_ := decide_eq_true hk_; have hk2_ := eq_true hk_; have hk3_ : (65536 < ji3) = False := eq_false (Int.not_lt.2 hk_); have hk4_ : decide (65536 < ji3) = false := decide_eq_false (Int.not_lt.2 hk_); clear hk_) | (have hk_ : 65536 < ji3 := (by simpa [c10b0] using c9b0); have hk1_ := decide_eq_true hk_; have hk2_ := eq_true hk_; have hk3_ : (ji3 ≤ 65536) = False := eq_false (Int.not_le.2 hk_); have hk4_ : decide (ji3 ≤ 65536) = false := decide_eq_false (Int.not_le.2 hk_); clear hk_))
              go_enter Try.func11, Try.ntmps11
              go_wp2_with (first | ((with_reducible refine gate_dst (N := 14) rfl ?_); (try (refine gate_guard (by rfl) ?_; dsimp only)); refine Kd.R_make (Kd.int .u8) _ 5 rfl (N := 14) rfl 22 _ _ rfl ji3 rfl rfl Try.underlying22 (.int .u8 0) 1 info5 rfl (by decide) (by omega) 0 (ok := fun _ => True) (okp := fun _ => True) rfl (fun _ hk => hk) trivial (of_decide_eq_true (by first | (with_reducible assumption) | assumption)) (Nat.le_trans (Nat.mul_le_mul_right _ (of_decide_eq_true (by first | (with_reducible assumption) | assumption) : ji3.toNat ≤ 281474976710656)) (by omega)) (Below.refl _ _) (Nat.le_refl _) ?_; intro v102 w12 ho13 hb hg_ hnew_; clear hg_ hnew_; (first | rw [← Ny101.out] at ho13 | (simp only [Int.reduceToNat] at ho13; rw [← Ny101.out] at ho13)); have n0_ := Aside0.mk (Kd.R_lower ho13 (below_size (by repeat (first | (with_reducible first | exact HB.out | apply below_alloc | apply pw_below_drewN | apply below_drew1) | exact HB.out)))); have n1_ := Aside0.mk (below_step (by repeat (first | (with_reducible first | exact HB.out | apply below_alloc | apply pw_below_drewN | apply below_drew1) | exact HB.out)) hb); clear HB; have HO103 := n0_; have HB := n1_; clear n0_ n1_; clear hb ho13; obtain ⟨Ao14, co14, eo14⟩ := Kd.R_slice HO103.out; subst eo14) | ((with_reducible refine gate_callee (f := 25) rfl ?_); refine goesL_ (some 15) rfl rfl Try.func25 (by kernel_rfl) rfl #[.int .u64 a1, .slice Ao14 y101.length co14] rfl (by (try simp only [List.map_toArray, List.map_cons, List.map_nil]); first | done | rfl | (simp only [List.length_drop, List.length_take]; rfl)) ?_; (with_reducible refine (crc_Frame.calls a1 _ _ y101 t104 t105 _ ?side1 ?side2 A6.out).mono ?_); (case side1 => repeat (first | exact (Kd.R_reads' HO103.out).2.2 | (with_reducible refine Kd.C_alloc ?_ _) | (with_reducible refine Kd.C_drewN ?_ _) | (with_reducible refine Kd.C_drew ?_))); (case side2 => exact (Kd.R_reads' HO103.out).2.1); rintro e w15 ⟨v106, rfl, ho0, hb⟩; refine ⟨_, rfl, ?_⟩; have n0_ := Aside0.mk (Kd.R_elder' (by (with_reducible repeat (first | apply Kd.R_alloc | apply Kd.R_drewN | apply Kd.R_drew)); exact HO103.out) (Kd.R_base ho0) hb); have n1_ := Aside0.mk (Kd.R_lower (Kd.R_new' ho0 (Kd.R_lt (by (with_reducible repeat (first | apply Kd.R_alloc | apply Kd.R_drewN | apply Kd.R_drew)); exact HO103.out))) (below_size (by repeat (first | (with_reducible first | exact HB.out | apply below_alloc | apply pw_below_drewN | apply below_drew1) | exact HB.out)))); have n2_ := Aside0.mk (below_step (by repeat (first | (with_reducible first | exact HB.out | apply below_alloc | apply pw_below_drewN | apply below_drew1) | exact HB.out)) hb); clear HO103; clear HB; have HO103 := n0_; have HO107 := n1_; have HB := n2_; clear n0_ n1_ n2_; (try clear hb); (try clear hb2); (try clear hk); (try clear hi); (try clear ho0)) | ((with_reducible refine gate_callee (f := 24) rfl ?_); refine goesL_ (some 18) rfl rfl Try.func24 (by kernel_rfl) rfl #[] rfl (by (try simp only [List.map_toArray, List.map_cons, List.map_nil]); first | done | rfl | (simp only [List.length_drop, List.length_take]; rfl)) ?_; (with_reducible refine (wicketmanlaw13_known.calls  true _ A7.out).mono ?_); rintro e w16 ⟨rfl, hb⟩; refine ⟨_, rfl, ?_⟩; have n0_ := Aside0.mk (Kd.R_below (by (with_reducible repeat (first | apply Kd.R_alloc | apply Kd.R_drewN | apply Kd.R_drew)); exact HO103.out) hb); have n1_ := Aside0.mk (Kd.R_below (by (with_reducible repeat (first | apply Kd.R_alloc | apply Kd.R_drewN | apply Kd.R_drew)); exact HO107.out) hb); have n2_ := Aside0.mk (below_step (by repeat (first | (with_reducible first | exact HB.out | apply below_alloc | apply pw_below_drewN | apply below_drew1) | exact HB.out)) hb); clear HO103; clear HO107; clear HB; have HO103 := n0_; have HO107 := n1_; have HB := n2_; clear n0_ n1_ n2_; (try clear hb); (try clear hb2); (try clear hk); (try clear hi); obtain ⟨Ao17, co17, eo17⟩ := Kd.R_slice HO107.out; subst eo17))
              go_ret
              exact ⟨by first | rfl | (simp [errW_none, errW_some] <;> rfl) | (simp only [← hji3]; first | rfl | (simp [errW_none, errW_some] <;> rfl)) | (simp [*, errW_none, errW_some] <;> rfl), by repeat (first | (with_reducible first | exact HB.out | apply below_alloc | apply pw_below_drewN | apply below_drew1) | exact HB.out)⟩
            · rw [if_neg c11] at H
              have c11b0 : ((t104.length : Int) == (wrap64 ((ji3) + 16))) = false := beq_eq_false_iff_ne.mpr c11
              have c11b1 : ((t104.length : Int) != (wrap64 ((ji3) + 16))) = true := bne_iff_ne.mpr c11
              by_cases c18 : t105 = 3
              · rw [if_pos c18] at H
                have c18b0 : (t105 == 3) = true := beq_iff_eq.mpr c18
                have c18b1 : (t105 != 3) = false := bne_eq_false_iff_eq.mpr c18
                clear c18
                obtain rfl := Option.some.inj H
                (first | (have hk_ : ji3 ≤ 65536 := (by simpa [c10b0] using c9b0); have hk1_ := decide_eq_true hk_; have hk2_ := eq_true hk_; have hk3_ : (65536 < ji3) = False := eq_false (Int.not_lt.2 hk_); have hk4_ : decide (65536 < ji3) = false := decide_eq_false (Int.not_lt.2 hk_); clear hk_) | (have hk_ : 65536 < ji3 := (by simpa [c10b0] using c9b0); have hk1_ := decide_eq_true hk_; have hk2_ := eq_true hk_; have hk3_ : (ji3 ≤ 65536) = False := eq_false (Int.not_le.2 hk_); have hk4_ : decide (ji3 ≤ 65536) = false := decide_eq_false (Int.not_le.2 hk_); clear hk_))
                go_enter Try.func11, Try.ntmps11
                go_wp2_with (first | ((with_reducible refine gate_dst (N := 14) rfl ?_); (try (refine gate_guard (by rfl) ?_; dsimp only)); refine Kd.R_make (Kd.int .u8) _ 5 rfl (N := 14) rfl 22 _ _ rfl ji3 rfl rfl Try.underlying22 (.int .u8 0) 1 info5 rfl (by decide) (by omega) 0 (ok := fun _ => True) (okp := fun _ => True) rfl (fun _ hk => hk) trivial (of_decide_eq_true (by first | (with_reducible assumption) | assumption)) (Nat.le_trans (Nat.mul_le_mul_right _ (of_decide_eq_true (by first | (with_reducible assumption) | assumption) : ji3.toNat ≤ 281474976710656)) (by omega)) (Below.refl _ _) (Nat.le_refl _) ?_; intro v102 w19 ho20 hb hg_ hnew_; clear hg_ hnew_; (first | rw [← Ny101.out] at ho20 | (simp only [Int.reduceToNat] at ho20; rw [← Ny101.out] at ho20)); have n0_ := Aside0.mk (Kd.R_lower ho20 (below_size (by repeat (first | (with_reducible first | exact HB.out | apply below_alloc | apply pw_below_drewN | apply below_drew1) | exact HB.out)))); have n1_ := Aside0.mk (below_step (by repeat (first | (with_reducible first | exact HB.out | apply below_alloc | apply pw_below_drewN | apply below_drew1) | exact HB.out)) hb); clear HB; have HO103 := n0_; have HB := n1_; clear n0_ n1_; clear hb ho20; obtain ⟨Ao21, co21, eo21⟩ := Kd.R_slice HO103.out; subst eo21) | ((with_reducible refine gate_callee (f := 25) rfl ?_); refine goesL_ (some 15) rfl rfl Try.func25 (by kernel_rfl) rfl #[.int .u64 a1, .slice Ao21 y101.length co21] rfl (by (try simp only [List.map_toArray, List.map_cons, List.map_nil]); first | done | rfl | (simp only [List.length_drop, List.length_take]; rfl)) ?_; (with_reducible refine (crc_Frame.calls a1 _ _ y101 t104 t105 _ ?side1 ?side2 A6.out).mono ?_); (case side1 => repeat (first | exact (Kd.R_reads' HO103.out).2.2 | (with_reducible refine Kd.C_alloc ?_ _) | (with_reducible refine Kd.C_drewN ?_ _) | (with_reducible refine Kd.C_drew ?_))); (case side2 => exact (Kd.R_reads' HO103.out).2.1); rintro e w22 ⟨v106, rfl, ho0, hb⟩; refine ⟨_, rfl, ?_⟩; have n0_ := Aside0.mk (Kd.R_elder' (by (with_reducible repeat (first | apply Kd.R_alloc | apply Kd.R_drewN | apply Kd.R_drew)); exact HO103.out) (Kd.R_base ho0) hb); have n1_ := Aside0.mk (Kd.R_lower (Kd.R_new' ho0 (Kd.R_lt (by (with_reducible repeat (first | apply Kd.R_alloc | apply Kd.R_drewN | apply Kd.R_drew)); exact HO103.out))) (below_size (by repeat (first | (with_reducible first | exact HB.out | apply below_alloc | apply pw_below_drewN | apply below_drew1) | exact HB.out)))); have n2_ := Aside0.mk (below_step (by repeat (first | (with_reducible first | exact HB.out | apply below_alloc | apply pw_below_drewN | apply below_drew1) | exact HB.out)) hb); clear HO103; clear HB; have HO103 := n0_; have HO107 := n1_; have HB := n2_; clear n0_ n1_ n2_; (try clear hb); (try clear hb2); (try clear hk); (try clear hi); (try clear ho0)) | ((with_reducible refine gate_callee (f := 24) rfl ?_); refine goesL_ (some 18) rfl rfl Try.func24 (by kernel_rfl) rfl #[] rfl (by (try simp only [List.map_toArray, List.map_cons, List.map_nil]); first | done | rfl | (simp only [List.length_drop, List.length_take]; rfl)) ?_; (with_reducible refine (wicketmanlaw13_known.calls  true _ A7.out).mono ?_); rintro e w23 ⟨rfl, hb⟩; refine ⟨_, rfl, ?_⟩; have n0_ := Aside0.mk (Kd.R_below (by (with_reducible repeat (first | apply Kd.R_alloc | apply Kd.R_drewN | apply Kd.R_drew)); exact HO103.out) hb); have n1_ := Aside0.mk (Kd.R_below (by (with_reducible repeat (first | apply Kd.R_alloc | apply Kd.R_drewN | apply Kd.R_drew)); exact HO107.out) hb); have n2_ := Aside0.mk (below_step (by repeat (first | (with_reducible first | exact HB.out | apply below_alloc | apply pw_below_drewN | apply below_drew1) | exact HB.out)) hb); clear HO103; clear HO107; clear HB; have HO103 := n0_; have HO107 := n1_; have HB := n2_; clear n0_ n1_ n2_; (try clear hb); (try clear hb2); (try clear hk); (try clear hi); obtain ⟨Ao24, co24, eo24⟩ := Kd.R_slice HO107.out; subst eo24))
                go_ret
                exact ⟨by first | rfl | (simp [errW_none, errW_some] <;> rfl) | (simp only [← hji3]; first | rfl | (simp [errW_none, errW_some] <;> rfl)) | (simp [*, errW_none, errW_some] <;> rfl), by repeat (first | (with_reducible first | exact HB.out | apply below_alloc | apply pw_below_drewN | apply below_drew1) | exact HB.out)⟩
              · rw [if_neg c18] at H
                exact absurd H (by simp)
          · rw [if_neg c10] at H
            have c10b0 : (t105 == 0) = false := beq_eq_false_iff_ne.mpr c10
            have c10b1 : (t105 != 0) = true := bne_iff_ne.mpr c10
            by_cases c25 : t105 = 3
            · rw [if_pos c25] at H
              have c25b0 : (t105 == 3) = true := beq_iff_eq.mpr c25
              have c25b1 : (t105 != 3) = false := bne_eq_false_iff_eq.mpr c25
              clear c25
              obtain rfl := Option.some.inj H
              (first | (have hk_ : ji3 ≤ 65536 := (by simpa [c10b0] using c9b0); have hk1_ := decide_eq_true hk_; have hk2_ := eq_true hk_; have hk3_ : (65536 < ji3) = False := eq_false (Int.not_lt.2 hk_); have hk4_ : decide (65536 < ji3) = false := decide_eq_false (Int.not_lt.2 hk_); clear hk_) | (have hk_ : 65536 < ji3 := (by simpa [c10b0] using c9b0); have hk1_ := decide_eq_true hk_; have hk2_ := eq_true hk_; have hk3_ : (ji3 ≤ 65536) = False := eq_false (Int.not_le.2 hk_); have hk4_ : decide (ji3 ≤ 65536) = false := decide_eq_false (Int.not_le.2 hk_); clear hk_))
              go_enter Try.func11, Try.ntmps11
              go_wp2_with (first | ((with_reducible refine gate_dst (N := 14) rfl ?_); (try (refine gate_guard (by rfl) ?_; dsimp only)); refine Kd.R_make (Kd.int .u8) _ 5 rfl (N := 14) rfl 22 _ _ rfl ji3 rfl rfl Try.underlying22 (.int .u8 0) 1 info5 rfl (by decide) (by omega) 0 (ok := fun _ => True) (okp := fun _ => True) rfl (fun _ hk => hk) trivial (of_decide_eq_true (by first | (with_reducible assumption) | assumption)) (Nat.le_trans (Nat.mul_le_mul_right _ (of_decide_eq_true (by first | (with_reducible assumption) | assumption) : ji3.toNat ≤ 281474976710656)) (by omega)) (Below.refl _ _) (Nat.le_refl _) ?_; intro v102 w26 ho27 hb hg_ hnew_; clear hg_ hnew_; (first | rw [← Ny101.out] at ho27 | (simp only [Int.reduceToNat] at ho27; rw [← Ny101.out] at ho27)); have n0_ := Aside0.mk (Kd.R_lower ho27 (below_size (by repeat (first | (with_reducible first | exact HB.out | apply below_alloc | apply pw_below_drewN | apply below_drew1) | exact HB.out)))); have n1_ := Aside0.mk (below_step (by repeat (first | (with_reducible first | exact HB.out | apply below_alloc | apply pw_below_drewN | apply below_drew1) | exact HB.out)) hb); clear HB; have HO103 := n0_; have HB := n1_; clear n0_ n1_; clear hb ho27; obtain ⟨Ao28, co28, eo28⟩ := Kd.R_slice HO103.out; subst eo28) | ((with_reducible refine gate_callee (f := 25) rfl ?_); refine goesL_ (some 15) rfl rfl Try.func25 (by kernel_rfl) rfl #[.int .u64 a1, .slice Ao28 y101.length co28] rfl (by (try simp only [List.map_toArray, List.map_cons, List.map_nil]); first | done | rfl | (simp only [List.length_drop, List.length_take]; rfl)) ?_; (with_reducible refine (crc_Frame.calls a1 _ _ y101 t104 t105 _ ?side1 ?side2 A6.out).mono ?_); (case side1 => repeat (first | exact (Kd.R_reads' HO103.out).2.2 | (with_reducible refine Kd.C_alloc ?_ _) | (with_reducible refine Kd.C_drewN ?_ _) | (with_reducible refine Kd.C_drew ?_))); (case side2 => exact (Kd.R_reads' HO103.out).2.1); rintro e w29 ⟨v106, rfl, ho0, hb⟩; refine ⟨_, rfl, ?_⟩; have n0_ := Aside0.mk (Kd.R_elder' (by (with_reducible repeat (first | apply Kd.R_alloc | apply Kd.R_drewN | apply Kd.R_drew)); exact HO103.out) (Kd.R_base ho0) hb); have n1_ := Aside0.mk (Kd.R_lower (Kd.R_new' ho0 (Kd.R_lt (by (with_reducible repeat (first | apply Kd.R_alloc | apply Kd.R_drewN | apply Kd.R_drew)); exact HO103.out))) (below_size (by repeat (first | (with_reducible first | exact HB.out | apply below_alloc | apply pw_below_drewN | apply below_drew1) | exact HB.out)))); have n2_ := Aside0.mk (below_step (by repeat (first | (with_reducible first | exact HB.out | apply below_alloc | apply pw_below_drewN | apply below_drew1) | exact HB.out)) hb); clear HO103; clear HB; have HO103 := n0_; have HO107 := n1_; have HB := n2_; clear n0_ n1_ n2_; (try clear hb); (try clear hb2); (try clear hk); (try clear hi); (try clear ho0)) | ((with_reducible refine gate_callee (f := 24) rfl ?_); refine goesL_ (some 18) rfl rfl Try.func24 (by kernel_rfl) rfl #[] rfl (by (try simp only [List.map_toArray, List.map_cons, List.map_nil]); first | done | rfl | (simp only [List.length_drop, List.length_take]; rfl)) ?_; (with_reducible refine (wicketmanlaw13_known.calls  true _ A7.out).mono ?_); rintro e w30 ⟨rfl, hb⟩; refine ⟨_, rfl, ?_⟩; have n0_ := Aside0.mk (Kd.R_below (by (with_reducible repeat (first | apply Kd.R_alloc | apply Kd.R_drewN | apply Kd.R_drew)); exact HO103.out) hb); have n1_ := Aside0.mk (Kd.R_below (by (with_reducible repeat (first | apply Kd.R_alloc | apply Kd.R_drewN | apply Kd.R_drew)); exact HO107.out) hb); have n2_ := Aside0.mk (below_step (by repeat (first | (with_reducible first | exact HB.out | apply below_alloc | apply pw_below_drewN | apply below_drew1) | exact HB.out)) hb); clear HO103; clear HO107; clear HB; have HO103 := n0_; have HO107 := n1_; have HB := n2_; clear n0_ n1_ n2_; (try clear hb); (try clear hb2); (try clear hk); (try clear hi); obtain ⟨Ao31, co31, eo31⟩ := Kd.R_slice HO107.out; subst eo31))
              go_ret
              exact ⟨by first | rfl | (simp [errW_none, errW_some] <;> rfl) | (simp only [← hji3]; first | rfl | (simp [errW_none, errW_some] <;> rfl)) | (simp [*, errW_none, errW_some] <;> rfl), by repeat (first | (with_reducible first | exact HB.out | apply below_alloc | apply pw_below_drewN | apply below_drew1) | exact HB.out)⟩
            · rw [if_neg c25] at H
              exact absurd H (by simp)
        · rw [if_neg c9] at H
          exact absurd H (by simp)
      · replace c8 := Bool.eq_false_iff.mpr c8
        subst c8
        have H1 : (none) = some r := by rw [if_neg (show ¬ (false = true) by decide)] at H; exact H
        clear H
        have H := H1
        clear H1
        exact absurd H (by simp)
    · rw [if_neg c5] at H
      exact absurd H (by simp)
  · rw [if_neg c4] at H
    exact absurd H (by simp)

/-- THE ONE PURE STATEMENT of wicketmanlaw13_CrcLong: yours. -/
def wicketmanlaw13_CrcLong.Pure : Prop := ∀ (a0 : Int) (a1 : Int), (Lit.int .u32 a0).wf = true → (Lit.int .u64 a1).wf = true → wicketmanlaw13_CrcLong.f a0 a1 = some true
theorem wicketmanlaw13_CrcLong.walk (P : wicketmanlaw13_CrcLong.Pure) (a0 : Int) (a1 : Int) (w : World) (w0 : (Lit.int .u32 a0).wf = true) (w1 : (Lit.int .u64 a1).wf = true) :
    Calls Try.prog 11 #[.int .u32 a0, .int .u64 a1] w fun e w' => e = .returned (.bool true) ∧ Below w.heap.size w w' := by
  have h := P a0 a1 w0 w1
  refine (wicketmanlaw13_CrcLong.calls a0 a1 true w h).mono ?_
  rintro e w' ⟨rfl, hd⟩
  exact ⟨rfl, hd⟩

end Go.Proofs.Ytmepclalglmleaa.Pr
