-- Written for this claim by wip/myprint.py, this session's driver over the kit's print.py. Not trusted: Lean checks it.
import Derived.Test.YtmepclalglmleaaF
import Derived.Test.YtmepclalglmleaaC3
import Derived.Test.YtmepclalglmleaaC4
import Derived.Test.YtmepclalglmleaaC5
namespace Go.Proofs.Ytmepclalglmleaa.Pr
open Go.RowKit Go.Proofs.YtmepclalglmleaaW.PrintWords Go.Proofs.YtmepclalglmleaaW.PrintLast Go.Proofs.YtmepclalglmleaaW.PrintMore Go.Proofs.Ytmepclalglmleaa.E
attribute [local go_sem] max2_int min2_int max_two min_two max_three min_three max_four min_four   -- for this text's walks alone
set_option linter.unusedVariables false
set_option linter.unusedSimpArgs false

/-! ### wicketmanlaw13_CrcCut: function 9 -/
def wicketmanlaw13_CrcCut.j0 : Nat → Int → Int → List Int → Bool → Option (Bool)
  | 0, _, _, _, _ => none
  | k + 1, x2, x3, x9, x38 => if x38 = true then (none) else (if (x9.length : Int) = 0 then (none) else (if 0 ≤ (Int.tmod (wrap64 (x2)) (x9.length : Int)) then (if (Int.tmod (wrap64 (x2)) (x9.length : Int)) ≤ (x9.length : Int) then ((crc_Next.f (x9.take ((Int.tmod (wrap64 (x2)) (x9.length : Int)) : Int).toNat)).bind fun bt110 => (if (Int.tmod (wrap64 (x2)) (x9.length : Int)) < (x9.length : Int) then ((crc_Next.f (x9.set ((Int.tmod (wrap64 (x2)) (x9.length : Int)) : Int).toNat x3)).bind fun bt117 => ((wicketmanlaw13_known.f).bind fun t122 => (if t122 = true then (if bt110.2.2 = 0 then (some ((bt117.2.2 == (x9.length : Int)) == (x3 == (rd x9 (Int.tmod (wrap64 (x2)) (x9.length : Int)))))) else (none)) else (none)))) else (none))) else (none)) else (none)))
def wicketmanlaw13_CrcCut.f (k : Nat) (a0 : Int) (l1 : List Int) (a2 : Int) (a3 : Int) : Option (Bool) := if (l1.length : Int) > 300 then ((wicketmanlaw13_known.f).bind fun t101 => (some t101)) else ((crc_Frame.f a0 l1).bind fun bt102 => (if bt102.2 = 0 then (wicketmanlaw13_CrcCut.j0 k a2 a3 bt102.1 ((bt102.1.length : Int) != (wrap64 (16 + (l1.length : Int))))) else (wicketmanlaw13_CrcCut.j0 k a2 a3 bt102.1 true)))
theorem wicketmanlaw13_CrcCut.mono_l : ∀ k, (∀ y0 y1 y2 y3, LeO (wicketmanlaw13_CrcCut.j0 k y0 y1 y2 y3) (wicketmanlaw13_CrcCut.j0 (k + 1) y0 y1 y2 y3))
  | 0 => fun _ _ _ _ r h => by simp [wicketmanlaw13_CrcCut.j0] at h
  | k + 1 => by
    have ih0 := wicketmanlaw13_CrcCut.mono_l k
    · intro y0 y1 y2 y3
      unfold wicketmanlaw13_CrcCut.j0
      repeat' first
      | (with_reducible exact ih0 _ _ _ _)
      | (with_reducible exact LeO.refl _)
      | (with_reducible exact LeO.none _)
      | (with_reducible refine LeO.ite ?_ ?_)
      | (with_reducible refine LeO.bind ?_ (fun _ => ?_))
      | exact ih0 _ _ _ _
      | exact LeO.none _
      | refine LeO.ite ?_ ?_
      | refine LeO.bind ?_ (fun _ => ?_)
theorem wicketmanlaw13_CrcCut.mono : ∀ a0 a1 a2 a3 k, LeO (wicketmanlaw13_CrcCut.f k a0 a1 a2 a3) (wicketmanlaw13_CrcCut.f (k + 1) a0 a1 a2 a3) := by
  intro a0 a1 a2 a3 k
  have ih0 := wicketmanlaw13_CrcCut.mono_l k
  unfold wicketmanlaw13_CrcCut.f
  repeat' first
      | (with_reducible exact ih0 _ _ _ _)
      | (with_reducible exact LeO.refl _)
      | (with_reducible exact LeO.none _)
      | (with_reducible refine LeO.ite ?_ ?_)
      | (with_reducible refine LeO.bind ?_ (fun _ => ?_))
      | exact ih0 _ _ _ _
      | exact LeO.none _
      | refine LeO.ite ?_ ?_
      | refine LeO.bind ?_ (fun _ => ?_)
set_option maxHeartbeats 8000000 in
set_option maxRecDepth 1000000 in
theorem wicketmanlaw13_CrcCut.calls (k : Nat) (a0 : Int) (A1 : Option Addr) (c1 : Nat) (l1 : List Int) (a2 : Int) (a3 : Int) (r : Bool) (w : World) (hr1 : Kd.C (Kd.int .u8) w A1 l1.length l1) (hc1 : l1.length ≤ c1) (h : wicketmanlaw13_CrcCut.f k a0 l1 a2 a3 = some r) :
    Calls Try.prog 9 #[.int .u64 a0, .slice A1 l1.length c1, .int .u16 a2, .int .u8 a3] w fun e w' => e = .returned (.bool r) ∧ Below w.heap.size w w' := by
  have HR1 := Aside0.mk hr1
  have HC1 := Aside0.mk hc1
  clear hr1 hc1
  have HB := Aside0.mk (Below.refl w.heap.size w)
  have H : (if (l1.length : Int) > 300 then ((wicketmanlaw13_known.f).bind fun t101 => (some t101)) else ((crc_Frame.f a0 l1).bind fun bt102 => (if bt102.2 = 0 then (wicketmanlaw13_CrcCut.j0 k a2 a3 bt102.1 ((bt102.1.length : Int) != (wrap64 (16 + (l1.length : Int))))) else (wicketmanlaw13_CrcCut.j0 k a2 a3 bt102.1 true)))) = some r := h
  clear h
  by_cases c5 : (l1.length : Int) > 300
  · rw [if_pos c5] at H
    have c5b0 : decide (300 < (l1.length : Int)) = true := decide_eq_true c5
    have c5b1 : decide (300 < l1.length) = true := decide_eq_true (by omega)
    clear c5
    replace H := Option.bind_eq_some_iff.mp H
    obtain ⟨t101, A60, H⟩ := H
    replace H : (some t101) = some r := H
    have A6 := Aside0.mk A60
    clear A60
    obtain rfl := Option.some.inj H
    go_enter Try.func9, Try.ntmps9
    go_wp2_with (first | ((with_reducible refine gate_callee (f := 24) rfl ?_); refine goesL_ (some 22) rfl rfl Try.func24 (by kernel_rfl) rfl #[] rfl (by (try simp only [List.map_toArray, List.map_cons, List.map_nil]); first | done | rfl | (simp only [List.length_drop, List.length_take]; rfl)) ?_; (with_reducible refine (wicketmanlaw13_known.calls  t101 _ A6.out).mono ?_); rintro e w7 ⟨rfl, hb⟩; refine ⟨_, rfl, ?_⟩; have n0_ := Aside0.mk (below_step (by repeat (first | (with_reducible first | exact HB.out | apply below_alloc | apply pw_below_drewN | apply below_drew1) | exact HB.out)) hb); clear HB; have HB := n0_; clear n0_; (try clear hb); (try clear hb2); (try clear hk); (try clear hi)))
    go_ret
    exact ⟨by first | rfl | (simp [errW_none, errW_some] <;> rfl) | (simp [*, errW_none, errW_some] <;> rfl), by repeat (first | (with_reducible first | exact HB.out | apply below_alloc | apply pw_below_drewN | apply below_drew1) | exact HB.out)⟩
  · rw [if_neg c5] at H
    have c5b0 : decide (300 < (l1.length : Int)) = false := decide_eq_false c5
    have c5b1 : decide (300 < l1.length) = false := decide_eq_false (by omega)
    clear c5
    replace H := Option.bind_eq_some_iff.mp H
    obtain ⟨⟨t102, t103⟩, A80, H⟩ := H
    replace H : (if t103 = 0 then (wicketmanlaw13_CrcCut.j0 k a2 a3 t102 ((t102.length : Int) != (wrap64 (16 + (l1.length : Int))))) else (wicketmanlaw13_CrcCut.j0 k a2 a3 t102 true)) = some r := H
    have A8 := Aside0.mk A80
    clear A80
    have HC9 := Aside0.mk H
    clear H
    go_enter Try.func9, Try.ntmps9
    go_upto_region 4 with (first | ((with_reducible refine gate_callee (f := 25) rfl ?_); refine goesL_ (some 26) rfl rfl Try.func25 (by kernel_rfl) rfl #[.int .u64 a0, .slice A1 l1.length c1] rfl (by (try simp only [List.map_toArray, List.map_cons, List.map_nil]); first | done | rfl | (simp only [List.length_drop, List.length_take]; rfl)) ?_; (with_reducible refine (crc_Frame.calls a0 _ _ l1 t102 t103 _ ?side1 ?side2 A8.out).mono ?_); (case side1 => repeat (first | exact HR1.out | (with_reducible refine Kd.C_alloc ?_ _) | (with_reducible refine Kd.C_drewN ?_ _) | (with_reducible refine Kd.C_drew ?_))); (case side2 => exact HC1.out); rintro e w10 ⟨v104, rfl, ho0, hb⟩; refine ⟨_, rfl, ?_⟩; have n0_ := Aside0.mk (Kd.R_lower ho0 (below_size (by repeat (first | (with_reducible first | exact HB.out | apply below_alloc | apply pw_below_drewN | apply below_drew1) | exact HB.out)))); have n1_ := Aside0.mk (below_step (by repeat (first | (with_reducible first | exact HB.out | apply below_alloc | apply pw_below_drewN | apply below_drew1) | exact HB.out)) hb); clear HB; have HO105 := n0_; have HB := n1_; clear n0_ n1_; (try clear hb); (try clear hb2); (try clear hk); (try clear hi); (try clear ho0)))
    (try simp only [Act.put, List.setIfInBounds_toArray, List.set_cons_zero, List.set_cons_succ])
    go_cut [38] (fun v38 wc => ∃ (kq : Nat) (x38_8 : Bool), v38 = .bool x38_8 ∧ Aside0 (wicketmanlaw13_CrcCut.j0 kq a2 a3 t102 x38_8 = some r) ∧ Aside0 (kq ≤ k) ∧ Aside0 (Kd.R (Kd.int .u8) 5 wc w.heap.size (fun _ => True) v104 t102) ∧ Aside0 (Below w.heap.size w wc))
    case first =>
      have H := HC9.out
      clear HC9
      by_cases c11 : t103 = 0
      · rw [if_pos c11] at H
        have c11b0 : (t103 == 0) = true := beq_iff_eq.mpr c11
        have c11b1 : (t103 != 0) = false := bne_eq_false_iff_eq.mpr c11
        clear c11
        (first | rw [c11b0] | (simp only [i64_w, i32_w]; rw [c11b0]) | skip)
        have H' := Aside0.mk H
        clear H
        obtain ⟨Ao12, co12, eo12⟩ := Kd.R_slice HO105.out
        subst eo12
        go_wp2
        go_meet
        case rel => exact ⟨_, (((t102.length : Int) != (wrap64 (16 + (l1.length : Int))))), (by first | rfl | (simp; done) | (simp [*]; done)), H', ⟨by first | omega | exact Nat.le_refl _⟩, ⟨by (with_reducible repeat (first | apply Kd.R_alloc | apply Kd.R_drewN | apply Kd.R_drew)); exact HO105.out⟩, ⟨by repeat (first | (with_reducible first | exact HB.out | apply below_alloc | apply pw_below_drewN | apply below_drew1) | exact HB.out)⟩⟩
      · rw [if_neg c11] at H
        have c11b0 : (t103 == 0) = false := beq_eq_false_iff_ne.mpr c11
        have c11b1 : (t103 != 0) = true := bne_iff_ne.mpr c11
        (first | rw [c11b0] | (simp only [i64_w, i32_w]; rw [c11b0]) | skip)
        have H' := Aside0.mk H
        clear H
        go_wp2
        go_meet
        case rel => exact ⟨_, (true), (by first | rfl | (simp; done) | (simp [*]; done)), H', ⟨by first | omega | exact Nat.le_refl _⟩, ⟨by (with_reducible repeat (first | apply Kd.R_alloc | apply Kd.R_drewN | apply Kd.R_drew)); exact HO105.out⟩, ⟨by repeat (first | (with_reducible first | exact HB.out | apply below_alloc | apply pw_below_drewN | apply below_drew1) | exact HB.out)⟩⟩
    case rest =>
      clear HC9
      try clear c1
      try clear c2
      try clear p2
      try clear c5
      try clear c5b0
      try clear c5b1
      try clear p6
      try clear c9
      try clear c11
      try clear c11b0
      try clear c11b1
      obtain ⟨kq, x38_8, rfl, HA, HJ8, HO_9, HB⟩ := hcut
      cases kq with
      | zero => exact absurd HA.out (by simp [wicketmanlaw13_CrcCut.j0])
      | succ kj8 =>
        have H := HA.out
        clear HA
        simp only [wicketmanlaw13_CrcCut.j0] at H
        by_cases c13 : x38_8 = true
        · subst c13
          have H1 : (none) = some r := by rw [if_pos rfl] at H; exact H
          clear H
          have H := H1
          clear H1
          exact absurd H (by simp)
        · replace c13 := Bool.eq_false_iff.mpr c13
          subst c13
          have H1 : (if (t102.length : Int) = 0 then (none) else (if 0 ≤ (Int.tmod (wrap64 (a2)) (t102.length : Int)) then (if (Int.tmod (wrap64 (a2)) (t102.length : Int)) ≤ (t102.length : Int) then ((crc_Next.f (t102.take ((Int.tmod (wrap64 (a2)) (t102.length : Int)) : Int).toNat)).bind fun bt110 => (if (Int.tmod (wrap64 (a2)) (t102.length : Int)) < (t102.length : Int) then ((crc_Next.f (t102.set ((Int.tmod (wrap64 (a2)) (t102.length : Int)) : Int).toNat a3)).bind fun bt117 => ((wicketmanlaw13_known.f).bind fun t122 => (if t122 = true then (if bt110.2.2 = 0 then (some ((bt117.2.2 == (t102.length : Int)) == (a3 == (rd t102 (Int.tmod (wrap64 (a2)) (t102.length : Int)))))) else (none)) else (none)))) else (none))) else (none)) else (none))) = some r := by rw [if_neg (show ¬ (false = true) by decide)] at H; exact H
          clear H
          have H := H1
          clear H1
          by_cases c14 : (t102.length : Int) = 0
          · rw [if_pos c14] at H
            exact absurd H (by simp)
          · rw [if_neg c14] at H
            have c14b0 : ((t102.length : Int) == 0) = false := beq_eq_false_iff_ne.mpr c14
            have c14b1 : ((t102.length : Int) != 0) = true := bne_iff_ne.mpr c14
            have c14b2 : ¬ (t102 = []) := fun h_ => c14 (by rw [h_]; rfl)
            obtain ⟨ji15, hji15⟩ : ∃ j_ : Int, (Int.tmod (wrap64 (a2)) (t102.length : Int)) = j_ := ⟨_, rfl⟩
            replace H : (if 0 ≤ (ji15) then (if (ji15) ≤ (t102.length : Int) then ((crc_Next.f (t102.take ((ji15) : Int).toNat)).bind fun bt110 => (if (ji15) < (t102.length : Int) then ((crc_Next.f (t102.set ((ji15) : Int).toNat a3)).bind fun bt117 => ((wicketmanlaw13_known.f).bind fun t122 => (if t122 = true then (if bt110.2.2 = 0 then (some ((bt117.2.2 == (t102.length : Int)) == (a3 == (rd t102 (ji15))))) else (none)) else (none)))) else (none))) else (none)) else (none)) = some r := by first | (rw [hji15] at H; exact H) | (simp only [hji15] at H ⊢; exact H)
            by_cases c16 : 0 ≤ (ji15)
            · rw [if_pos c16] at H
              have c16b0 := eq_true c16
              have c16b1 : decide (0 ≤ (ji15)) = true := decide_eq_true c16
              clear c16
              by_cases c17 : (ji15) ≤ (t102.length : Int)
              · rw [if_pos c17] at H
                have c17b0 := eq_true c17
                have c17b1 : decide ((ji15) ≤ (t102.length : Int)) = true := decide_eq_true c17
                clear c17
                obtain ⟨y106, hy106⟩ : ∃ y_ : List Int, y_ = (t102.take ((ji15) : Int).toNat) := ⟨_, rfl⟩
                replace H : ((crc_Next.f y106).bind fun bt110 => (if (ji15) < (t102.length : Int) then ((crc_Next.f (t102.set ((ji15) : Int).toNat a3)).bind fun bt117 => ((wicketmanlaw13_known.f).bind fun t122 => (if t122 = true then (if bt110.2.2 = 0 then (some ((bt117.2.2 == (t102.length : Int)) == (a3 == (rd t102 (ji15))))) else (none)) else (none)))) else (none))) = some r := by first | (rw [hy106]; with_reducible exact H) | (have H2_ := (Option.bind_some _ _).symm.trans H; rw [hy106]; with_reducible exact H2_) | (have H2_ := (Option.bind_some _ _).symm.trans H; with_reducible exact H2_) | with_reducible exact H | (rw [hy106]; exact H) | exact H
                have Ny106 := Aside0.mk hy106
                clear hy106
                replace H := Option.bind_eq_some_iff.mp H
                obtain ⟨⟨t110, t111, t112⟩, A180, H⟩ := H
                replace H : (if (ji15) < (t102.length : Int) then ((crc_Next.f (t102.set ((ji15) : Int).toNat a3)).bind fun bt117 => ((wicketmanlaw13_known.f).bind fun t122 => (if t122 = true then (if t112 = 0 then (some ((bt117.2.2 == (t102.length : Int)) == (a3 == (rd t102 (ji15))))) else (none)) else (none)))) else (none)) = some r := H
                have A18 := Aside0.mk A180
                clear A180
                by_cases c19 : (ji15) < (t102.length : Int)
                · rw [if_pos c19] at H
                  have c19b0 : decide ((ji15) < (t102.length : Int)) = true := decide_eq_true c19
                  clear c19
                  obtain ⟨y116, hy116⟩ : ∃ y_ : List Int, y_ = (t102.set ((ji15) : Int).toNat a3) := ⟨_, rfl⟩
                  replace H : ((crc_Next.f y116).bind fun bt117 => ((wicketmanlaw13_known.f).bind fun t122 => (if t122 = true then (if t112 = 0 then (some ((bt117.2.2 == (t102.length : Int)) == (a3 == (rd t102 (ji15))))) else (none)) else (none)))) = some r := by first | (rw [hy116]; with_reducible exact H) | (have H2_ := (Option.bind_some _ _).symm.trans H; rw [hy116]; with_reducible exact H2_) | (have H2_ := (Option.bind_some _ _).symm.trans H; with_reducible exact H2_) | with_reducible exact H | (rw [hy116]; exact H) | exact H
                  have Ny116 := Aside0.mk hy116
                  clear hy116
                  replace H := Option.bind_eq_some_iff.mp H
                  obtain ⟨⟨t117, t118, t119⟩, A210, H⟩ := H
                  replace H : ((wicketmanlaw13_known.f).bind fun t122 => (if t122 = true then (if t112 = 0 then (some ((t119 == (t102.length : Int)) == (a3 == (rd t102 (ji15))))) else (none)) else (none))) = some r := H
                  have A21 := Aside0.mk A210
                  clear A210
                  replace H := Option.bind_eq_some_iff.mp H
                  obtain ⟨t122, A220, H⟩ := H
                  replace H : (if t122 = true then (if t112 = 0 then (some ((t119 == (t102.length : Int)) == (a3 == (rd t102 (ji15))))) else (none)) else (none)) = some r := H
                  have A22 := Aside0.mk A220
                  clear A220
                  by_cases c23 : t122 = true
                  · subst c23
                    have H1 : (if t112 = 0 then (some ((t119 == (t102.length : Int)) == (a3 == (rd t102 (ji15))))) else (none)) = some r := by rw [if_pos rfl] at H; exact H
                    clear H
                    have H := H1
                    clear H1
                    by_cases c24 : t112 = 0
                    · rw [if_pos c24] at H
                      have c24b0 : (t112 == 0) = true := beq_iff_eq.mpr c24
                      have c24b1 : (t112 != 0) = false := bne_eq_false_iff_eq.mpr c24
                      clear c24
                      obtain rfl := Option.some.inj H
                      obtain ⟨Ao25, co25, eo25⟩ := Kd.R_slice HO_9.out
                      subst eo25
                      have q26 : ((ji15) : Int) ≤ ((t102.length : Int) : Int) := of_decide_eq_true (by first | (with_reducible assumption) | assumption)
                      obtain ⟨i026, hi026, _, hsz26, _⟩ := info_parts info5
                      have hroom26 : t102.length ≤ co25 := (Kd.R_reads' HO_9.out).2.1
                      have hC26 : Kd.C (Kd.int .u8) _ Ao25 t102.length t102 := (Kd.R_reads' HO_9.out).2.2
                      have hcut26 := cut_to (P := Try.prog) 22 5 .i64 Try.underlying22 hi026 Ao25 t102.length co25 (ji15) (of_decide_eq_true (by first | (with_reducible assumption) | assumption)) q26 hroom26
                      have hr26 := Kd.C_take (m := ((ji15) : Int).toNat) hC26 (by omega)
                      have hy26 : y106.length = ((ji15) : Int).toNat := (by rw [Ny106.out, List.length_take]; omega)
                      rw [← Ny106.out] at hr26
                      rw [← hy26] at hcut26
                      have HR109 := Aside0.mk hr26
                      have HC109 := Aside0.mk (show y106.length ≤ co25 from by omega)
                      clear hr26 hC26 hroom26 hi026 hsz26
                      have KY26 := Aside0.mk hy26
                      clear hy26
                      have KL26 := Aside0.mk (show ((ji15) : Int).toNat ≤ t102.length from by omega)
                      replace q26 := eq_true q26
                      go_wp2_with (first | ((with_reducible refine gate_callee (f := 26) rfl ?_); refine goesL_ (some 47) rfl rfl Try.func26 (by kernel_rfl) rfl #[.slice Ao25 y106.length co25] rfl (by (try simp only [List.map_toArray, List.map_cons, List.map_nil]); first | done | rfl | (simp only [List.length_drop, List.length_take]; rfl)) ?_; (with_reducible refine (crc_Next.calls _ _ y106 t110 t111 t112 _ ?side1 ?side2 A18.out).mono ?_); (case side1 => repeat (first | exact (by repeat (first | (with_reducible exact HR109.out) | (with_reducible refine Kd.C_alloc ?_ _) | (with_reducible refine Kd.C_drewN ?_ _) | (with_reducible refine Kd.C_drew ?_) | exact HR109.out)) | (with_reducible refine Kd.C_alloc ?_ _) | (with_reducible refine Kd.C_drewN ?_ _) | (with_reducible refine Kd.C_drew ?_))); (case side2 => exact HC109.out); rintro e w27 ⟨v113, rfl, ho0, hb⟩; refine ⟨_, rfl, ?_⟩; have n0_ := Aside0.mk (Kd.R_elder' (by (with_reducible repeat (first | apply Kd.R_alloc | apply Kd.R_drewN | apply Kd.R_drew)); exact HO_9.out) (Kd.R_base ho0) hb); have n1_ := Aside0.mk (Kd.R_lower (Kd.R_new' ho0 (Kd.R_lt (by (with_reducible repeat (first | apply Kd.R_alloc | apply Kd.R_drewN | apply Kd.R_drew)); exact HO_9.out))) (below_size (by repeat (first | (with_reducible first | exact HB.out | apply below_alloc | apply pw_below_drewN | apply below_drew1) | exact HB.out)))); have n2_ := Aside0.mk (Kd.C_below (by repeat (first | (with_reducible exact HR109.out) | (with_reducible refine Kd.C_alloc ?_ _) | (with_reducible refine Kd.C_drewN ?_ _) | (with_reducible refine Kd.C_drew ?_) | exact HR109.out)) hb); have n3_ := Aside0.mk (below_step (by repeat (first | (with_reducible first | exact HB.out | apply below_alloc | apply pw_below_drewN | apply below_drew1) | exact HB.out)) hb); clear HO_9; clear HR109; clear HB; have HO_9 := n0_; have HO114 := n1_; have HR109 := n2_; have HB := n3_; clear n0_ n1_ n2_ n3_; (try clear hb); (try clear hb2); (try clear hk); (try clear hi); (try clear ho0); have p115 : 0 ≤ ((ji15) : Int) := of_decide_eq_true (by first | (with_reducible assumption) | assumption); have q115 : (ji15) < (t102.length : Int) := of_decide_eq_true (by first | (with_reducible assumption) | assumption); obtain ⟨ad115, e115, hx115_0⟩ := Kd.at_int (Kd.R_reads' HO_9.out).2.2 (ji15) p115 q115; cases e115; replace p115 := eq_true p115; replace q115 := eq_true q115; have p20 : 0 ≤ ((ji15) : Int) := of_decide_eq_true (by first | (with_reducible assumption) | assumption); have q20 : ((ji15) : Int) < ((t102.length : Int) : Int) := of_decide_eq_true (by first | (with_reducible assumption) | assumption); obtain ⟨go20, co20, eo20, gb20, gl20, cl20, HG20⟩ := Kd.R_form HO_9.out (by omega); (first | cases eo20 | (injection eo20 with ea_ en_ ec_; (first | subst ea_ | (injection ea_ with ea_; subst ea_)); subst ec_; clear en_)); have GB20 := Aside0.mk gb20; have GG20 := Aside0.mk HG20; clear gb20 gl20 HG20; (first | simp only [add_plain] at hx115_0 | skip); obtain ⟨hx20_0, hf20_0⟩ := Kd.R_celln 0 HO_9.out ((ji15) : Int) p20 q20; replace p20 := eq_true p20; replace q20 := eq_true q20; have n_ := Aside0.mk (Kd.R_mono (ok' := (fun k_ => some k_ ≠ (v113 : Value).ownBlock)) HO_9.out (fun k_ hk => hk.2)); clear HO_9; have HO_9 := n_; clear n_; obtain ⟨hy28_, hz28_⟩ := Kd.R_celln 0 HO_9.out ((ji15) : Int) (of_decide_eq_true (by first | (with_reducible assumption) | assumption)) (of_decide_eq_true (by first | (with_reducible assumption) | assumption)); have HP28 := Kd.R_putg HO_9.out ((ji15) : Int) a3) | ((with_reducible refine gate_store (t := 5) (p := 63) rfl ?_); refine store_event (t := 5) (p := 63) (v := ?vo_w29) (w1 := (w27.setCell ⟨go20, ((ji15) : Int).toNat, none⟩ (.int .u8 a3))) ?hg ?ho ?hn ?hr ?_; (case ho => rfl); (case hg => rfl); (case hn => rfl); (case hr => first | (go_simp; done) | (go_simp; rfl)); intro w29 hw; have hg : w27.grownBy w29 (some go20) := (by rw [hw]; exact HP28.2); have hp_ : Kd.R (Kd.int .u8) 5 w29 w.heap.size (fun k_ => some k_ ≠ (v113 : Value).ownBlock) (.slice (some ⟨go20, 0, none⟩) t102.length co25) y116 := (by rw [hw, Ny116.out]; exact HP28.1); clear HP28; have n0_ := Aside0.mk (hp_); have n1_ := Aside0.mk (Kd.R_after (v := (.slice (some ⟨go20, 0, none⟩) t102.length co25)) (v1 := (.slice (some ⟨go20, 0, none⟩) t102.length co25)) (ok := (fun _ => True)) (by (with_reducible repeat (first | apply Kd.R_alloc | apply Kd.R_drewN | apply Kd.R_drew)); exact HO114.out) hg (.inl rfl)); have n2_ := Aside0.mk ((by rw [hw]; exact below_set (HB.out) GB20.out : Below w.heap.size w w29)); clear HO_9; clear HO114; clear HB; have HO_9 := n0_; have HO114 := n1_; have HB := n2_; clear n0_ n1_ n2_; clear hg hw hp_) | ((with_reducible refine gate_callee (f := 26) rfl ?_); refine goesL_ (some 66) rfl rfl Try.func26 (by kernel_rfl) rfl #[.slice (some ⟨go20, 0, none⟩) y116.length co25] rfl (by (try simp only [List.map_toArray, List.map_cons, List.map_nil]); first | done | (rw [show y116.length = t102.length from (Kd.R_reads' HO_9.out).1.symm] <;> rfl) | rfl | (simp only [List.length_drop, List.length_take]; rfl)) ?_; (with_reducible refine (crc_Next.calls _ _ y116 t117 t118 t119 _ ?side1 ?side2 A21.out).mono ?_); (case side1 => repeat (first | exact (Kd.R_reads' HO_9.out).2.2 | (with_reducible refine Kd.C_alloc ?_ _) | (with_reducible refine Kd.C_drewN ?_ _) | (with_reducible refine Kd.C_drew ?_))); (case side2 => rw [show y116.length = t102.length from (Kd.R_reads' HO_9.out).1.symm]; exact (Kd.R_reads' HO_9.out).2.1); rintro e w30 ⟨v120, rfl, ho0, hb⟩; refine ⟨_, rfl, ?_⟩; have n0_ := Aside0.mk (Kd.R_elder' (by (with_reducible repeat (first | apply Kd.R_alloc | apply Kd.R_drewN | apply Kd.R_drew)); exact HO_9.out) (Kd.R_base ho0) hb); have n1_ := Aside0.mk (Kd.R_elder' (by (with_reducible repeat (first | apply Kd.R_alloc | apply Kd.R_drewN | apply Kd.R_drew)); exact HO114.out) (Kd.R_base ho0) hb); have n2_ := Aside0.mk (Kd.R_lower (Kd.R_new' (Kd.R_new' ho0 (Kd.R_lt (by (with_reducible repeat (first | apply Kd.R_alloc | apply Kd.R_drewN | apply Kd.R_drew)); exact HO_9.out))) (Kd.R_lt (by (with_reducible repeat (first | apply Kd.R_alloc | apply Kd.R_drewN | apply Kd.R_drew)); exact HO114.out))) (below_size (by repeat (first | (with_reducible first | exact HB.out | apply below_alloc | apply pw_below_drewN | apply below_drew1) | exact HB.out)))); have n3_ := Aside0.mk (below_step (by repeat (first | (with_reducible first | exact HB.out | apply below_alloc | apply pw_below_drewN | apply below_drew1) | exact HB.out)) hb); clear HO_9; clear HO114; clear HB; have HO_9 := n0_; have HO114 := n1_; have HO121 := n2_; have HB := n3_; clear n0_ n1_ n2_ n3_; (try clear hb); (try clear hb2); (try clear hk); (try clear hi); (try clear ho0)) | ((with_reducible refine gate_callee (f := 24) rfl ?_); refine goesL_ (some 70) rfl rfl Try.func24 (by kernel_rfl) rfl #[] rfl (by (try simp only [List.map_toArray, List.map_cons, List.map_nil]); first | done | rfl | (simp only [List.length_drop, List.length_take]; rfl)) ?_; (with_reducible refine (wicketmanlaw13_known.calls  true _ A22.out).mono ?_); rintro e w31 ⟨rfl, hb⟩; refine ⟨_, rfl, ?_⟩; have n0_ := Aside0.mk (Kd.R_below (by (with_reducible repeat (first | apply Kd.R_alloc | apply Kd.R_drewN | apply Kd.R_drew)); exact HO_9.out) hb); have n1_ := Aside0.mk (Kd.R_below (by (with_reducible repeat (first | apply Kd.R_alloc | apply Kd.R_drewN | apply Kd.R_drew)); exact HO114.out) hb); have n2_ := Aside0.mk (Kd.R_below (by (with_reducible repeat (first | apply Kd.R_alloc | apply Kd.R_drewN | apply Kd.R_drew)); exact HO121.out) hb); have n3_ := Aside0.mk (below_step (by repeat (first | (with_reducible first | exact HB.out | apply below_alloc | apply pw_below_drewN | apply below_drew1) | exact HB.out)) hb); clear HO_9; clear HO114; clear HO121; clear HB; have HO_9 := n0_; have HO114 := n1_; have HO121 := n2_; have HB := n3_; clear n0_ n1_ n2_ n3_; (try clear hb); (try clear hb2); (try clear hk); (try clear hi)))
                      go_ret
                      exact ⟨by first | rfl | (simp [errW_none, errW_some] <;> rfl) | (simp only [← hji15]; first | rfl | (simp [errW_none, errW_some] <;> rfl)) | (simp [*, errW_none, errW_some] <;> rfl), by repeat (first | (with_reducible first | exact HB.out | apply below_alloc | apply pw_below_drewN | apply below_drew1) | exact HB.out)⟩
                    · rw [if_neg c24] at H
                      exact absurd H (by simp)
                  · replace c23 := Bool.eq_false_iff.mpr c23
                    subst c23
                    have H1 : (none) = some r := by rw [if_neg (show ¬ (false = true) by decide)] at H; exact H
                    clear H
                    have H := H1
                    clear H1
                    exact absurd H (by simp)
                · rw [if_neg c19] at H
                  exact absurd H (by simp)
              · rw [if_neg c17] at H
                exact absurd H (by simp)
            · rw [if_neg c16] at H
              exact absurd H (by simp)

/-- THE ONE PURE STATEMENT of wicketmanlaw13_CrcCut: yours. -/
def wicketmanlaw13_CrcCut.Pure : Prop := ∀ (a0 : Int) (l1 : List Int) (a2 : Int) (a3 : Int), (Lit.int .u64 a0).wf = true → l1.length ≤ maxLen → l1.length * 1 ≤ 140737488351232 → (∀ x ∈ l1, (Lit.int .u8 x).wf = true) → (Lit.int .u16 a2).wf = true → (Lit.int .u8 a3).wf = true → ∃ k, wicketmanlaw13_CrcCut.f k a0 l1 a2 a3 = some true
theorem wicketmanlaw13_CrcCut.walk (P : wicketmanlaw13_CrcCut.Pure) (a0 : Int) (a1 : Option Addr) (len1 cap1 : Nat) (z1 : List Int) (a2 : Int) (a3 : Int) (w : World) (w0 : (Lit.int .u64 a0).wf = true) (w1 : (a1 = none ∧ len1 = 0 ∧ cap1 = 0 ∧ z1 = []) ∨ ∃ x, a1 = some x ∧ len1 ≤ cap1 ∧ cap1 ≤ maxLen ∧ z1.length = cap1 ∧ (∀ i, i < z1.length → w.cell? (x.add i) = some (.int .u8 (z1.getD i 0))) ∧ ∀ n ∈ z1, (Lit.int .u8 n).wf = true) (y1 : len1 * 1 ≤ 140737488351232) (w2 : (Lit.int .u16 a2).wf = true) (w3 : (Lit.int .u8 a3).wf = true) :
    Calls Try.prog 9 #[.int .u64 a0, .slice a1 len1 cap1, .int .u16 a2, .int .u8 a3] w fun e w' => e = .returned (.bool true) ∧ Below w.heap.size w w' := by
  obtain ⟨l1, rfl, hr1, hm1, hw1, hc1⟩ := ReadsInt.ofRowC w1
  obtain ⟨k, h⟩ := P a0 l1 a2 a3 w0 hm1 y1 hw1 w2 w3
  refine (wicketmanlaw13_CrcCut.calls k a0 _ _ l1 a2 a3 true w (Kd.C_of_reads (d := (0 : Int)) (h1 := fun _ => rfl) hr1) hc1 h).mono ?_
  rintro e w' ⟨rfl, hd⟩
  exact ⟨rfl, hd⟩

end Go.Proofs.Ytmepclalglmleaa.Pr
