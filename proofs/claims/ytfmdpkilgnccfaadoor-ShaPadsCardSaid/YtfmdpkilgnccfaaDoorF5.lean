-- Written for this claim by wip/myprint.py, this session's driver over the kit's print.py. Not trusted: Lean checks it.
import Derived.Test.YtfmdpkilgnccfaaDoorF
import Derived.Test.YtfmdpkilgnccfaaDoorF24
import Derived.Test.YtfmdpkilgnccfaaDoorSha8
namespace Go.Proofs.YtfmdpkilgnccfaaDoor.Pr
open Go.RowKit Go.Proofs.YtfmdpkilgnccfaaDoorW.PrintWords Go.Proofs.YtfmdpkilgnccfaaDoorW.PrintLast Go.Proofs.YtfmdpkilgnccfaaDoorW.PrintMore Go.Proofs.YtfmdpkilgnccfaaDoor.E
attribute [local go_sem] max2_int min2_int max_two min_two max_three min_three max_four min_four   -- for this text's walks alone
set_option linter.unusedVariables false
set_option linter.unusedSimpArgs false

/-! ### wicketmanlaw02_ShaPads: function 5 -/
mutual
def wicketmanlaw02_ShaPads.j0 : Nat → Int → List Int → Bool → Option (Bool)
  | 0, _, _, _ => none
  | k + 1, x0, x3, x23 => if x23 = true then (none) else (wicketmanlaw02_ShaPads.l0 k x0 x3 0 (wrap64 ((x3.length : Int) - 8)))
def wicketmanlaw02_ShaPads.l0 : Nat → Int → List Int → Int → Int → Option (Bool)
  | 0, _, _, _, _ => none
  | k + 1, x0, x3, x4, x5 => if x5 < (x3.length : Int) then (if 0 ≤ x5 then (wicketmanlaw02_ShaPads.l0 k x0 x3 (IntKind.u64.wrap ((IntKind.u64.wrap (256 * x4)) + (IntKind.u64.wrap (rd x3 x5)))) (wrap64 (x5 + 1))) else (none)) else (wicketmanlaw02_ShaPads.l1 k x0 x3 x4 1)
def wicketmanlaw02_ShaPads.l1 : Nat → Int → List Int → Int → Int → Option (Bool)
  | 0, _, _, _, _ => none
  | k + 1, x0, x3, x4, x6 => if x6 < (wrap64 ((x3.length : Int) - 8)) then (if 0 ≤ x6 then (if x6 < (x3.length : Int) then (if (rd x3 x6) = 0 then (wicketmanlaw02_ShaPads.l1 k x0 x3 x4 (wrap64 (x6 + 1))) else (none)) else (none)) else (none)) else ((wicketmanlaw02_known.f).bind fun t107 => (if t107 = true then (if x4 = (IntKind.u64.wrap (8 * (IntKind.u64.wrap (x0)))) then (some ((Int.tmod (IntKind.u64.wrap ((IntKind.u64.wrap (x0)) + (IntKind.u64.wrap ((x3.length : Int))))) 64) == 0)) else (none)) else (none)))
end
def wicketmanlaw02_ShaPads.f (k : Nat) (a0 : Int) : Option (Bool) := (sha_Pad.f k (IntKind.u64.wrap (a0))).bind fun t101 => (if (t101.length : Int) < 9 then (wicketmanlaw02_ShaPads.j0 k a0 t101 true) else (if (t101.length : Int) > 72 then (wicketmanlaw02_ShaPads.j0 k a0 t101 true) else (if 0 < (t101.length : Int) then (wicketmanlaw02_ShaPads.j0 k a0 t101 ((rd t101 0) != 128)) else (none))))
theorem wicketmanlaw02_ShaPads.mono_l : ∀ k, (∀ y0 y1 y2, LeO (wicketmanlaw02_ShaPads.j0 k y0 y1 y2) (wicketmanlaw02_ShaPads.j0 (k + 1) y0 y1 y2)) ∧ (∀ y0 y1 y2 y3, LeO (wicketmanlaw02_ShaPads.l0 k y0 y1 y2 y3) (wicketmanlaw02_ShaPads.l0 (k + 1) y0 y1 y2 y3)) ∧ (∀ y0 y1 y2 y3, LeO (wicketmanlaw02_ShaPads.l1 k y0 y1 y2 y3) (wicketmanlaw02_ShaPads.l1 (k + 1) y0 y1 y2 y3))
  | 0 => ⟨fun _ _ _ r h => by simp [wicketmanlaw02_ShaPads.j0] at h, fun _ _ _ _ r h => by simp [wicketmanlaw02_ShaPads.l0] at h, fun _ _ _ _ r h => by simp [wicketmanlaw02_ShaPads.l1] at h⟩
  | k + 1 => by
    obtain ⟨ih0, ih1, ih2⟩ := wicketmanlaw02_ShaPads.mono_l k
    refine ⟨?_, ?_, ?_⟩
    · intro y0 y1 y2
      unfold wicketmanlaw02_ShaPads.j0
      repeat' first
      | (with_reducible exact ih0 _ _ _)
      | (with_reducible exact ih1 _ _ _ _)
      | (with_reducible exact ih2 _ _ _ _)
      | (with_reducible exact sha_Pad.mono _ _)
      | (with_reducible exact LeO.refl _)
      | (with_reducible exact LeO.none _)
      | (with_reducible refine LeO.ite ?_ ?_)
      | (with_reducible refine LeO.bind ?_ (fun _ => ?_))
      | exact ih0 _ _ _
      | exact ih1 _ _ _ _
      | exact ih2 _ _ _ _
      | exact sha_Pad.mono _ _
      | exact LeO.none _
      | refine LeO.ite ?_ ?_
      | refine LeO.bind ?_ (fun _ => ?_)
    · intro y0 y1 y2 y3
      unfold wicketmanlaw02_ShaPads.l0
      repeat' first
      | (with_reducible exact ih0 _ _ _)
      | (with_reducible exact ih1 _ _ _ _)
      | (with_reducible exact ih2 _ _ _ _)
      | (with_reducible exact sha_Pad.mono _ _)
      | (with_reducible exact LeO.refl _)
      | (with_reducible exact LeO.none _)
      | (with_reducible refine LeO.ite ?_ ?_)
      | (with_reducible refine LeO.bind ?_ (fun _ => ?_))
      | exact ih0 _ _ _
      | exact ih1 _ _ _ _
      | exact ih2 _ _ _ _
      | exact sha_Pad.mono _ _
      | exact LeO.none _
      | refine LeO.ite ?_ ?_
      | refine LeO.bind ?_ (fun _ => ?_)
    · intro y0 y1 y2 y3
      unfold wicketmanlaw02_ShaPads.l1
      repeat' first
      | (with_reducible exact ih0 _ _ _)
      | (with_reducible exact ih1 _ _ _ _)
      | (with_reducible exact ih2 _ _ _ _)
      | (with_reducible exact sha_Pad.mono _ _)
      | (with_reducible exact LeO.refl _)
      | (with_reducible exact LeO.none _)
      | (with_reducible refine LeO.ite ?_ ?_)
      | (with_reducible refine LeO.bind ?_ (fun _ => ?_))
      | exact ih0 _ _ _
      | exact ih1 _ _ _ _
      | exact ih2 _ _ _ _
      | exact sha_Pad.mono _ _
      | exact LeO.none _
      | refine LeO.ite ?_ ?_
      | refine LeO.bind ?_ (fun _ => ?_)
theorem wicketmanlaw02_ShaPads.mono : ∀ a0 k, LeO (wicketmanlaw02_ShaPads.f k a0) (wicketmanlaw02_ShaPads.f (k + 1) a0) := by
  intro a0 k
  obtain ⟨ih0, ih1, ih2⟩ := wicketmanlaw02_ShaPads.mono_l k
  unfold wicketmanlaw02_ShaPads.f
  repeat' first
      | (with_reducible exact ih0 _ _ _)
      | (with_reducible exact ih1 _ _ _ _)
      | (with_reducible exact ih2 _ _ _ _)
      | (with_reducible exact sha_Pad.mono _ _)
      | (with_reducible exact LeO.refl _)
      | (with_reducible exact LeO.none _)
      | (with_reducible refine LeO.ite ?_ ?_)
      | (with_reducible refine LeO.bind ?_ (fun _ => ?_))
      | exact ih0 _ _ _
      | exact ih1 _ _ _ _
      | exact ih2 _ _ _ _
      | exact sha_Pad.mono _ _
      | exact LeO.none _
      | refine LeO.ite ?_ ?_
      | refine LeO.bind ?_ (fun _ => ?_)
set_option maxHeartbeats 8000000 in
set_option maxRecDepth 1000000 in
theorem wicketmanlaw02_ShaPads.calls (k : Nat) (a0 : Int) (r : Bool) (w : World) (h : wicketmanlaw02_ShaPads.f k a0 = some r) (hG_ : RootsIn w) :
    Calls Tryd.prog 5 #[.int .u32 a0] w fun e w' => e = .returned (.bool r) ∧ Below w.heap.size w w' := by
  have HB := Aside0.mk (Below.refl w.heap.size w)
  have HGR := Aside0.mk hG_
  clear hG_
  have H : ((sha_Pad.f k (IntKind.u64.wrap (a0))).bind fun t101 => (if (t101.length : Int) < 9 then (wicketmanlaw02_ShaPads.j0 k a0 t101 true) else (if (t101.length : Int) > 72 then (wicketmanlaw02_ShaPads.j0 k a0 t101 true) else (if 0 < (t101.length : Int) then (wicketmanlaw02_ShaPads.j0 k a0 t101 ((rd t101 0) != 128)) else (none))))) = some r := h
  clear h
  replace H := Option.bind_eq_some_iff.mp H
  obtain ⟨t101, A20, H⟩ := H
  replace H : (if (t101.length : Int) < 9 then (wicketmanlaw02_ShaPads.j0 k a0 t101 true) else (if (t101.length : Int) > 72 then (wicketmanlaw02_ShaPads.j0 k a0 t101 true) else (if 0 < (t101.length : Int) then (wicketmanlaw02_ShaPads.j0 k a0 t101 ((rd t101 0) != 128)) else (none)))) = some r := H
  have A2 := Aside0.mk A20
  clear A20
  have HC3 := Aside0.mk H
  clear H
  go_enter Tryd.func5, Tryd.ntmps5
  go_upto_region 2 with (first | ((with_reducible refine gate_callee (f := 24) rfl ?_); refine goesL_ (some 9) rfl rfl Tryd.func24 (by kernel_rfl) rfl #[.int .u64 (IntKind.u64.wrap (a0))] rfl (by (try simp only [List.map_toArray, List.map_cons, List.map_nil]); first | done | rfl | (simp only [List.length_drop, List.length_take]; rfl)) ?_; (with_reducible refine (sha_Pad.calls k (IntKind.u64.wrap (a0)) t101 _ A2.out).mono ?_); rintro e w4 ⟨v102, rfl, ho0, hb⟩; refine ⟨_, rfl, ?_⟩; have n0_ := Aside0.mk (Kd.R_lower ho0 (below_size (by repeat (first | (with_reducible first | exact HB.out | apply below_alloc | apply pw_below_drewN | apply below_drew1) | exact HB.out)))); have n1_ := Aside0.mk (below_step (by repeat (first | (with_reducible first | exact HB.out | apply below_alloc | apply pw_below_drewN | apply below_drew1) | exact HB.out)) hb); clear HB; have HO103 := n0_; have HB := n1_; clear n0_ n1_; (try clear hb); (try clear hb2); (try clear hk); (try clear hi); (try clear ho0)))
  (try simp only [Act.put, List.setIfInBounds_toArray, List.set_cons_zero, List.set_cons_succ])
  go_cut [23] (fun v23 wc => ∃ (kq : Nat) (x23_2 : Bool), v23 = .bool x23_2 ∧ Aside0 (wicketmanlaw02_ShaPads.j0 kq a0 t101 x23_2 = some r) ∧ Aside0 (kq ≤ k) ∧ Aside0 (Kd.R (Kd.int .u8) 5 wc w.heap.size (fun _ => True) v102 t101) ∧ Aside0 (Below w.heap.size w wc))
  case first =>
    have H := HC3.out
    clear HC3
    by_cases c5 : (t101.length : Int) < 9
    · rw [if_pos c5] at H
      have c5b0 : decide ((t101.length : Int) < 9) = true := decide_eq_true c5
      have c5b1 : decide (t101.length < 9) = true := decide_eq_true (by omega)
      clear c5
      (first | rw [c5b0] | (simp only [i64_w, i32_w]; rw [c5b0]) | skip)
      have H' := Aside0.mk H
      clear H
      obtain ⟨Ao6, co6, eo6⟩ := Kd.R_slice HO103.out
      subst eo6
      go_wp2
      go_meet
      case rel => exact ⟨_, (true), (by first | rfl | (simp; done) | (simp [*]; done)), H', ⟨by first | omega | exact Nat.le_refl _⟩, ⟨by (with_reducible repeat (first | apply Kd.R_alloc | apply Kd.R_drewN | apply Kd.R_drew)); exact HO103.out⟩, ⟨by repeat (first | (with_reducible first | exact HB.out | apply below_alloc | apply pw_below_drewN | apply below_drew1) | exact HB.out)⟩⟩
    · rw [if_neg c5] at H
      have c5b0 : decide ((t101.length : Int) < 9) = false := decide_eq_false c5
      have c5b1 : decide (t101.length < 9) = false := decide_eq_false (by omega)
      clear c5
      (first | rw [c5b0] | (simp only [i64_w, i32_w]; rw [c5b0]) | skip)
      by_cases c7 : (t101.length : Int) > 72
      · rw [if_pos c7] at H
        have c7b0 : decide (72 < (t101.length : Int)) = true := decide_eq_true c7
        have c7b1 : decide (72 < t101.length) = true := decide_eq_true (by omega)
        clear c7
        have H' := Aside0.mk H
        clear H
        obtain ⟨Ao8, co8, eo8⟩ := Kd.R_slice HO103.out
        subst eo8
        go_wp2
        go_meet
        case rel => exact ⟨_, (true), (by first | rfl | (simp; done) | (simp [*]; done)), H', ⟨by first | omega | exact Nat.le_refl _⟩, ⟨by (with_reducible repeat (first | apply Kd.R_alloc | apply Kd.R_drewN | apply Kd.R_drew)); exact HO103.out⟩, ⟨by repeat (first | (with_reducible first | exact HB.out | apply below_alloc | apply pw_below_drewN | apply below_drew1) | exact HB.out)⟩⟩
      · rw [if_neg c7] at H
        have c7b0 : decide (72 < (t101.length : Int)) = false := decide_eq_false c7
        have c7b1 : decide (72 < t101.length) = false := decide_eq_false (by omega)
        clear c7
        by_cases c9 : 0 < (t101.length : Int)
        · rw [if_pos c9] at H
          have c9b0 : decide (0 < (t101.length : Int)) = true := decide_eq_true c9
          have c9b1 : decide (0 < t101.length) = true := decide_eq_true (by omega)
          clear c9
          have H' := Aside0.mk H
          clear H
          obtain ⟨Ao10, co10, eo10⟩ := Kd.R_slice HO103.out
          subst eo10
          have p104 : 0 ≤ (0 : Int) := (by omega)
          have q104 : 0 < (t101.length : Int) := of_decide_eq_true (by first | (with_reducible assumption) | assumption)
          obtain ⟨ad104, e104, hx104_0⟩ := Kd.at_int (Kd.R_reads' HO103.out).2.2 0 p104 q104
          cases e104
          have qi104 : (0 < t101.length) = True := eq_true (by omega)
          (try rw [show ((0 : Int)).toNat = 0 from rfl] at hx104_0)
          (try rw [Addr.add_zero'] at hx104_0)
          replace p104 := eq_true p104
          replace q104 := eq_true q104
          go_wp2
          go_meet
          case rel => exact ⟨_, (((rd t101 0) != 128)), (by first | rfl | (simp; done) | (simp [*]; done)), H', ⟨by first | omega | exact Nat.le_refl _⟩, ⟨by (with_reducible repeat (first | apply Kd.R_alloc | apply Kd.R_drewN | apply Kd.R_drew)); exact HO103.out⟩, ⟨by repeat (first | (with_reducible first | exact HB.out | apply below_alloc | apply pw_below_drewN | apply below_drew1) | exact HB.out)⟩⟩
        · rw [if_neg c9] at H
          exact absurd H (by simp)
  case rest =>
    clear HC3
    try clear p1
    try clear q1
    try clear hx1
    try clear qi1
    try clear c2
    try clear p2
    try clear c5
    try clear c5b0
    try clear c5b1
    try clear c7
    try clear c7b0
    try clear c7b1
    try clear c9
    try clear c9b0
    try clear c9b1
    try clear p10
    try clear q10
    try clear hx10
    try clear qi10
    try clear hx104_0
    try clear p104
    try clear q104
    obtain ⟨kq, x23_2, rfl, HA, HJ2, HO_3, HB⟩ := hcut
    cases kq with
    | zero => exact absurd HA.out (by simp [wicketmanlaw02_ShaPads.j0])
    | succ kj2 =>
      have H := HA.out
      clear HA
      simp only [wicketmanlaw02_ShaPads.j0] at H
      by_cases c11 : x23_2 = true
      · subst c11
        have H1 : (none) = some r := by rw [if_pos rfl] at H; exact H
        clear H
        have H := H1
        clear H1
        exact absurd H (by simp)
      · replace c11 := Bool.eq_false_iff.mpr c11
        subst c11
        have H1 : (wicketmanlaw02_ShaPads.l0 kj2 a0 t101 0 (wrap64 ((t101.length : Int) - 8))) = some r := by rw [if_neg (show ¬ (false = true) by decide)] at H; exact H
        clear H
        have H := H1
        clear H1
        have H' := Aside0.mk H
        clear H
        obtain ⟨Ao12, co12, eo12⟩ := Kd.R_slice HO_3.out
        subst eo12
        go_wp2
        go_loopg [4, 5] kj2 (fun kq v4 v5 w' => ∃ (x4_2 : Int) (x5_2 : Int), v4 = .int .u64 x4_2 ∧ v5 = .int .i64 x5_2 ∧ Aside0 (wicketmanlaw02_ShaPads.l0 kq a0 t101 x4_2 x5_2 = some r) ∧ Aside0 (kq ≤ kj2) ∧ Aside0 (Kd.R (Kd.int .u8) 5 w' w.heap.size (fun _ => True) (.slice Ao12 t101.length co12) t101) ∧ Aside0 (Below w.heap.size w w'))
        case atStart => exact ⟨(0), (wrap64 ((t101.length : Int) - 8)), (by first | rfl | (simp; done) | (simp [*]; done)), (by first | rfl | (simp; done) | (simp [*]; done)), H', ⟨Nat.le_refl _⟩, ⟨by (with_reducible repeat (first | apply Kd.R_alloc | apply Kd.R_drewN | apply Kd.R_drew)); exact HO_3.out⟩, ⟨by repeat (first | (with_reducible first | exact HB.out | apply below_alloc | apply pw_below_drewN | apply below_drew1) | exact HB.out)⟩⟩
        case round =>
          clear H'
          try clear c1
          try clear p1
          try clear q1
          try clear hx1
          try clear qi1
          try clear c2
          try clear p2
          try clear c5
          try clear c5b0
          try clear c5b1
          try clear p6
          try clear c7
          try clear c7b0
          try clear c7b1
          try clear c9
          try clear c9b0
          try clear c9b1
          try clear p10
          try clear q10
          try clear hx10
          try clear qi10
          try clear c11
          try clear hx104_0
          try clear p1
          try clear p10
          try clear p104
          try clear p2
          try clear q1
          try clear q10
          try clear q104
          obtain ⟨x4_2, x5_2, rfl, rfl, HA, HK2, HO_3, HB⟩ := hrel
          cases gk with
          | zero => exact absurd HA.out (by simp [wicketmanlaw02_ShaPads.l0])
          | succ k2 =>
            have H := HA.out
            clear HA
            simp only [wicketmanlaw02_ShaPads.l0] at H
            by_cases c13 : x5_2 < (t101.length : Int)
            · rw [if_pos c13] at H
              have c13b0 : decide (x5_2 < (t101.length : Int)) = true := decide_eq_true c13
              clear c13
              by_cases c14 : 0 ≤ x5_2
              · rw [if_pos c14] at H
                have c14b0 : decide (0 ≤ x5_2) = true := decide_eq_true c14
                clear c14
                have H' := Aside0.mk H
                clear H
                have p105 : 0 ≤ (x5_2 : Int) := of_decide_eq_true (by first | (with_reducible assumption) | assumption)
                have q105 : x5_2 < (t101.length : Int) := of_decide_eq_true (by first | (with_reducible assumption) | assumption)
                obtain ⟨ad105, e105, hx105_0⟩ := Kd.at_int (Kd.R_reads' HO_3.out).2.2 x5_2 p105 q105
                cases e105
                replace p105 := eq_true p105
                replace q105 := eq_true q105
                go_wp2
                go_roundg k2
                case measure => have := HJ2.out; have := HK2.out; omega
                case rel => exact ⟨(IntKind.u64.wrap ((IntKind.u64.wrap (256 * x4_2)) + (IntKind.u64.wrap (rd t101 x5_2)))), (wrap64 (x5_2 + 1)), (by first | rfl | (simp; done) | (simp [*]; done)), (by first | rfl | (simp; done) | (simp [*]; done)), H', ⟨by have := HJ2.out; have := HK2.out; omega⟩, ⟨by (with_reducible repeat (first | apply Kd.R_alloc | apply Kd.R_drewN | apply Kd.R_drew)); exact HO_3.out⟩, ⟨by repeat (first | (with_reducible first | exact HB.out | apply below_alloc | apply pw_below_drewN | apply below_drew1) | exact HB.out)⟩⟩
              · rw [if_neg c14] at H
                exact absurd H (by simp)
            · rw [if_neg c13] at H
              have c13b0 : decide (x5_2 < (t101.length : Int)) = false := decide_eq_false c13
              clear c13
              have H' := Aside0.mk H
              clear H
              go_wp2
              go_loopg [6] k2 (fun kq v6 w' => ∃ (x6_3 : Int), v6 = .int .i64 x6_3 ∧ Aside0 (wicketmanlaw02_ShaPads.l1 kq a0 t101 x4_2 x6_3 = some r) ∧ Aside0 (kq ≤ k2) ∧ Aside0 (Kd.R (Kd.int .u8) 5 w' w.heap.size (fun _ => True) (.slice Ao12 t101.length co12) t101) ∧ Aside0 (Below w.heap.size w w'))
              case atStart => exact ⟨(1), (by first | rfl | (simp; done) | (simp [*]; done)), H', ⟨Nat.le_refl _⟩, ⟨by (with_reducible repeat (first | apply Kd.R_alloc | apply Kd.R_drewN | apply Kd.R_drew)); exact HO_3.out⟩, ⟨by repeat (first | (with_reducible first | exact HB.out | apply below_alloc | apply pw_below_drewN | apply below_drew1) | exact HB.out)⟩⟩
              case round =>
                clear H'
                try clear c1
                try clear p1
                try clear q1
                try clear hx1
                try clear qi1
                try clear c2
                try clear p2
                try clear c5
                try clear c5b0
                try clear c5b1
                try clear p6
                try clear c7
                try clear c7b0
                try clear c7b1
                try clear c9
                try clear c9b0
                try clear c9b1
                try clear p10
                try clear q10
                try clear hx10
                try clear qi10
                try clear c11
                try clear c13
                try clear c13b0
                try clear c14
                try clear c14b0
                try clear hx104_0
                try clear hx105_0
                try clear p1
                try clear p10
                try clear p104
                try clear p105
                try clear p2
                try clear p6
                try clear q1
                try clear q10
                try clear q104
                try clear q105
                obtain ⟨x6_3, rfl, HA, HK3, HO_3, HB⟩ := hrel
                cases gk with
                | zero => exact absurd HA.out (by simp [wicketmanlaw02_ShaPads.l1])
                | succ k3 =>
                  have H := HA.out
                  clear HA
                  simp only [wicketmanlaw02_ShaPads.l1] at H
                  by_cases c15 : x6_3 < (wrap64 ((t101.length : Int) - 8))
                  · rw [if_pos c15] at H
                    have c15b0 : decide (x6_3 < (wrap64 ((t101.length : Int) - 8))) = true := decide_eq_true c15
                    clear c15
                    by_cases c16 : 0 ≤ x6_3
                    · rw [if_pos c16] at H
                      have c16b0 : decide (0 ≤ x6_3) = true := decide_eq_true c16
                      clear c16
                      by_cases c17 : x6_3 < (t101.length : Int)
                      · rw [if_pos c17] at H
                        have c17b0 : decide (x6_3 < (t101.length : Int)) = true := decide_eq_true c17
                        clear c17
                        by_cases c18 : (rd t101 x6_3) = 0
                        · rw [if_pos c18] at H
                          have c18b0 : ((rd t101 x6_3) == 0) = true := beq_iff_eq.mpr c18
                          have c18b1 : ((rd t101 x6_3) != 0) = false := bne_eq_false_iff_eq.mpr c18
                          clear c18
                          have H' := Aside0.mk H
                          clear H
                          have p106 : 0 ≤ (x6_3 : Int) := of_decide_eq_true (by first | (with_reducible assumption) | assumption)
                          have q106 : x6_3 < (t101.length : Int) := of_decide_eq_true (by first | (with_reducible assumption) | assumption)
                          obtain ⟨ad106, e106, hx106_0⟩ := Kd.at_int (Kd.R_reads' HO_3.out).2.2 x6_3 p106 q106
                          cases e106
                          replace p106 := eq_true p106
                          replace q106 := eq_true q106
                          go_wp2
                          go_roundg k3
                          case measure => have := HJ2.out; have := HK2.out; have := HK3.out; omega
                          case rel => exact ⟨(wrap64 (x6_3 + 1)), (by first | rfl | (simp; done) | (simp [*]; done)), H', ⟨by have := HJ2.out; have := HK2.out; have := HK3.out; omega⟩, ⟨by (with_reducible repeat (first | apply Kd.R_alloc | apply Kd.R_drewN | apply Kd.R_drew)); exact HO_3.out⟩, ⟨by repeat (first | (with_reducible first | exact HB.out | apply below_alloc | apply pw_below_drewN | apply below_drew1) | exact HB.out)⟩⟩
                        · rw [if_neg c18] at H
                          exact absurd H (by simp)
                      · rw [if_neg c17] at H
                        exact absurd H (by simp)
                    · rw [if_neg c16] at H
                      exact absurd H (by simp)
                  · rw [if_neg c15] at H
                    have c15b0 : decide (x6_3 < (wrap64 ((t101.length : Int) - 8))) = false := decide_eq_false c15
                    clear c15
                    replace H := Option.bind_eq_some_iff.mp H
                    obtain ⟨t107, A190, H⟩ := H
                    replace H : (if t107 = true then (if x4_2 = (IntKind.u64.wrap (8 * (IntKind.u64.wrap (a0)))) then (some ((Int.tmod (IntKind.u64.wrap ((IntKind.u64.wrap (a0)) + (IntKind.u64.wrap ((t101.length : Int))))) 64) == 0)) else (none)) else (none)) = some r := H
                    have A19 := Aside0.mk A190
                    clear A190
                    by_cases c20 : t107 = true
                    · subst c20
                      have H1 : (if x4_2 = (IntKind.u64.wrap (8 * (IntKind.u64.wrap (a0)))) then (some ((Int.tmod (IntKind.u64.wrap ((IntKind.u64.wrap (a0)) + (IntKind.u64.wrap ((t101.length : Int))))) 64) == 0)) else (none)) = some r := by rw [if_pos rfl] at H; exact H
                      clear H
                      have H := H1
                      clear H1
                      by_cases c21 : x4_2 = (IntKind.u64.wrap (8 * (IntKind.u64.wrap (a0))))
                      · rw [if_pos c21] at H
                        have c21b0 : (x4_2 == (IntKind.u64.wrap (8 * (IntKind.u64.wrap (a0))))) = true := beq_iff_eq.mpr c21
                        have c21b1 : (x4_2 != (IntKind.u64.wrap (8 * (IntKind.u64.wrap (a0))))) = false := bne_eq_false_iff_eq.mpr c21
                        clear c21
                        obtain rfl := Option.some.inj H
                        go_wp2_with (first | ((with_reducible refine gate_callee (f := 21) rfl ?_); refine goesL_ (some 53) rfl rfl Tryd.func21 (by kernel_rfl) rfl #[] rfl (by (try simp only [List.map_toArray, List.map_cons, List.map_nil]); first | done | rfl | (simp only [List.length_drop, List.length_take]; rfl)) ?_; (with_reducible refine (wicketmanlaw02_known.calls  true _ A19.out (HGR.out.below rfl (by repeat (first | (with_reducible first | exact HB.out | apply below_alloc | apply pw_below_drewN | apply below_drew1) | exact HB.out | exact Aside0.out (by assumption))))).mono ?_); rintro e w22 ⟨rfl, hb⟩; refine ⟨_, rfl, ?_⟩; have n0_ := Aside0.mk (Kd.R_below (by (with_reducible repeat (first | apply Kd.R_alloc | apply Kd.R_drewN | apply Kd.R_drew)); exact HO_3.out) hb); have n1_ := Aside0.mk (below_step (by repeat (first | (with_reducible first | exact HB.out | apply below_alloc | apply pw_below_drewN | apply below_drew1) | exact HB.out)) hb); clear HO_3; clear HB; have HO_3 := n0_; have HB := n1_; clear n0_ n1_; (try clear hb); (try clear hb2); (try clear hk); (try clear hi)))
                        go_ret
                        exact ⟨by first | rfl | (simp [errW_none, errW_some] <;> rfl) | (simp [*, errW_none, errW_some] <;> rfl), by repeat (first | (with_reducible first | exact HB.out | apply below_alloc | apply pw_below_drewN | apply below_drew1) | exact HB.out)⟩
                      · rw [if_neg c21] at H
                        exact absurd H (by simp)
                    · replace c20 := Bool.eq_false_iff.mpr c20
                      subst c20
                      have H1 : (none) = some r := by rw [if_neg (show ¬ (false = true) by decide)] at H; exact H
                      clear H
                      have H := H1
                      clear H1
                      exact absurd H (by simp)

/-- THE ONE PURE STATEMENT of wicketmanlaw02_ShaPads: yours. -/
def wicketmanlaw02_ShaPads.Pure : Prop := ∀ (a0 : Int), (Lit.int .u32 a0).wf = true → ∃ k, wicketmanlaw02_ShaPads.f k a0 = some true
theorem wicketmanlaw02_ShaPads.walk (P : wicketmanlaw02_ShaPads.Pure) (a0 : Int) (w : World) (w0 : (Lit.int .u32 a0).wf = true) (hG_ : RootsIn w) :
    Calls Tryd.prog 5 #[.int .u32 a0] w fun e w' => e = .returned (.bool true) ∧ Below w.heap.size w w' := by
  obtain ⟨k, h⟩ := P a0 w0
  refine (wicketmanlaw02_ShaPads.calls k a0 true w h hG_).mono ?_
  rintro e w' ⟨rfl, hd⟩
  exact ⟨rfl, hd⟩

end Go.Proofs.YtfmdpkilgnccfaaDoor.Pr
