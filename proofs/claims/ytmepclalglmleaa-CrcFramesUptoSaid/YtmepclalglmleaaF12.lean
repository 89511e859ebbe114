-- Written for this claim by wip/myprint.py, this session's driver over the kit's print.py. Not trusted: Lean checks it.
import Derived.Test.YtmepclalglmleaaF
import Derived.Test.YtmepclalglmleaaC3
import Derived.Test.YtmepclalglmleaaC5
import Derived.Test.YtmepclalglmleaaCB
import Derived.Test.YtmepclalglmleaaF28
import Derived.Test.YtmepclalglmleaaF29
import Derived.Test.YtmepclalglmleaaF30
import Derived.Test.YtmepclalglmleaaF31
namespace Go.Proofs.Ytmepclalglmleaa.Pr
open Go.RowKit Go.Proofs.YtmepclalglmleaaW.PrintWords Go.Proofs.YtmepclalglmleaaW.PrintLast Go.Proofs.YtmepclalglmleaaW.PrintMore Go.Proofs.Ytmepclalglmleaa.E
attribute [local go_sem] max2_int min2_int max_two min_two max_three min_three max_four min_four   -- for this text's walks alone
set_option linter.unusedVariables false
set_option linter.unusedSimpArgs false

/-! ### wicketmanlaw13_CrcFrames: function 12 -/
mutual
def wicketmanlaw13_CrcFrames.j0 : Nat → List Int → Int → List (List Int) → Int → Int → Int → Bool → Option (Bool)
  | 0, _, _, _, _, _, _, _ => none
  | k + 1, x0, x1, x2, x3, x4, x5, x29 => if x29 = true then ((wicketmanlaw13_known.f).bind fun t103 => (some t103)) else ((crc_Frame.f x1 x0).bind fun bt104 => ((wicketmanref13_Frame.f k x1 x0).bind fun bt108 => ((wicketmanlaw13_row.f k x1 x2).bind fun t112 => (if ([] : List Int).length + t112.length < 140737488355328 then ((some (([] : List Int) ++ t112 : List Int)).bind fun y115 => (if (y115.length : Int) > 0 then (if (y115.length : Int) = 0 then (none) else (if 0 ≤ (Int.tmod (wrap64 (x3)) (y115.length : Int)) then (if (Int.tmod (wrap64 (x3)) (y115.length : Int)) < (y115.length : Int) then (wicketmanlaw13_CrcFrames.j1 k x0 x1 x5 bt104.1 bt104.2 bt108.1 bt108.2 t112 (y115.set ((Int.tmod (wrap64 (x3)) (y115.length : Int)) : Int).toNat x4)) else (none)) else (none))) else (wicketmanlaw13_CrcFrames.j1 k x0 x1 x5 bt104.1 bt104.2 bt108.1 bt108.2 t112 y115))) else (none)))))
def wicketmanlaw13_CrcFrames.j1 : Nat → List Int → Int → Int → List Int → Int → List Int → Int → List Int → List Int → Option (Bool)
  | 0, _, _, _, _, _, _, _, _, _ => none
  | k + 1, x0, x1, x5, x13, x14, x15, x16, x17, x18 => if (strOfNums x13).toList = (strOfNums x15).toList then (if (wrap64 (x14)) = x16 then ((crc_Sum.f x0).bind fun t119 => ((wicketmanref13_Sum.f k x0).bind fun t120 => (if t119 = t120 then ((wicketmanlaw13_reads.f x0 x1).bind fun t121 => (if t121 = true then ((wicketmanlaw13_reads.f x15 x1).bind fun t122 => (if t122 = true then ((wicketmanlaw13_reads.f x17 x1).bind fun t123 => (if t123 = true then ((wicketmanlaw13_reads.f x18 x1).bind fun t124 => (if t124 = true then (if 0 ≤ (wrap64 ((x17.length : Int) - (mn (x17.length : Int) (wrap64 (x5))))) then (if (wrap64 ((x17.length : Int) - (mn (x17.length : Int) (wrap64 (x5))))) ≤ (x17.length : Int) then ((wicketmanlaw13_reads.f (x17.take ((wrap64 ((x17.length : Int) - (mn (x17.length : Int) (wrap64 (x5))))) : Int).toNat) x1).bind fun t129 => (if t129 = true then ((wicketmanlaw13_reads.f x17 (IntKind.u64.wrap (x1 + 1))).bind fun t130 => (some t130)) else (none))) else (none)) else (none)) else (none))) else (none))) else (none))) else (none))) else (none)))) else (none)) else (none)
end
def wicketmanlaw13_CrcFrames.f (k : Nat) (l0 : List Int) (a1 : Int) (l2 : List (List Int)) (a3 : Int) (a4 : Int) (a5 : Int) : Option (Bool) := if (l0.length : Int) > 300 then (wicketmanlaw13_CrcFrames.j0 k l0 a1 l2 a3 a4 a5 true) else ((wicketmanlaw13_big.f k l2).bind fun t101 => (if t101 = true then (wicketmanlaw13_CrcFrames.j0 k l0 a1 l2 a3 a4 a5 true) else ((wicketmanlaw13_known.f).bind fun t102 => (wicketmanlaw13_CrcFrames.j0 k l0 a1 l2 a3 a4 a5 (!t102)))))
theorem wicketmanlaw13_CrcFrames.mono_l : ∀ k, (∀ y0 y1 y2 y3 y4 y5 y6, LeO (wicketmanlaw13_CrcFrames.j0 k y0 y1 y2 y3 y4 y5 y6) (wicketmanlaw13_CrcFrames.j0 (k + 1) y0 y1 y2 y3 y4 y5 y6)) ∧ (∀ y0 y1 y2 y3 y4 y5 y6 y7 y8, LeO (wicketmanlaw13_CrcFrames.j1 k y0 y1 y2 y3 y4 y5 y6 y7 y8) (wicketmanlaw13_CrcFrames.j1 (k + 1) y0 y1 y2 y3 y4 y5 y6 y7 y8))
  | 0 => ⟨fun _ _ _ _ _ _ _ r h => by simp [wicketmanlaw13_CrcFrames.j0] at h, fun _ _ _ _ _ _ _ _ _ r h => by simp [wicketmanlaw13_CrcFrames.j1] at h⟩
  | k + 1 => by
    obtain ⟨ih0, ih1⟩ := wicketmanlaw13_CrcFrames.mono_l k
    refine ⟨?_, ?_⟩
    · intro y0 y1 y2 y3 y4 y5 y6
      unfold wicketmanlaw13_CrcFrames.j0
      repeat' first
      | (with_reducible exact ih0 _ _ _ _ _ _ _)
      | (with_reducible exact ih1 _ _ _ _ _ _ _ _ _)
      | (with_reducible exact wicketmanlaw13_big.mono _ _)
      | (with_reducible exact wicketmanlaw13_row.mono _ _ _)
      | (with_reducible exact wicketmanref13_Frame.mono _ _ _)
      | (with_reducible exact wicketmanref13_Sum.mono _ _)
      | (with_reducible exact LeO.refl _)
      | (with_reducible exact LeO.none _)
      | (with_reducible refine LeO.ite ?_ ?_)
      | (with_reducible refine LeO.bind ?_ (fun _ => ?_))
      | exact ih0 _ _ _ _ _ _ _
      | exact ih1 _ _ _ _ _ _ _ _ _
      | exact wicketmanlaw13_big.mono _ _
      | exact wicketmanlaw13_row.mono _ _ _
      | exact wicketmanref13_Frame.mono _ _ _
      | exact wicketmanref13_Sum.mono _ _
      | exact LeO.none _
      | refine LeO.ite ?_ ?_
      | refine LeO.bind ?_ (fun _ => ?_)
    · intro y0 y1 y2 y3 y4 y5 y6 y7 y8
      unfold wicketmanlaw13_CrcFrames.j1
      repeat' first
      | (with_reducible exact ih0 _ _ _ _ _ _ _)
      | (with_reducible exact ih1 _ _ _ _ _ _ _ _ _)
      | (with_reducible exact wicketmanlaw13_big.mono _ _)
      | (with_reducible exact wicketmanlaw13_row.mono _ _ _)
      | (with_reducible exact wicketmanref13_Frame.mono _ _ _)
      | (with_reducible exact wicketmanref13_Sum.mono _ _)
      | (with_reducible exact LeO.refl _)
      | (with_reducible exact LeO.none _)
      | (with_reducible refine LeO.ite ?_ ?_)
      | (with_reducible refine LeO.bind ?_ (fun _ => ?_))
      | exact ih0 _ _ _ _ _ _ _
      | exact ih1 _ _ _ _ _ _ _ _ _
      | exact wicketmanlaw13_big.mono _ _
      | exact wicketmanlaw13_row.mono _ _ _
      | exact wicketmanref13_Frame.mono _ _ _
      | exact wicketmanref13_Sum.mono _ _
      | exact LeO.none _
      | refine LeO.ite ?_ ?_
      | refine LeO.bind ?_ (fun _ => ?_)
theorem wicketmanlaw13_CrcFrames.mono : ∀ a0 a1 a2 a3 a4 a5 k, LeO (wicketmanlaw13_CrcFrames.f k a0 a1 a2 a3 a4 a5) (wicketmanlaw13_CrcFrames.f (k + 1) a0 a1 a2 a3 a4 a5) := by
  intro a0 a1 a2 a3 a4 a5 k
  obtain ⟨ih0, ih1⟩ := wicketmanlaw13_CrcFrames.mono_l k
  unfold wicketmanlaw13_CrcFrames.f
  repeat' first
      | (with_reducible exact ih0 _ _ _ _ _ _ _)
      | (with_reducible exact ih1 _ _ _ _ _ _ _ _ _)
      | (with_reducible exact wicketmanlaw13_big.mono _ _)
      | (with_reducible exact wicketmanlaw13_row.mono _ _ _)
      | (with_reducible exact wicketmanref13_Frame.mono _ _ _)
      | (with_reducible exact wicketmanref13_Sum.mono _ _)
      | (with_reducible exact LeO.refl _)
      | (with_reducible exact LeO.none _)
      | (with_reducible refine LeO.ite ?_ ?_)
      | (with_reducible refine LeO.bind ?_ (fun _ => ?_))
      | exact ih0 _ _ _ _ _ _ _
      | exact ih1 _ _ _ _ _ _ _ _ _
      | exact wicketmanlaw13_big.mono _ _
      | exact wicketmanlaw13_row.mono _ _ _
      | exact wicketmanref13_Frame.mono _ _ _
      | exact wicketmanref13_Sum.mono _ _
      | exact LeO.none _
      | refine LeO.ite ?_ ?_
      | refine LeO.bind ?_ (fun _ => ?_)
set_option maxHeartbeats 8000000 in
set_option maxRecDepth 1000000 in
theorem wicketmanlaw13_CrcFrames.calls (k : Nat) (A0 : Option Addr) (c0 : Nat) (l0 : List Int) (a1 : Int) (A2 : Option Addr) (c2 : Nat) (l2 : List (List Int)) (a3 : Int) (a4 : Int) (a5 : Int) (r : Bool) (w : World) (hr0 : Kd.C (Kd.int .u8) w A0 l0.length l0) (hc0 : l0.length ≤ c0) (hr2 : Kd.C (Kd.slice 5 (Kd.int .u8)) w A2 l2.length l2) (hc2 : l2.length ≤ c2) (h : wicketmanlaw13_CrcFrames.f k l0 a1 l2 a3 a4 a5 = some r) :
    Calls Try.prog 12 #[.slice A0 l0.length c0, .int .u64 a1, .slice A2 l2.length c2, .int .u16 a3, .int .u8 a4, .int .u8 a5] w fun e w' => e = .returned (.bool r) ∧ Below w.heap.size w w' := by
  have HR0 := Aside0.mk hr0
  have HC0 := Aside0.mk hc0
  clear hr0 hc0
  have HR2 := Aside0.mk hr2
  have HC2 := Aside0.mk hc2
  clear hr2 hc2
  have HB := Aside0.mk (Below.refl w.heap.size w)
  have H : (if (l0.length : Int) > 300 then (wicketmanlaw13_CrcFrames.j0 k l0 a1 l2 a3 a4 a5 true) else ((wicketmanlaw13_big.f k l2).bind fun t101 => (if t101 = true then (wicketmanlaw13_CrcFrames.j0 k l0 a1 l2 a3 a4 a5 true) else ((wicketmanlaw13_known.f).bind fun t102 => (wicketmanlaw13_CrcFrames.j0 k l0 a1 l2 a3 a4 a5 (!t102)))))) = some r := h
  clear h
  have HC7 := Aside0.mk H
  clear H
  go_enter Try.func12, Try.ntmps12
  go_upto_region 1 with (fail)
  go_cut [29] (fun v29 wc => ∃ (kq : Nat) (x29_6 : Bool), v29 = .bool x29_6 ∧ Aside0 (wicketmanlaw13_CrcFrames.j0 kq l0 a1 l2 a3 a4 a5 x29_6 = some r) ∧ Aside0 (kq ≤ k) ∧ Aside0 (Below w.heap.size w wc))
  case first =>
    have H := HC7.out
    clear HC7
    by_cases c8 : (l0.length : Int) > 300
    · rw [if_pos c8] at H
      have c8b0 : decide (300 < (l0.length : Int)) = true := decide_eq_true c8
      have c8b1 : decide (300 < l0.length) = true := decide_eq_true (by omega)
      clear c8
      (first | rw [c8b0] | (simp only [i64_w, i32_w]; rw [c8b0]) | skip)
      have H' := Aside0.mk H
      clear H
      go_wp2
      go_meet
      case rel => exact ⟨_, (true), (by first | rfl | (simp; done) | (simp [*]; done)), H', ⟨by first | omega | exact Nat.le_refl _⟩, ⟨by repeat (first | (with_reducible first | exact HB.out | apply below_alloc | apply pw_below_drewN | apply below_drew1) | exact HB.out)⟩⟩
    · rw [if_neg c8] at H
      have c8b0 : decide (300 < (l0.length : Int)) = false := decide_eq_false c8
      have c8b1 : decide (300 < l0.length) = false := decide_eq_false (by omega)
      clear c8
      (first | rw [c8b0] | (simp only [i64_w, i32_w]; rw [c8b0]) | skip)
      replace H := Option.bind_eq_some_iff.mp H
      obtain ⟨t101, A90, H⟩ := H
      replace H : (if t101 = true then (wicketmanlaw13_CrcFrames.j0 k l0 a1 l2 a3 a4 a5 true) else ((wicketmanlaw13_known.f).bind fun t102 => (wicketmanlaw13_CrcFrames.j0 k l0 a1 l2 a3 a4 a5 (!t102)))) = some r := H
      have A9 := Aside0.mk A90
      clear A90
      by_cases c10 : t101 = true
      · subst c10
        have H1 : (wicketmanlaw13_CrcFrames.j0 k l0 a1 l2 a3 a4 a5 true) = some r := by rw [if_pos rfl] at H; exact H
        clear H
        have H := H1
        clear H1
        have H' := Aside0.mk H
        clear H
        go_wp2_with (first | (go_at_call 28; (with_reducible refine (wicketmanlaw13_big.calls k _ _ l2 true _ ?side1 ?side2 A9.out).mono ?_); (case side1 => repeat (first | exact (Kd.C_below HR2.out HB.out) | (with_reducible refine Kd.C_alloc ?_ _) | (with_reducible refine Kd.C_drewN ?_ _) | (with_reducible refine Kd.C_drew ?_))); (case side2 => exact HC2.out); rintro e w' ⟨rfl, ⟨nd, rfl⟩⟩))
        go_meet
        case rel => exact ⟨_, (true), (by first | rfl | (simp; done) | (simp [*]; done)), H', ⟨by first | omega | exact Nat.le_refl _⟩, ⟨by repeat (first | (with_reducible first | exact HB.out | apply below_alloc | apply pw_below_drewN | apply below_drew1) | exact HB.out)⟩⟩
      · replace c10 := Bool.eq_false_iff.mpr c10
        subst c10
        have H1 : ((wicketmanlaw13_known.f).bind fun t102 => (wicketmanlaw13_CrcFrames.j0 k l0 a1 l2 a3 a4 a5 (!t102))) = some r := by rw [if_neg (show ¬ (false = true) by decide)] at H; exact H
        clear H
        have H := H1
        clear H1
        replace H := Option.bind_eq_some_iff.mp H
        obtain ⟨t102, A110, H⟩ := H
        replace H : (wicketmanlaw13_CrcFrames.j0 k l0 a1 l2 a3 a4 a5 (!t102)) = some r := H
        have A11 := Aside0.mk A110
        clear A110
        have H' := Aside0.mk H
        clear H
        go_wp2_with (first | (go_at_call 28; (with_reducible refine (wicketmanlaw13_big.calls k _ _ l2 false _ ?side1 ?side2 A9.out).mono ?_); (case side1 => repeat (first | exact (Kd.C_below HR2.out HB.out) | (with_reducible refine Kd.C_alloc ?_ _) | (with_reducible refine Kd.C_drewN ?_ _) | (with_reducible refine Kd.C_drew ?_))); (case side2 => exact HC2.out); rintro e w' ⟨rfl, ⟨nd, rfl⟩⟩) | (go_at_call 24; (with_reducible refine (wicketmanlaw13_known.calls  t102 _ A11.out).mono ?_); rintro e w12 ⟨rfl, hb⟩; have n0_ := Aside0.mk (below_step (by repeat (first | (with_reducible first | exact HB.out | apply below_alloc | apply pw_below_drewN | apply below_drew1) | exact HB.out)) hb); clear HB; have HB := n0_; clear n0_; (try clear hb); (try clear hb2); (try clear hk); (try clear hi)))
        go_meet
        case rel => exact ⟨_, (!t102), (by first | rfl | (simp; done) | (simp [*]; done)), H', ⟨by first | omega | exact Nat.le_refl _⟩, ⟨by repeat (first | (with_reducible first | exact HB.out | apply below_alloc | apply pw_below_drewN | apply below_drew1) | exact HB.out)⟩⟩
  case rest =>
    clear HC7
    try clear c1
    try clear c2
    try clear p2
    try clear c8
    try clear c8b0
    try clear c8b1
    try clear c10
    try clear c12
    obtain ⟨kq, x29_6, rfl, HA, HJ6, HB⟩ := hcut
    cases kq with
    | zero => exact absurd HA.out (by simp [wicketmanlaw13_CrcFrames.j0])
    | succ kj6 =>
      have H := HA.out
      clear HA
      simp only [wicketmanlaw13_CrcFrames.j0] at H
      by_cases c13 : x29_6 = true
      · subst c13
        have H1 : ((wicketmanlaw13_known.f).bind fun t103 => (some t103)) = some r := by rw [if_pos rfl] at H; exact H
        clear H
        have H := H1
        clear H1
        replace H := Option.bind_eq_some_iff.mp H
        obtain ⟨t103, A140, H⟩ := H
        replace H : (some t103) = some r := H
        have A14 := Aside0.mk A140
        clear A140
        obtain rfl := Option.some.inj H
        go_wp2_with (first | ((with_reducible refine gate_callee (f := 24) rfl ?_); refine goesL_ (some 30) rfl rfl Try.func24 (by kernel_rfl) rfl #[] rfl (by (try simp only [List.map_toArray, List.map_cons, List.map_nil]); first | done | rfl | (simp only [List.length_drop, List.length_take]; rfl)) ?_; (with_reducible refine (wicketmanlaw13_known.calls  t103 _ A14.out).mono ?_); rintro e w15 ⟨rfl, hb⟩; refine ⟨_, rfl, ?_⟩; have n0_ := Aside0.mk (below_step (by repeat (first | (with_reducible first | exact HB.out | apply below_alloc | apply pw_below_drewN | apply below_drew1) | exact HB.out)) hb); clear HB; have HB := n0_; clear n0_; (try clear hb); (try clear hb2); (try clear hk); (try clear hi)))
        go_ret
        exact ⟨by first | rfl | (simp [errW_none, errW_some] <;> rfl) | (simp [*, errW_none, errW_some] <;> rfl), by repeat (first | (with_reducible first | exact HB.out | apply below_alloc | apply pw_below_drewN | apply below_drew1) | exact HB.out)⟩
      · replace c13 := Bool.eq_false_iff.mpr c13
        subst c13
        have H1 : ((crc_Frame.f a1 l0).bind fun bt104 => ((wicketmanref13_Frame.f kj6 a1 l0).bind fun bt108 => ((wicketmanlaw13_row.f kj6 a1 l2).bind fun t112 => (if ([] : List Int).length + t112.length < 140737488355328 then ((some (([] : List Int) ++ t112 : List Int)).bind fun y115 => (if (y115.length : Int) > 0 then (if (y115.length : Int) = 0 then (none) else (if 0 ≤ (Int.tmod (wrap64 (a3)) (y115.length : Int)) then (if (Int.tmod (wrap64 (a3)) (y115.length : Int)) < (y115.length : Int) then (wicketmanlaw13_CrcFrames.j1 kj6 l0 a1 a5 bt104.1 bt104.2 bt108.1 bt108.2 t112 (y115.set ((Int.tmod (wrap64 (a3)) (y115.length : Int)) : Int).toNat a4)) else (none)) else (none))) else (wicketmanlaw13_CrcFrames.j1 kj6 l0 a1 a5 bt104.1 bt104.2 bt108.1 bt108.2 t112 y115))) else (none))))) = some r := by rw [if_neg (show ¬ (false = true) by decide)] at H; exact H
        clear H
        have H := H1
        clear H1
        replace H := Option.bind_eq_some_iff.mp H
        obtain ⟨⟨t104, t105⟩, A160, H⟩ := H
        replace H : ((wicketmanref13_Frame.f kj6 a1 l0).bind fun bt108 => ((wicketmanlaw13_row.f kj6 a1 l2).bind fun t112 => (if ([] : List Int).length + t112.length < 140737488355328 then ((some (([] : List Int) ++ t112 : List Int)).bind fun y115 => (if (y115.length : Int) > 0 then (if (y115.length : Int) = 0 then (none) else (if 0 ≤ (Int.tmod (wrap64 (a3)) (y115.length : Int)) then (if (Int.tmod (wrap64 (a3)) (y115.length : Int)) < (y115.length : Int) then (wicketmanlaw13_CrcFrames.j1 kj6 l0 a1 a5 t104 t105 bt108.1 bt108.2 t112 (y115.set ((Int.tmod (wrap64 (a3)) (y115.length : Int)) : Int).toNat a4)) else (none)) else (none))) else (wicketmanlaw13_CrcFrames.j1 kj6 l0 a1 a5 t104 t105 bt108.1 bt108.2 t112 y115))) else (none)))) = some r := H
        have A16 := Aside0.mk A160
        clear A160
        replace H := Option.bind_eq_some_iff.mp H
        obtain ⟨⟨t108, t109⟩, A170, H⟩ := H
        replace H : ((wicketmanlaw13_row.f kj6 a1 l2).bind fun t112 => (if ([] : List Int).length + t112.length < 140737488355328 then ((some (([] : List Int) ++ t112 : List Int)).bind fun y115 => (if (y115.length : Int) > 0 then (if (y115.length : Int) = 0 then (none) else (if 0 ≤ (Int.tmod (wrap64 (a3)) (y115.length : Int)) then (if (Int.tmod (wrap64 (a3)) (y115.length : Int)) < (y115.length : Int) then (wicketmanlaw13_CrcFrames.j1 kj6 l0 a1 a5 t104 t105 t108 t109 t112 (y115.set ((Int.tmod (wrap64 (a3)) (y115.length : Int)) : Int).toNat a4)) else (none)) else (none))) else (wicketmanlaw13_CrcFrames.j1 kj6 l0 a1 a5 t104 t105 t108 t109 t112 y115))) else (none))) = some r := H
        have A17 := Aside0.mk A170
        clear A170
        replace H := Option.bind_eq_some_iff.mp H
        obtain ⟨t112, A180, H⟩ := H
        replace H : (if ([] : List Int).length + t112.length < 140737488355328 then ((some (([] : List Int) ++ t112 : List Int)).bind fun y115 => (if (y115.length : Int) > 0 then (if (y115.length : Int) = 0 then (none) else (if 0 ≤ (Int.tmod (wrap64 (a3)) (y115.length : Int)) then (if (Int.tmod (wrap64 (a3)) (y115.length : Int)) < (y115.length : Int) then (wicketmanlaw13_CrcFrames.j1 kj6 l0 a1 a5 t104 t105 t108 t109 t112 (y115.set ((Int.tmod (wrap64 (a3)) (y115.length : Int)) : Int).toNat a4)) else (none)) else (none))) else (wicketmanlaw13_CrcFrames.j1 kj6 l0 a1 a5 t104 t105 t108 t109 t112 y115))) else (none)) = some r := H
        have A18 := Aside0.mk A180
        clear A180
        by_cases c19 : ([] : List Int).length + t112.length < 140737488355328
        · rw [if_pos c19] at H
          have LMc19 := Aside0.mk c19
          clear c19
          obtain ⟨y115, hy115⟩ : ∃ y_ : List Int, y_ = (([] : List Int) ++ t112) := ⟨_, rfl⟩
          replace H : (if (y115.length : Int) > 0 then (if (y115.length : Int) = 0 then (none) else (if 0 ≤ (Int.tmod (wrap64 (a3)) (y115.length : Int)) then (if (Int.tmod (wrap64 (a3)) (y115.length : Int)) < (y115.length : Int) then (wicketmanlaw13_CrcFrames.j1 kj6 l0 a1 a5 t104 t105 t108 t109 t112 (y115.set ((Int.tmod (wrap64 (a3)) (y115.length : Int)) : Int).toNat a4)) else (none)) else (none))) else (wicketmanlaw13_CrcFrames.j1 kj6 l0 a1 a5 t104 t105 t108 t109 t112 y115)) = some r := by first | (rw [hy115]; with_reducible exact H) | (have H2_ := (Option.bind_some _ _).symm.trans H; rw [hy115]; with_reducible exact H2_) | (have H2_ := (Option.bind_some _ _).symm.trans H; with_reducible exact H2_) | with_reducible exact H | (rw [hy115]; exact H) | exact H
          have Ny115 := Aside0.mk hy115
          clear hy115
          have HC20 := Aside0.mk H
          clear H
          go_upto_if 51 with (first | ((with_reducible refine gate_callee (f := 25) rfl ?_); refine goesL_ (some 34) rfl rfl Try.func25 (by kernel_rfl) rfl #[.int .u64 a1, .slice A0 l0.length c0] rfl (by (try simp only [List.map_toArray, List.map_cons, List.map_nil]); first | done | rfl | (simp only [List.length_drop, List.length_take]; rfl)) ?_; (with_reducible refine (crc_Frame.calls a1 _ _ l0 t104 t105 _ ?side1 ?side2 A16.out).mono ?_); (case side1 => repeat (first | exact (Kd.C_below HR0.out HB.out) | (with_reducible refine Kd.C_alloc ?_ _) | (with_reducible refine Kd.C_drewN ?_ _) | (with_reducible refine Kd.C_drew ?_))); (case side2 => exact HC0.out); rintro e w21 ⟨v106, rfl, ho0, hb⟩; refine ⟨_, rfl, ?_⟩; have n0_ := Aside0.mk (Kd.R_lower ho0 (below_size (by repeat (first | (with_reducible first | exact HB.out | apply below_alloc | apply pw_below_drewN | apply below_drew1) | exact HB.out)))); have n1_ := Aside0.mk (below_step (by repeat (first | (with_reducible first | exact HB.out | apply below_alloc | apply pw_below_drewN | apply below_drew1) | exact HB.out)) hb); clear HB; have HO107 := n0_; have HB := n1_; clear n0_ n1_; (try clear hb); (try clear hb2); (try clear hk); (try clear hi); (try clear ho0)) | ((with_reducible refine gate_callee (f := 29) rfl ?_); refine goesL_ (some 40) rfl rfl Try.func29 (by kernel_rfl) rfl #[.int .u64 a1, .slice A0 l0.length c0] rfl (by (try simp only [List.map_toArray, List.map_cons, List.map_nil]); first | done | rfl | (simp only [List.length_drop, List.length_take]; rfl)) ?_; (with_reducible refine (wicketmanref13_Frame.calls kj6 a1 _ _ l0 t108 t109 _ ?side1 ?side2 A17.out).mono ?_); (case side1 => repeat (first | exact (Kd.C_below HR0.out HB.out) | (with_reducible refine Kd.C_alloc ?_ _) | (with_reducible refine Kd.C_drewN ?_ _) | (with_reducible refine Kd.C_drew ?_))); (case side2 => exact HC0.out); rintro e w22 ⟨v110, rfl, ho0, hb⟩; refine ⟨_, rfl, ?_⟩; have n0_ := Aside0.mk (Kd.R_elder' (by (with_reducible repeat (first | apply Kd.R_alloc | apply Kd.R_drewN | apply Kd.R_drew)); exact HO107.out) (Kd.R_base ho0) hb); have n1_ := Aside0.mk (Kd.R_lower (Kd.R_new' ho0 (Kd.R_lt (by (with_reducible repeat (first | apply Kd.R_alloc | apply Kd.R_drewN | apply Kd.R_drew)); exact HO107.out))) (below_size (by repeat (first | (with_reducible first | exact HB.out | apply below_alloc | apply pw_below_drewN | apply below_drew1) | exact HB.out)))); have n2_ := Aside0.mk (below_step (by repeat (first | (with_reducible first | exact HB.out | apply below_alloc | apply pw_below_drewN | apply below_drew1) | exact HB.out)) hb); clear HO107; clear HB; have HO107 := n0_; have HO111 := n1_; have HB := n2_; clear n0_ n1_ n2_; (try clear hb); (try clear hb2); (try clear hk); (try clear hi); (try clear ho0)) | ((with_reducible refine gate_callee (f := 30) rfl ?_); refine goesL_ (some 45) rfl rfl Try.func30 (by kernel_rfl) rfl #[.int .u64 a1, .slice A2 l2.length c2] rfl (by (try simp only [List.map_toArray, List.map_cons, List.map_nil]); first | done | rfl | (simp only [List.length_drop, List.length_take]; rfl)) ?_; (with_reducible refine (wicketmanlaw13_row.calls kj6 a1 _ _ l2 t112 _ ?side1 ?side2 A18.out).mono ?_); (case side1 => repeat (first | exact (Kd.C_below HR2.out HB.out) | (with_reducible refine Kd.C_alloc ?_ _) | (with_reducible refine Kd.C_drewN ?_ _) | (with_reducible refine Kd.C_drew ?_))); (case side2 => exact HC2.out); rintro e w23 ⟨v113, rfl, ho0, hb⟩; refine ⟨_, rfl, ?_⟩; have n0_ := Aside0.mk (Kd.R_elder' (by (with_reducible repeat (first | apply Kd.R_alloc | apply Kd.R_drewN | apply Kd.R_drew)); exact HO107.out) (Kd.R_base ho0) hb); have n1_ := Aside0.mk (Kd.R_elder' (by (with_reducible repeat (first | apply Kd.R_alloc | apply Kd.R_drewN | apply Kd.R_drew)); exact HO111.out) (Kd.R_base ho0) hb); have n2_ := Aside0.mk (Kd.R_lower (Kd.R_new' (Kd.R_new' ho0 (Kd.R_lt (by (with_reducible repeat (first | apply Kd.R_alloc | apply Kd.R_drewN | apply Kd.R_drew)); exact HO107.out))) (Kd.R_lt (by (with_reducible repeat (first | apply Kd.R_alloc | apply Kd.R_drewN | apply Kd.R_drew)); exact HO111.out))) (below_size (by repeat (first | (with_reducible first | exact HB.out | apply below_alloc | apply pw_below_drewN | apply below_drew1) | exact HB.out)))); have n3_ := Aside0.mk (below_step (by repeat (first | (with_reducible first | exact HB.out | apply below_alloc | apply pw_below_drewN | apply below_drew1) | exact HB.out)) hb); clear HO107; clear HO111; clear HB; have HO107 := n0_; have HO111 := n1_; have HO114 := n2_; have HB := n3_; clear n0_ n1_ n2_ n3_; (try clear hb); (try clear hb2); (try clear hk); (try clear hi); (try clear ho0); obtain ⟨Ao25, co25, eo25⟩ := Kd.R_slice HO114.out; subst eo25) | ((with_reducible refine gate_builtin (b := .append) (xs := #[.tmp 46, .tmp 47]) rfl ?_); (try (refine gate_guard (by rfl) ?_; dsimp only)); at_builtin; refine Kd.R_append_rows (Kd.int .u8) (w0 := w) w.heap.size rfl (.tmp 46) (.tmp 47) 22 5 (.int .u8 0) 1 rfl Try.underlying22 info5 rfl (by decide) (by omega) (.slice none 0 0) ([] : List Int) t112 _ _ _ (fun k_ => some k_ ≠ (v106 : Value).ownBlock ∧ some k_ ≠ (v110 : Value).ownBlock ∧ some k_ ≠ (.slice Ao25 t112.length co25 : Value).ownBlock) (fun _ => False) rfl rfl ?aO ?aR (fun _ _ h => h) (fun _ h => h.elim) ?aF ?aB ?aS ?aL ?_; (case aR => repeat (first | exact (Kd.R_reads' HO114.out).2.2 | (with_reducible refine Kd.C_alloc ?_ _) | (with_reducible refine Kd.C_drewN ?_ _) | (with_reducible refine Kd.C_drew ?_))); (case aB => exact (by repeat (first | (with_reducible first | exact HB.out | apply below_alloc | apply pw_below_drewN | apply below_drew1) | exact HB.out))); (case aF => exact (fun k_ hk => ⟨Kd.fresh' (Kd.R_lt (by (with_reducible repeat (first | apply Kd.R_alloc | apply Kd.R_drewN | apply Kd.R_drew)); exact HO107.out)) k_ hk, Kd.fresh' (Kd.R_lt (by (with_reducible repeat (first | apply Kd.R_alloc | apply Kd.R_drewN | apply Kd.R_drew)); exact HO111.out)) k_ hk, Kd.fresh' (Kd.R_lt (by (with_reducible repeat (first | apply Kd.R_alloc | apply Kd.R_drewN | apply Kd.R_drew)); exact HO114.out)) k_ hk⟩)); (case aO => exact ((Kd.R_nil _ _ _ _ (fun k_ => some k_ ≠ (v106 : Value).ownBlock ∧ some k_ ≠ (v110 : Value).ownBlock ∧ some k_ ≠ (.slice Ao25 t112.length co25 : Value).ownBlock)))); (case aS => exact (below_size (by repeat (first | (with_reducible first | exact HB.out | apply below_alloc | apply pw_below_drewN | apply below_drew1) | exact HB.out)))); (case aL => have := LMc19.out; omega); intro v116 w24 ho hb hg hat; rw [← Ny115.out] at ho; have n0_ := Aside0.mk (Kd.R_after (Kd.R_apart_nil (by (with_reducible repeat (first | apply Kd.R_alloc | apply Kd.R_drewN | apply Kd.R_drew)); exact HO107.out)) hg hat); have n1_ := Aside0.mk (Kd.R_after (Kd.R_apart_nil (by (with_reducible repeat (first | apply Kd.R_alloc | apply Kd.R_drewN | apply Kd.R_drew)); exact HO111.out)) hg hat); have n2_ := Aside0.mk (Kd.R_after (Kd.R_apart_nil (by (with_reducible repeat (first | apply Kd.R_alloc | apply Kd.R_drewN | apply Kd.R_drew)); exact HO114.out)) hg hat); have n3_ := Aside0.mk (hb); have n4_ := Aside0.mk (ho); clear HO107; clear HO111; clear HO114; clear HB; have HO107 := n0_; have HO111 := n1_; have HO114 := n2_; have HB := n3_; have HO117 := n4_; clear n0_ n1_ n2_ n3_ n4_; clear ho hb hg hat; obtain ⟨Ao26, co26, eo26⟩ := Kd.R_slice HO117.out; subst eo26))
          (try simp only [Act.put, List.setIfInBounds_toArray, List.set_cons_zero, List.set_cons_succ])
          go_cut [] (fun wc => ∃ (kq : Nat) (x18_19 : List Int), Aside0 (wicketmanlaw13_CrcFrames.j1 kq l0 a1 a5 t104 t105 t108 t109 t112 x18_19 = some r) ∧ Aside0 (kq ≤ kj6) ∧ Aside0 (Kd.R (Kd.int .u8) 5 wc w.heap.size (fun k_ => some k_ ≠ (v110 : Value).ownBlock ∧ some k_ ≠ ((.slice Ao25 t112.length co25) : Value).ownBlock ∧ some k_ ≠ ((.slice Ao26 y115.length co26) : Value).ownBlock) v106 t104) ∧ Aside0 (Kd.R (Kd.int .u8) 5 wc w.heap.size (fun k_ => some k_ ≠ (v106 : Value).ownBlock ∧ some k_ ≠ ((.slice Ao25 t112.length co25) : Value).ownBlock ∧ some k_ ≠ ((.slice Ao26 y115.length co26) : Value).ownBlock) v110 t108) ∧ Aside0 (Kd.R (Kd.int .u8) 5 wc w.heap.size (fun k_ => some k_ ≠ (v106 : Value).ownBlock ∧ some k_ ≠ (v110 : Value).ownBlock ∧ some k_ ≠ ((.slice Ao26 y115.length co26) : Value).ownBlock) (.slice Ao25 t112.length co25) t112) ∧ Aside0 (Kd.R (Kd.int .u8) 5 wc w.heap.size (fun k_ => some k_ ≠ (v106 : Value).ownBlock ∧ some k_ ≠ (v110 : Value).ownBlock ∧ some k_ ≠ ((.slice Ao25 t112.length co25) : Value).ownBlock) (.slice Ao26 y115.length co26) x18_19) ∧ Aside0 (Below w.heap.size w wc))
          case first =>
            have H := HC20.out
            clear HC20
            by_cases c27 : (y115.length : Int) > 0
            · rw [if_pos c27] at H
              have c27b0 : decide (0 < (y115.length : Int)) = true := decide_eq_true c27
              have c27b1 : decide (0 < y115.length) = true := decide_eq_true (by omega)
              clear c27
              (first | rw [c27b0] | (simp only [i64_w, i32_w]; rw [c27b0]) | skip)
              by_cases c28 : (y115.length : Int) = 0
              · rw [if_pos c28] at H
                exact absurd H (by simp)
              · rw [if_neg c28] at H
                have c28b0 : ((y115.length : Int) == 0) = false := beq_eq_false_iff_ne.mpr c28
                have c28b1 : ((y115.length : Int) != 0) = true := bne_iff_ne.mpr c28
                have c28b2 : ¬ (y115 = []) := fun h_ => c28 (by rw [h_]; rfl)
                obtain ⟨ji29, hji29⟩ : ∃ j_ : Int, (Int.tmod (wrap64 (a3)) (y115.length : Int)) = j_ := ⟨_, rfl⟩
                replace H : (if 0 ≤ (ji29) then (if (ji29) < (y115.length : Int) then (wicketmanlaw13_CrcFrames.j1 kj6 l0 a1 a5 t104 t105 t108 t109 t112 (y115.set ((ji29) : Int).toNat a4)) else (none)) else (none)) = some r := by first | (rw [hji29] at H; exact H) | (simp only [hji29] at H ⊢; exact H)
                by_cases c30 : 0 ≤ (ji29)
                · rw [if_pos c30] at H
                  have c30b0 : decide (0 ≤ (ji29)) = true := decide_eq_true c30
                  clear c30
                  by_cases c31 : (ji29) < (y115.length : Int)
                  · rw [if_pos c31] at H
                    have c31b0 : decide ((ji29) < (y115.length : Int)) = true := decide_eq_true c31
                    clear c31
                    obtain ⟨y118, hy118⟩ : ∃ y_ : List Int, y_ = (y115.set ((ji29) : Int).toNat a4) := ⟨_, rfl⟩
                    replace H : (wicketmanlaw13_CrcFrames.j1 kj6 l0 a1 a5 t104 t105 t108 t109 t112 y118) = some r := by first | (rw [hy118]; with_reducible exact H) | (have H2_ := (Option.bind_some _ _).symm.trans H; rw [hy118]; with_reducible exact H2_) | (have H2_ := (Option.bind_some _ _).symm.trans H; with_reducible exact H2_) | with_reducible exact H | (rw [hy118]; exact H) | exact H
                    have Ny118 := Aside0.mk hy118
                    clear hy118
                    have H' := Aside0.mk H
                    clear H
                    have p32 : 0 ≤ ((ji29) : Int) := of_decide_eq_true (by first | (with_reducible assumption) | assumption)
                    have q32 : ((ji29) : Int) < ((y115.length : Int) : Int) := of_decide_eq_true (by first | (with_reducible assumption) | assumption)
                    obtain ⟨go32, co32, eo32, gb32, gl32, cl32, HG32⟩ := Kd.R_form HO117.out (by omega)
                    (first | cases eo32 | (injection eo32 with ea_ en_ ec_; (first | subst ea_ | (injection ea_ with ea_; subst ea_)); subst ec_; clear en_))
                    have GB32 := Aside0.mk gb32
                    have GG32 := Aside0.mk HG32
                    clear gb32 gl32 HG32
                    obtain ⟨hx32_0, hf32_0⟩ := Kd.R_celln 0 HO117.out ((ji29) : Int) p32 q32
                    replace p32 := eq_true p32
                    replace q32 := eq_true q32
                    have HP33 := Kd.R_putg HO117.out ((ji29) : Int) a4
                    go_wp2_with (first | ((with_reducible refine gate_store (t := 5) (p := 59) rfl ?_); refine store_event (t := 5) (p := 59) (v := ?vo_w34) (w1 := (w24.setCell ⟨go32, ((ji29) : Int).toNat, none⟩ (.int .u8 a4))) ?hg ?ho ?hn ?hr ?_; (case ho => rfl); (case hg => rfl); (case hn => rfl); (case hr => first | (go_simp; done) | (go_simp; rfl)); intro w34 hw; have hg : w24.grownBy w34 (some go32) := (by rw [hw]; exact HP33.2); have hp_ : Kd.R (Kd.int .u8) 5 w34 w.heap.size (fun k_ => some k_ ≠ (v106 : Value).ownBlock ∧ some k_ ≠ (v110 : Value).ownBlock ∧ some k_ ≠ (.slice Ao25 t112.length co25 : Value).ownBlock) (.slice (some ⟨go32, 0, none⟩) y115.length co26) y118 := (by rw [hw, Ny118.out]; exact HP33.1); clear HP33; have n0_ := Aside0.mk (Kd.R_after (v := (.slice (some ⟨go32, 0, none⟩) y115.length co26)) (v1 := (.slice (some ⟨go32, 0, none⟩) y115.length co26)) (ok := (fun k_ => some k_ ≠ (v110 : Value).ownBlock ∧ some k_ ≠ (.slice Ao25 t112.length co25 : Value).ownBlock)) (by (with_reducible repeat (first | apply Kd.R_alloc | apply Kd.R_drewN | apply Kd.R_drew)); exact Kd.R_mono HO107.out (fun _ hk => ⟨⟨hk.1.1.2, hk.1.2⟩, hk.2⟩)) hg (.inl rfl)); have n1_ := Aside0.mk (Kd.R_after (v := (.slice (some ⟨go32, 0, none⟩) y115.length co26)) (v1 := (.slice (some ⟨go32, 0, none⟩) y115.length co26)) (ok := (fun k_ => some k_ ≠ (v106 : Value).ownBlock ∧ some k_ ≠ (.slice Ao25 t112.length co25 : Value).ownBlock)) (by (with_reducible repeat (first | apply Kd.R_alloc | apply Kd.R_drewN | apply Kd.R_drew)); exact Kd.R_mono HO111.out (fun _ hk => ⟨⟨hk.1.1.2, hk.1.2⟩, hk.2⟩)) hg (.inl rfl)); have n2_ := Aside0.mk (Kd.R_after (v := (.slice (some ⟨go32, 0, none⟩) y115.length co26)) (v1 := (.slice (some ⟨go32, 0, none⟩) y115.length co26)) (ok := (fun k_ => some k_ ≠ (v106 : Value).ownBlock ∧ some k_ ≠ (v110 : Value).ownBlock)) (by (with_reducible repeat (first | apply Kd.R_alloc | apply Kd.R_drewN | apply Kd.R_drew)); exact Kd.R_mono HO114.out (fun _ hk => ⟨⟨hk.1.1.2, hk.1.2⟩, hk.2⟩)) hg (.inl rfl)); have n3_ := Aside0.mk (hp_); have n4_ := Aside0.mk ((by rw [hw]; exact below_set (HB.out) GB32.out : Below w.heap.size w w34)); clear HO107; clear HO111; clear HO114; clear HO117; clear HB; have HO107 := n0_; have HO111 := n1_; have HO114 := n2_; have HO117 := n3_; have HB := n4_; clear n0_ n1_ n2_ n3_ n4_; clear hg hw hp_))
                    go_meet
                    case rel => exact ⟨_, (y118), H', ⟨by have := HJ6.out; first | omega | exact Nat.le_refl _⟩, ⟨by (with_reducible repeat (first | apply Kd.R_alloc | apply Kd.R_drewN | apply Kd.R_drew)); exact Kd.R_mono HO107.out (fun _ hk => ⟨hk.1.1, ⟨hk.1.2, hk.2⟩⟩)⟩, ⟨by (with_reducible repeat (first | apply Kd.R_alloc | apply Kd.R_drewN | apply Kd.R_drew)); exact Kd.R_mono HO111.out (fun _ hk => ⟨hk.1.1, ⟨hk.1.2, hk.2⟩⟩)⟩, ⟨by (with_reducible repeat (first | apply Kd.R_alloc | apply Kd.R_drewN | apply Kd.R_drew)); exact Kd.R_mono HO114.out (fun _ hk => ⟨hk.1.1, ⟨hk.1.2, hk.2⟩⟩)⟩, ⟨by (with_reducible repeat (first | apply Kd.R_alloc | apply Kd.R_drewN | apply Kd.R_drew)); exact HO117.out⟩, ⟨by repeat (first | (with_reducible first | exact HB.out | apply below_alloc | apply pw_below_drewN | apply below_drew1) | exact HB.out)⟩⟩
                  · rw [if_neg c31] at H
                    exact absurd H (by simp)
                · rw [if_neg c30] at H
                  exact absurd H (by simp)
            · rw [if_neg c27] at H
              have c27b0 : decide (0 < (y115.length : Int)) = false := decide_eq_false c27
              have c27b1 : decide (0 < y115.length) = false := decide_eq_false (by omega)
              have c27b2 : y115.length = 0 := by omega
              clear c27
              (first | rw [c27b0] | (simp only [i64_w, i32_w]; rw [c27b0]) | skip)
              have H' := Aside0.mk H
              clear H
              go_wp2
              go_meet
              case rel => exact ⟨_, (y115), H', ⟨by have := HJ6.out; first | omega | exact Nat.le_refl _⟩, ⟨by (with_reducible repeat (first | apply Kd.R_alloc | apply Kd.R_drewN | apply Kd.R_drew)); exact Kd.R_mono HO107.out (fun _ hk => ⟨hk.1.1.2, ⟨hk.1.2, hk.2⟩⟩)⟩, ⟨by (with_reducible repeat (first | apply Kd.R_alloc | apply Kd.R_drewN | apply Kd.R_drew)); exact Kd.R_mono HO111.out (fun _ hk => ⟨hk.1.1.2, ⟨hk.1.2, hk.2⟩⟩)⟩, ⟨by (with_reducible repeat (first | apply Kd.R_alloc | apply Kd.R_drewN | apply Kd.R_drew)); exact Kd.R_mono HO114.out (fun _ hk => ⟨hk.1.1.2, ⟨hk.1.2, hk.2⟩⟩)⟩, ⟨by (with_reducible repeat (first | apply Kd.R_alloc | apply Kd.R_drewN | apply Kd.R_drew)); exact HO117.out⟩, ⟨by repeat (first | (with_reducible first | exact HB.out | apply below_alloc | apply pw_below_drewN | apply below_drew1) | exact HB.out)⟩⟩
          case rest =>
            clear HC20
            try clear c1
            try clear c2
            try clear p2
            try clear c3
            try clear p3
            try clear q3
            try clear hx3
            try clear p6
            try clear c8
            try clear c8b0
            try clear c8b1
            try clear c10
            try clear c12
            try clear c13
            try clear c19
            try clear c24
            try clear c25
            try clear c27
            try clear c27b0
            try clear c27b1
            try clear c28
            try clear c28b0
            try clear c28b1
            try clear c28b2
            try clear c29
            try clear c30
            try clear c30b0
            try clear c31
            try clear c31b0
            try clear p32
            try clear q32
            try clear hx32
            try clear hf32
            try clear hx32_0
            try clear p2
            try clear p32
            try clear q32
            obtain ⟨kq, x18_19, HA, HJ19, HO_13, HO_15, HO_17, HO_18, HB⟩ := hcut
            have hl18_19 := (Kd.R_reads' HO_18.out).1
            rw [hl18_19] at HO_18
            (try simp only [hl18_19])
            (try simp only [hl18_19] at HO_13)
            (try simp only [hl18_19] at HO_15)
            (try simp only [hl18_19] at HO_17)
            cases kq with
            | zero => exact absurd HA.out (by simp [wicketmanlaw13_CrcFrames.j1])
            | succ kj19 =>
              have H := HA.out
              clear HA
              simp only [wicketmanlaw13_CrcFrames.j1] at H
              by_cases c35 : (strOfNums t104).toList = (strOfNums t108).toList
              · rw [if_pos c35] at H
                have c35b0 : ((strOfNums t104).toList == (strOfNums t108).toList) = true := beq_iff_eq.mpr c35
                have c35b1 : ((strOfNums t104).toList != (strOfNums t108).toList) = false := bne_eq_false_iff_eq.mpr c35
                clear c35
                by_cases c36 : (wrap64 (t105)) = t109
                · rw [if_pos c36] at H
                  have c36b0 : ((wrap64 (t105)) == t109) = true := beq_iff_eq.mpr c36
                  have c36b1 : ((wrap64 (t105)) != t109) = false := bne_eq_false_iff_eq.mpr c36
                  clear c36
                  replace H := Option.bind_eq_some_iff.mp H
                  obtain ⟨t119, A370, H⟩ := H
                  replace H : ((wicketmanref13_Sum.f kj19 l0).bind fun t120 => (if t119 = t120 then ((wicketmanlaw13_reads.f l0 a1).bind fun t121 => (if t121 = true then ((wicketmanlaw13_reads.f t108 a1).bind fun t122 => (if t122 = true then ((wicketmanlaw13_reads.f t112 a1).bind fun t123 => (if t123 = true then ((wicketmanlaw13_reads.f x18_19 a1).bind fun t124 => (if t124 = true then (if 0 ≤ (wrap64 ((t112.length : Int) - (mn (t112.length : Int) (wrap64 (a5))))) then (if (wrap64 ((t112.length : Int) - (mn (t112.length : Int) (wrap64 (a5))))) ≤ (t112.length : Int) then ((wicketmanlaw13_reads.f (t112.take ((wrap64 ((t112.length : Int) - (mn (t112.length : Int) (wrap64 (a5))))) : Int).toNat) a1).bind fun t129 => (if t129 = true then ((wicketmanlaw13_reads.f t112 (IntKind.u64.wrap (a1 + 1))).bind fun t130 => (some t130)) else (none))) else (none)) else (none)) else (none))) else (none))) else (none))) else (none))) else (none))) = some r := H
                  have A37 := Aside0.mk A370
                  clear A370
                  replace H := Option.bind_eq_some_iff.mp H
                  obtain ⟨t120, A380, H⟩ := H
                  replace H : (if t119 = t120 then ((wicketmanlaw13_reads.f l0 a1).bind fun t121 => (if t121 = true then ((wicketmanlaw13_reads.f t108 a1).bind fun t122 => (if t122 = true then ((wicketmanlaw13_reads.f t112 a1).bind fun t123 => (if t123 = true then ((wicketmanlaw13_reads.f x18_19 a1).bind fun t124 => (if t124 = true then (if 0 ≤ (wrap64 ((t112.length : Int) - (mn (t112.length : Int) (wrap64 (a5))))) then (if (wrap64 ((t112.length : Int) - (mn (t112.length : Int) (wrap64 (a5))))) ≤ (t112.length : Int) then ((wicketmanlaw13_reads.f (t112.take ((wrap64 ((t112.length : Int) - (mn (t112.length : Int) (wrap64 (a5))))) : Int).toNat) a1).bind fun t129 => (if t129 = true then ((wicketmanlaw13_reads.f t112 (IntKind.u64.wrap (a1 + 1))).bind fun t130 => (some t130)) else (none))) else (none)) else (none)) else (none))) else (none))) else (none))) else (none))) else (none)) = some r := H
                  have A38 := Aside0.mk A380
                  clear A380
                  by_cases c39 : t119 = t120
                  · rw [if_pos c39] at H
                    have c39b0 : (t119 == t120) = true := beq_iff_eq.mpr c39
                    have c39b1 : (t119 != t120) = false := bne_eq_false_iff_eq.mpr c39
                    clear c39
                    replace H := Option.bind_eq_some_iff.mp H
                    obtain ⟨t121, A400, H⟩ := H
                    replace H : (if t121 = true then ((wicketmanlaw13_reads.f t108 a1).bind fun t122 => (if t122 = true then ((wicketmanlaw13_reads.f t112 a1).bind fun t123 => (if t123 = true then ((wicketmanlaw13_reads.f x18_19 a1).bind fun t124 => (if t124 = true then (if 0 ≤ (wrap64 ((t112.length : Int) - (mn (t112.length : Int) (wrap64 (a5))))) then (if (wrap64 ((t112.length : Int) - (mn (t112.length : Int) (wrap64 (a5))))) ≤ (t112.length : Int) then ((wicketmanlaw13_reads.f (t112.take ((wrap64 ((t112.length : Int) - (mn (t112.length : Int) (wrap64 (a5))))) : Int).toNat) a1).bind fun t129 => (if t129 = true then ((wicketmanlaw13_reads.f t112 (IntKind.u64.wrap (a1 + 1))).bind fun t130 => (some t130)) else (none))) else (none)) else (none)) else (none))) else (none))) else (none))) else (none)) = some r := H
                    have A40 := Aside0.mk A400
                    clear A400
                    by_cases c41 : t121 = true
                    · subst c41
                      have H1 : ((wicketmanlaw13_reads.f t108 a1).bind fun t122 => (if t122 = true then ((wicketmanlaw13_reads.f t112 a1).bind fun t123 => (if t123 = true then ((wicketmanlaw13_reads.f x18_19 a1).bind fun t124 => (if t124 = true then (if 0 ≤ (wrap64 ((t112.length : Int) - (mn (t112.length : Int) (wrap64 (a5))))) then (if (wrap64 ((t112.length : Int) - (mn (t112.length : Int) (wrap64 (a5))))) ≤ (t112.length : Int) then ((wicketmanlaw13_reads.f (t112.take ((wrap64 ((t112.length : Int) - (mn (t112.length : Int) (wrap64 (a5))))) : Int).toNat) a1).bind fun t129 => (if t129 = true then ((wicketmanlaw13_reads.f t112 (IntKind.u64.wrap (a1 + 1))).bind fun t130 => (some t130)) else (none))) else (none)) else (none)) else (none))) else (none))) else (none))) = some r := by rw [if_pos rfl] at H; exact H
                      clear H
                      have H := H1
                      clear H1
                      replace H := Option.bind_eq_some_iff.mp H
                      obtain ⟨t122, A420, H⟩ := H
                      replace H : (if t122 = true then ((wicketmanlaw13_reads.f t112 a1).bind fun t123 => (if t123 = true then ((wicketmanlaw13_reads.f x18_19 a1).bind fun t124 => (if t124 = true then (if 0 ≤ (wrap64 ((t112.length : Int) - (mn (t112.length : Int) (wrap64 (a5))))) then (if (wrap64 ((t112.length : Int) - (mn (t112.length : Int) (wrap64 (a5))))) ≤ (t112.length : Int) then ((wicketmanlaw13_reads.f (t112.take ((wrap64 ((t112.length : Int) - (mn (t112.length : Int) (wrap64 (a5))))) : Int).toNat) a1).bind fun t129 => (if t129 = true then ((wicketmanlaw13_reads.f t112 (IntKind.u64.wrap (a1 + 1))).bind fun t130 => (some t130)) else (none))) else (none)) else (none)) else (none))) else (none))) else (none)) = some r := H
                      have A42 := Aside0.mk A420
                      clear A420
                      by_cases c43 : t122 = true
                      · subst c43
                        have H1 : ((wicketmanlaw13_reads.f t112 a1).bind fun t123 => (if t123 = true then ((wicketmanlaw13_reads.f x18_19 a1).bind fun t124 => (if t124 = true then (if 0 ≤ (wrap64 ((t112.length : Int) - (mn (t112.length : Int) (wrap64 (a5))))) then (if (wrap64 ((t112.length : Int) - (mn (t112.length : Int) (wrap64 (a5))))) ≤ (t112.length : Int) then ((wicketmanlaw13_reads.f (t112.take ((wrap64 ((t112.length : Int) - (mn (t112.length : Int) (wrap64 (a5))))) : Int).toNat) a1).bind fun t129 => (if t129 = true then ((wicketmanlaw13_reads.f t112 (IntKind.u64.wrap (a1 + 1))).bind fun t130 => (some t130)) else (none))) else (none)) else (none)) else (none))) else (none))) = some r := by rw [if_pos rfl] at H; exact H
                        clear H
                        have H := H1
                        clear H1
                        replace H := Option.bind_eq_some_iff.mp H
                        obtain ⟨t123, A440, H⟩ := H
                        replace H : (if t123 = true then ((wicketmanlaw13_reads.f x18_19 a1).bind fun t124 => (if t124 = true then (if 0 ≤ (wrap64 ((t112.length : Int) - (mn (t112.length : Int) (wrap64 (a5))))) then (if (wrap64 ((t112.length : Int) - (mn (t112.length : Int) (wrap64 (a5))))) ≤ (t112.length : Int) then ((wicketmanlaw13_reads.f (t112.take ((wrap64 ((t112.length : Int) - (mn (t112.length : Int) (wrap64 (a5))))) : Int).toNat) a1).bind fun t129 => (if t129 = true then ((wicketmanlaw13_reads.f t112 (IntKind.u64.wrap (a1 + 1))).bind fun t130 => (some t130)) else (none))) else (none)) else (none)) else (none))) else (none)) = some r := H
                        have A44 := Aside0.mk A440
                        clear A440
                        by_cases c45 : t123 = true
                        · subst c45
                          have H1 : ((wicketmanlaw13_reads.f x18_19 a1).bind fun t124 => (if t124 = true then (if 0 ≤ (wrap64 ((t112.length : Int) - (mn (t112.length : Int) (wrap64 (a5))))) then (if (wrap64 ((t112.length : Int) - (mn (t112.length : Int) (wrap64 (a5))))) ≤ (t112.length : Int) then ((wicketmanlaw13_reads.f (t112.take ((wrap64 ((t112.length : Int) - (mn (t112.length : Int) (wrap64 (a5))))) : Int).toNat) a1).bind fun t129 => (if t129 = true then ((wicketmanlaw13_reads.f t112 (IntKind.u64.wrap (a1 + 1))).bind fun t130 => (some t130)) else (none))) else (none)) else (none)) else (none))) = some r := by rw [if_pos rfl] at H; exact H
                          clear H
                          have H := H1
                          clear H1
                          replace H := Option.bind_eq_some_iff.mp H
                          obtain ⟨t124, A460, H⟩ := H
                          replace H : (if t124 = true then (if 0 ≤ (wrap64 ((t112.length : Int) - (mn (t112.length : Int) (wrap64 (a5))))) then (if (wrap64 ((t112.length : Int) - (mn (t112.length : Int) (wrap64 (a5))))) ≤ (t112.length : Int) then ((wicketmanlaw13_reads.f (t112.take ((wrap64 ((t112.length : Int) - (mn (t112.length : Int) (wrap64 (a5))))) : Int).toNat) a1).bind fun t129 => (if t129 = true then ((wicketmanlaw13_reads.f t112 (IntKind.u64.wrap (a1 + 1))).bind fun t130 => (some t130)) else (none))) else (none)) else (none)) else (none)) = some r := H
                          have A46 := Aside0.mk A460
                          clear A460
                          by_cases c47 : t124 = true
                          · subst c47
                            have H1 : (if 0 ≤ (wrap64 ((t112.length : Int) - (mn (t112.length : Int) (wrap64 (a5))))) then (if (wrap64 ((t112.length : Int) - (mn (t112.length : Int) (wrap64 (a5))))) ≤ (t112.length : Int) then ((wicketmanlaw13_reads.f (t112.take ((wrap64 ((t112.length : Int) - (mn (t112.length : Int) (wrap64 (a5))))) : Int).toNat) a1).bind fun t129 => (if t129 = true then ((wicketmanlaw13_reads.f t112 (IntKind.u64.wrap (a1 + 1))).bind fun t130 => (some t130)) else (none))) else (none)) else (none)) = some r := by rw [if_pos rfl] at H; exact H
                            clear H
                            have H := H1
                            clear H1
                            obtain ⟨ji48, hji48⟩ : ∃ j_ : Int, (mn (t112.length : Int) (wrap64 (a5))) = j_ := ⟨_, rfl⟩
                            replace H : (if 0 ≤ (wrap64 ((t112.length : Int) - (ji48))) then (if (wrap64 ((t112.length : Int) - (ji48))) ≤ (t112.length : Int) then ((wicketmanlaw13_reads.f (t112.take ((wrap64 ((t112.length : Int) - (ji48))) : Int).toNat) a1).bind fun t129 => (if t129 = true then ((wicketmanlaw13_reads.f t112 (IntKind.u64.wrap (a1 + 1))).bind fun t130 => (some t130)) else (none))) else (none)) else (none)) = some r := by first | (rw [hji48] at H; exact H) | (simp only [hji48] at H ⊢; exact H)
                            (try rw [hji48] at A37)
                            (try rw [hji48] at A38)
                            (try rw [hji48] at A40)
                            (try rw [hji48] at A42)
                            (try rw [hji48] at A44)
                            (try rw [hji48] at A46)
                            have hji48_ : (if (wrap64 (a5)) < (t112.length : Int) then (wrap64 (a5)) else (t112.length : Int)) = ji48 := hji48
                            obtain ⟨ji49, hji49⟩ : ∃ j_ : Int, (wrap64 ((t112.length : Int) - (ji48))) = j_ := ⟨_, rfl⟩
                            replace H : (if 0 ≤ (ji49) then (if (ji49) ≤ (t112.length : Int) then ((wicketmanlaw13_reads.f (t112.take ((ji49) : Int).toNat) a1).bind fun t129 => (if t129 = true then ((wicketmanlaw13_reads.f t112 (IntKind.u64.wrap (a1 + 1))).bind fun t130 => (some t130)) else (none))) else (none)) else (none)) = some r := by first | (rw [hji49] at H; exact H) | (simp only [hji49] at H ⊢; exact H)
                            (try rw [hji49] at A37)
                            (try rw [hji49] at A38)
                            (try rw [hji49] at A40)
                            (try rw [hji49] at A42)
                            (try rw [hji49] at A44)
                            (try rw [hji49] at A46)
                            have hji49w : (IntKind.i64.wrap ((t112.length : Int) - (ji48))) = ji49 := (i64_w _).trans hji49
                            by_cases c50 : 0 ≤ (ji49)
                            · rw [if_pos c50] at H
                              have c50b0 := eq_true c50
                              have c50b1 : decide (0 ≤ (ji49)) = true := decide_eq_true c50
                              clear c50
                              by_cases c51 : (ji49) ≤ (t112.length : Int)
                              · rw [if_pos c51] at H
                                have c51b0 := eq_true c51
                                have c51b1 : decide ((ji49) ≤ (t112.length : Int)) = true := decide_eq_true c51
                                clear c51
                                obtain ⟨y125, hy125⟩ : ∃ y_ : List Int, y_ = (t112.take ((ji49) : Int).toNat) := ⟨_, rfl⟩
                                replace H : ((wicketmanlaw13_reads.f y125 a1).bind fun t129 => (if t129 = true then ((wicketmanlaw13_reads.f t112 (IntKind.u64.wrap (a1 + 1))).bind fun t130 => (some t130)) else (none))) = some r := by first | (rw [hy125]; with_reducible exact H) | (have H2_ := (Option.bind_some _ _).symm.trans H; rw [hy125]; with_reducible exact H2_) | (have H2_ := (Option.bind_some _ _).symm.trans H; with_reducible exact H2_) | with_reducible exact H | (rw [hy125]; exact H) | exact H
                                have Ny125 := Aside0.mk hy125
                                clear hy125
                                replace H := Option.bind_eq_some_iff.mp H
                                obtain ⟨t129, A520, H⟩ := H
                                replace H : (if t129 = true then ((wicketmanlaw13_reads.f t112 (IntKind.u64.wrap (a1 + 1))).bind fun t130 => (some t130)) else (none)) = some r := H
                                have A52 := Aside0.mk A520
                                clear A520
                                by_cases c53 : t129 = true
                                · subst c53
                                  have H1 : ((wicketmanlaw13_reads.f t112 (IntKind.u64.wrap (a1 + 1))).bind fun t130 => (some t130)) = some r := by rw [if_pos rfl] at H; exact H
                                  clear H
                                  have H := H1
                                  clear H1
                                  replace H := Option.bind_eq_some_iff.mp H
                                  obtain ⟨t130, A540, H⟩ := H
                                  replace H : (some t130) = some r := H
                                  have A54 := Aside0.mk A540
                                  clear A540
                                  obtain rfl := Option.some.inj H
                                  have hcv55 := own_string (P := Try.prog) Try.underlying22 Try.underlying5 Try.underlying9 (Kd.own_of_R HO_13.out)
                                  have hcv56 := own_string (P := Try.prog) Try.underlying22 Try.underlying5 Try.underlying9 (Kd.own_of_R HO_15.out)
                                  go_wp2_with (first | (go_at_call 27; (with_reducible refine (crc_Sum.calls _ _ l0 t119 _ ?side1 ?side2 A37.out).mono ?_); (case side1 => repeat (first | exact (Kd.C_below HR0.out HB.out) | (with_reducible refine Kd.C_alloc ?_ _) | (with_reducible refine Kd.C_drewN ?_ _) | (with_reducible refine Kd.C_drew ?_))); (case side2 => exact HC0.out); rintro e w57 ⟨rfl, hb⟩; have n0_ := Aside0.mk (Kd.R_below (by (with_reducible repeat (first | apply Kd.R_alloc | apply Kd.R_drewN | apply Kd.R_drew)); exact HO_13.out) hb); have n1_ := Aside0.mk (Kd.R_below (by (with_reducible repeat (first | apply Kd.R_alloc | apply Kd.R_drewN | apply Kd.R_drew)); exact HO_15.out) hb); have n2_ := Aside0.mk (Kd.R_below (by (with_reducible repeat (first | apply Kd.R_alloc | apply Kd.R_drewN | apply Kd.R_drew)); exact HO_17.out) hb); have n3_ := Aside0.mk (Kd.R_below (by (with_reducible repeat (first | apply Kd.R_alloc | apply Kd.R_drewN | apply Kd.R_drew)); exact HO_18.out) hb); have n4_ := Aside0.mk (below_step (by repeat (first | (with_reducible first | exact HB.out | apply below_alloc | apply pw_below_drewN | apply below_drew1) | exact HB.out)) hb); clear HO_13; clear HO_15; clear HO_17; clear HO_18; clear HB; have HO_13 := n0_; have HO_15 := n1_; have HO_17 := n2_; have HO_18 := n3_; have HB := n4_; clear n0_ n1_ n2_ n3_ n4_; (try clear hb); (try clear hb2); (try clear hk); (try clear hi)) | (go_at_call 31; (with_reducible refine (wicketmanref13_Sum.calls kj19 _ _ l0 t120 _ ?side1 ?side2 A38.out).mono ?_); (case side1 => repeat (first | exact (Kd.C_below HR0.out HB.out) | (with_reducible refine Kd.C_alloc ?_ _) | (with_reducible refine Kd.C_drewN ?_ _) | (with_reducible refine Kd.C_drew ?_))); (case side2 => exact HC0.out); rintro e w' ⟨rfl, ⟨nd, rfl⟩⟩) | (go_at_call 32; (with_reducible refine (wicketmanlaw13_reads.calls _ _ l0 a1 true _ ?side1 ?side2 A40.out).mono ?_); (case side1 => repeat (first | exact (Kd.C_below HR0.out (by repeat (first | (with_reducible first | exact HB.out | apply below_alloc | apply pw_below_drewN | apply below_drew1) | exact HB.out))) | (with_reducible refine Kd.C_alloc ?_ _) | (with_reducible refine Kd.C_drewN ?_ _) | (with_reducible refine Kd.C_drew ?_))); (case side2 => exact HC0.out); rintro e w58 ⟨rfl, hb⟩; have n0_ := Aside0.mk (Kd.R_below (by (with_reducible repeat (first | apply Kd.R_alloc | apply Kd.R_drewN | apply Kd.R_drew)); exact HO_13.out) hb); have n1_ := Aside0.mk (Kd.R_below (by (with_reducible repeat (first | apply Kd.R_alloc | apply Kd.R_drewN | apply Kd.R_drew)); exact HO_15.out) hb); have n2_ := Aside0.mk (Kd.R_below (by (with_reducible repeat (first | apply Kd.R_alloc | apply Kd.R_drewN | apply Kd.R_drew)); exact HO_17.out) hb); have n3_ := Aside0.mk (Kd.R_below (by (with_reducible repeat (first | apply Kd.R_alloc | apply Kd.R_drewN | apply Kd.R_drew)); exact HO_18.out) hb); have n4_ := Aside0.mk (below_step (by repeat (first | (with_reducible first | exact HB.out | apply below_alloc | apply pw_below_drewN | apply below_drew1) | exact HB.out)) hb); clear HO_13; clear HO_15; clear HO_17; clear HO_18; clear HB; have HO_13 := n0_; have HO_15 := n1_; have HO_17 := n2_; have HO_18 := n3_; have HB := n4_; clear n0_ n1_ n2_ n3_ n4_; (try clear hb); (try clear hb2); (try clear hk); (try clear hi); obtain ⟨Ao59, co59, eo59⟩ := Kd.R_slice HO_15.out; subst eo59) | (go_at_call 32; (with_reducible refine (wicketmanlaw13_reads.calls _ _ t108 a1 true _ ?side1 ?side2 A42.out).mono ?_); (case side1 => repeat (first | exact (Kd.R_reads' HO_15.out).2.2 | (with_reducible refine Kd.C_alloc ?_ _) | (with_reducible refine Kd.C_drewN ?_ _) | (with_reducible refine Kd.C_drew ?_))); (case side2 => exact (Kd.R_reads' HO_15.out).2.1); rintro e w60 ⟨rfl, hb⟩; have n0_ := Aside0.mk (Kd.R_below (by (with_reducible repeat (first | apply Kd.R_alloc | apply Kd.R_drewN | apply Kd.R_drew)); exact HO_13.out) hb); have n1_ := Aside0.mk (Kd.R_below (by (with_reducible repeat (first | apply Kd.R_alloc | apply Kd.R_drewN | apply Kd.R_drew)); exact HO_15.out) hb); have n2_ := Aside0.mk (Kd.R_below (by (with_reducible repeat (first | apply Kd.R_alloc | apply Kd.R_drewN | apply Kd.R_drew)); exact HO_17.out) hb); have n3_ := Aside0.mk (Kd.R_below (by (with_reducible repeat (first | apply Kd.R_alloc | apply Kd.R_drewN | apply Kd.R_drew)); exact HO_18.out) hb); have n4_ := Aside0.mk (below_step (by repeat (first | (with_reducible first | exact HB.out | apply below_alloc | apply pw_below_drewN | apply below_drew1) | exact HB.out)) hb); clear HO_13; clear HO_15; clear HO_17; clear HO_18; clear HB; have HO_13 := n0_; have HO_15 := n1_; have HO_17 := n2_; have HO_18 := n3_; have HB := n4_; clear n0_ n1_ n2_ n3_ n4_; (try clear hb); (try clear hb2); (try clear hk); (try clear hi)) | (go_at_call 32; (with_reducible refine (wicketmanlaw13_reads.calls _ _ t112 a1 true _ ?side1 ?side2 A44.out).mono ?_); (case side1 => repeat (first | exact (Kd.R_reads' HO_17.out).2.2 | (with_reducible refine Kd.C_alloc ?_ _) | (with_reducible refine Kd.C_drewN ?_ _) | (with_reducible refine Kd.C_drew ?_))); (case side2 => exact (Kd.R_reads' HO_17.out).2.1); rintro e w61 ⟨rfl, hb⟩; have n0_ := Aside0.mk (Kd.R_below (by (with_reducible repeat (first | apply Kd.R_alloc | apply Kd.R_drewN | apply Kd.R_drew)); exact HO_13.out) hb); have n1_ := Aside0.mk (Kd.R_below (by (with_reducible repeat (first | apply Kd.R_alloc | apply Kd.R_drewN | apply Kd.R_drew)); exact HO_15.out) hb); have n2_ := Aside0.mk (Kd.R_below (by (with_reducible repeat (first | apply Kd.R_alloc | apply Kd.R_drewN | apply Kd.R_drew)); exact HO_17.out) hb); have n3_ := Aside0.mk (Kd.R_below (by (with_reducible repeat (first | apply Kd.R_alloc | apply Kd.R_drewN | apply Kd.R_drew)); exact HO_18.out) hb); have n4_ := Aside0.mk (below_step (by repeat (first | (with_reducible first | exact HB.out | apply below_alloc | apply pw_below_drewN | apply below_drew1) | exact HB.out)) hb); clear HO_13; clear HO_15; clear HO_17; clear HO_18; clear HB; have HO_13 := n0_; have HO_15 := n1_; have HO_17 := n2_; have HO_18 := n3_; have HB := n4_; clear n0_ n1_ n2_ n3_ n4_; (try clear hb); (try clear hb2); (try clear hk); (try clear hi)) | (go_at_call 32; (with_reducible refine (wicketmanlaw13_reads.calls _ _ x18_19 a1 true _ ?side1 ?side2 A46.out).mono ?_); (case side1 => repeat (first | exact (Kd.R_reads' HO_18.out).2.2 | (with_reducible refine Kd.C_alloc ?_ _) | (with_reducible refine Kd.C_drewN ?_ _) | (with_reducible refine Kd.C_drew ?_))); (case side2 => exact (Kd.R_reads' HO_18.out).2.1); rintro e w62 ⟨rfl, hb⟩; have n0_ := Aside0.mk (Kd.R_below (by (with_reducible repeat (first | apply Kd.R_alloc | apply Kd.R_drewN | apply Kd.R_drew)); exact HO_13.out) hb); have n1_ := Aside0.mk (Kd.R_below (by (with_reducible repeat (first | apply Kd.R_alloc | apply Kd.R_drewN | apply Kd.R_drew)); exact HO_15.out) hb); have n2_ := Aside0.mk (Kd.R_below (by (with_reducible repeat (first | apply Kd.R_alloc | apply Kd.R_drewN | apply Kd.R_drew)); exact HO_17.out) hb); have n3_ := Aside0.mk (Kd.R_below (by (with_reducible repeat (first | apply Kd.R_alloc | apply Kd.R_drewN | apply Kd.R_drew)); exact HO_18.out) hb); have n4_ := Aside0.mk (below_step (by repeat (first | (with_reducible first | exact HB.out | apply below_alloc | apply pw_below_drewN | apply below_drew1) | exact HB.out)) hb); clear HO_13; clear HO_15; clear HO_17; clear HO_18; clear HB; have HO_13 := n0_; have HO_15 := n1_; have HO_17 := n2_; have HO_18 := n3_; have HB := n4_; clear n0_ n1_ n2_ n3_ n4_; (try clear hb); (try clear hb2); (try clear hk); (try clear hi); have q63 : ((ji49) : Int) ≤ ((t112.length : Int) : Int) := of_decide_eq_true (by first | (with_reducible assumption) | assumption); obtain ⟨i063, hi063, _, hsz63, _⟩ := info_parts info5; have hroom63 : t112.length ≤ co25 := (Kd.R_reads' HO_17.out).2.1; have hC63 : Kd.C (Kd.int .u8) _ Ao25 t112.length t112 := (Kd.R_reads' HO_17.out).2.2; have hcut63 := cut_to (P := Try.prog) 22 5 .i64 Try.underlying22 hi063 Ao25 t112.length co25 (ji49) (of_decide_eq_true (by first | (with_reducible assumption) | assumption)) q63 hroom63; have hr63 := Kd.C_take (m := ((ji49) : Int).toNat) hC63 (by omega); have hy63 : y125.length = ((ji49) : Int).toNat := (by rw [Ny125.out, List.length_take]; omega); rw [← Ny125.out] at hr63; rw [← hy63] at hcut63; have HR128 := Aside0.mk hr63; have HC128 := Aside0.mk (show y125.length ≤ co25 from by omega); clear hr63 hC63 hroom63 hi063 hsz63; have KY63 := Aside0.mk hy63; clear hy63; have KL63 := Aside0.mk (show ((ji49) : Int).toNat ≤ t112.length from by omega); replace q63 := eq_true q63) | (go_at_call 32; (with_reducible refine (wicketmanlaw13_reads.calls _ _ y125 a1 true _ ?side1 ?side2 A52.out).mono ?_); (case side1 => repeat (first | exact (by repeat (first | (with_reducible exact HR128.out) | (with_reducible refine Kd.C_alloc ?_ _) | (with_reducible refine Kd.C_drewN ?_ _) | (with_reducible refine Kd.C_drew ?_) | exact HR128.out)) | (with_reducible refine Kd.C_alloc ?_ _) | (with_reducible refine Kd.C_drewN ?_ _) | (with_reducible refine Kd.C_drew ?_))); (case side2 => exact HC128.out); rintro e w64 ⟨rfl, hb⟩; have n0_ := Aside0.mk (Kd.R_below (by (with_reducible repeat (first | apply Kd.R_alloc | apply Kd.R_drewN | apply Kd.R_drew)); exact HO_13.out) hb); have n1_ := Aside0.mk (Kd.R_below (by (with_reducible repeat (first | apply Kd.R_alloc | apply Kd.R_drewN | apply Kd.R_drew)); exact HO_15.out) hb); have n2_ := Aside0.mk (Kd.R_below (by (with_reducible repeat (first | apply Kd.R_alloc | apply Kd.R_drewN | apply Kd.R_drew)); exact HO_17.out) hb); have n3_ := Aside0.mk (Kd.R_below (by (with_reducible repeat (first | apply Kd.R_alloc | apply Kd.R_drewN | apply Kd.R_drew)); exact HO_18.out) hb); have n4_ := Aside0.mk (Kd.C_below (by repeat (first | (with_reducible exact HR128.out) | (with_reducible refine Kd.C_alloc ?_ _) | (with_reducible refine Kd.C_drewN ?_ _) | (with_reducible refine Kd.C_drew ?_) | exact HR128.out)) hb); have n5_ := Aside0.mk (below_step (by repeat (first | (with_reducible first | exact HB.out | apply below_alloc | apply pw_below_drewN | apply below_drew1) | exact HB.out)) hb); clear HO_13; clear HO_15; clear HO_17; clear HO_18; clear HR128; clear HB; have HO_13 := n0_; have HO_15 := n1_; have HO_17 := n2_; have HO_18 := n3_; have HR128 := n4_; have HB := n5_; clear n0_ n1_ n2_ n3_ n4_ n5_; (try clear hb); (try clear hb2); (try clear hk); (try clear hi)) | (go_at_call 32; (with_reducible refine (wicketmanlaw13_reads.calls _ _ t112 (IntKind.u64.wrap (a1 + 1)) t130 _ ?side1 ?side2 A54.out).mono ?_); (case side1 => repeat (first | exact (Kd.R_reads' HO_17.out).2.2 | (with_reducible refine Kd.C_alloc ?_ _) | (with_reducible refine Kd.C_drewN ?_ _) | (with_reducible refine Kd.C_drew ?_))); (case side2 => exact (Kd.R_reads' HO_17.out).2.1); rintro e w65 ⟨rfl, hb⟩; have n0_ := Aside0.mk (Kd.R_below (by (with_reducible repeat (first | apply Kd.R_alloc | apply Kd.R_drewN | apply Kd.R_drew)); exact HO_13.out) hb); have n1_ := Aside0.mk (Kd.R_below (by (with_reducible repeat (first | apply Kd.R_alloc | apply Kd.R_drewN | apply Kd.R_drew)); exact HO_15.out) hb); have n2_ := Aside0.mk (Kd.R_below (by (with_reducible repeat (first | apply Kd.R_alloc | apply Kd.R_drewN | apply Kd.R_drew)); exact HO_17.out) hb); have n3_ := Aside0.mk (Kd.R_below (by (with_reducible repeat (first | apply Kd.R_alloc | apply Kd.R_drewN | apply Kd.R_drew)); exact HO_18.out) hb); have n4_ := Aside0.mk (Kd.C_below (by repeat (first | (with_reducible exact HR128.out) | (with_reducible refine Kd.C_alloc ?_ _) | (with_reducible refine Kd.C_drewN ?_ _) | (with_reducible refine Kd.C_drew ?_) | exact HR128.out)) hb); have n5_ := Aside0.mk (below_step (by repeat (first | (with_reducible first | exact HB.out | apply below_alloc | apply pw_below_drewN | apply below_drew1) | exact HB.out)) hb); clear HO_13; clear HO_15; clear HO_17; clear HO_18; clear HR128; clear HB; have HO_13 := n0_; have HO_15 := n1_; have HO_17 := n2_; have HO_18 := n3_; have HR128 := n4_; have HB := n5_; clear n0_ n1_ n2_ n3_ n4_ n5_; (try clear hb); (try clear hb2); (try clear hk); (try clear hi)))
                                  go_ret
                                  exact ⟨by first | rfl | (simp [errW_none, errW_some] <;> rfl) | (simp only [← hji48, ← hji49]; first | rfl | (simp [errW_none, errW_some] <;> rfl)) | (simp [*, errW_none, errW_some] <;> rfl), by repeat (first | (with_reducible first | exact HB.out | apply below_alloc | apply pw_below_drewN | apply below_drew1) | exact HB.out)⟩
                                · replace c53 := Bool.eq_false_iff.mpr c53
                                  subst c53
                                  have H1 : (none) = some r := by rw [if_neg (show ¬ (false = true) by decide)] at H; exact H
                                  clear H
                                  have H := H1
                                  clear H1
                                  exact absurd H (by simp)
                              · rw [if_neg c51] at H
                                exact absurd H (by simp)
                            · rw [if_neg c50] at H
                              exact absurd H (by simp)
                          · replace c47 := Bool.eq_false_iff.mpr c47
                            subst c47
                            have H1 : (none) = some r := by rw [if_neg (show ¬ (false = true) by decide)] at H; exact H
                            clear H
                            have H := H1
                            clear H1
                            exact absurd H (by simp)
                        · replace c45 := Bool.eq_false_iff.mpr c45
                          subst c45
                          have H1 : (none) = some r := by rw [if_neg (show ¬ (false = true) by decide)] at H; exact H
                          clear H
                          have H := H1
                          clear H1
                          exact absurd H (by simp)
                      · replace c43 := Bool.eq_false_iff.mpr c43
                        subst c43
                        have H1 : (none) = some r := by rw [if_neg (show ¬ (false = true) by decide)] at H; exact H
                        clear H
                        have H := H1
                        clear H1
                        exact absurd H (by simp)
                    · replace c41 := Bool.eq_false_iff.mpr c41
                      subst c41
                      have H1 : (none) = some r := by rw [if_neg (show ¬ (false = true) by decide)] at H; exact H
                      clear H
                      have H := H1
                      clear H1
                      exact absurd H (by simp)
                  · rw [if_neg c39] at H
                    exact absurd H (by simp)
                · rw [if_neg c36] at H
                  exact absurd H (by simp)
              · rw [if_neg c35] at H
                exact absurd H (by simp)
        · rw [if_neg c19] at H
          exact absurd H (by simp)

end Go.Proofs.Ytmepclalglmleaa.Pr
