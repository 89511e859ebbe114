-- Written for this claim by wip/myprint.py, this session's driver over the kit's print.py. Not trusted: Lean checks it.
import Derived.Test.YtmepclalglmleaaF
import Derived.Test.YtmepclalglmleaaE1
import Derived.Test.YtmepclalglmleaaF15
import Derived.Test.YtmepclalglmleaaF19
import Derived.Test.YtmepclalglmleaaF20
import Derived.Test.YtmepclalglmleaaF21
import Derived.Test.YtmepclalglmleaaF22
import Derived.Test.YtmepclalglmleaaF23
namespace Go.Proofs.Ytmepclalglmleaa.Pr
open Go.RowKit Go.Proofs.YtmepclalglmleaaW.PrintWords Go.Proofs.YtmepclalglmleaaW.PrintLast Go.Proofs.YtmepclalglmleaaW.PrintMore Go.Proofs.Ytmepclalglmleaa.E
attribute [local go_sem] max2_int min2_int max_two min_two max_three min_three max_four min_four   -- for this text's walks alone
set_option linter.unusedVariables false
set_option linter.unusedSimpArgs false

/-! ### wicketmanlaw05_HexaTexts: function 7 -/
mutual
def wicketmanlaw05_HexaTexts.j0 : Nat → List Int → ByteArray → Int → Int → Bool → Option (Bool)
  | 0, _, _, _, _, _ => none
  | k + 1, x0, x1, x2, x3, x29 => if x29 = true then ((wicketmanlaw05_known.f).bind fun t102 => (some t102)) else ((wicketmanref05_Text.f x0).bind fun t103 => (if (t103.size : Int) > 0 then (if (t103.size : Int) = 0 then (none) else (if 0 ≤ (Int.tmod (wrap64 (x2)) (t103.size : Int)) then (if (Int.tmod (wrap64 (x2)) (t103.size : Int)) ≤ (t103.size : Int) then ((some (([x3] : List Int) : List Int)).bind fun y104 => (if (t103.extract 0 ((Int.tmod (wrap64 (x2)) (t103.size : Int)) : Int).toNat).size + (strOfNums y104).size ≤ 9223372036854775807 then (if 0 ≤ (wrap64 ((Int.tmod (wrap64 (x2)) (t103.size : Int)) + 1)) then (if (wrap64 ((Int.tmod (wrap64 (x2)) (t103.size : Int)) + 1)) ≤ (t103.size : Int) then (if ((t103.extract 0 ((Int.tmod (wrap64 (x2)) (t103.size : Int)) : Int).toNat) ++ (strOfNums y104)).size + (t103.extract ((wrap64 ((Int.tmod (wrap64 (x2)) (t103.size : Int)) + 1)) : Int).toNat t103.size).size ≤ 9223372036854775807 then (wicketmanlaw05_HexaTexts.j1 k x0 x1 t103 (((t103.extract 0 ((Int.tmod (wrap64 (x2)) (t103.size : Int)) : Int).toNat) ++ (strOfNums y104)) ++ (t103.extract ((wrap64 ((Int.tmod (wrap64 (x2)) (t103.size : Int)) + 1)) : Int).toNat t103.size))) else (none)) else (none)) else (none)) else (none))) else (none)) else (none))) else (wicketmanlaw05_HexaTexts.j1 k x0 x1 t103 t103)))
def wicketmanlaw05_HexaTexts.j1 : Nat → List Int → ByteArray → ByteArray → ByteArray → Option (Bool)
  | 0, _, _, _, _ => none
  | k + 1, x0, x1, x9, x10 => (hexa_Of.f x0).bind fun bt107 => ((wicketmanref05_Of.f x0).bind fun bt109 => (if ([] : List Int).length + x0.length < 140737488355328 then ((some (([] : List Int) ++ x0 : List Int)).bind fun y111 => (if y111.length + 32 < 140737488355328 then ((some (y111 ++ List.replicate 32 0 : List Int)).bind fun y114 => (if 32 ≤ (y114.length : Int) then ((wicketmanref05_Text.f (y114.take 32)).bind fun t121 => ((hexa_Text.f x0).bind fun t122 => (if t122.toList = x9.toList then ((wicketmanlaw05_bytes.f k x1).bind fun t123 => (if t123 = true then ((wicketmanlaw05_bytes.f k x9).bind fun t124 => (if t124 = true then ((wicketmanlaw05_bytes.f k x10).bind fun t125 => (if t125 = true then (if 0 ≤ (wrap64 ((x9.size : Int) - ((x9.size : Int) % 3))) then (if (wrap64 ((x9.size : Int) - ((x9.size : Int) % 3))) ≤ (x9.size : Int) then ((wicketmanlaw05_bytes.f k (x9.extract 0 ((wrap64 ((x9.size : Int) - ((x9.size : Int) % 3))) : Int).toNat)).bind fun t126 => (if t126 = true then (if bt107.1.toList = bt109.1.toList then (if (bt107.2 == bt109.2) = true then ((hexa_ID.f x1).bind fun t127 => ((wicketmanref05_ID.f k x1).bind fun t128 => (if (t127 == t128) = true then ((hexa_ID.f t121).bind fun t129 => (if t129 = true then ((hexa_ID.f x9).bind fun t130 => ((wicketmanref05_ID.f k x9).bind fun t131 => (some (t130 == t131)))) else (none))) else (none)))) else (none)) else (none)) else (none))) else (none)) else (none)) else (none))) else (none))) else (none))) else (none)))) else (none))) else (none))) else (none)))
end
def wicketmanlaw05_HexaTexts.f (k : Nat) (l0 : List Int) (a1 : ByteArray) (a2 : Int) (a3 : Int) : Option (Bool) := if (l0.length : Int) > 100 then (wicketmanlaw05_HexaTexts.j0 k l0 a1 a2 a3 true) else (if (a1.size : Int) > 200 then (wicketmanlaw05_HexaTexts.j0 k l0 a1 a2 a3 true) else ((wicketmanlaw05_known.f).bind fun t101 => (wicketmanlaw05_HexaTexts.j0 k l0 a1 a2 a3 (!t101))))
theorem wicketmanlaw05_HexaTexts.mono_l : ∀ k, (∀ y0 y1 y2 y3 y4, LeO (wicketmanlaw05_HexaTexts.j0 k y0 y1 y2 y3 y4) (wicketmanlaw05_HexaTexts.j0 (k + 1) y0 y1 y2 y3 y4)) ∧ (∀ y0 y1 y2 y3, LeO (wicketmanlaw05_HexaTexts.j1 k y0 y1 y2 y3) (wicketmanlaw05_HexaTexts.j1 (k + 1) y0 y1 y2 y3))
  | 0 => ⟨fun _ _ _ _ _ r h => by simp [wicketmanlaw05_HexaTexts.j0] at h, fun _ _ _ _ r h => by simp [wicketmanlaw05_HexaTexts.j1] at h⟩
  | k + 1 => by
    obtain ⟨ih0, ih1⟩ := wicketmanlaw05_HexaTexts.mono_l k
    refine ⟨?_, ?_⟩
    · intro y0 y1 y2 y3 y4
      unfold wicketmanlaw05_HexaTexts.j0
      repeat' first
      | (with_reducible exact ih0 _ _ _ _ _)
      | (with_reducible exact ih1 _ _ _ _)
      | (with_reducible exact wicketmanlaw05_bytes.mono _ _)
      | (with_reducible exact wicketmanref05_ID.mono _ _)
      | (with_reducible exact LeO.refl _)
      | (with_reducible exact LeO.none _)
      | (with_reducible refine LeO.ite ?_ ?_)
      | (with_reducible refine LeO.bind ?_ (fun _ => ?_))
      | exact ih0 _ _ _ _ _
      | exact ih1 _ _ _ _
      | exact wicketmanlaw05_bytes.mono _ _
      | exact wicketmanref05_ID.mono _ _
      | exact LeO.none _
      | refine LeO.ite ?_ ?_
      | refine LeO.bind ?_ (fun _ => ?_)
    · intro y0 y1 y2 y3
      unfold wicketmanlaw05_HexaTexts.j1
      repeat' first
      | (with_reducible exact ih0 _ _ _ _ _)
      | (with_reducible exact ih1 _ _ _ _)
      | (with_reducible exact wicketmanlaw05_bytes.mono _ _)
      | (with_reducible exact wicketmanref05_ID.mono _ _)
      | (with_reducible exact LeO.refl _)
      | (with_reducible exact LeO.none _)
      | (with_reducible refine LeO.ite ?_ ?_)
      | (with_reducible refine LeO.bind ?_ (fun _ => ?_))
      | exact ih0 _ _ _ _ _
      | exact ih1 _ _ _ _
      | exact wicketmanlaw05_bytes.mono _ _
      | exact wicketmanref05_ID.mono _ _
      | exact LeO.none _
      | refine LeO.ite ?_ ?_
      | refine LeO.bind ?_ (fun _ => ?_)
theorem wicketmanlaw05_HexaTexts.mono : ∀ a0 a1 a2 a3 k, LeO (wicketmanlaw05_HexaTexts.f k a0 a1 a2 a3) (wicketmanlaw05_HexaTexts.f (k + 1) a0 a1 a2 a3) := by
  intro a0 a1 a2 a3 k
  obtain ⟨ih0, ih1⟩ := wicketmanlaw05_HexaTexts.mono_l k
  unfold wicketmanlaw05_HexaTexts.f
  repeat' first
      | (with_reducible exact ih0 _ _ _ _ _)
      | (with_reducible exact ih1 _ _ _ _)
      | (with_reducible exact wicketmanlaw05_bytes.mono _ _)
      | (with_reducible exact wicketmanref05_ID.mono _ _)
      | (with_reducible exact LeO.refl _)
      | (with_reducible exact LeO.none _)
      | (with_reducible refine LeO.ite ?_ ?_)
      | (with_reducible refine LeO.bind ?_ (fun _ => ?_))
      | exact ih0 _ _ _ _ _
      | exact ih1 _ _ _ _
      | exact wicketmanlaw05_bytes.mono _ _
      | exact wicketmanref05_ID.mono _ _
      | exact LeO.none _
      | refine LeO.ite ?_ ?_
      | refine LeO.bind ?_ (fun _ => ?_)
def wicketmanlaw05_HexaTexts.T7 : Bool × List (List Nat × List Nat) := (true, [([], []), ([], []), ([0, 1], [0, 1]), ([], []), ([3], [3]), ([4], [4]), ([2, 5], [2, 5]), ([], []), ([], []), ([8], [8]), ([7, 9], [7, 9]), ([6, 10], [6, 10]), ([11, 0, 1, 2, 3, 4, 5, 6, 7, 8, 9, 10, 11], [11])])
def wicketmanlaw05_HexaTexts.B7 : List Nat := [0, 0, 3, 0, 8, 24, 63, 0, 0, 256, 896, 2047, 4095]
theorem wicketmanlaw05_HexaTexts.tab7 : rtab .any (opsOf Try.f7 7) = wicketmanlaw05_HexaTexts.T7 := by kernel_rfl
theorem wicketmanlaw05_HexaTexts.bits7 : waitsOk wicketmanlaw05_HexaTexts.T7.2 wicketmanlaw05_HexaTexts.B7 = true := by kernel_rfl
set_option maxHeartbeats 8000000 in
set_option maxRecDepth 1000000 in
theorem wicketmanlaw05_HexaTexts.calls (k : Nat) (A0 : Option Addr) (c0 : Nat) (l0 : List Int) (a1 : ByteArray) (a2 : Int) (a3 : Int) (r : Bool) (w : World) (hr0 : Kd.C (Kd.int .u8) w A0 l0.length l0) (hc0 : l0.length ≤ c0) (h : wicketmanlaw05_HexaTexts.f k l0 a1 a2 a3 = some r) :
    Calls Try.prog 7 #[.slice A0 l0.length c0, .string a1, .int .u8 a2, .int .u8 a3] w fun e w' => e = .returned (.bool r) ∧ Below w.heap.size w w' := by
  have HR0 := Aside0.mk hr0
  have HC0 := Aside0.mk hc0
  clear hr0 hc0
  have HB := Aside0.mk (Below.refl w.heap.size w)
  have H : (if (l0.length : Int) > 100 then (wicketmanlaw05_HexaTexts.j0 k l0 a1 a2 a3 true) else (if (a1.size : Int) > 200 then (wicketmanlaw05_HexaTexts.j0 k l0 a1 a2 a3 true) else ((wicketmanlaw05_known.f).bind fun t101 => (wicketmanlaw05_HexaTexts.j0 k l0 a1 a2 a3 (!t101))))) = some r := h
  clear h
  have HC5 := Aside0.mk H
  clear H
  go_enter Try.func7, Try.ntmps7
  go_upto_region 1 with (fail)
  go_cut [29] (fun v29 wc => ∃ (kq : Nat) (x29_4 : Bool), v29 = .bool x29_4 ∧ Aside0 (wicketmanlaw05_HexaTexts.j0 kq l0 a1 a2 a3 x29_4 = some r) ∧ Aside0 (kq ≤ k) ∧ Aside0 (Below w.heap.size w wc))
  case first =>
    have H := HC5.out
    clear HC5
    by_cases c6 : (l0.length : Int) > 100
    · rw [if_pos c6] at H
      have c6b0 : decide (100 < (l0.length : Int)) = true := decide_eq_true c6
      have c6b1 : decide (100 < l0.length) = true := decide_eq_true (by omega)
      clear c6
      (first | rw [c6b0] | (simp only [i64_w, i32_w]; rw [c6b0]) | skip)
      have H' := Aside0.mk H
      clear H
      go_wp2
      go_meet
      case rel => exact ⟨_, (true), (by first | rfl | (simp; done) | (simp [*]; done)), H', ⟨by first | omega | exact Nat.le_refl _⟩, ⟨by repeat (first | (with_reducible first | exact HB.out | apply below_alloc | apply pw_below_drewN | apply below_drew1) | exact HB.out)⟩⟩
    · rw [if_neg c6] at H
      have c6b0 : decide (100 < (l0.length : Int)) = false := decide_eq_false c6
      have c6b1 : decide (100 < l0.length) = false := decide_eq_false (by omega)
      clear c6
      (first | rw [c6b0] | (simp only [i64_w, i32_w]; rw [c6b0]) | skip)
      by_cases c7 : (a1.size : Int) > 200
      · rw [if_pos c7] at H
        have c7b0 : decide (200 < (a1.size : Int)) = true := decide_eq_true c7
        have c7b1 : decide (200 < a1.size) = true := decide_eq_true (by omega)
        clear c7
        have H' := Aside0.mk H
        clear H
        go_wp2
        go_meet
        case rel => exact ⟨_, (true), (by first | rfl | (simp; done) | (simp [*]; done)), H', ⟨by first | omega | exact Nat.le_refl _⟩, ⟨by repeat (first | (with_reducible first | exact HB.out | apply below_alloc | apply pw_below_drewN | apply below_drew1) | exact HB.out)⟩⟩
      · rw [if_neg c7] at H
        have c7b0 : decide (200 < (a1.size : Int)) = false := decide_eq_false c7
        have c7b1 : decide (200 < a1.size) = false := decide_eq_false (by omega)
        clear c7
        replace H := Option.bind_eq_some_iff.mp H
        obtain ⟨t101, A80, H⟩ := H
        replace H : (wicketmanlaw05_HexaTexts.j0 k l0 a1 a2 a3 (!t101)) = some r := H
        have A8 := Aside0.mk A80
        clear A80
        have H' := Aside0.mk H
        clear H
        go_wp2_with (first | (go_at_call 15; (with_reducible refine (wicketmanlaw05_known.calls  t101 _ A8.out).mono ?_); rintro e w9 ⟨rfl, hb⟩; have n0_ := Aside0.mk (below_step (by repeat (first | (with_reducible first | exact HB.out | apply below_alloc | apply pw_below_drewN | apply below_drew1) | exact HB.out)) hb); clear HB; have HB := n0_; clear n0_; (try clear hb); (try clear hb2); (try clear hk); (try clear hi)))
        go_meet
        case rel => exact ⟨_, (!t101), (by first | rfl | (simp; done) | (simp [*]; done)), H', ⟨by first | omega | exact Nat.le_refl _⟩, ⟨by repeat (first | (with_reducible first | exact HB.out | apply below_alloc | apply pw_below_drewN | apply below_drew1) | exact HB.out)⟩⟩
  case rest =>
    clear HC5
    try clear p2
    try clear c6
    try clear c6b0
    try clear c6b1
    try clear c7
    try clear c7b0
    try clear c7b1
    obtain ⟨kq, x29_4, rfl, HA, HJ4, HB⟩ := hcut
    cases kq with
    | zero => exact absurd HA.out (by simp [wicketmanlaw05_HexaTexts.j0])
    | succ kj4 =>
      have H := HA.out
      clear HA
      simp only [wicketmanlaw05_HexaTexts.j0] at H
      by_cases c10 : x29_4 = true
      · subst c10
        have H1 : ((wicketmanlaw05_known.f).bind fun t102 => (some t102)) = some r := by rw [if_pos rfl] at H; exact H
        clear H
        have H := H1
        clear H1
        replace H := Option.bind_eq_some_iff.mp H
        obtain ⟨t102, A110, H⟩ := H
        replace H : (some t102) = some r := H
        have A11 := Aside0.mk A110
        clear A110
        obtain rfl := Option.some.inj H
        go_wp2_with (first | ((with_reducible refine gate_callee (f := 15) rfl ?_); refine goesL_ (some 30) rfl rfl Try.func15 (by kernel_rfl) rfl #[] rfl (by (try simp only [List.map_toArray, List.map_cons, List.map_nil]); first | done | rfl | (simp only [List.length_drop, List.length_take]; rfl)) ?_; (with_reducible refine (wicketmanlaw05_known.calls  t102 _ A11.out).mono ?_); rintro e w12 ⟨rfl, hb⟩; refine ⟨_, rfl, ?_⟩; have n0_ := Aside0.mk (below_step (by repeat (first | (with_reducible first | exact HB.out | apply below_alloc | apply pw_below_drewN | apply below_drew1) | exact HB.out)) hb); clear HB; have HB := n0_; clear n0_; (try clear hb); (try clear hb2); (try clear hk); (try clear hi)))
        go_ret
        exact ⟨by first | rfl | (simp [errW_none, errW_some] <;> rfl) | (simp [*, errW_none, errW_some] <;> rfl), by repeat (first | (with_reducible first | exact HB.out | apply below_alloc | apply pw_below_drewN | apply below_drew1) | exact HB.out)⟩
      · replace c10 := Bool.eq_false_iff.mpr c10
        subst c10
        have H1 : ((wicketmanref05_Text.f l0).bind fun t103 => (if (t103.size : Int) > 0 then (if (t103.size : Int) = 0 then (none) else (if 0 ≤ (Int.tmod (wrap64 (a2)) (t103.size : Int)) then (if (Int.tmod (wrap64 (a2)) (t103.size : Int)) ≤ (t103.size : Int) then ((some (([a3] : List Int) : List Int)).bind fun y104 => (if (t103.extract 0 ((Int.tmod (wrap64 (a2)) (t103.size : Int)) : Int).toNat).size + (strOfNums y104).size ≤ 9223372036854775807 then (if 0 ≤ (wrap64 ((Int.tmod (wrap64 (a2)) (t103.size : Int)) + 1)) then (if (wrap64 ((Int.tmod (wrap64 (a2)) (t103.size : Int)) + 1)) ≤ (t103.size : Int) then (if ((t103.extract 0 ((Int.tmod (wrap64 (a2)) (t103.size : Int)) : Int).toNat) ++ (strOfNums y104)).size + (t103.extract ((wrap64 ((Int.tmod (wrap64 (a2)) (t103.size : Int)) + 1)) : Int).toNat t103.size).size ≤ 9223372036854775807 then (wicketmanlaw05_HexaTexts.j1 kj4 l0 a1 t103 (((t103.extract 0 ((Int.tmod (wrap64 (a2)) (t103.size : Int)) : Int).toNat) ++ (strOfNums y104)) ++ (t103.extract ((wrap64 ((Int.tmod (wrap64 (a2)) (t103.size : Int)) + 1)) : Int).toNat t103.size))) else (none)) else (none)) else (none)) else (none))) else (none)) else (none))) else (wicketmanlaw05_HexaTexts.j1 kj4 l0 a1 t103 t103))) = some r := by rw [if_neg (show ¬ (false = true) by decide)] at H; exact H
        clear H
        have H := H1
        clear H1
        replace H := Option.bind_eq_some_iff.mp H
        obtain ⟨t103, A130, H⟩ := H
        replace H : (if (t103.size : Int) > 0 then (if (t103.size : Int) = 0 then (none) else (if 0 ≤ (Int.tmod (wrap64 (a2)) (t103.size : Int)) then (if (Int.tmod (wrap64 (a2)) (t103.size : Int)) ≤ (t103.size : Int) then ((some (([a3] : List Int) : List Int)).bind fun y104 => (if (t103.extract 0 ((Int.tmod (wrap64 (a2)) (t103.size : Int)) : Int).toNat).size + (strOfNums y104).size ≤ 9223372036854775807 then (if 0 ≤ (wrap64 ((Int.tmod (wrap64 (a2)) (t103.size : Int)) + 1)) then (if (wrap64 ((Int.tmod (wrap64 (a2)) (t103.size : Int)) + 1)) ≤ (t103.size : Int) then (if ((t103.extract 0 ((Int.tmod (wrap64 (a2)) (t103.size : Int)) : Int).toNat) ++ (strOfNums y104)).size + (t103.extract ((wrap64 ((Int.tmod (wrap64 (a2)) (t103.size : Int)) + 1)) : Int).toNat t103.size).size ≤ 9223372036854775807 then (wicketmanlaw05_HexaTexts.j1 kj4 l0 a1 t103 (((t103.extract 0 ((Int.tmod (wrap64 (a2)) (t103.size : Int)) : Int).toNat) ++ (strOfNums y104)) ++ (t103.extract ((wrap64 ((Int.tmod (wrap64 (a2)) (t103.size : Int)) + 1)) : Int).toNat t103.size))) else (none)) else (none)) else (none)) else (none))) else (none)) else (none))) else (wicketmanlaw05_HexaTexts.j1 kj4 l0 a1 t103 t103)) = some r := H
        have A13 := Aside0.mk A130
        clear A130
        have HC14 := Aside0.mk H
        clear H
        go_upto_if 36 with (first | ((with_reducible refine gate_callee (f := 18) rfl ?_); refine goesL_ (some 32) rfl rfl Try.func18 (by kernel_rfl) rfl #[.slice A0 l0.length c0] rfl (by (try simp only [List.map_toArray, List.map_cons, List.map_nil]); first | done | rfl | (simp only [List.length_drop, List.length_take]; rfl)) ?_; (with_reducible refine (wicketmanref05_Text.calls _ _ l0 t103 _ ?side1 ?side2 A13.out).mono ?_); (case side1 => repeat (first | exact (Kd.C_below HR0.out HB.out) | (with_reducible refine Kd.C_alloc ?_ _) | (with_reducible refine Kd.C_drewN ?_ _) | (with_reducible refine Kd.C_drew ?_))); (case side2 => exact HC0.out); rintro e w15 ⟨rfl, hb⟩; refine ⟨_, rfl, ?_⟩; have n0_ := Aside0.mk (below_step (by repeat (first | (with_reducible first | exact HB.out | apply below_alloc | apply pw_below_drewN | apply below_drew1) | exact HB.out)) hb); clear HB; have HB := n0_; clear n0_; (try clear hb); (try clear hb2); (try clear hk); (try clear hi)))
        (try simp only [Act.put, List.setIfInBounds_toArray, List.set_cons_zero, List.set_cons_succ])
        go_cut [10] (fun v10 wc => ∃ (kq : Nat) (x10_13 : ByteArray), v10 = .string x10_13 ∧ Aside0 (wicketmanlaw05_HexaTexts.j1 kq l0 a1 t103 x10_13 = some r) ∧ Aside0 (kq ≤ kj4) ∧ Aside0 (Below w.heap.size w wc))
        case first =>
          have H := HC14.out
          clear HC14
          by_cases c16 : (t103.size : Int) > 0
          · rw [if_pos c16] at H
            have c16b0 : decide (0 < (t103.size : Int)) = true := decide_eq_true c16
            have c16b1 : decide (0 < t103.size) = true := decide_eq_true (by omega)
            clear c16
            (first | rw [c16b0] | (simp only [i64_w, i32_w]; rw [c16b0]) | skip)
            by_cases c17 : (t103.size : Int) = 0
            · rw [if_pos c17] at H
              exact absurd H (by simp)
            · rw [if_neg c17] at H
              have c17b0 : ((t103.size : Int) == 0) = false := beq_eq_false_iff_ne.mpr c17
              have c17b1 : ((t103.size : Int) != 0) = true := bne_iff_ne.mpr c17
              obtain ⟨ji18, hji18⟩ : ∃ j_ : Int, (Int.tmod (wrap64 (a2)) (t103.size : Int)) = j_ := ⟨_, rfl⟩
              replace H : (if 0 ≤ (ji18) then (if (ji18) ≤ (t103.size : Int) then ((some (([a3] : List Int) : List Int)).bind fun y104 => (if (t103.extract 0 ((ji18) : Int).toNat).size + (strOfNums y104).size ≤ 9223372036854775807 then (if 0 ≤ (wrap64 ((ji18) + 1)) then (if (wrap64 ((ji18) + 1)) ≤ (t103.size : Int) then (if ((t103.extract 0 ((ji18) : Int).toNat) ++ (strOfNums y104)).size + (t103.extract ((wrap64 ((ji18) + 1)) : Int).toNat t103.size).size ≤ 9223372036854775807 then (wicketmanlaw05_HexaTexts.j1 kj4 l0 a1 t103 (((t103.extract 0 ((ji18) : Int).toNat) ++ (strOfNums y104)) ++ (t103.extract ((wrap64 ((ji18) + 1)) : Int).toNat t103.size))) else (none)) else (none)) else (none)) else (none))) else (none)) else (none)) = some r := by first | (rw [hji18] at H; exact H) | (simp only [hji18] at H ⊢; exact H)
              by_cases c19 : 0 ≤ (ji18)
              · rw [if_pos c19] at H
                have c19b0 := eq_true c19
                have c19b1 : decide (0 ≤ (ji18)) = true := decide_eq_true c19
                clear c19
                by_cases c20 : (ji18) ≤ (t103.size : Int)
                · rw [if_pos c20] at H
                  have c20b0 := eq_true c20
                  have c20b1 : decide ((ji18) ≤ (t103.size : Int)) = true := decide_eq_true c20
                  clear c20
                  obtain ⟨y104, hy104⟩ : ∃ y_ : List Int, y_ = (([a3] : List Int)) := ⟨_, rfl⟩
                  replace H : (if (t103.extract 0 ((ji18) : Int).toNat).size + (strOfNums y104).size ≤ 9223372036854775807 then (if 0 ≤ (wrap64 ((ji18) + 1)) then (if (wrap64 ((ji18) + 1)) ≤ (t103.size : Int) then (if ((t103.extract 0 ((ji18) : Int).toNat) ++ (strOfNums y104)).size + (t103.extract ((wrap64 ((ji18) + 1)) : Int).toNat t103.size).size ≤ 9223372036854775807 then (wicketmanlaw05_HexaTexts.j1 kj4 l0 a1 t103 (((t103.extract 0 ((ji18) : Int).toNat) ++ (strOfNums y104)) ++ (t103.extract ((wrap64 ((ji18) + 1)) : Int).toNat t103.size))) else (none)) else (none)) else (none)) else (none)) = some r := by first | (rw [hy104]; with_reducible exact H) | (have H2_ := (Option.bind_some _ _).symm.trans H; rw [hy104]; with_reducible exact H2_) | (have H2_ := (Option.bind_some _ _).symm.trans H; with_reducible exact H2_) | with_reducible exact H | (rw [hy104]; exact H) | exact H
                  have Ny104 := Aside0.mk hy104
                  clear hy104
                  by_cases c21 : (t103.extract 0 ((ji18) : Int).toNat).size + (strOfNums y104).size ≤ 9223372036854775807
                  · rw [if_pos c21] at H
                    have c21b0 := eq_true c21
                    have c21b1 : decide ((t103.extract 0 ((ji18) : Int).toNat).size + (strOfNums y104).size ≤ 9223372036854775807) = true := decide_eq_true c21
                    try have c21b2 : (9223372036854775807 < (t103.extract 0 ((ji18) : Int).toNat).size + (strOfNums y104).size) = False := eq_false (Nat.not_lt.2 c21)
                    try (have c21b3 := c21; simp at c21b3; (try rw [Nat.min_eq_left (by (have z_ := of_decide_eq_true (show decide (ji18 ≤ (t103.size : Int)) = true by assumption)); omega)] at c21b3))
                    try have c21b4 := eq_false (Nat.not_lt.2 c21b3)
                    obtain ⟨ji22, hji22⟩ : ∃ j_ : Int, (wrap64 ((ji18) + 1)) = j_ := ⟨_, rfl⟩
                    replace H : (if 0 ≤ (ji22) then (if (ji22) ≤ (t103.size : Int) then (if ((t103.extract 0 ((ji18) : Int).toNat) ++ (strOfNums y104)).size + (t103.extract ((ji22) : Int).toNat t103.size).size ≤ 9223372036854775807 then (wicketmanlaw05_HexaTexts.j1 kj4 l0 a1 t103 (((t103.extract 0 ((ji18) : Int).toNat) ++ (strOfNums y104)) ++ (t103.extract ((ji22) : Int).toNat t103.size))) else (none)) else (none)) else (none)) = some r := by first | (rw [hji22] at H; exact H) | (simp only [hji22] at H ⊢; exact H)
                    have hji22w : (IntKind.i64.wrap ((ji18) + 1)) = ji22 := (i64_w _).trans hji22
                    by_cases c23 : 0 ≤ (ji22)
                    · rw [if_pos c23] at H
                      have c23b0 := eq_true c23
                      have c23b1 : decide (0 ≤ (ji22)) = true := decide_eq_true c23
                      clear c23
                      by_cases c24 : (ji22) ≤ (t103.size : Int)
                      · rw [if_pos c24] at H
                        have c24b0 := eq_true c24
                        have c24b1 : decide ((ji22) ≤ (t103.size : Int)) = true := decide_eq_true c24
                        clear c24
                        by_cases c25 : ((t103.extract 0 ((ji18) : Int).toNat) ++ (strOfNums y104)).size + (t103.extract ((ji22) : Int).toNat t103.size).size ≤ 9223372036854775807
                        · rw [if_pos c25] at H
                          have c25b0 := eq_true c25
                          have c25b1 : decide (((t103.extract 0 ((ji18) : Int).toNat) ++ (strOfNums y104)).size + (t103.extract ((ji22) : Int).toNat t103.size).size ≤ 9223372036854775807) = true := decide_eq_true c25
                          try have c25b2 : (9223372036854775807 < ((t103.extract 0 ((ji18) : Int).toNat) ++ (strOfNums y104)).size + (t103.extract ((ji22) : Int).toNat t103.size).size) = False := eq_false (Nat.not_lt.2 c25)
                          try (have c25b3 := c25; simp at c25b3; (try rw [Nat.min_eq_left (by (have z_ := of_decide_eq_true (show decide (ji18 ≤ (t103.size : Int)) = true by assumption)); omega)] at c25b3))
                          try have c25b4 := eq_false (Nat.not_lt.2 c25b3)
                          have H' := Aside0.mk H
                          clear H
                          try go_wp2
                          have n0_ := Aside0.mk (below_drew1 HB.out)
                          clear HB
                          have HB := n0_
                          clear n0_
                          refine start_ (n := 13) (S := fun w' => True) (ds := []) #[false, false, false, false, false, false, false, false, false, false, false, false, false] (by kernel_rfl) rfl rfl trivial (fun hHeld => ?_); refine with_tabW wicketmanlaw05_HexaTexts.tab7 wicketmanlaw05_HexaTexts.bits7 (fun HT_ HW_ => ?_)
                          generalize w15.drew = w26 at HB hHeld ⊢
                          refine pure_ (i := 0) (N := some 42) (v := ?_) (a' := ?_) #[true, false, false, false, false, false, false, false, false, false, false, false, false] rfl rfl (any_of HT_.out (by kernel_rfl)) (fun _ _ _ h => h) (Or.inl ⟨by rfl, ?_⟩) ?_ ?_
                          rotate_left
                          · intro w'
                            go_simp
                            with_reducible rfl
                          rotate_left
                          · simp only [Act.put, List.setIfInBounds_toArray, List.set_cons_zero, List.set_cons_succ, i64_w, i32_w]
                            rfl
                          refine pure_ (i := 1) (N := some 43) (v := ?_) (a' := ?_) #[true, true, false, false, false, false, false, false, false, false, false, false, false] rfl rfl (any_of HT_.out (by kernel_rfl)) (fun _ _ _ h => h) (Or.inl ⟨by rfl, ?_⟩) ?_ ?_
                          rotate_left
                          · intro w'
                            go_simp
                            with_reducible rfl
                          rotate_left
                          · simp only [Act.put, List.setIfInBounds_toArray, List.set_cons_zero, List.set_cons_succ, i64_w, i32_w]
                            rfl
                          refine pure_ (i := 2) (N := some 44) (v := ?_) (a' := ?_) #[true, true, true, false, false, false, false, false, false, false, false, false, false] rfl rfl (any_of HT_.out (by kernel_rfl)) (fun _ _ _ h => h) (Or.inl ⟨by rfl, ?_⟩) ?_ ?_
                          rotate_left
                          · intro w'
                            go_simp
                            with_reducible rfl
                          rotate_left
                          · simp only [Act.put, List.setIfInBounds_toArray, List.set_cons_zero, List.set_cons_succ, i64_w, i32_w]
                            rfl
                          refine pure_ (i := 3) (N := some 45) (v := ?_) (a' := ?_) #[true, true, true, true, false, false, false, false, false, false, false, false, false] rfl rfl (any_of HT_.out (by kernel_rfl)) (fun _ _ _ h => h) (Or.inl ⟨by rfl, ?_⟩) ?_ ?_
                          rotate_left
                          · intro w'
                            go_simp
                            with_reducible rfl
                          rotate_left
                          · simp only [Act.put, List.setIfInBounds_toArray, List.set_cons_zero, List.set_cons_succ, i64_w, i32_w]
                            rfl
                          refine pure_ (i := 7) (N := some 49) (v := ?_) (a' := ?_) #[true, true, true, true, false, false, false, true, false, false, false, false, false] rfl rfl (any_of HT_.out (by kernel_rfl)) (fun _ _ _ h => h) (Or.inl ⟨by rfl, ?_⟩) ?_ ?_
                          rotate_left
                          · intro w'
                            go_simp
                            with_reducible rfl
                          rotate_left
                          · simp only [Act.put, List.setIfInBounds_toArray, List.set_cons_zero, List.set_cons_succ, i64_w, i32_w]
                            rfl
                          refine pure_ (i := 8) (N := some 50) (v := ?_) (a' := ?_) #[true, true, true, true, false, false, false, true, true, false, false, false, false] rfl rfl (any_of HT_.out (by kernel_rfl)) (fun _ _ _ h => h) (Or.inl ⟨by rfl, ?_⟩) ?_ ?_
                          rotate_left
                          · intro w'
                            go_simp
                            with_reducible rfl
                          rotate_left
                          · simp only [Act.put, List.setIfInBounds_toArray, List.set_cons_zero, List.set_cons_succ, i64_w, i32_w]
                            rfl
                          refine pure_ (i := 9) (N := some 51) (v := ?_) (a' := ?_) #[true, true, true, true, false, false, false, true, true, true, false, false, false] rfl rfl (any_of HT_.out (by kernel_rfl)) (fun _ _ _ h => h) (Or.inl ⟨by rfl, ?_⟩) ?_ ?_
                          rotate_left
                          · intro w'
                            go_simp
                            with_reducible rfl
                          rotate_left
                          · simp only [Act.put, List.setIfInBounds_toArray, List.set_cons_zero, List.set_cons_succ, i64_w, i32_w]
                            rfl
                          refine pure_ (i := 10) (N := some 52) (v := ?_) (a' := ?_) #[true, true, true, true, false, false, false, true, true, true, true, false, false] rfl rfl (any_of HT_.out (by kernel_rfl)) (fun _ _ _ h => h) (Or.inl ⟨by rfl, ?_⟩) ?_ ?_
                          rotate_left
                          · intro w'
                            go_simp
                            with_reducible rfl
                          rotate_left
                          · simp only [Act.put, List.setIfInBounds_toArray, List.set_cons_zero, List.set_cons_succ, i64_w, i32_w]
                            rfl
                          refine one_ (i := 4) (N := some 46) #[true, true, true, true, true, false, false, true, true, true, true, false, false] rfl rfl (one_of HT_.out (by kernel_rfl)) (by decide) (fun K hK => ?_)
                          refine Kd.R_lit_step (Kd.int .u8) _ 5 ?hg (N := 46) ?hd (xs := ([a3] : List Int)) (inner := [.int .u8 a3]) (ok := fun _ => True) (okp := fun _ => True) ?hr ?hp (fun _ hk => hk) trivial (Below.refl _ _) (Nat.le_refl _) (by simp) ?_; (case hd => rfl); (case hg => rfl); (case hr => first | (go_simp; done) | (go_simp; rfl)); (case hp => exact (Reps.one (show Kd.M (Kd.int .u8) _ _ _ a3 [.int .u8 a3] from rfl) (Reps.none _ _)))
                          intro v105 w27 ho28 hb hg_ hnew_
                          clear hg_ hnew_
                          (first | rw [← Ny104.out] at ho28 | (simp only [Int.reduceToNat] at ho28; rw [← Ny104.out] at ho28))
                          have n0_ := Aside0.mk (Kd.R_lower ho28 (below_size (by repeat (first | (with_reducible first | exact HB.out | apply below_alloc | apply pw_below_drewN | apply below_drew1) | exact HB.out))))
                          have n1_ := Aside0.mk (below_step (by repeat (first | (with_reducible first | exact HB.out | apply below_alloc | apply pw_below_drewN | apply below_drew1) | exact HB.out)) hb)
                          clear HB
                          have HO106 := n0_
                          have HB := n1_
                          clear n0_ n1_
                          clear hb ho28
                          refine hK.out _ _ trivial (fun hHeld => ?_)
                          clear hK K
                          refine norm_ (a' := ?_) ?_ ?_
                          rotate_left
                          · show Act.put _ (some 46) _ = _
                            simp only [Act.put, List.setIfInBounds_toArray, List.set_cons_zero, List.set_cons_succ, i64_w, i32_w]
                            rfl
                          refine one_ (i := 5) (N := some 47) #[true, true, true, true, true, true, false, true, true, true, true, false, false] rfl rfl (one_of HT_.out (by kernel_rfl)) (by decide) (fun K hK => ?_)
                          have hcv29 := own_string (P := Try.prog) Try.underlying22 Try.underlying5 Try.underlying9 (Kd.own_of_R HO106.out)
                          refine value_ (w1 := ?_) (v := ?_) (by rfl) rfl ?_ ?_
                          rotate_left 2
                          · go_simp
                            constructor
                            · rfl
                            · rfl
                          clear hcv29
                          refine hK.out _ _ trivial (fun hHeld => ?_)
                          clear hK K
                          refine norm_ (a' := ?_) ?_ ?_
                          rotate_left
                          · show Act.put _ (some 47) _ = _
                            simp only [Act.put, List.setIfInBounds_toArray, List.set_cons_zero, List.set_cons_succ, i64_w, i32_w]
                            rfl
                          refine pure_ (i := 6) (N := some 48) (v := ?_) (a' := ?_) #[true, true, true, true, true, true, true, true, true, true, true, false, false] rfl rfl (any_of HT_.out (by kernel_rfl)) (fun _ _ _ h => h) (Or.inl ⟨by rfl, ?_⟩) ?_ ?_
                          rotate_left
                          · intro w'
                            go_simp
                            with_reducible rfl
                          rotate_left
                          · simp only [Act.put, List.setIfInBounds_toArray, List.set_cons_zero, List.set_cons_succ, i64_w, i32_w]
                            rfl
                          refine pure_ (i := 11) (N := some 53) (v := ?_) (a' := ?_) #[true, true, true, true, true, true, true, true, true, true, true, true, false] rfl rfl (any_of HT_.out (by kernel_rfl)) (fun _ _ _ h => h) (Or.inl ⟨by rfl, ?_⟩) ?_ ?_
                          rotate_left
                          · intro w'
                            go_simp
                            with_reducible rfl
                          rotate_left
                          · simp only [Act.put, List.setIfInBounds_toArray, List.set_cons_zero, List.set_cons_succ, i64_w, i32_w]
                            rfl
                          refine pure_ (i := 12) (N := some 10) (v := ?_) (a' := ?_) #[true, true, true, true, true, true, true, true, true, true, true, true, true] rfl rfl (any_of HT_.out (by kernel_rfl)) (fun _ _ _ h => h) (Or.inl ⟨by rfl, ?_⟩) ?_ ?_
                          rotate_left
                          · intro w'
                            go_simp
                            with_reducible rfl
                          rotate_left
                          · simp only [Act.put, List.setIfInBounds_toArray, List.set_cons_zero, List.set_cons_succ, i64_w, i32_w]
                            rfl
                          refine done_ (done_of HT_.out (by kernel_rfl)) ?_
                          try go_wp2
                          go_meet
                          case rel => exact ⟨_, (((t103.extract 0 ((ji18) : Int).toNat) ++ (strOfNums y104)) ++ (t103.extract ((ji22) : Int).toNat t103.size)), (by first | rfl | (simp; done) | (simp only [← hji18, ← hji22] <;> (first | rfl | simp)) | (simp [*]; done)), H', ⟨by have := HJ4.out; first | omega | exact Nat.le_refl _⟩, ⟨by repeat (first | (with_reducible first | exact HB.out | apply below_alloc | apply pw_below_drewN | apply below_drew1) | exact HB.out)⟩⟩
                        · rw [if_neg c25] at H
                          exact absurd H (by simp)
                      · rw [if_neg c24] at H
                        exact absurd H (by simp)
                    · rw [if_neg c23] at H
                      exact absurd H (by simp)
                  · rw [if_neg c21] at H
                    exact absurd H (by simp)
                · rw [if_neg c20] at H
                  exact absurd H (by simp)
              · rw [if_neg c19] at H
                exact absurd H (by simp)
          · rw [if_neg c16] at H
            have c16b0 : decide (0 < (t103.size : Int)) = false := decide_eq_false c16
            have c16b1 : decide (0 < t103.size) = false := decide_eq_false (by omega)
            have c16b2 : t103.size = 0 := by omega
            clear c16
            (first | rw [c16b0] | (simp only [i64_w, i32_w]; rw [c16b0]) | skip)
            have H' := Aside0.mk H
            clear H
            go_wp2
            go_meet
            case rel => exact ⟨_, (t103), (by first | rfl | (simp; done) | (simp [*]; done)), H', ⟨by have := HJ4.out; first | omega | exact Nat.le_refl _⟩, ⟨by repeat (first | (with_reducible first | exact HB.out | apply below_alloc | apply pw_below_drewN | apply below_drew1) | exact HB.out)⟩⟩
        case rest =>
          clear HC14
          try clear c1
          try clear c2
          try clear p2
          try clear hcv2
          try clear c6
          try clear c6b0
          try clear c6b1
          try clear p6
          try clear c7
          try clear c7b0
          try clear c7b1
          try clear c10
          try clear c15
          try clear c16
          try clear c16b0
          try clear c16b1
          try clear c17
          try clear c17b0
          try clear c17b1
          try clear c18
          try clear c19
          try clear c19b0
          try clear c19b1
          try clear c20
          try clear c20b0
          try clear c20b1
          try clear c21
          try clear c21b0
          try clear c21b1
          try clear c21b2
          try clear c23
          try clear c23b0
          try clear c23b1
          try clear c24
          try clear c24b0
          try clear c24b1
          try clear c25
          try clear c25b0
          try clear c25b1
          try clear c25b2
          try clear hcv29
          try clear p2
          obtain ⟨kq, x10_13, rfl, HA, HJ13, HB⟩ := hcut
          cases kq with
          | zero => exact absurd HA.out (by simp [wicketmanlaw05_HexaTexts.j1])
          | succ kj13 =>
            have H := HA.out
            clear HA
            simp only [wicketmanlaw05_HexaTexts.j1] at H
            replace H := Option.bind_eq_some_iff.mp H
            obtain ⟨⟨t107, t108⟩, A300, H⟩ := H
            replace H : ((wicketmanref05_Of.f l0).bind fun bt109 => (if ([] : List Int).length + l0.length < 140737488355328 then ((some (([] : List Int) ++ l0 : List Int)).bind fun y111 => (if y111.length + 32 < 140737488355328 then ((some (y111 ++ List.replicate 32 0 : List Int)).bind fun y114 => (if 32 ≤ (y114.length : Int) then ((wicketmanref05_Text.f (y114.take 32)).bind fun t121 => ((hexa_Text.f l0).bind fun t122 => (if t122.toList = t103.toList then ((wicketmanlaw05_bytes.f kj13 a1).bind fun t123 => (if t123 = true then ((wicketmanlaw05_bytes.f kj13 t103).bind fun t124 => (if t124 = true then ((wicketmanlaw05_bytes.f kj13 x10_13).bind fun t125 => (if t125 = true then (if 0 ≤ (wrap64 ((t103.size : Int) - ((t103.size : Int) % 3))) then (if (wrap64 ((t103.size : Int) - ((t103.size : Int) % 3))) ≤ (t103.size : Int) then ((wicketmanlaw05_bytes.f kj13 (t103.extract 0 ((wrap64 ((t103.size : Int) - ((t103.size : Int) % 3))) : Int).toNat)).bind fun t126 => (if t126 = true then (if t107.toList = bt109.1.toList then (if (t108 == bt109.2) = true then ((hexa_ID.f a1).bind fun t127 => ((wicketmanref05_ID.f kj13 a1).bind fun t128 => (if (t127 == t128) = true then ((hexa_ID.f t121).bind fun t129 => (if t129 = true then ((hexa_ID.f t103).bind fun t130 => ((wicketmanref05_ID.f kj13 t103).bind fun t131 => (some (t130 == t131)))) else (none))) else (none)))) else (none)) else (none)) else (none))) else (none)) else (none)) else (none))) else (none))) else (none))) else (none)))) else (none))) else (none))) else (none))) = some r := H
            have A30 := Aside0.mk A300
            clear A300
            replace H := Option.bind_eq_some_iff.mp H
            obtain ⟨⟨t109, t110⟩, A310, H⟩ := H
            replace H : (if ([] : List Int).length + l0.length < 140737488355328 then ((some (([] : List Int) ++ l0 : List Int)).bind fun y111 => (if y111.length + 32 < 140737488355328 then ((some (y111 ++ List.replicate 32 0 : List Int)).bind fun y114 => (if 32 ≤ (y114.length : Int) then ((wicketmanref05_Text.f (y114.take 32)).bind fun t121 => ((hexa_Text.f l0).bind fun t122 => (if t122.toList = t103.toList then ((wicketmanlaw05_bytes.f kj13 a1).bind fun t123 => (if t123 = true then ((wicketmanlaw05_bytes.f kj13 t103).bind fun t124 => (if t124 = true then ((wicketmanlaw05_bytes.f kj13 x10_13).bind fun t125 => (if t125 = true then (if 0 ≤ (wrap64 ((t103.size : Int) - ((t103.size : Int) % 3))) then (if (wrap64 ((t103.size : Int) - ((t103.size : Int) % 3))) ≤ (t103.size : Int) then ((wicketmanlaw05_bytes.f kj13 (t103.extract 0 ((wrap64 ((t103.size : Int) - ((t103.size : Int) % 3))) : Int).toNat)).bind fun t126 => (if t126 = true then (if t107.toList = t109.toList then (if (t108 == t110) = true then ((hexa_ID.f a1).bind fun t127 => ((wicketmanref05_ID.f kj13 a1).bind fun t128 => (if (t127 == t128) = true then ((hexa_ID.f t121).bind fun t129 => (if t129 = true then ((hexa_ID.f t103).bind fun t130 => ((wicketmanref05_ID.f kj13 t103).bind fun t131 => (some (t130 == t131)))) else (none))) else (none)))) else (none)) else (none)) else (none))) else (none)) else (none)) else (none))) else (none))) else (none))) else (none)))) else (none))) else (none))) else (none)) = some r := H
            have A31 := Aside0.mk A310
            clear A310
            by_cases c32 : ([] : List Int).length + l0.length < 140737488355328
            · rw [if_pos c32] at H
              have LMc32 := Aside0.mk c32
              clear c32
              obtain ⟨y111, hy111⟩ : ∃ y_ : List Int, y_ = (([] : List Int) ++ l0) := ⟨_, rfl⟩
              replace H : (if y111.length + 32 < 140737488355328 then ((some (y111 ++ List.replicate 32 0 : List Int)).bind fun y114 => (if 32 ≤ (y114.length : Int) then ((wicketmanref05_Text.f (y114.take 32)).bind fun t121 => ((hexa_Text.f l0).bind fun t122 => (if t122.toList = t103.toList then ((wicketmanlaw05_bytes.f kj13 a1).bind fun t123 => (if t123 = true then ((wicketmanlaw05_bytes.f kj13 t103).bind fun t124 => (if t124 = true then ((wicketmanlaw05_bytes.f kj13 x10_13).bind fun t125 => (if t125 = true then (if 0 ≤ (wrap64 ((t103.size : Int) - ((t103.size : Int) % 3))) then (if (wrap64 ((t103.size : Int) - ((t103.size : Int) % 3))) ≤ (t103.size : Int) then ((wicketmanlaw05_bytes.f kj13 (t103.extract 0 ((wrap64 ((t103.size : Int) - ((t103.size : Int) % 3))) : Int).toNat)).bind fun t126 => (if t126 = true then (if t107.toList = t109.toList then (if (t108 == t110) = true then ((hexa_ID.f a1).bind fun t127 => ((wicketmanref05_ID.f kj13 a1).bind fun t128 => (if (t127 == t128) = true then ((hexa_ID.f t121).bind fun t129 => (if t129 = true then ((hexa_ID.f t103).bind fun t130 => ((wicketmanref05_ID.f kj13 t103).bind fun t131 => (some (t130 == t131)))) else (none))) else (none)))) else (none)) else (none)) else (none))) else (none)) else (none)) else (none))) else (none))) else (none))) else (none)))) else (none))) else (none)) = some r := by first | (rw [hy111]; with_reducible exact H) | (have H2_ := (Option.bind_some _ _).symm.trans H; rw [hy111]; with_reducible exact H2_) | (have H2_ := (Option.bind_some _ _).symm.trans H; with_reducible exact H2_) | with_reducible exact H | (rw [hy111]; exact H) | exact H
              have Ny111 := Aside0.mk hy111
              clear hy111
              by_cases c33 : y111.length + 32 < 140737488355328
              · rw [if_pos c33] at H
                have LMc33 := Aside0.mk c33
                clear c33
                obtain ⟨y114, hy114⟩ : ∃ y_ : List Int, y_ = (y111 ++ List.replicate 32 0) := ⟨_, rfl⟩
                replace H : (if 32 ≤ (y114.length : Int) then ((wicketmanref05_Text.f (y114.take 32)).bind fun t121 => ((hexa_Text.f l0).bind fun t122 => (if t122.toList = t103.toList then ((wicketmanlaw05_bytes.f kj13 a1).bind fun t123 => (if t123 = true then ((wicketmanlaw05_bytes.f kj13 t103).bind fun t124 => (if t124 = true then ((wicketmanlaw05_bytes.f kj13 x10_13).bind fun t125 => (if t125 = true then (if 0 ≤ (wrap64 ((t103.size : Int) - ((t103.size : Int) % 3))) then (if (wrap64 ((t103.size : Int) - ((t103.size : Int) % 3))) ≤ (t103.size : Int) then ((wicketmanlaw05_bytes.f kj13 (t103.extract 0 ((wrap64 ((t103.size : Int) - ((t103.size : Int) % 3))) : Int).toNat)).bind fun t126 => (if t126 = true then (if t107.toList = t109.toList then (if (t108 == t110) = true then ((hexa_ID.f a1).bind fun t127 => ((wicketmanref05_ID.f kj13 a1).bind fun t128 => (if (t127 == t128) = true then ((hexa_ID.f t121).bind fun t129 => (if t129 = true then ((hexa_ID.f t103).bind fun t130 => ((wicketmanref05_ID.f kj13 t103).bind fun t131 => (some (t130 == t131)))) else (none))) else (none)))) else (none)) else (none)) else (none))) else (none)) else (none)) else (none))) else (none))) else (none))) else (none)))) else (none)) = some r := by first | (rw [hy114]; with_reducible exact H) | (have H2_ := (Option.bind_some _ _).symm.trans H; rw [hy114]; with_reducible exact H2_) | (have H2_ := (Option.bind_some _ _).symm.trans H; with_reducible exact H2_) | with_reducible exact H | (rw [hy114]; exact H) | exact H
                have Ny114 := Aside0.mk hy114
                clear hy114
                by_cases c34 : 32 ≤ (y114.length : Int)
                · rw [if_pos c34] at H
                  have c34b0 := eq_true c34
                  have c34b1 : decide (32 ≤ (y114.length : Int)) = true := decide_eq_true c34
                  clear c34
                  obtain ⟨y117, hy117⟩ : ∃ y_ : List Int, y_ = (y114.take 32) := ⟨_, rfl⟩
                  replace H : ((wicketmanref05_Text.f y117).bind fun t121 => ((hexa_Text.f l0).bind fun t122 => (if t122.toList = t103.toList then ((wicketmanlaw05_bytes.f kj13 a1).bind fun t123 => (if t123 = true then ((wicketmanlaw05_bytes.f kj13 t103).bind fun t124 => (if t124 = true then ((wicketmanlaw05_bytes.f kj13 x10_13).bind fun t125 => (if t125 = true then (if 0 ≤ (wrap64 ((t103.size : Int) - ((t103.size : Int) % 3))) then (if (wrap64 ((t103.size : Int) - ((t103.size : Int) % 3))) ≤ (t103.size : Int) then ((wicketmanlaw05_bytes.f kj13 (t103.extract 0 ((wrap64 ((t103.size : Int) - ((t103.size : Int) % 3))) : Int).toNat)).bind fun t126 => (if t126 = true then (if t107.toList = t109.toList then (if (t108 == t110) = true then ((hexa_ID.f a1).bind fun t127 => ((wicketmanref05_ID.f kj13 a1).bind fun t128 => (if (t127 == t128) = true then ((hexa_ID.f t121).bind fun t129 => (if t129 = true then ((hexa_ID.f t103).bind fun t130 => ((wicketmanref05_ID.f kj13 t103).bind fun t131 => (some (t130 == t131)))) else (none))) else (none)))) else (none)) else (none)) else (none))) else (none)) else (none)) else (none))) else (none))) else (none))) else (none)))) = some r := by first | (rw [hy117]; with_reducible exact H) | (have H2_ := (Option.bind_some _ _).symm.trans H; rw [hy117]; with_reducible exact H2_) | (have H2_ := (Option.bind_some _ _).symm.trans H; with_reducible exact H2_) | with_reducible exact H | (rw [hy117]; exact H) | exact H
                  have Ny117 := Aside0.mk hy117
                  clear hy117
                  replace H := Option.bind_eq_some_iff.mp H
                  obtain ⟨t121, A350, H⟩ := H
                  replace H : ((hexa_Text.f l0).bind fun t122 => (if t122.toList = t103.toList then ((wicketmanlaw05_bytes.f kj13 a1).bind fun t123 => (if t123 = true then ((wicketmanlaw05_bytes.f kj13 t103).bind fun t124 => (if t124 = true then ((wicketmanlaw05_bytes.f kj13 x10_13).bind fun t125 => (if t125 = true then (if 0 ≤ (wrap64 ((t103.size : Int) - ((t103.size : Int) % 3))) then (if (wrap64 ((t103.size : Int) - ((t103.size : Int) % 3))) ≤ (t103.size : Int) then ((wicketmanlaw05_bytes.f kj13 (t103.extract 0 ((wrap64 ((t103.size : Int) - ((t103.size : Int) % 3))) : Int).toNat)).bind fun t126 => (if t126 = true then (if t107.toList = t109.toList then (if (t108 == t110) = true then ((hexa_ID.f a1).bind fun t127 => ((wicketmanref05_ID.f kj13 a1).bind fun t128 => (if (t127 == t128) = true then ((hexa_ID.f t121).bind fun t129 => (if t129 = true then ((hexa_ID.f t103).bind fun t130 => ((wicketmanref05_ID.f kj13 t103).bind fun t131 => (some (t130 == t131)))) else (none))) else (none)))) else (none)) else (none)) else (none))) else (none)) else (none)) else (none))) else (none))) else (none))) else (none))) = some r := H
                  have A35 := Aside0.mk A350
                  clear A350
                  replace H := Option.bind_eq_some_iff.mp H
                  obtain ⟨t122, A360, H⟩ := H
                  replace H : (if t122.toList = t103.toList then ((wicketmanlaw05_bytes.f kj13 a1).bind fun t123 => (if t123 = true then ((wicketmanlaw05_bytes.f kj13 t103).bind fun t124 => (if t124 = true then ((wicketmanlaw05_bytes.f kj13 x10_13).bind fun t125 => (if t125 = true then (if 0 ≤ (wrap64 ((t103.size : Int) - ((t103.size : Int) % 3))) then (if (wrap64 ((t103.size : Int) - ((t103.size : Int) % 3))) ≤ (t103.size : Int) then ((wicketmanlaw05_bytes.f kj13 (t103.extract 0 ((wrap64 ((t103.size : Int) - ((t103.size : Int) % 3))) : Int).toNat)).bind fun t126 => (if t126 = true then (if t107.toList = t109.toList then (if (t108 == t110) = true then ((hexa_ID.f a1).bind fun t127 => ((wicketmanref05_ID.f kj13 a1).bind fun t128 => (if (t127 == t128) = true then ((hexa_ID.f t121).bind fun t129 => (if t129 = true then ((hexa_ID.f t103).bind fun t130 => ((wicketmanref05_ID.f kj13 t103).bind fun t131 => (some (t130 == t131)))) else (none))) else (none)))) else (none)) else (none)) else (none))) else (none)) else (none)) else (none))) else (none))) else (none))) else (none)) = some r := H
                  have A36 := Aside0.mk A360
                  clear A360
                  by_cases c37 : t122.toList = t103.toList
                  · rw [if_pos c37] at H
                    have c37b0 : (t122.toList == t103.toList) = true := beq_iff_eq.mpr c37
                    have c37b1 : (t122.toList != t103.toList) = false := bne_eq_false_iff_eq.mpr c37
                    clear c37
                    replace H := Option.bind_eq_some_iff.mp H
                    obtain ⟨t123, A380, H⟩ := H
                    replace H : (if t123 = true then ((wicketmanlaw05_bytes.f kj13 t103).bind fun t124 => (if t124 = true then ((wicketmanlaw05_bytes.f kj13 x10_13).bind fun t125 => (if t125 = true then (if 0 ≤ (wrap64 ((t103.size : Int) - ((t103.size : Int) % 3))) then (if (wrap64 ((t103.size : Int) - ((t103.size : Int) % 3))) ≤ (t103.size : Int) then ((wicketmanlaw05_bytes.f kj13 (t103.extract 0 ((wrap64 ((t103.size : Int) - ((t103.size : Int) % 3))) : Int).toNat)).bind fun t126 => (if t126 = true then (if t107.toList = t109.toList then (if (t108 == t110) = true then ((hexa_ID.f a1).bind fun t127 => ((wicketmanref05_ID.f kj13 a1).bind fun t128 => (if (t127 == t128) = true then ((hexa_ID.f t121).bind fun t129 => (if t129 = true then ((hexa_ID.f t103).bind fun t130 => ((wicketmanref05_ID.f kj13 t103).bind fun t131 => (some (t130 == t131)))) else (none))) else (none)))) else (none)) else (none)) else (none))) else (none)) else (none)) else (none))) else (none))) else (none)) = some r := H
                    have A38 := Aside0.mk A380
                    clear A380
                    by_cases c39 : t123 = true
                    · subst c39
                      have H1 : ((wicketmanlaw05_bytes.f kj13 t103).bind fun t124 => (if t124 = true then ((wicketmanlaw05_bytes.f kj13 x10_13).bind fun t125 => (if t125 = true then (if 0 ≤ (wrap64 ((t103.size : Int) - ((t103.size : Int) % 3))) then (if (wrap64 ((t103.size : Int) - ((t103.size : Int) % 3))) ≤ (t103.size : Int) then ((wicketmanlaw05_bytes.f kj13 (t103.extract 0 ((wrap64 ((t103.size : Int) - ((t103.size : Int) % 3))) : Int).toNat)).bind fun t126 => (if t126 = true then (if t107.toList = t109.toList then (if (t108 == t110) = true then ((hexa_ID.f a1).bind fun t127 => ((wicketmanref05_ID.f kj13 a1).bind fun t128 => (if (t127 == t128) = true then ((hexa_ID.f t121).bind fun t129 => (if t129 = true then ((hexa_ID.f t103).bind fun t130 => ((wicketmanref05_ID.f kj13 t103).bind fun t131 => (some (t130 == t131)))) else (none))) else (none)))) else (none)) else (none)) else (none))) else (none)) else (none)) else (none))) else (none))) = some r := by rw [if_pos rfl] at H; exact H
                      clear H
                      have H := H1
                      clear H1
                      replace H := Option.bind_eq_some_iff.mp H
                      obtain ⟨t124, A400, H⟩ := H
                      replace H : (if t124 = true then ((wicketmanlaw05_bytes.f kj13 x10_13).bind fun t125 => (if t125 = true then (if 0 ≤ (wrap64 ((t103.size : Int) - ((t103.size : Int) % 3))) then (if (wrap64 ((t103.size : Int) - ((t103.size : Int) % 3))) ≤ (t103.size : Int) then ((wicketmanlaw05_bytes.f kj13 (t103.extract 0 ((wrap64 ((t103.size : Int) - ((t103.size : Int) % 3))) : Int).toNat)).bind fun t126 => (if t126 = true then (if t107.toList = t109.toList then (if (t108 == t110) = true then ((hexa_ID.f a1).bind fun t127 => ((wicketmanref05_ID.f kj13 a1).bind fun t128 => (if (t127 == t128) = true then ((hexa_ID.f t121).bind fun t129 => (if t129 = true then ((hexa_ID.f t103).bind fun t130 => ((wicketmanref05_ID.f kj13 t103).bind fun t131 => (some (t130 == t131)))) else (none))) else (none)))) else (none)) else (none)) else (none))) else (none)) else (none)) else (none))) else (none)) = some r := H
                      have A40 := Aside0.mk A400
                      clear A400
                      by_cases c41 : t124 = true
                      · subst c41
                        have H1 : ((wicketmanlaw05_bytes.f kj13 x10_13).bind fun t125 => (if t125 = true then (if 0 ≤ (wrap64 ((t103.size : Int) - ((t103.size : Int) % 3))) then (if (wrap64 ((t103.size : Int) - ((t103.size : Int) % 3))) ≤ (t103.size : Int) then ((wicketmanlaw05_bytes.f kj13 (t103.extract 0 ((wrap64 ((t103.size : Int) - ((t103.size : Int) % 3))) : Int).toNat)).bind fun t126 => (if t126 = true then (if t107.toList = t109.toList then (if (t108 == t110) = true then ((hexa_ID.f a1).bind fun t127 => ((wicketmanref05_ID.f kj13 a1).bind fun t128 => (if (t127 == t128) = true then ((hexa_ID.f t121).bind fun t129 => (if t129 = true then ((hexa_ID.f t103).bind fun t130 => ((wicketmanref05_ID.f kj13 t103).bind fun t131 => (some (t130 == t131)))) else (none))) else (none)))) else (none)) else (none)) else (none))) else (none)) else (none)) else (none))) = some r := by rw [if_pos rfl] at H; exact H
                        clear H
                        have H := H1
                        clear H1
                        replace H := Option.bind_eq_some_iff.mp H
                        obtain ⟨t125, A420, H⟩ := H
                        replace H : (if t125 = true then (if 0 ≤ (wrap64 ((t103.size : Int) - ((t103.size : Int) % 3))) then (if (wrap64 ((t103.size : Int) - ((t103.size : Int) % 3))) ≤ (t103.size : Int) then ((wicketmanlaw05_bytes.f kj13 (t103.extract 0 ((wrap64 ((t103.size : Int) - ((t103.size : Int) % 3))) : Int).toNat)).bind fun t126 => (if t126 = true then (if t107.toList = t109.toList then (if (t108 == t110) = true then ((hexa_ID.f a1).bind fun t127 => ((wicketmanref05_ID.f kj13 a1).bind fun t128 => (if (t127 == t128) = true then ((hexa_ID.f t121).bind fun t129 => (if t129 = true then ((hexa_ID.f t103).bind fun t130 => ((wicketmanref05_ID.f kj13 t103).bind fun t131 => (some (t130 == t131)))) else (none))) else (none)))) else (none)) else (none)) else (none))) else (none)) else (none)) else (none)) = some r := H
                        have A42 := Aside0.mk A420
                        clear A420
                        by_cases c43 : t125 = true
                        · subst c43
                          have H1 : (if 0 ≤ (wrap64 ((t103.size : Int) - ((t103.size : Int) % 3))) then (if (wrap64 ((t103.size : Int) - ((t103.size : Int) % 3))) ≤ (t103.size : Int) then ((wicketmanlaw05_bytes.f kj13 (t103.extract 0 ((wrap64 ((t103.size : Int) - ((t103.size : Int) % 3))) : Int).toNat)).bind fun t126 => (if t126 = true then (if t107.toList = t109.toList then (if (t108 == t110) = true then ((hexa_ID.f a1).bind fun t127 => ((wicketmanref05_ID.f kj13 a1).bind fun t128 => (if (t127 == t128) = true then ((hexa_ID.f t121).bind fun t129 => (if t129 = true then ((hexa_ID.f t103).bind fun t130 => ((wicketmanref05_ID.f kj13 t103).bind fun t131 => (some (t130 == t131)))) else (none))) else (none)))) else (none)) else (none)) else (none))) else (none)) else (none)) = some r := by rw [if_pos rfl] at H; exact H
                          clear H
                          have H := H1
                          clear H1
                          obtain ⟨ji44, hji44⟩ : ∃ j_ : Int, (wrap64 ((t103.size : Int) - ((t103.size : Int) % 3))) = j_ := ⟨_, rfl⟩
                          replace H : (if 0 ≤ (ji44) then (if (ji44) ≤ (t103.size : Int) then ((wicketmanlaw05_bytes.f kj13 (t103.extract 0 ((ji44) : Int).toNat)).bind fun t126 => (if t126 = true then (if t107.toList = t109.toList then (if (t108 == t110) = true then ((hexa_ID.f a1).bind fun t127 => ((wicketmanref05_ID.f kj13 a1).bind fun t128 => (if (t127 == t128) = true then ((hexa_ID.f t121).bind fun t129 => (if t129 = true then ((hexa_ID.f t103).bind fun t130 => ((wicketmanref05_ID.f kj13 t103).bind fun t131 => (some (t130 == t131)))) else (none))) else (none)))) else (none)) else (none)) else (none))) else (none)) else (none)) = some r := by first | (rw [hji44] at H; exact H) | (simp only [hji44] at H ⊢; exact H)
                          (try rw [hji44] at A30)
                          (try rw [hji44] at A31)
                          (try rw [hji44] at A35)
                          (try rw [hji44] at A36)
                          (try rw [hji44] at A38)
                          (try rw [hji44] at A40)
                          (try rw [hji44] at A42)
                          have hji44w : (IntKind.i64.wrap ((t103.size : Int) - ((t103.size : Int) % 3))) = ji44 := (i64_w _).trans hji44
                          by_cases c45 : 0 ≤ (ji44)
                          · rw [if_pos c45] at H
                            have c45b0 := eq_true c45
                            have c45b1 : decide (0 ≤ (ji44)) = true := decide_eq_true c45
                            clear c45
                            by_cases c46 : (ji44) ≤ (t103.size : Int)
                            · rw [if_pos c46] at H
                              have c46b0 := eq_true c46
                              have c46b1 : decide ((ji44) ≤ (t103.size : Int)) = true := decide_eq_true c46
                              clear c46
                              replace H := Option.bind_eq_some_iff.mp H
                              obtain ⟨t126, A470, H⟩ := H
                              replace H : (if t126 = true then (if t107.toList = t109.toList then (if (t108 == t110) = true then ((hexa_ID.f a1).bind fun t127 => ((wicketmanref05_ID.f kj13 a1).bind fun t128 => (if (t127 == t128) = true then ((hexa_ID.f t121).bind fun t129 => (if t129 = true then ((hexa_ID.f t103).bind fun t130 => ((wicketmanref05_ID.f kj13 t103).bind fun t131 => (some (t130 == t131)))) else (none))) else (none)))) else (none)) else (none)) else (none)) = some r := H
                              have A47 := Aside0.mk A470
                              clear A470
                              by_cases c48 : t126 = true
                              · subst c48
                                have H1 : (if t107.toList = t109.toList then (if (t108 == t110) = true then ((hexa_ID.f a1).bind fun t127 => ((wicketmanref05_ID.f kj13 a1).bind fun t128 => (if (t127 == t128) = true then ((hexa_ID.f t121).bind fun t129 => (if t129 = true then ((hexa_ID.f t103).bind fun t130 => ((wicketmanref05_ID.f kj13 t103).bind fun t131 => (some (t130 == t131)))) else (none))) else (none)))) else (none)) else (none)) = some r := by rw [if_pos rfl] at H; exact H
                                clear H
                                have H := H1
                                clear H1
                                by_cases c49 : t107.toList = t109.toList
                                · rw [if_pos c49] at H
                                  have c49b0 : (t107.toList == t109.toList) = true := beq_iff_eq.mpr c49
                                  have c49b1 : (t107.toList != t109.toList) = false := bne_eq_false_iff_eq.mpr c49
                                  clear c49
                                  by_cases c50 : (t108 == t110) = true
                                  · rw [if_pos c50] at H
                                    have c50b0 : (t108 == t110) = true := c50
                                    (try (have c50b1 : decide (t108 = t110) = true := by simpa using c50))
                                    (try (have c50b2 : (t108 == t110) = true := by simpa using c50))
                                    clear c50
                                    replace H := Option.bind_eq_some_iff.mp H
                                    obtain ⟨t127, A510, H⟩ := H
                                    replace H : ((wicketmanref05_ID.f kj13 a1).bind fun t128 => (if (t127 == t128) = true then ((hexa_ID.f t121).bind fun t129 => (if t129 = true then ((hexa_ID.f t103).bind fun t130 => ((wicketmanref05_ID.f kj13 t103).bind fun t131 => (some (t130 == t131)))) else (none))) else (none))) = some r := H
                                    have A51 := Aside0.mk A510
                                    clear A510
                                    replace H := Option.bind_eq_some_iff.mp H
                                    obtain ⟨t128, A520, H⟩ := H
                                    replace H : (if (t127 == t128) = true then ((hexa_ID.f t121).bind fun t129 => (if t129 = true then ((hexa_ID.f t103).bind fun t130 => ((wicketmanref05_ID.f kj13 t103).bind fun t131 => (some (t130 == t131)))) else (none))) else (none)) = some r := H
                                    have A52 := Aside0.mk A520
                                    clear A520
                                    by_cases c53 : (t127 == t128) = true
                                    · rw [if_pos c53] at H
                                      have c53b0 : (t127 == t128) = true := c53
                                      (try (have c53b1 : decide (t127 = t128) = true := by simpa using c53))
                                      (try (have c53b2 : (t127 == t128) = true := by simpa using c53))
                                      clear c53
                                      replace H := Option.bind_eq_some_iff.mp H
                                      obtain ⟨t129, A540, H⟩ := H
                                      replace H : (if t129 = true then ((hexa_ID.f t103).bind fun t130 => ((wicketmanref05_ID.f kj13 t103).bind fun t131 => (some (t130 == t131)))) else (none)) = some r := H
                                      have A54 := Aside0.mk A540
                                      clear A540
                                      by_cases c55 : t129 = true
                                      · subst c55
                                        have H1 : ((hexa_ID.f t103).bind fun t130 => ((wicketmanref05_ID.f kj13 t103).bind fun t131 => (some (t130 == t131)))) = some r := by rw [if_pos rfl] at H; exact H
                                        clear H
                                        have H := H1
                                        clear H1
                                        replace H := Option.bind_eq_some_iff.mp H
                                        obtain ⟨t130, A560, H⟩ := H
                                        replace H : ((wicketmanref05_ID.f kj13 t103).bind fun t131 => (some (t130 == t131))) = some r := H
                                        have A56 := Aside0.mk A560
                                        clear A560
                                        replace H := Option.bind_eq_some_iff.mp H
                                        obtain ⟨t131, A570, H⟩ := H
                                        replace H : (some (t130 == t131)) = some r := H
                                        have A57 := Aside0.mk A570
                                        clear A570
                                        obtain rfl := Option.some.inj H
                                        go_wp2_with (first | ((with_reducible refine gate_callee (f := 19) rfl ?_); refine goesL_ (some 56) rfl rfl Try.func19 (by kernel_rfl) rfl #[.slice A0 l0.length c0] rfl (by (try simp only [List.map_toArray, List.map_cons, List.map_nil]); first | done | rfl | (simp only [List.length_drop, List.length_take]; rfl)) ?_; (with_reducible refine (hexa_Of.calls _ _ l0 t107 t108 _ ?side1 ?side2 A30.out).mono ?_); (case side1 => repeat (first | exact (Kd.C_below HR0.out HB.out) | (with_reducible refine Kd.C_alloc ?_ _) | (with_reducible refine Kd.C_drewN ?_ _) | (with_reducible refine Kd.C_drew ?_))); (case side2 => exact HC0.out); rintro e w58 ⟨rfl, hb⟩; refine ⟨_, rfl, ?_⟩; have n0_ := Aside0.mk (below_step (by repeat (first | (with_reducible first | exact HB.out | apply below_alloc | apply pw_below_drewN | apply below_drew1) | exact HB.out)) hb); clear HB; have HB := n0_; clear n0_; (try clear hb); (try clear hb2); (try clear hk); (try clear hi)) | ((with_reducible refine gate_callee (f := 20) rfl ?_); refine goesL_ (some 61) rfl rfl Try.func20 (by kernel_rfl) rfl #[.slice A0 l0.length c0] rfl (by (try simp only [List.map_toArray, List.map_cons, List.map_nil]); first | done | rfl | (simp only [List.length_drop, List.length_take]; rfl)) ?_; (with_reducible refine (wicketmanref05_Of.calls _ _ l0 t109 t110 _ ?side1 ?side2 A31.out).mono ?_); (case side1 => repeat (first | exact (Kd.C_below HR0.out HB.out) | (with_reducible refine Kd.C_alloc ?_ _) | (with_reducible refine Kd.C_drewN ?_ _) | (with_reducible refine Kd.C_drew ?_))); (case side2 => exact HC0.out); rintro e w59 ⟨rfl, hb⟩; refine ⟨_, rfl, ?_⟩; have n0_ := Aside0.mk (below_step (by repeat (first | (with_reducible first | exact HB.out | apply below_alloc | apply pw_below_drewN | apply below_drew1) | exact HB.out)) hb); clear HB; have HB := n0_; clear n0_; (try clear hb); (try clear hb2); (try clear hk); (try clear hi)) | ((with_reducible refine gate_builtin (b := .append) (xs := #[.tmp 64, .tmp 65]) rfl ?_); (try (refine gate_guard (by rfl) ?_; dsimp only)); at_builtin; refine Kd.R_append_rows (Kd.int .u8) (w0 := w) w.heap.size rfl (.tmp 64) (.tmp 65) 22 5 (.int .u8 0) 1 rfl Try.underlying22 info5 rfl (by decide) (by omega) (.slice none 0 0) ([] : List Int) l0 _ _ _ (fun _ => True) (fun _ => False) rfl rfl ?aO ?aR (fun _ _ h => h) (fun _ h => h.elim) ?aF ?aB ?aS ?aL ?_; (case aR => repeat (first | exact (Kd.C_below HR0.out HB.out) | (with_reducible refine Kd.C_alloc ?_ _) | (with_reducible refine Kd.C_drewN ?_ _) | (with_reducible refine Kd.C_drew ?_))); (case aB => exact (by repeat (first | (with_reducible first | exact HB.out | apply below_alloc | apply pw_below_drewN | apply below_drew1) | exact HB.out))); (case aF => exact (fun _ _ => trivial)); (case aO => exact ((Kd.R_nil _ _ _ _ (fun _ => True)))); (case aS => exact (below_size (by repeat (first | (with_reducible first | exact HB.out | apply below_alloc | apply pw_below_drewN | apply below_drew1) | exact HB.out)))); (case aL => have := LMc32.out; omega); intro v112 w60 ho hb hg hat; rw [← Ny111.out] at ho; have n0_ := Aside0.mk (hb); have n1_ := Aside0.mk (ho); clear HB; have HB := n0_; have HO113 := n1_; clear n0_ n1_; clear ho hb hg hat) | (at_builtin; refine Kd.R_append_zeros (Kd.int .u8) (w0 := w) w.heap.size rfl (.tmp 67) (.const (.int .i64 32)) 22 3 5 (.int .u8 0) 1 rfl Try.underlying22 Try.underlying3 info5 rfl (by decide) (by omega) v112 y111 0 (32 : Int) (fun _ => True) rfl rfl rfl ?aF ?aO (by omega) ?aB ?aS ?aL ?_; (case aB => exact (by repeat (first | (with_reducible first | exact HB.out | apply below_alloc | apply pw_below_drewN | apply below_drew1) | exact HB.out))); (case aF => exact (fun _ _ => trivial)); (case aO => exact (by (with_reducible repeat (first | apply Kd.R_alloc | apply Kd.R_drewN | apply Kd.R_drew)); exact HO113.out)); (case aS => exact (below_size (by repeat (first | (with_reducible first | exact HB.out | apply below_alloc | apply pw_below_drewN | apply below_drew1) | exact HB.out)))); (case aL => have := LMc33.out; omega); intro v115 w61 ho hb hg hat; (first | rw [← Ny114.out] at ho | (simp only [Int.reduceToNat] at ho; rw [← Ny114.out] at ho)); have n0_ := Aside0.mk (hb); have n1_ := Aside0.mk (ho); clear HB; clear HO113; have HB := n0_; have HO116 := n1_; clear n0_ n1_; clear ho hb hg hat; obtain ⟨Ao63, co63, eo63⟩ := Kd.R_slice HO116.out; subst eo63; have q62 : (32 : Int) ≤ ((y114.length : Int) : Int) := of_decide_eq_true (by first | (with_reducible assumption) | assumption); obtain ⟨i062, hi062, _, hsz62, _⟩ := info_parts info5; have hroom62 : y114.length ≤ co63 := (Kd.R_reads' HO116.out).2.1; have hC62 : Kd.C (Kd.int .u8) _ Ao63 y114.length y114 := (Kd.R_reads' HO116.out).2.2; have hcut62 := cut_to (P := Try.prog) 22 5 .i64 Try.underlying22 hi062 Ao63 y114.length co63 32 (by omega) q62 hroom62; have hr62 := Kd.C_take (m := 32) hC62 (by omega); have hy62 : y117.length = (32 : Int).toNat := (by rw [Ny117.out, List.length_take]; omega); rw [← Ny117.out] at hr62; rw [← hy62] at hcut62; have HR120 := Aside0.mk hr62; have HC120 := Aside0.mk (show y117.length ≤ co63 from by omega); clear hr62 hC62 hroom62 hi062 hsz62; have KY62 := Aside0.mk hy62; clear hy62; have KL62 := Aside0.mk (show 32 ≤ y114.length from by omega); replace q62 := eq_true q62) | ((with_reducible refine gate_callee (f := 18) rfl ?_); refine goesL_ (some 71) rfl rfl Try.func18 (by kernel_rfl) rfl #[.slice Ao63 y117.length co63] rfl (by (try simp only [List.map_toArray, List.map_cons, List.map_nil]); first | done | rfl | (simp only [List.length_drop, List.length_take]; rfl)) ?_; (with_reducible refine (wicketmanref05_Text.calls _ _ y117 t121 _ ?side1 ?side2 A35.out).mono ?_); (case side1 => repeat (first | exact (by repeat (first | (with_reducible exact HR120.out) | (with_reducible refine Kd.C_alloc ?_ _) | (with_reducible refine Kd.C_drewN ?_ _) | (with_reducible refine Kd.C_drew ?_) | exact HR120.out)) | (with_reducible refine Kd.C_alloc ?_ _) | (with_reducible refine Kd.C_drewN ?_ _) | (with_reducible refine Kd.C_drew ?_))); (case side2 => exact HC120.out); rintro e w64 ⟨rfl, hb⟩; refine ⟨_, rfl, ?_⟩; have n0_ := Aside0.mk (Kd.R_below (by (with_reducible repeat (first | apply Kd.R_alloc | apply Kd.R_drewN | apply Kd.R_drew)); exact HO116.out) hb); have n1_ := Aside0.mk (Kd.C_below (by repeat (first | (with_reducible exact HR120.out) | (with_reducible refine Kd.C_alloc ?_ _) | (with_reducible refine Kd.C_drewN ?_ _) | (with_reducible refine Kd.C_drew ?_) | exact HR120.out)) hb); have n2_ := Aside0.mk (below_step (by repeat (first | (with_reducible first | exact HB.out | apply below_alloc | apply pw_below_drewN | apply below_drew1) | exact HB.out)) hb); clear HO116; clear HR120; clear HB; have HO116 := n0_; have HR120 := n1_; have HB := n2_; clear n0_ n1_ n2_; (try clear hb); (try clear hb2); (try clear hk); (try clear hi)) | ((with_reducible refine gate_callee (f := 16) rfl ?_); refine goesL_ (some 73) rfl rfl Try.func16 (by kernel_rfl) rfl #[.slice A0 l0.length c0] rfl (by (try simp only [List.map_toArray, List.map_cons, List.map_nil]); first | done | rfl | (simp only [List.length_drop, List.length_take]; rfl)) ?_; (with_reducible refine (hexa_Text.calls _ _ l0 t122 _ ?side1 ?side2 A36.out).mono ?_); (case side1 => repeat (first | exact (Kd.C_below HR0.out HB.out) | (with_reducible refine Kd.C_alloc ?_ _) | (with_reducible refine Kd.C_drewN ?_ _) | (with_reducible refine Kd.C_drew ?_))); (case side2 => exact HC0.out); rintro e w65 ⟨rfl, hb⟩; refine ⟨_, rfl, ?_⟩; have n0_ := Aside0.mk (Kd.R_below (by (with_reducible repeat (first | apply Kd.R_alloc | apply Kd.R_drewN | apply Kd.R_drew)); exact HO116.out) hb); have n1_ := Aside0.mk (Kd.C_below (by repeat (first | (with_reducible exact HR120.out) | (with_reducible refine Kd.C_alloc ?_ _) | (with_reducible refine Kd.C_drewN ?_ _) | (with_reducible refine Kd.C_drew ?_) | exact HR120.out)) hb); have n2_ := Aside0.mk (below_step (by repeat (first | (with_reducible first | exact HB.out | apply below_alloc | apply pw_below_drewN | apply below_drew1) | exact HB.out)) hb); clear HO116; clear HR120; clear HB; have HO116 := n0_; have HR120 := n1_; have HB := n2_; clear n0_ n1_ n2_; (try clear hb); (try clear hb2); (try clear hk); (try clear hi)) | (go_at_call 21; (with_reducible refine (wicketmanlaw05_bytes.calls kj13 a1 true _ A38.out).mono ?_); rintro e w66 ⟨rfl, hb⟩; have n0_ := Aside0.mk (Kd.R_below (by (with_reducible repeat (first | apply Kd.R_alloc | apply Kd.R_drewN | apply Kd.R_drew)); exact HO116.out) hb); have n1_ := Aside0.mk (Kd.C_below (by repeat (first | (with_reducible exact HR120.out) | (with_reducible refine Kd.C_alloc ?_ _) | (with_reducible refine Kd.C_drewN ?_ _) | (with_reducible refine Kd.C_drew ?_) | exact HR120.out)) hb); have n2_ := Aside0.mk (below_step (by repeat (first | (with_reducible first | exact HB.out | apply below_alloc | apply pw_below_drewN | apply below_drew1) | exact HB.out)) hb); clear HO116; clear HR120; clear HB; have HO116 := n0_; have HR120 := n1_; have HB := n2_; clear n0_ n1_ n2_; (try clear hb); (try clear hb2); (try clear hk); (try clear hi)) | (go_at_call 21; (with_reducible refine (wicketmanlaw05_bytes.calls kj13 t103 true _ A40.out).mono ?_); rintro e w67 ⟨rfl, hb⟩; have n0_ := Aside0.mk (Kd.R_below (by (with_reducible repeat (first | apply Kd.R_alloc | apply Kd.R_drewN | apply Kd.R_drew)); exact HO116.out) hb); have n1_ := Aside0.mk (Kd.C_below (by repeat (first | (with_reducible exact HR120.out) | (with_reducible refine Kd.C_alloc ?_ _) | (with_reducible refine Kd.C_drewN ?_ _) | (with_reducible refine Kd.C_drew ?_) | exact HR120.out)) hb); have n2_ := Aside0.mk (below_step (by repeat (first | (with_reducible first | exact HB.out | apply below_alloc | apply pw_below_drewN | apply below_drew1) | exact HB.out)) hb); clear HO116; clear HR120; clear HB; have HO116 := n0_; have HR120 := n1_; have HB := n2_; clear n0_ n1_ n2_; (try clear hb); (try clear hb2); (try clear hk); (try clear hi)) | (go_at_call 21; (with_reducible refine (wicketmanlaw05_bytes.calls kj13 x10_13 true _ A42.out).mono ?_); rintro e w68 ⟨rfl, hb⟩; have n0_ := Aside0.mk (Kd.R_below (by (with_reducible repeat (first | apply Kd.R_alloc | apply Kd.R_drewN | apply Kd.R_drew)); exact HO116.out) hb); have n1_ := Aside0.mk (Kd.C_below (by repeat (first | (with_reducible exact HR120.out) | (with_reducible refine Kd.C_alloc ?_ _) | (with_reducible refine Kd.C_drewN ?_ _) | (with_reducible refine Kd.C_drew ?_) | exact HR120.out)) hb); have n2_ := Aside0.mk (below_step (by repeat (first | (with_reducible first | exact HB.out | apply below_alloc | apply pw_below_drewN | apply below_drew1) | exact HB.out)) hb); clear HO116; clear HR120; clear HB; have HO116 := n0_; have HR120 := n1_; have HB := n2_; clear n0_ n1_ n2_; (try clear hb); (try clear hb2); (try clear hk); (try clear hi)) | (go_at_call 21; (with_reducible refine (wicketmanlaw05_bytes.calls kj13 (t103.extract 0 ((ji44) : Int).toNat) true _ A47.out).mono ?_); rintro e w69 ⟨rfl, hb⟩; have n0_ := Aside0.mk (Kd.R_below (by (with_reducible repeat (first | apply Kd.R_alloc | apply Kd.R_drewN | apply Kd.R_drew)); exact HO116.out) hb); have n1_ := Aside0.mk (Kd.C_below (by repeat (first | (with_reducible exact HR120.out) | (with_reducible refine Kd.C_alloc ?_ _) | (with_reducible refine Kd.C_drewN ?_ _) | (with_reducible refine Kd.C_drew ?_) | exact HR120.out)) hb); have n2_ := Aside0.mk (below_step (by repeat (first | (with_reducible first | exact HB.out | apply below_alloc | apply pw_below_drewN | apply below_drew1) | exact HB.out)) hb); clear HO116; clear HR120; clear HB; have HO116 := n0_; have HR120 := n1_; have HB := n2_; clear n0_ n1_ n2_; (try clear hb); (try clear hb2); (try clear hk); (try clear hi)) | (go_at_call 22; (with_reducible refine (hexa_ID.calls a1 t127 _ A51.out).mono ?_); rintro e w70 ⟨rfl, hb⟩; have n0_ := Aside0.mk (Kd.R_below (by (with_reducible repeat (first | apply Kd.R_alloc | apply Kd.R_drewN | apply Kd.R_drew)); exact HO116.out) hb); have n1_ := Aside0.mk (Kd.C_below (by repeat (first | (with_reducible exact HR120.out) | (with_reducible refine Kd.C_alloc ?_ _) | (with_reducible refine Kd.C_drewN ?_ _) | (with_reducible refine Kd.C_drew ?_) | exact HR120.out)) hb); have n2_ := Aside0.mk (below_step (by repeat (first | (with_reducible first | exact HB.out | apply below_alloc | apply pw_below_drewN | apply below_drew1) | exact HB.out)) hb); clear HO116; clear HR120; clear HB; have HO116 := n0_; have HR120 := n1_; have HB := n2_; clear n0_ n1_ n2_; (try clear hb); (try clear hb2); (try clear hk); (try clear hi)) | (go_at_call 23; (with_reducible refine (wicketmanref05_ID.calls kj13 a1 t128 _ A52.out).mono ?_); rintro e w71 ⟨rfl, hb⟩; have n0_ := Aside0.mk (Kd.R_below (by (with_reducible repeat (first | apply Kd.R_alloc | apply Kd.R_drewN | apply Kd.R_drew)); exact HO116.out) hb); have n1_ := Aside0.mk (Kd.C_below (by repeat (first | (with_reducible exact HR120.out) | (with_reducible refine Kd.C_alloc ?_ _) | (with_reducible refine Kd.C_drewN ?_ _) | (with_reducible refine Kd.C_drew ?_) | exact HR120.out)) hb); have n2_ := Aside0.mk (below_step (by repeat (first | (with_reducible first | exact HB.out | apply below_alloc | apply pw_below_drewN | apply below_drew1) | exact HB.out)) hb); clear HO116; clear HR120; clear HB; have HO116 := n0_; have HR120 := n1_; have HB := n2_; clear n0_ n1_ n2_; (try clear hb); (try clear hb2); (try clear hk); (try clear hi)) | (go_at_call 22; (with_reducible refine (hexa_ID.calls t121 true _ A54.out).mono ?_); rintro e w72 ⟨rfl, hb⟩; have n0_ := Aside0.mk (Kd.R_below (by (with_reducible repeat (first | apply Kd.R_alloc | apply Kd.R_drewN | apply Kd.R_drew)); exact HO116.out) hb); have n1_ := Aside0.mk (Kd.C_below (by repeat (first | (with_reducible exact HR120.out) | (with_reducible refine Kd.C_alloc ?_ _) | (with_reducible refine Kd.C_drewN ?_ _) | (with_reducible refine Kd.C_drew ?_) | exact HR120.out)) hb); have n2_ := Aside0.mk (below_step (by repeat (first | (with_reducible first | exact HB.out | apply below_alloc | apply pw_below_drewN | apply below_drew1) | exact HB.out)) hb); clear HO116; clear HR120; clear HB; have HO116 := n0_; have HR120 := n1_; have HB := n2_; clear n0_ n1_ n2_; (try clear hb); (try clear hb2); (try clear hk); (try clear hi)) | (go_at_call 22; (with_reducible refine (hexa_ID.calls t103 t130 _ A56.out).mono ?_); rintro e w73 ⟨rfl, hb⟩; have n0_ := Aside0.mk (Kd.R_below (by (with_reducible repeat (first | apply Kd.R_alloc | apply Kd.R_drewN | apply Kd.R_drew)); exact HO116.out) hb); have n1_ := Aside0.mk (Kd.C_below (by repeat (first | (with_reducible exact HR120.out) | (with_reducible refine Kd.C_alloc ?_ _) | (with_reducible refine Kd.C_drewN ?_ _) | (with_reducible refine Kd.C_drew ?_) | exact HR120.out)) hb); have n2_ := Aside0.mk (below_step (by repeat (first | (with_reducible first | exact HB.out | apply below_alloc | apply pw_below_drewN | apply below_drew1) | exact HB.out)) hb); clear HO116; clear HR120; clear HB; have HO116 := n0_; have HR120 := n1_; have HB := n2_; clear n0_ n1_ n2_; (try clear hb); (try clear hb2); (try clear hk); (try clear hi)) | (go_at_call 23; (with_reducible refine (wicketmanref05_ID.calls kj13 t103 t131 _ A57.out).mono ?_); rintro e w74 ⟨rfl, hb⟩; have n0_ := Aside0.mk (Kd.R_below (by (with_reducible repeat (first | apply Kd.R_alloc | apply Kd.R_drewN | apply Kd.R_drew)); exact HO116.out) hb); have n1_ := Aside0.mk (Kd.C_below (by repeat (first | (with_reducible exact HR120.out) | (with_reducible refine Kd.C_alloc ?_ _) | (with_reducible refine Kd.C_drewN ?_ _) | (with_reducible refine Kd.C_drew ?_) | exact HR120.out)) hb); have n2_ := Aside0.mk (below_step (by repeat (first | (with_reducible first | exact HB.out | apply below_alloc | apply pw_below_drewN | apply below_drew1) | exact HB.out)) hb); clear HO116; clear HR120; clear HB; have HO116 := n0_; have HR120 := n1_; have HB := n2_; clear n0_ n1_ n2_; (try clear hb); (try clear hb2); (try clear hk); (try clear hi)))
                                        go_ret
                                        exact ⟨by first | rfl | (simp [errW_none, errW_some] <;> rfl) | (simp only [← hji44]; first | rfl | (simp [errW_none, errW_some] <;> rfl)) | (simp [*, errW_none, errW_some] <;> rfl), by repeat (first | (with_reducible first | exact HB.out | apply below_alloc | apply pw_below_drewN | apply below_drew1) | exact HB.out)⟩
                                      · replace c55 := Bool.eq_false_iff.mpr c55
                                        subst c55
                                        have H1 : (none) = some r := by rw [if_neg (show ¬ (false = true) by decide)] at H; exact H
                                        clear H
                                        have H := H1
                                        clear H1
                                        exact absurd H (by simp)
                                    · rw [if_neg c53] at H
                                      exact absurd H (by simp)
                                  · rw [if_neg c50] at H
                                    exact absurd H (by simp)
                                · rw [if_neg c49] at H
                                  exact absurd H (by simp)
                              · replace c48 := Bool.eq_false_iff.mpr c48
                                subst c48
                                have H1 : (none) = some r := by rw [if_neg (show ¬ (false = true) by decide)] at H; exact H
                                clear H
                                have H := H1
                                clear H1
                                exact absurd H (by simp)
                            · rw [if_neg c46] at H
                              exact absurd H (by simp)
                          · rw [if_neg c45] at H
                            exact absurd H (by simp)
                        · replace c43 := Bool.eq_false_iff.mpr c43
                          subst c43
                          have H1 : (none) = some r := by rw [if_neg (show ¬ (false = true) by decide)] at H; exact H
                          clear H
                          have H := H1
                          clear H1
                          exact absurd H (by simp)
                      · replace c41 := Bool.eq_false_iff.mpr c41
                        subst c41
                        have H1 : (none) = some r := by rw [if_neg (show ¬ (false = true) by decide)] at H; exact H
                        clear H
                        have H := H1
                        clear H1
                        exact absurd H (by simp)
                    · replace c39 := Bool.eq_false_iff.mpr c39
                      subst c39
                      have H1 : (none) = some r := by rw [if_neg (show ¬ (false = true) by decide)] at H; exact H
                      clear H
                      have H := H1
                      clear H1
                      exact absurd H (by simp)
                  · rw [if_neg c37] at H
                    exact absurd H (by simp)
                · rw [if_neg c34] at H
                  exact absurd H (by simp)
              · rw [if_neg c33] at H
                exact absurd H (by simp)
            · rw [if_neg c32] at H
              exact absurd H (by simp)

/-- THE ONE PURE STATEMENT of wicketmanlaw05_HexaTexts: yours. -/
def wicketmanlaw05_HexaTexts.Pure : Prop := ∀ (l0 : List Int) (a1 : ByteArray) (a2 : Int) (a3 : Int), l0.length ≤ maxLen → l0.length * 1 ≤ 140737488351232 → (∀ x ∈ l0, (Lit.int .u8 x).wf = true) → a1.size ≤ 140737488351232 → (Lit.int .u8 a2).wf = true → (Lit.int .u8 a3).wf = true → ∃ k, wicketmanlaw05_HexaTexts.f k l0 a1 a2 a3 = some true
theorem wicketmanlaw05_HexaTexts.walk (P : wicketmanlaw05_HexaTexts.Pure) (a0 : Option Addr) (len0 cap0 : Nat) (z0 : List Int) (a1 : ByteArray) (a2 : Int) (a3 : Int) (w : World) (w0 : (a0 = none ∧ len0 = 0 ∧ cap0 = 0 ∧ z0 = []) ∨ ∃ x, a0 = some x ∧ len0 ≤ cap0 ∧ cap0 ≤ maxLen ∧ z0.length = cap0 ∧ (∀ i, i < z0.length → w.cell? (x.add i) = some (.int .u8 (z0.getD i 0))) ∧ ∀ n ∈ z0, (Lit.int .u8 n).wf = true) (y0 : len0 * 1 ≤ 140737488351232) (w1 : a1.size ≤ 140737488351232) (w2 : (Lit.int .u8 a2).wf = true) (w3 : (Lit.int .u8 a3).wf = true) :
    Calls Try.prog 7 #[.slice a0 len0 cap0, .string a1, .int .u8 a2, .int .u8 a3] w fun e w' => e = .returned (.bool true) ∧ Below w.heap.size w w' := by
  obtain ⟨l0, rfl, hr0, hm0, hw0, hc0⟩ := ReadsInt.ofRowC w0
  obtain ⟨k, h⟩ := P l0 a1 a2 a3 hm0 y0 hw0 w1 w2 w3
  refine (wicketmanlaw05_HexaTexts.calls k _ _ l0 a1 a2 a3 true w (Kd.C_of_reads (d := (0 : Int)) (h1 := fun _ => rfl) hr0) hc0 h).mono ?_
  rintro e w' ⟨rfl, hd⟩
  exact ⟨rfl, hd⟩

end Go.Proofs.Ytmepclalglmleaa.Pr
