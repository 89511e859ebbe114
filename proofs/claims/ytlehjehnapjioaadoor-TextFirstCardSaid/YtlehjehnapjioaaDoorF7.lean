-- Written for this claim by wip/myprint.py, this session's driver over the kit's print.py. Not trusted: Lean checks it.
import Derived.Test.YtlehjehnapjioaaDoorF
import Derived.Test.YtlehjehnapjioaaDoorF10
import Derived.Test.YtlehjehnapjioaaDoorF9
import Derived.Test.YtlehjehnapjioaaDoorTx2
namespace Go.Proofs.YtlehjehnapjioaaDoor.Pr
open Go.RowKit Go.Proofs.YtlehjehnapjioaaDoorW.PrintWords Go.Proofs.YtlehjehnapjioaaDoorW.PrintLast Go.Proofs.YtlehjehnapjioaaDoorW.PrintMore Go.Proofs.YtlehjehnapjioaaDoor.E
attribute [local go_sem] max2_int min2_int max_two min_two max_three min_three max_four min_four   -- for this text's walks alone
set_option linter.unusedVariables false
set_option linter.unusedSimpArgs false

/-! ### wicketmanlaw06_TextFirst: function 7 -/
def wicketmanlaw06_TextFirst.f (k : Nat) (l0 : List Int) (a1 : Int) : Option (Bool) := (wicketmanlaw06_Text.f k l0).bind fun t101 => ((text_Name.f t101).bind fun t102 => (if t102 = true then (if (t101.size : Int) = 0 then (none) else ((wicketmanlaw06_known.f).bind fun t106 => (if t106 = true then (if 0 < (t101.size : Int) then (if (bt t101 0) ≥ 97 then (if (bt t101 0) ≤ 122 then (if 0 ≤ (wrap64 (1 + (Int.tmod (wrap64 (a1)) (t101.size : Int)))) then (if (wrap64 (1 + (Int.tmod (wrap64 (a1)) (t101.size : Int)))) ≤ (t101.size : Int) then ((text_Name.f (t101.extract 0 ((wrap64 (1 + (Int.tmod (wrap64 (a1)) (t101.size : Int)))) : Int).toNat)).bind fun t107 => (if t107 = true then (if 1 + t101.size ≤ 9223372036854775807 then ((text_Name.f ((⟨#[95]⟩ : ByteArray) ++ t101)).bind fun t108 => (if t108 = true then (none) else (if t101.size + 1 ≤ 9223372036854775807 then ((text_Name.f (t101 ++ (⟨#[45]⟩ : ByteArray))).bind fun t109 => (some (!t109))) else (none)))) else (none)) else (none))) else (none)) else (none)) else (none)) else (none)) else (none)) else (none)))) else ((wicketmanlaw06_known.f).bind fun t103 => (if t103 = true then (if t101.size + 1 ≤ 9223372036854775807 then ((text_Name.f (t101 ++ (⟨#[32]⟩ : ByteArray))).bind fun t104 => (if t104 = true then (none) else (if 1 + t101.size ≤ 9223372036854775807 then ((text_Name.f ((⟨#[57]⟩ : ByteArray) ++ t101)).bind fun t105 => (some (!t105))) else (none)))) else (none)) else (none)))))
theorem wicketmanlaw06_TextFirst.mono : ∀ a0 a1 k, LeO (wicketmanlaw06_TextFirst.f k a0 a1) (wicketmanlaw06_TextFirst.f (k + 1) a0 a1) := by
  intro a0 a1 k
  unfold wicketmanlaw06_TextFirst.f
  repeat' first
      | (with_reducible exact wicketmanlaw06_Text.mono _ _)
      | (with_reducible exact LeO.refl _)
      | (with_reducible exact LeO.none _)
      | (with_reducible refine LeO.ite ?_ ?_)
      | (with_reducible refine LeO.bind ?_ (fun _ => ?_))
      | exact wicketmanlaw06_Text.mono _ _
      | exact LeO.none _
      | refine LeO.ite ?_ ?_
      | refine LeO.bind ?_ (fun _ => ?_)
set_option maxHeartbeats 8000000 in
set_option maxRecDepth 1000000 in
theorem wicketmanlaw06_TextFirst.calls (k : Nat) (A0 : Option Addr) (c0 : Nat) (l0 : List Int) (a1 : Int) (r : Bool) (w : World) (hr0 : Kd.C (Kd.int .u8) w A0 l0.length l0) (hc0 : l0.length ≤ c0) (h : wicketmanlaw06_TextFirst.f k l0 a1 = some r) (hG_ : RootsIn w) :
    Calls Tryd.prog 7 #[.slice A0 l0.length c0, .int .u8 a1] w fun e w' => e = .returned (.bool r) ∧ Below w.heap.size w w' := by
  have HR0 := Aside0.mk hr0
  have HC0 := Aside0.mk hc0
  clear hr0 hc0
  have HB := Aside0.mk (Below.refl w.heap.size w)
  have HGR := Aside0.mk hG_
  clear hG_
  have H : ((wicketmanlaw06_Text.f k l0).bind fun t101 => ((text_Name.f t101).bind fun t102 => (if t102 = true then (if (t101.size : Int) = 0 then (none) else ((wicketmanlaw06_known.f).bind fun t106 => (if t106 = true then (if 0 < (t101.size : Int) then (if (bt t101 0) ≥ 97 then (if (bt t101 0) ≤ 122 then (if 0 ≤ (wrap64 (1 + (Int.tmod (wrap64 (a1)) (t101.size : Int)))) then (if (wrap64 (1 + (Int.tmod (wrap64 (a1)) (t101.size : Int)))) ≤ (t101.size : Int) then ((text_Name.f (t101.extract 0 ((wrap64 (1 + (Int.tmod (wrap64 (a1)) (t101.size : Int)))) : Int).toNat)).bind fun t107 => (if t107 = true then (if 1 + t101.size ≤ 9223372036854775807 then ((text_Name.f ((⟨#[95]⟩ : ByteArray) ++ t101)).bind fun t108 => (if t108 = true then (none) else (if t101.size + 1 ≤ 9223372036854775807 then ((text_Name.f (t101 ++ (⟨#[45]⟩ : ByteArray))).bind fun t109 => (some (!t109))) else (none)))) else (none)) else (none))) else (none)) else (none)) else (none)) else (none)) else (none)) else (none)))) else ((wicketmanlaw06_known.f).bind fun t103 => (if t103 = true then (if t101.size + 1 ≤ 9223372036854775807 then ((text_Name.f (t101 ++ (⟨#[32]⟩ : ByteArray))).bind fun t104 => (if t104 = true then (none) else (if 1 + t101.size ≤ 9223372036854775807 then ((text_Name.f ((⟨#[57]⟩ : ByteArray) ++ t101)).bind fun t105 => (some (!t105))) else (none)))) else (none)) else (none)))))) = some r := h
  clear h
  replace H := Option.bind_eq_some_iff.mp H
  obtain ⟨t101, A30, H⟩ := H
  replace H : ((text_Name.f t101).bind fun t102 => (if t102 = true then (if (t101.size : Int) = 0 then (none) else ((wicketmanlaw06_known.f).bind fun t106 => (if t106 = true then (if 0 < (t101.size : Int) then (if (bt t101 0) ≥ 97 then (if (bt t101 0) ≤ 122 then (if 0 ≤ (wrap64 (1 + (Int.tmod (wrap64 (a1)) (t101.size : Int)))) then (if (wrap64 (1 + (Int.tmod (wrap64 (a1)) (t101.size : Int)))) ≤ (t101.size : Int) then ((text_Name.f (t101.extract 0 ((wrap64 (1 + (Int.tmod (wrap64 (a1)) (t101.size : Int)))) : Int).toNat)).bind fun t107 => (if t107 = true then (if 1 + t101.size ≤ 9223372036854775807 then ((text_Name.f ((⟨#[95]⟩ : ByteArray) ++ t101)).bind fun t108 => (if t108 = true then (none) else (if t101.size + 1 ≤ 9223372036854775807 then ((text_Name.f (t101 ++ (⟨#[45]⟩ : ByteArray))).bind fun t109 => (some (!t109))) else (none)))) else (none)) else (none))) else (none)) else (none)) else (none)) else (none)) else (none)) else (none)))) else ((wicketmanlaw06_known.f).bind fun t103 => (if t103 = true then (if t101.size + 1 ≤ 9223372036854775807 then ((text_Name.f (t101 ++ (⟨#[32]⟩ : ByteArray))).bind fun t104 => (if t104 = true then (none) else (if 1 + t101.size ≤ 9223372036854775807 then ((text_Name.f ((⟨#[57]⟩ : ByteArray) ++ t101)).bind fun t105 => (some (!t105))) else (none)))) else (none)) else (none))))) = some r := H
  have A3 := Aside0.mk A30
  clear A30
  replace H := Option.bind_eq_some_iff.mp H
  obtain ⟨t102, A40, H⟩ := H
  replace H : (if t102 = true then (if (t101.size : Int) = 0 then (none) else ((wicketmanlaw06_known.f).bind fun t106 => (if t106 = true then (if 0 < (t101.size : Int) then (if (bt t101 0) ≥ 97 then (if (bt t101 0) ≤ 122 then (if 0 ≤ (wrap64 (1 + (Int.tmod (wrap64 (a1)) (t101.size : Int)))) then (if (wrap64 (1 + (Int.tmod (wrap64 (a1)) (t101.size : Int)))) ≤ (t101.size : Int) then ((text_Name.f (t101.extract 0 ((wrap64 (1 + (Int.tmod (wrap64 (a1)) (t101.size : Int)))) : Int).toNat)).bind fun t107 => (if t107 = true then (if 1 + t101.size ≤ 9223372036854775807 then ((text_Name.f ((⟨#[95]⟩ : ByteArray) ++ t101)).bind fun t108 => (if t108 = true then (none) else (if t101.size + 1 ≤ 9223372036854775807 then ((text_Name.f (t101 ++ (⟨#[45]⟩ : ByteArray))).bind fun t109 => (some (!t109))) else (none)))) else (none)) else (none))) else (none)) else (none)) else (none)) else (none)) else (none)) else (none)))) else ((wicketmanlaw06_known.f).bind fun t103 => (if t103 = true then (if t101.size + 1 ≤ 9223372036854775807 then ((text_Name.f (t101 ++ (⟨#[32]⟩ : ByteArray))).bind fun t104 => (if t104 = true then (none) else (if 1 + t101.size ≤ 9223372036854775807 then ((text_Name.f ((⟨#[57]⟩ : ByteArray) ++ t101)).bind fun t105 => (some (!t105))) else (none)))) else (none)) else (none)))) = some r := H
  have A4 := Aside0.mk A40
  clear A40
  by_cases c5 : t102 = true
  · subst c5
    have H1 : (if (t101.size : Int) = 0 then (none) else ((wicketmanlaw06_known.f).bind fun t106 => (if t106 = true then (if 0 < (t101.size : Int) then (if (bt t101 0) ≥ 97 then (if (bt t101 0) ≤ 122 then (if 0 ≤ (wrap64 (1 + (Int.tmod (wrap64 (a1)) (t101.size : Int)))) then (if (wrap64 (1 + (Int.tmod (wrap64 (a1)) (t101.size : Int)))) ≤ (t101.size : Int) then ((text_Name.f (t101.extract 0 ((wrap64 (1 + (Int.tmod (wrap64 (a1)) (t101.size : Int)))) : Int).toNat)).bind fun t107 => (if t107 = true then (if 1 + t101.size ≤ 9223372036854775807 then ((text_Name.f ((⟨#[95]⟩ : ByteArray) ++ t101)).bind fun t108 => (if t108 = true then (none) else (if t101.size + 1 ≤ 9223372036854775807 then ((text_Name.f (t101 ++ (⟨#[45]⟩ : ByteArray))).bind fun t109 => (some (!t109))) else (none)))) else (none)) else (none))) else (none)) else (none)) else (none)) else (none)) else (none)) else (none)))) = some r := by rw [if_pos rfl] at H; exact H
    clear H
    have H := H1
    clear H1
    by_cases c6 : (t101.size : Int) = 0
    · rw [if_pos c6] at H
      exact absurd H (by simp)
    · rw [if_neg c6] at H
      have c6b0 : ((t101.size : Int) == 0) = false := beq_eq_false_iff_ne.mpr c6
      have c6b1 : ((t101.size : Int) != 0) = true := bne_iff_ne.mpr c6
      replace H := Option.bind_eq_some_iff.mp H
      obtain ⟨t106, A70, H⟩ := H
      replace H : (if t106 = true then (if 0 < (t101.size : Int) then (if (bt t101 0) ≥ 97 then (if (bt t101 0) ≤ 122 then (if 0 ≤ (wrap64 (1 + (Int.tmod (wrap64 (a1)) (t101.size : Int)))) then (if (wrap64 (1 + (Int.tmod (wrap64 (a1)) (t101.size : Int)))) ≤ (t101.size : Int) then ((text_Name.f (t101.extract 0 ((wrap64 (1 + (Int.tmod (wrap64 (a1)) (t101.size : Int)))) : Int).toNat)).bind fun t107 => (if t107 = true then (if 1 + t101.size ≤ 9223372036854775807 then ((text_Name.f ((⟨#[95]⟩ : ByteArray) ++ t101)).bind fun t108 => (if t108 = true then (none) else (if t101.size + 1 ≤ 9223372036854775807 then ((text_Name.f (t101 ++ (⟨#[45]⟩ : ByteArray))).bind fun t109 => (some (!t109))) else (none)))) else (none)) else (none))) else (none)) else (none)) else (none)) else (none)) else (none)) else (none)) = some r := H
      have A7 := Aside0.mk A70
      clear A70
      by_cases c8 : t106 = true
      · subst c8
        have H1 : (if 0 < (t101.size : Int) then (if (bt t101 0) ≥ 97 then (if (bt t101 0) ≤ 122 then (if 0 ≤ (wrap64 (1 + (Int.tmod (wrap64 (a1)) (t101.size : Int)))) then (if (wrap64 (1 + (Int.tmod (wrap64 (a1)) (t101.size : Int)))) ≤ (t101.size : Int) then ((text_Name.f (t101.extract 0 ((wrap64 (1 + (Int.tmod (wrap64 (a1)) (t101.size : Int)))) : Int).toNat)).bind fun t107 => (if t107 = true then (if 1 + t101.size ≤ 9223372036854775807 then ((text_Name.f ((⟨#[95]⟩ : ByteArray) ++ t101)).bind fun t108 => (if t108 = true then (none) else (if t101.size + 1 ≤ 9223372036854775807 then ((text_Name.f (t101 ++ (⟨#[45]⟩ : ByteArray))).bind fun t109 => (some (!t109))) else (none)))) else (none)) else (none))) else (none)) else (none)) else (none)) else (none)) else (none)) = some r := by rw [if_pos rfl] at H; exact H
        clear H
        have H := H1
        clear H1
        by_cases c9 : 0 < (t101.size : Int)
        · rw [if_pos c9] at H
          have c9b0 : decide (0 < (t101.size : Int)) = true := decide_eq_true c9
          have c9b1 : decide (0 < t101.size) = true := decide_eq_true (by omega)
          clear c9
          by_cases c11 : (bt t101 0) ≥ 97
          · rw [if_pos c11] at H
            have c11b0 : decide (97 ≤ (bt t101 0)) = true := decide_eq_true c11
            clear c11
            by_cases c13 : (bt t101 0) ≤ 122
            · rw [if_pos c13] at H
              have c13b0 : decide ((bt t101 0) ≤ 122) = true := decide_eq_true c13
              clear c13
              obtain ⟨ji14, hji14⟩ : ∃ j_ : Int, (wrap64 (1 + (Int.tmod (wrap64 (a1)) (t101.size : Int)))) = j_ := ⟨_, rfl⟩
              replace H : (if 0 ≤ (ji14) then (if (ji14) ≤ (t101.size : Int) then ((text_Name.f (t101.extract 0 ((ji14) : Int).toNat)).bind fun t107 => (if t107 = true then (if 1 + t101.size ≤ 9223372036854775807 then ((text_Name.f ((⟨#[95]⟩ : ByteArray) ++ t101)).bind fun t108 => (if t108 = true then (none) else (if t101.size + 1 ≤ 9223372036854775807 then ((text_Name.f (t101 ++ (⟨#[45]⟩ : ByteArray))).bind fun t109 => (some (!t109))) else (none)))) else (none)) else (none))) else (none)) else (none)) = some r := by first | (rw [hji14] at H; exact H) | (simp only [hji14] at H ⊢; exact H)
              (try rw [hji14] at A3)
              (try rw [hji14] at A4)
              (try rw [hji14] at A7)
              have hji14w : (IntKind.i64.wrap (1 + (Int.tmod (wrap64 (a1)) (t101.size : Int)))) = ji14 := (i64_w _).trans hji14
              by_cases c15 : 0 ≤ (ji14)
              · rw [if_pos c15] at H
                have c15b0 := eq_true c15
                have c15b1 : decide (0 ≤ (ji14)) = true := decide_eq_true c15
                clear c15
                by_cases c16 : (ji14) ≤ (t101.size : Int)
                · rw [if_pos c16] at H
                  have c16b0 := eq_true c16
                  have c16b1 : decide ((ji14) ≤ (t101.size : Int)) = true := decide_eq_true c16
                  clear c16
                  replace H := Option.bind_eq_some_iff.mp H
                  obtain ⟨t107, A170, H⟩ := H
                  replace H : (if t107 = true then (if 1 + t101.size ≤ 9223372036854775807 then ((text_Name.f ((⟨#[95]⟩ : ByteArray) ++ t101)).bind fun t108 => (if t108 = true then (none) else (if t101.size + 1 ≤ 9223372036854775807 then ((text_Name.f (t101 ++ (⟨#[45]⟩ : ByteArray))).bind fun t109 => (some (!t109))) else (none)))) else (none)) else (none)) = some r := H
                  have A17 := Aside0.mk A170
                  clear A170
                  by_cases c18 : t107 = true
                  · subst c18
                    have H1 : (if 1 + t101.size ≤ 9223372036854775807 then ((text_Name.f ((⟨#[95]⟩ : ByteArray) ++ t101)).bind fun t108 => (if t108 = true then (none) else (if t101.size + 1 ≤ 9223372036854775807 then ((text_Name.f (t101 ++ (⟨#[45]⟩ : ByteArray))).bind fun t109 => (some (!t109))) else (none)))) else (none)) = some r := by rw [if_pos rfl] at H; exact H
                    clear H
                    have H := H1
                    clear H1
                    by_cases c19 : 1 + t101.size ≤ 9223372036854775807
                    · rw [if_pos c19] at H
                      have c19b0 := eq_true c19
                      have c19b1 : decide (1 + t101.size ≤ 9223372036854775807) = true := decide_eq_true c19
                      try have c19b2 : (9223372036854775807 < 1 + t101.size) = False := eq_false (Nat.not_lt.2 c19)
                      try (have c19b3 := c19; simp at c19b3)
                      try have c19b4 := eq_false (Nat.not_lt.2 c19b3)
                      replace H := Option.bind_eq_some_iff.mp H
                      obtain ⟨t108, A200, H⟩ := H
                      replace H : (if t108 = true then (none) else (if t101.size + 1 ≤ 9223372036854775807 then ((text_Name.f (t101 ++ (⟨#[45]⟩ : ByteArray))).bind fun t109 => (some (!t109))) else (none))) = some r := H
                      have A20 := Aside0.mk A200
                      clear A200
                      by_cases c21 : t108 = true
                      · subst c21
                        have H1 : (none) = some r := by rw [if_pos rfl] at H; exact H
                        clear H
                        have H := H1
                        clear H1
                        exact absurd H (by simp)
                      · replace c21 := Bool.eq_false_iff.mpr c21
                        subst c21
                        have H1 : (if t101.size + 1 ≤ 9223372036854775807 then ((text_Name.f (t101 ++ (⟨#[45]⟩ : ByteArray))).bind fun t109 => (some (!t109))) else (none)) = some r := by rw [if_neg (show ¬ (false = true) by decide)] at H; exact H
                        clear H
                        have H := H1
                        clear H1
                        by_cases c22 : t101.size + 1 ≤ 9223372036854775807
                        · rw [if_pos c22] at H
                          have c22b0 := eq_true c22
                          have c22b1 : decide (t101.size + 1 ≤ 9223372036854775807) = true := decide_eq_true c22
                          try have c22b2 : (9223372036854775807 < t101.size + 1) = False := eq_false (Nat.not_lt.2 c22)
                          try (have c22b3 := c22; simp at c22b3)
                          try have c22b4 := eq_false (Nat.not_lt.2 c22b3)
                          replace H := Option.bind_eq_some_iff.mp H
                          obtain ⟨t109, A230, H⟩ := H
                          replace H : (some (!t109)) = some r := H
                          have A23 := Aside0.mk A230
                          clear A230
                          obtain rfl := Option.some.inj H
                          go_enter Tryd.func7, Tryd.ntmps7
                          go_wp2_with (first | ((with_reducible refine gate_callee (f := 10) rfl ?_); refine goesL_ (some 8) rfl rfl Tryd.func10 (by kernel_rfl) rfl #[.slice A0 l0.length c0] rfl (by (try simp only [List.map_toArray, List.map_cons, List.map_nil]); first | done | rfl | (simp only [List.length_drop, List.length_take]; rfl)) ?_; (with_reducible refine (wicketmanlaw06_Text.calls k _ _ l0 t101 _ ?side1 ?side2 A3.out).mono ?_); (case side1 => repeat (first | exact HR0.out | (with_reducible refine Kd.C_alloc ?_ _) | (with_reducible refine Kd.C_drewN ?_ _) | (with_reducible refine Kd.C_drew ?_))); (case side2 => exact HC0.out); rintro e w24 ⟨rfl, hb⟩; refine ⟨_, rfl, ?_⟩; have n0_ := Aside0.mk (below_step (by repeat (first | (with_reducible first | exact HB.out | apply below_alloc | apply pw_below_drewN | apply below_drew1) | exact HB.out)) hb); clear HB; have HB := n0_; clear n0_; (try clear hb); (try clear hb2); (try clear hk); (try clear hi)) | ((with_reducible refine gate_callee (f := 14) rfl ?_); refine goesL_ (some 10) rfl rfl Tryd.func14 (by kernel_rfl) rfl #[.string t101] rfl (by (try simp only [List.map_toArray, List.map_cons, List.map_nil]); first | done | rfl | (simp only [List.length_drop, List.length_take]; rfl)) ?_; (with_reducible refine (text_Name.calls t101 true _ A4.out (HGR.out.below rfl (by repeat (first | (with_reducible first | exact HB.out | apply below_alloc | apply pw_below_drewN | apply below_drew1) | exact HB.out | exact Aside0.out (by assumption))))).mono ?_); rintro e w25 ⟨rfl, hb⟩; refine ⟨_, rfl, ?_⟩; have n0_ := Aside0.mk (below_step (by repeat (first | (with_reducible first | exact HB.out | apply below_alloc | apply pw_below_drewN | apply below_drew1) | exact HB.out)) hb); clear HB; have HB := n0_; clear n0_; (try clear hb); (try clear hb2); (try clear hk); (try clear hi)) | ((with_reducible refine gate_callee (f := 9) rfl ?_); refine goesL_ (some 31) rfl rfl Tryd.func9 (by kernel_rfl) rfl #[] rfl (by (try simp only [List.map_toArray, List.map_cons, List.map_nil]); first | done | rfl | (simp only [List.length_drop, List.length_take]; rfl)) ?_; (with_reducible refine (wicketmanlaw06_known.calls  true _ A7.out (HGR.out.below rfl (by repeat (first | (with_reducible first | exact HB.out | apply below_alloc | apply pw_below_drewN | apply below_drew1) | exact HB.out | exact Aside0.out (by assumption))))).mono ?_); rintro e w26 ⟨rfl, hb⟩; refine ⟨_, rfl, ?_⟩; have n0_ := Aside0.mk (below_step (by repeat (first | (with_reducible first | exact HB.out | apply below_alloc | apply pw_below_drewN | apply below_drew1) | exact HB.out)) hb); clear HB; have HB := n0_; clear n0_; (try clear hb); (try clear hb2); (try clear hk); (try clear hi); have p10 : 0 ≤ (0 : Int) := (by omega); have q10 : 0 < t101.size := (by have : (0 : Int) < (t101.size : Int) := of_decide_eq_true (by first | (with_reducible assumption) | assumption); omega); have hx10 : ∀ h : 0 < t101.size, ((t101[0]'h).toNat : Int) = bt t101 0 := bt_at t101 0; clear p10; have qi10 : (0 < (t101.size : Int)) = True := eq_true (of_decide_eq_true (by first | (with_reducible assumption) | assumption)); replace q10 := eq_true q10; have p12 : 0 ≤ (0 : Int) := (by omega); have q12 : 0 < t101.size := (by have : (0 : Int) < (t101.size : Int) := of_decide_eq_true (by first | (with_reducible assumption) | assumption); omega); have hx12 : ∀ h : 0 < t101.size, ((t101[0]'h).toNat : Int) = bt t101 0 := bt_at t101 0; clear p12; have qi12 : (0 < (t101.size : Int)) = True := eq_true (of_decide_eq_true (by first | (with_reducible assumption) | assumption)); replace q12 := eq_true q12) | (go_at_call 14; (with_reducible refine (text_Name.calls (t101.extract 0 ((ji14) : Int).toNat) true _ A17.out (HGR.out.below rfl (by repeat (first | (with_reducible first | exact HB.out | apply below_alloc | apply pw_below_drewN | apply below_drew1) | exact HB.out | exact Aside0.out (by assumption))))).mono ?_); rintro e w27 ⟨rfl, hb⟩; have n0_ := Aside0.mk (below_step (by repeat (first | (with_reducible first | exact HB.out | apply below_alloc | apply pw_below_drewN | apply below_drew1) | exact HB.out)) hb); clear HB; have HB := n0_; clear n0_; (try clear hb); (try clear hb2); (try clear hk); (try clear hi)) | (go_at_call 14; (with_reducible refine (text_Name.calls ((⟨#[95]⟩ : ByteArray) ++ t101) false _ A20.out (HGR.out.below rfl (by repeat (first | (with_reducible first | exact HB.out | apply below_alloc | apply pw_below_drewN | apply below_drew1) | exact HB.out | exact Aside0.out (by assumption))))).mono ?_); rintro e w28 ⟨rfl, hb⟩; have n0_ := Aside0.mk (below_step (by repeat (first | (with_reducible first | exact HB.out | apply below_alloc | apply pw_below_drewN | apply below_drew1) | exact HB.out)) hb); clear HB; have HB := n0_; clear n0_; (try clear hb); (try clear hb2); (try clear hk); (try clear hi)) | (go_at_call 14; (with_reducible refine (text_Name.calls (t101 ++ (⟨#[45]⟩ : ByteArray)) t109 _ A23.out (HGR.out.below rfl (by repeat (first | (with_reducible first | exact HB.out | apply below_alloc | apply pw_below_drewN | apply below_drew1) | exact HB.out | exact Aside0.out (by assumption))))).mono ?_); rintro e w29 ⟨rfl, hb⟩; have n0_ := Aside0.mk (below_step (by repeat (first | (with_reducible first | exact HB.out | apply below_alloc | apply pw_below_drewN | apply below_drew1) | exact HB.out)) hb); clear HB; have HB := n0_; clear n0_; (try clear hb); (try clear hb2); (try clear hk); (try clear hi)))
                          go_ret
                          exact ⟨by first | rfl | (simp [errW_none, errW_some] <;> rfl) | (simp only [← hji14]; first | rfl | (simp [errW_none, errW_some] <;> rfl)) | (simp [*, errW_none, errW_some] <;> rfl), by repeat (first | (with_reducible first | exact HB.out | apply below_alloc | apply pw_below_drewN | apply below_drew1) | exact HB.out)⟩
                        · rw [if_neg c22] at H
                          exact absurd H (by simp)
                    · rw [if_neg c19] at H
                      exact absurd H (by simp)
                  · replace c18 := Bool.eq_false_iff.mpr c18
                    subst c18
                    have H1 : (none) = some r := by rw [if_neg (show ¬ (false = true) by decide)] at H; exact H
                    clear H
                    have H := H1
                    clear H1
                    exact absurd H (by simp)
                · rw [if_neg c16] at H
                  exact absurd H (by simp)
              · rw [if_neg c15] at H
                exact absurd H (by simp)
            · rw [if_neg c13] at H
              exact absurd H (by simp)
          · rw [if_neg c11] at H
            exact absurd H (by simp)
        · rw [if_neg c9] at H
          exact absurd H (by simp)
      · replace c8 := Bool.eq_false_iff.mpr c8
        subst c8
        have H1 : (none) = some r := by rw [if_neg (show ¬ (false = true) by decide)] at H; exact H
        clear H
        have H := H1
        clear H1
        exact absurd H (by simp)
  · replace c5 := Bool.eq_false_iff.mpr c5
    subst c5
    have H1 : ((wicketmanlaw06_known.f).bind fun t103 => (if t103 = true then (if t101.size + 1 ≤ 9223372036854775807 then ((text_Name.f (t101 ++ (⟨#[32]⟩ : ByteArray))).bind fun t104 => (if t104 = true then (none) else (if 1 + t101.size ≤ 9223372036854775807 then ((text_Name.f ((⟨#[57]⟩ : ByteArray) ++ t101)).bind fun t105 => (some (!t105))) else (none)))) else (none)) else (none))) = some r := by rw [if_neg (show ¬ (false = true) by decide)] at H; exact H
    clear H
    have H := H1
    clear H1
    replace H := Option.bind_eq_some_iff.mp H
    obtain ⟨t103, A300, H⟩ := H
    replace H : (if t103 = true then (if t101.size + 1 ≤ 9223372036854775807 then ((text_Name.f (t101 ++ (⟨#[32]⟩ : ByteArray))).bind fun t104 => (if t104 = true then (none) else (if 1 + t101.size ≤ 9223372036854775807 then ((text_Name.f ((⟨#[57]⟩ : ByteArray) ++ t101)).bind fun t105 => (some (!t105))) else (none)))) else (none)) else (none)) = some r := H
    have A30 := Aside0.mk A300
    clear A300
    by_cases c31 : t103 = true
    · subst c31
      have H1 : (if t101.size + 1 ≤ 9223372036854775807 then ((text_Name.f (t101 ++ (⟨#[32]⟩ : ByteArray))).bind fun t104 => (if t104 = true then (none) else (if 1 + t101.size ≤ 9223372036854775807 then ((text_Name.f ((⟨#[57]⟩ : ByteArray) ++ t101)).bind fun t105 => (some (!t105))) else (none)))) else (none)) = some r := by rw [if_pos rfl] at H; exact H
      clear H
      have H := H1
      clear H1
      by_cases c32 : t101.size + 1 ≤ 9223372036854775807
      · rw [if_pos c32] at H
        have c32b0 := eq_true c32
        have c32b1 : decide (t101.size + 1 ≤ 9223372036854775807) = true := decide_eq_true c32
        try have c32b2 : (9223372036854775807 < t101.size + 1) = False := eq_false (Nat.not_lt.2 c32)
        try (have c32b3 := c32; simp at c32b3)
        try have c32b4 := eq_false (Nat.not_lt.2 c32b3)
        replace H := Option.bind_eq_some_iff.mp H
        obtain ⟨t104, A330, H⟩ := H
        replace H : (if t104 = true then (none) else (if 1 + t101.size ≤ 9223372036854775807 then ((text_Name.f ((⟨#[57]⟩ : ByteArray) ++ t101)).bind fun t105 => (some (!t105))) else (none))) = some r := H
        have A33 := Aside0.mk A330
        clear A330
        by_cases c34 : t104 = true
        · subst c34
          have H1 : (none) = some r := by rw [if_pos rfl] at H; exact H
          clear H
          have H := H1
          clear H1
          exact absurd H (by simp)
        · replace c34 := Bool.eq_false_iff.mpr c34
          subst c34
          have H1 : (if 1 + t101.size ≤ 9223372036854775807 then ((text_Name.f ((⟨#[57]⟩ : ByteArray) ++ t101)).bind fun t105 => (some (!t105))) else (none)) = some r := by rw [if_neg (show ¬ (false = true) by decide)] at H; exact H
          clear H
          have H := H1
          clear H1
          by_cases c35 : 1 + t101.size ≤ 9223372036854775807
          · rw [if_pos c35] at H
            have c35b0 := eq_true c35
            have c35b1 : decide (1 + t101.size ≤ 9223372036854775807) = true := decide_eq_true c35
            try have c35b2 : (9223372036854775807 < 1 + t101.size) = False := eq_false (Nat.not_lt.2 c35)
            try (have c35b3 := c35; simp at c35b3)
            try have c35b4 := eq_false (Nat.not_lt.2 c35b3)
            replace H := Option.bind_eq_some_iff.mp H
            obtain ⟨t105, A360, H⟩ := H
            replace H : (some (!t105)) = some r := H
            have A36 := Aside0.mk A360
            clear A360
            obtain rfl := Option.some.inj H
            go_enter Tryd.func7, Tryd.ntmps7
            go_wp2_with (first | ((with_reducible refine gate_callee (f := 10) rfl ?_); refine goesL_ (some 8) rfl rfl Tryd.func10 (by kernel_rfl) rfl #[.slice A0 l0.length c0] rfl (by (try simp only [List.map_toArray, List.map_cons, List.map_nil]); first | done | rfl | (simp only [List.length_drop, List.length_take]; rfl)) ?_; (with_reducible refine (wicketmanlaw06_Text.calls k _ _ l0 t101 _ ?side1 ?side2 A3.out).mono ?_); (case side1 => repeat (first | exact HR0.out | (with_reducible refine Kd.C_alloc ?_ _) | (with_reducible refine Kd.C_drewN ?_ _) | (with_reducible refine Kd.C_drew ?_))); (case side2 => exact HC0.out); rintro e w37 ⟨rfl, hb⟩; refine ⟨_, rfl, ?_⟩; have n0_ := Aside0.mk (below_step (by repeat (first | (with_reducible first | exact HB.out | apply below_alloc | apply pw_below_drewN | apply below_drew1) | exact HB.out)) hb); clear HB; have HB := n0_; clear n0_; (try clear hb); (try clear hb2); (try clear hk); (try clear hi)) | ((with_reducible refine gate_callee (f := 14) rfl ?_); refine goesL_ (some 10) rfl rfl Tryd.func14 (by kernel_rfl) rfl #[.string t101] rfl (by (try simp only [List.map_toArray, List.map_cons, List.map_nil]); first | done | rfl | (simp only [List.length_drop, List.length_take]; rfl)) ?_; (with_reducible refine (text_Name.calls t101 false _ A4.out (HGR.out.below rfl (by repeat (first | (with_reducible first | exact HB.out | apply below_alloc | apply pw_below_drewN | apply below_drew1) | exact HB.out | exact Aside0.out (by assumption))))).mono ?_); rintro e w38 ⟨rfl, hb⟩; refine ⟨_, rfl, ?_⟩; have n0_ := Aside0.mk (below_step (by repeat (first | (with_reducible first | exact HB.out | apply below_alloc | apply pw_below_drewN | apply below_drew1) | exact HB.out)) hb); clear HB; have HB := n0_; clear n0_; (try clear hb); (try clear hb2); (try clear hk); (try clear hi)) | ((with_reducible refine gate_callee (f := 9) rfl ?_); refine goesL_ (some 12) rfl rfl Tryd.func9 (by kernel_rfl) rfl #[] rfl (by (try simp only [List.map_toArray, List.map_cons, List.map_nil]); first | done | rfl | (simp only [List.length_drop, List.length_take]; rfl)) ?_; (with_reducible refine (wicketmanlaw06_known.calls  true _ A30.out (HGR.out.below rfl (by repeat (first | (with_reducible first | exact HB.out | apply below_alloc | apply pw_below_drewN | apply below_drew1) | exact HB.out | exact Aside0.out (by assumption))))).mono ?_); rintro e w39 ⟨rfl, hb⟩; refine ⟨_, rfl, ?_⟩; have n0_ := Aside0.mk (below_step (by repeat (first | (with_reducible first | exact HB.out | apply below_alloc | apply pw_below_drewN | apply below_drew1) | exact HB.out)) hb); clear HB; have HB := n0_; clear n0_; (try clear hb); (try clear hb2); (try clear hk); (try clear hi)) | (go_at_call 14; (with_reducible refine (text_Name.calls (t101 ++ (⟨#[32]⟩ : ByteArray)) false _ A33.out (HGR.out.below rfl (by repeat (first | (with_reducible first | exact HB.out | apply below_alloc | apply pw_below_drewN | apply below_drew1) | exact HB.out | exact Aside0.out (by assumption))))).mono ?_); rintro e w40 ⟨rfl, hb⟩; have n0_ := Aside0.mk (below_step (by repeat (first | (with_reducible first | exact HB.out | apply below_alloc | apply pw_below_drewN | apply below_drew1) | exact HB.out)) hb); clear HB; have HB := n0_; clear n0_; (try clear hb); (try clear hb2); (try clear hk); (try clear hi)) | (go_at_call 14; (with_reducible refine (text_Name.calls ((⟨#[57]⟩ : ByteArray) ++ t101) t105 _ A36.out (HGR.out.below rfl (by repeat (first | (with_reducible first | exact HB.out | apply below_alloc | apply pw_below_drewN | apply below_drew1) | exact HB.out | exact Aside0.out (by assumption))))).mono ?_); rintro e w41 ⟨rfl, hb⟩; have n0_ := Aside0.mk (below_step (by repeat (first | (with_reducible first | exact HB.out | apply below_alloc | apply pw_below_drewN | apply below_drew1) | exact HB.out)) hb); clear HB; have HB := n0_; clear n0_; (try clear hb); (try clear hb2); (try clear hk); (try clear hi)))
            go_ret
            exact ⟨by first | rfl | (simp [errW_none, errW_some] <;> rfl) | (simp [*, errW_none, errW_some] <;> rfl), by repeat (first | (with_reducible first | exact HB.out | apply below_alloc | apply pw_below_drewN | apply below_drew1) | exact HB.out)⟩
          · rw [if_neg c35] at H
            exact absurd H (by simp)
      · rw [if_neg c32] at H
        exact absurd H (by simp)
    · replace c31 := Bool.eq_false_iff.mpr c31
      subst c31
      have H1 : (none) = some r := by rw [if_neg (show ¬ (false = true) by decide)] at H; exact H
      clear H
      have H := H1
      clear H1
      exact absurd H (by simp)

/-- THE ONE PURE STATEMENT of wicketmanlaw06_TextFirst: yours. -/
def wicketmanlaw06_TextFirst.Pure : Prop := ∀ (l0 : List Int) (a1 : Int), l0.length ≤ maxLen → l0.length * 1 ≤ 140737488351232 → (∀ x ∈ l0, (Lit.int .u8 x).wf = true) → (Lit.int .u8 a1).wf = true → ∃ k, wicketmanlaw06_TextFirst.f k l0 a1 = some true
theorem wicketmanlaw06_TextFirst.walk (P : wicketmanlaw06_TextFirst.Pure) (a0 : Option Addr) (len0 cap0 : Nat) (z0 : List Int) (a1 : Int) (w : World) (w0 : (a0 = none ∧ len0 = 0 ∧ cap0 = 0 ∧ z0 = []) ∨ ∃ x, a0 = some x ∧ len0 ≤ cap0 ∧ cap0 ≤ maxLen ∧ z0.length = cap0 ∧ (∀ i, i < z0.length → w.cell? (x.add i) = some (.int .u8 (z0.getD i 0))) ∧ ∀ n ∈ z0, (Lit.int .u8 n).wf = true) (y0 : len0 * 1 ≤ 140737488351232) (w1 : (Lit.int .u8 a1).wf = true) (hG_ : RootsIn w) :
    Calls Tryd.prog 7 #[.slice a0 len0 cap0, .int .u8 a1] w fun e w' => e = .returned (.bool true) ∧ Below w.heap.size w w' := by
  obtain ⟨l0, rfl, hr0, hm0, hw0, hc0⟩ := ReadsInt.ofRowC w0
  obtain ⟨k, h⟩ := P l0 a1 hm0 y0 hw0 w1
  refine (wicketmanlaw06_TextFirst.calls k _ _ l0 a1 true w (Kd.C_of_reads (d := (0 : Int)) (h1 := fun _ => rfl) hr0) hc0 h hG_).mono ?_
  rintro e w' ⟨rfl, hd⟩
  exact ⟨rfl, hd⟩

end Go.Proofs.YtlehjehnapjioaaDoor.Pr
