-- Written for this claim by wip/myprint.py, this session's driver over the kit's print.py. Not trusted: Lean checks it.
import Derived.Test.YtlehjehnapjioaaDoorF
import Derived.Test.YtlehjehnapjioaaDoorF10
import Derived.Test.YtlehjehnapjioaaDoorF9
import Derived.Test.YtlehjehnapjioaaDoorTx2
namespace Go.Proofs.YtlehjehnapjioaaDoor.Pr
open Go.RowKit Go.Proofs.YtlehjehnapjioaaDoorW.PrintWords Go.Proofs.YtlehjehnapjioaaDoorW.PrintLast Go.Proofs.YtlehjehnapjioaaDoorW.PrintMore Go.Proofs.YtlehjehnapjioaaDoor.E
attribute [local go_sem] max2_int min2_int max_two min_two max_three min_three max_four min_four   -- for this text's walks alone
set_option linter.unusedVariables false
set_option linter.unusedSimpArgs false

/-! ### wicketmanlaw06_TextSafe: function 5 -/
def wicketmanlaw06_TextSafe.l0 : Nat → Int → ByteArray → ByteArray → ByteArray → Int → Option (Bool)
  | 0, _, _, _, _, _ => none
  | k + 1, x2, x7, x8, x9, x10 => if x10 < (x9.size : Int) then (if 0 ≤ x10 then (if (bt x9 x10) = 60 then (none) else (if (bt x9 x10) = 62 then (none) else (if (bt x9 x10) = 34 then (none) else (if (bt x9 x10) = 39 then (none) else (wicketmanlaw06_TextSafe.l0 k x2 x7 x8 x9 (wrap64 (x10 + 1))))))) else (none)) else ((text_Runes.f x9).bind fun bt104 => ((text_Runes.f x7).bind fun bt106 => ((text_Runes.f x8).bind fun bt108 => (if 0 ≤ (wrap64 (Int.tmod x2 8)) then (if (wrap64 (Int.tmod x2 8)) ≤ 7 then ((wicketmanlaw06_known.f).bind fun t110 => (if t110 = true then (if bt104.2 = true then (if bt106.2 = true then (if bt108.2 = true then (if x7.size + x8.size ≤ 9223372036854775807 then ((text_Escape.f (x7 ++ x8)).bind fun t111 => ((text_Escape.f x8).bind fun t112 => (if x9.size + t112.size ≤ 9223372036854775807 then (if t111.toList = (x9 ++ t112).toList then ((text_Escape.f ((⟨#[97, 98, 99, 32, 120, 121, 122]⟩ : ByteArray).extract 0 ((wrap64 (Int.tmod x2 8)) : Int).toNat)).bind fun t113 => (some (t113.toList == ((⟨#[97, 98, 99, 32, 120, 121, 122]⟩ : ByteArray).extract 0 ((wrap64 (Int.tmod x2 8)) : Int).toNat).toList))) else (none)) else (none)))) else (none)) else ((text_Escape.f ((⟨#[97, 98, 99, 32, 120, 121, 122]⟩ : ByteArray).extract 0 ((wrap64 (Int.tmod x2 8)) : Int).toNat)).bind fun t114 => (some (t114.toList == ((⟨#[97, 98, 99, 32, 120, 121, 122]⟩ : ByteArray).extract 0 ((wrap64 (Int.tmod x2 8)) : Int).toNat).toList)))) else ((text_Escape.f ((⟨#[97, 98, 99, 32, 120, 121, 122]⟩ : ByteArray).extract 0 ((wrap64 (Int.tmod x2 8)) : Int).toNat)).bind fun t115 => (some (t115.toList == ((⟨#[97, 98, 99, 32, 120, 121, 122]⟩ : ByteArray).extract 0 ((wrap64 (Int.tmod x2 8)) : Int).toNat).toList)))) else (none)) else (none))) else (none)) else (none)))))
def wicketmanlaw06_TextSafe.f (k : Nat) (l0 : List Int) (l1 : List Int) (a2 : Int) : Option (Bool) := (wicketmanlaw06_Text.f k l0).bind fun t101 => ((wicketmanlaw06_Text.f k l1).bind fun t102 => ((text_Escape.f t101).bind fun t103 => (wicketmanlaw06_TextSafe.l0 k a2 t101 t102 t103 0)))
theorem wicketmanlaw06_TextSafe.mono_l : ∀ k, (∀ y0 y1 y2 y3 y4, LeO (wicketmanlaw06_TextSafe.l0 k y0 y1 y2 y3 y4) (wicketmanlaw06_TextSafe.l0 (k + 1) y0 y1 y2 y3 y4))
  | 0 => fun _ _ _ _ _ r h => by simp [wicketmanlaw06_TextSafe.l0] at h
  | k + 1 => by
    have ih0 := wicketmanlaw06_TextSafe.mono_l k
    · intro y0 y1 y2 y3 y4
      unfold wicketmanlaw06_TextSafe.l0
      repeat' first
      | (with_reducible exact ih0 _ _ _ _ _)
      | (with_reducible exact wicketmanlaw06_Text.mono _ _)
      | (with_reducible exact LeO.refl _)
      | (with_reducible exact LeO.none _)
      | (with_reducible refine LeO.ite ?_ ?_)
      | (with_reducible refine LeO.bind ?_ (fun _ => ?_))
      | exact ih0 _ _ _ _ _
      | exact wicketmanlaw06_Text.mono _ _
      | exact LeO.none _
      | refine LeO.ite ?_ ?_
      | refine LeO.bind ?_ (fun _ => ?_)
theorem wicketmanlaw06_TextSafe.mono : ∀ a0 a1 a2 k, LeO (wicketmanlaw06_TextSafe.f k a0 a1 a2) (wicketmanlaw06_TextSafe.f (k + 1) a0 a1 a2) := by
  intro a0 a1 a2 k
  have ih0 := wicketmanlaw06_TextSafe.mono_l k
  unfold wicketmanlaw06_TextSafe.f
  repeat' first
      | (with_reducible exact ih0 _ _ _ _ _)
      | (with_reducible exact wicketmanlaw06_Text.mono _ _)
      | (with_reducible exact LeO.refl _)
      | (with_reducible exact LeO.none _)
      | (with_reducible refine LeO.ite ?_ ?_)
      | (with_reducible refine LeO.bind ?_ (fun _ => ?_))
      | exact ih0 _ _ _ _ _
      | exact wicketmanlaw06_Text.mono _ _
      | exact LeO.none _
      | refine LeO.ite ?_ ?_
      | refine LeO.bind ?_ (fun _ => ?_)
set_option maxHeartbeats 8000000 in
set_option maxRecDepth 1000000 in
theorem wicketmanlaw06_TextSafe.calls (k : Nat) (A0 : Option Addr) (c0 : Nat) (l0 : List Int) (A1 : Option Addr) (c1 : Nat) (l1 : List Int) (a2 : Int) (r : Bool) (w : World) (hr0 : Kd.C (Kd.int .u8) w A0 l0.length l0) (hc0 : l0.length ≤ c0) (hr1 : Kd.C (Kd.int .u8) w A1 l1.length l1) (hc1 : l1.length ≤ c1) (h : wicketmanlaw06_TextSafe.f k l0 l1 a2 = some r) (hG_ : RootsIn w) :
    Calls Tryd.prog 5 #[.slice A0 l0.length c0, .slice A1 l1.length c1, .int .u8 a2] w fun e w' => e = .returned (.bool r) ∧ Below w.heap.size w w' := by
  have HR0 := Aside0.mk hr0
  have HC0 := Aside0.mk hc0
  clear hr0 hc0
  have HR1 := Aside0.mk hr1
  have HC1 := Aside0.mk hc1
  clear hr1 hc1
  have HB := Aside0.mk (Below.refl w.heap.size w)
  have HGR := Aside0.mk hG_
  clear hG_
  have H : ((wicketmanlaw06_Text.f k l0).bind fun t101 => ((wicketmanlaw06_Text.f k l1).bind fun t102 => ((text_Escape.f t101).bind fun t103 => (wicketmanlaw06_TextSafe.l0 k a2 t101 t102 t103 0)))) = some r := h
  clear h
  replace H := Option.bind_eq_some_iff.mp H
  obtain ⟨t101, A40, H⟩ := H
  replace H : ((wicketmanlaw06_Text.f k l1).bind fun t102 => ((text_Escape.f t101).bind fun t103 => (wicketmanlaw06_TextSafe.l0 k a2 t101 t102 t103 0))) = some r := H
  have A4 := Aside0.mk A40
  clear A40
  replace H := Option.bind_eq_some_iff.mp H
  obtain ⟨t102, A50, H⟩ := H
  replace H : ((text_Escape.f t101).bind fun t103 => (wicketmanlaw06_TextSafe.l0 k a2 t101 t102 t103 0)) = some r := H
  have A5 := Aside0.mk A50
  clear A50
  replace H := Option.bind_eq_some_iff.mp H
  obtain ⟨t103, A60, H⟩ := H
  replace H : (wicketmanlaw06_TextSafe.l0 k a2 t101 t102 t103 0) = some r := H
  have A6 := Aside0.mk A60
  clear A60
  have H' := Aside0.mk H
  clear H
  go_enter Tryd.func5, Tryd.ntmps5
  go_wp2_with (first | ((with_reducible refine gate_callee (f := 10) rfl ?_); refine goesL_ (some 19) rfl rfl Tryd.func10 (by kernel_rfl) rfl #[.slice A0 l0.length c0] rfl (by (try simp only [List.map_toArray, List.map_cons, List.map_nil]); first | done | rfl | (simp only [List.length_drop, List.length_take]; rfl)) ?_; (with_reducible refine (wicketmanlaw06_Text.calls k _ _ l0 t101 _ ?side1 ?side2 A4.out).mono ?_); (case side1 => repeat (first | exact HR0.out | (with_reducible refine Kd.C_alloc ?_ _) | (with_reducible refine Kd.C_drewN ?_ _) | (with_reducible refine Kd.C_drew ?_))); (case side2 => exact HC0.out); rintro e w7 ⟨rfl, hb⟩; refine ⟨_, rfl, ?_⟩; have n0_ := Aside0.mk (below_step (by repeat (first | (with_reducible first | exact HB.out | apply below_alloc | apply pw_below_drewN | apply below_drew1) | exact HB.out)) hb); clear HB; have HB := n0_; clear n0_; (try clear hb); (try clear hb2); (try clear hk); (try clear hi)) | ((with_reducible refine gate_callee (f := 10) rfl ?_); refine goesL_ (some 21) rfl rfl Tryd.func10 (by kernel_rfl) rfl #[.slice A1 l1.length c1] rfl (by (try simp only [List.map_toArray, List.map_cons, List.map_nil]); first | done | rfl | (simp only [List.length_drop, List.length_take]; rfl)) ?_; (with_reducible refine (wicketmanlaw06_Text.calls k _ _ l1 t102 _ ?side1 ?side2 A5.out).mono ?_); (case side1 => repeat (first | exact (Kd.C_below HR1.out HB.out) | (with_reducible refine Kd.C_alloc ?_ _) | (with_reducible refine Kd.C_drewN ?_ _) | (with_reducible refine Kd.C_drew ?_))); (case side2 => exact HC1.out); rintro e w8 ⟨rfl, hb⟩; refine ⟨_, rfl, ?_⟩; have n0_ := Aside0.mk (below_step (by repeat (first | (with_reducible first | exact HB.out | apply below_alloc | apply pw_below_drewN | apply below_drew1) | exact HB.out)) hb); clear HB; have HB := n0_; clear n0_; (try clear hb); (try clear hb2); (try clear hk); (try clear hi)) | ((with_reducible refine gate_callee (f := 13) rfl ?_); refine goesL_ (some 23) rfl rfl Tryd.func13 (by kernel_rfl) rfl #[.string t101] rfl (by (try simp only [List.map_toArray, List.map_cons, List.map_nil]); first | done | rfl | (simp only [List.length_drop, List.length_take]; rfl)) ?_; (with_reducible refine (text_Escape.calls t101 t103 _ A6.out).mono ?_); rintro e w9 ⟨rfl, hb⟩; refine ⟨_, rfl, ?_⟩; have n0_ := Aside0.mk (below_step (by repeat (first | (with_reducible first | exact HB.out | apply below_alloc | apply pw_below_drewN | apply below_drew1) | exact HB.out)) hb); clear HB; have HB := n0_; clear n0_; (try clear hb); (try clear hb2); (try clear hk); (try clear hi)))
  go_loopg [10] k (fun kq v10 w' => ∃ (x10_1 : Int), v10 = .int .i64 x10_1 ∧ Aside0 (wicketmanlaw06_TextSafe.l0 kq a2 t101 t102 t103 x10_1 = some r) ∧ Aside0 (kq ≤ k) ∧ Aside0 (Below w.heap.size w w'))
  case atStart => exact ⟨(0), (by first | rfl | (simp; done) | (simp [*]; done)), H', ⟨Nat.le_refl _⟩, ⟨by repeat (first | (with_reducible first | exact HB.out | apply below_alloc | apply pw_below_drewN | apply below_drew1) | exact HB.out)⟩⟩
  case round =>
    clear H'
    try clear c1
    try clear p2
    try clear c5
    obtain ⟨x10_1, rfl, HA, HK1, HB⟩ := hrel
    cases gk with
    | zero => exact absurd HA.out (by simp [wicketmanlaw06_TextSafe.l0])
    | succ k1 =>
      have H := HA.out
      clear HA
      simp only [wicketmanlaw06_TextSafe.l0] at H
      by_cases c10 : x10_1 < (t103.size : Int)
      · rw [if_pos c10] at H
        have c10b0 : decide (x10_1 < (t103.size : Int)) = true := decide_eq_true c10
        clear c10
        by_cases c11 : 0 ≤ x10_1
        · rw [if_pos c11] at H
          have c11b0 : decide (0 ≤ x10_1) = true := decide_eq_true c11
          clear c11
          by_cases c13 : (bt t103 x10_1) = 60
          · rw [if_pos c13] at H
            exact absurd H (by simp)
          · rw [if_neg c13] at H
            have c13b0 : ((bt t103 x10_1) == 60) = false := beq_eq_false_iff_ne.mpr c13
            have c13b1 : ((bt t103 x10_1) != 60) = true := bne_iff_ne.mpr c13
            by_cases c15 : (bt t103 x10_1) = 62
            · rw [if_pos c15] at H
              exact absurd H (by simp)
            · rw [if_neg c15] at H
              have c15b0 : ((bt t103 x10_1) == 62) = false := beq_eq_false_iff_ne.mpr c15
              have c15b1 : ((bt t103 x10_1) != 62) = true := bne_iff_ne.mpr c15
              by_cases c17 : (bt t103 x10_1) = 34
              · rw [if_pos c17] at H
                exact absurd H (by simp)
              · rw [if_neg c17] at H
                have c17b0 : ((bt t103 x10_1) == 34) = false := beq_eq_false_iff_ne.mpr c17
                have c17b1 : ((bt t103 x10_1) != 34) = true := bne_iff_ne.mpr c17
                by_cases c19 : (bt t103 x10_1) = 39
                · rw [if_pos c19] at H
                  exact absurd H (by simp)
                · rw [if_neg c19] at H
                  have c19b0 : ((bt t103 x10_1) == 39) = false := beq_eq_false_iff_ne.mpr c19
                  have c19b1 : ((bt t103 x10_1) != 39) = true := bne_iff_ne.mpr c19
                  have H' := Aside0.mk H
                  clear H
                  have p12 : 0 ≤ (x10_1 : Int) := of_decide_eq_true (by first | (with_reducible assumption) | assumption)
                  have q12 : x10_1 < (t103.size : Int) := of_decide_eq_true (by first | (with_reducible assumption) | assumption)
                  have hx12 := bt_at t103 x10_1
                  replace p12 := eq_true p12
                  replace q12 := eq_true q12
                  have p14 : 0 ≤ (x10_1 : Int) := of_decide_eq_true (by first | (with_reducible assumption) | assumption)
                  have q14 : x10_1 < (t103.size : Int) := of_decide_eq_true (by first | (with_reducible assumption) | assumption)
                  have hx14 := bt_at t103 x10_1
                  replace p14 := eq_true p14
                  replace q14 := eq_true q14
                  have p16 : 0 ≤ (x10_1 : Int) := of_decide_eq_true (by first | (with_reducible assumption) | assumption)
                  have q16 : x10_1 < (t103.size : Int) := of_decide_eq_true (by first | (with_reducible assumption) | assumption)
                  have hx16 := bt_at t103 x10_1
                  replace p16 := eq_true p16
                  replace q16 := eq_true q16
                  have p18 : 0 ≤ (x10_1 : Int) := of_decide_eq_true (by first | (with_reducible assumption) | assumption)
                  have q18 : x10_1 < (t103.size : Int) := of_decide_eq_true (by first | (with_reducible assumption) | assumption)
                  have hx18 := bt_at t103 x10_1
                  replace p18 := eq_true p18
                  replace q18 := eq_true q18
                  go_wp2
                  go_roundg k1
                  case measure => have := HK1.out; omega
                  case rel => exact ⟨(wrap64 (x10_1 + 1)), (by first | rfl | (simp; done) | (simp [*]; done)), H', ⟨by have := HK1.out; omega⟩, ⟨by repeat (first | (with_reducible first | exact HB.out | apply below_alloc | apply pw_below_drewN | apply below_drew1) | exact HB.out)⟩⟩
        · rw [if_neg c11] at H
          exact absurd H (by simp)
      · rw [if_neg c10] at H
        have c10b0 : decide (x10_1 < (t103.size : Int)) = false := decide_eq_false c10
        clear c10
        replace H := Option.bind_eq_some_iff.mp H
        obtain ⟨⟨t104, t105⟩, A200, H⟩ := H
        replace H : ((text_Runes.f t101).bind fun bt106 => ((text_Runes.f t102).bind fun bt108 => (if 0 ≤ (wrap64 (Int.tmod a2 8)) then (if (wrap64 (Int.tmod a2 8)) ≤ 7 then ((wicketmanlaw06_known.f).bind fun t110 => (if t110 = true then (if t105 = true then (if bt106.2 = true then (if bt108.2 = true then (if t101.size + t102.size ≤ 9223372036854775807 then ((text_Escape.f (t101 ++ t102)).bind fun t111 => ((text_Escape.f t102).bind fun t112 => (if t103.size + t112.size ≤ 9223372036854775807 then (if t111.toList = (t103 ++ t112).toList then ((text_Escape.f ((⟨#[97, 98, 99, 32, 120, 121, 122]⟩ : ByteArray).extract 0 ((wrap64 (Int.tmod a2 8)) : Int).toNat)).bind fun t113 => (some (t113.toList == ((⟨#[97, 98, 99, 32, 120, 121, 122]⟩ : ByteArray).extract 0 ((wrap64 (Int.tmod a2 8)) : Int).toNat).toList))) else (none)) else (none)))) else (none)) else ((text_Escape.f ((⟨#[97, 98, 99, 32, 120, 121, 122]⟩ : ByteArray).extract 0 ((wrap64 (Int.tmod a2 8)) : Int).toNat)).bind fun t114 => (some (t114.toList == ((⟨#[97, 98, 99, 32, 120, 121, 122]⟩ : ByteArray).extract 0 ((wrap64 (Int.tmod a2 8)) : Int).toNat).toList)))) else ((text_Escape.f ((⟨#[97, 98, 99, 32, 120, 121, 122]⟩ : ByteArray).extract 0 ((wrap64 (Int.tmod a2 8)) : Int).toNat)).bind fun t115 => (some (t115.toList == ((⟨#[97, 98, 99, 32, 120, 121, 122]⟩ : ByteArray).extract 0 ((wrap64 (Int.tmod a2 8)) : Int).toNat).toList)))) else (none)) else (none))) else (none)) else (none)))) = some r := H
        have A20 := Aside0.mk A200
        clear A200
        replace H := Option.bind_eq_some_iff.mp H
        obtain ⟨⟨t106, t107⟩, A210, H⟩ := H
        replace H : ((text_Runes.f t102).bind fun bt108 => (if 0 ≤ (wrap64 (Int.tmod a2 8)) then (if (wrap64 (Int.tmod a2 8)) ≤ 7 then ((wicketmanlaw06_known.f).bind fun t110 => (if t110 = true then (if t105 = true then (if t107 = true then (if bt108.2 = true then (if t101.size + t102.size ≤ 9223372036854775807 then ((text_Escape.f (t101 ++ t102)).bind fun t111 => ((text_Escape.f t102).bind fun t112 => (if t103.size + t112.size ≤ 9223372036854775807 then (if t111.toList = (t103 ++ t112).toList then ((text_Escape.f ((⟨#[97, 98, 99, 32, 120, 121, 122]⟩ : ByteArray).extract 0 ((wrap64 (Int.tmod a2 8)) : Int).toNat)).bind fun t113 => (some (t113.toList == ((⟨#[97, 98, 99, 32, 120, 121, 122]⟩ : ByteArray).extract 0 ((wrap64 (Int.tmod a2 8)) : Int).toNat).toList))) else (none)) else (none)))) else (none)) else ((text_Escape.f ((⟨#[97, 98, 99, 32, 120, 121, 122]⟩ : ByteArray).extract 0 ((wrap64 (Int.tmod a2 8)) : Int).toNat)).bind fun t114 => (some (t114.toList == ((⟨#[97, 98, 99, 32, 120, 121, 122]⟩ : ByteArray).extract 0 ((wrap64 (Int.tmod a2 8)) : Int).toNat).toList)))) else ((text_Escape.f ((⟨#[97, 98, 99, 32, 120, 121, 122]⟩ : ByteArray).extract 0 ((wrap64 (Int.tmod a2 8)) : Int).toNat)).bind fun t115 => (some (t115.toList == ((⟨#[97, 98, 99, 32, 120, 121, 122]⟩ : ByteArray).extract 0 ((wrap64 (Int.tmod a2 8)) : Int).toNat).toList)))) else (none)) else (none))) else (none)) else (none))) = some r := H
        have A21 := Aside0.mk A210
        clear A210
        replace H := Option.bind_eq_some_iff.mp H
        obtain ⟨⟨t108, t109⟩, A220, H⟩ := H
        replace H : (if 0 ≤ (wrap64 (Int.tmod a2 8)) then (if (wrap64 (Int.tmod a2 8)) ≤ 7 then ((wicketmanlaw06_known.f).bind fun t110 => (if t110 = true then (if t105 = true then (if t107 = true then (if t109 = true then (if t101.size + t102.size ≤ 9223372036854775807 then ((text_Escape.f (t101 ++ t102)).bind fun t111 => ((text_Escape.f t102).bind fun t112 => (if t103.size + t112.size ≤ 9223372036854775807 then (if t111.toList = (t103 ++ t112).toList then ((text_Escape.f ((⟨#[97, 98, 99, 32, 120, 121, 122]⟩ : ByteArray).extract 0 ((wrap64 (Int.tmod a2 8)) : Int).toNat)).bind fun t113 => (some (t113.toList == ((⟨#[97, 98, 99, 32, 120, 121, 122]⟩ : ByteArray).extract 0 ((wrap64 (Int.tmod a2 8)) : Int).toNat).toList))) else (none)) else (none)))) else (none)) else ((text_Escape.f ((⟨#[97, 98, 99, 32, 120, 121, 122]⟩ : ByteArray).extract 0 ((wrap64 (Int.tmod a2 8)) : Int).toNat)).bind fun t114 => (some (t114.toList == ((⟨#[97, 98, 99, 32, 120, 121, 122]⟩ : ByteArray).extract 0 ((wrap64 (Int.tmod a2 8)) : Int).toNat).toList)))) else ((text_Escape.f ((⟨#[97, 98, 99, 32, 120, 121, 122]⟩ : ByteArray).extract 0 ((wrap64 (Int.tmod a2 8)) : Int).toNat)).bind fun t115 => (some (t115.toList == ((⟨#[97, 98, 99, 32, 120, 121, 122]⟩ : ByteArray).extract 0 ((wrap64 (Int.tmod a2 8)) : Int).toNat).toList)))) else (none)) else (none))) else (none)) else (none)) = some r := H
        have A22 := Aside0.mk A220
        clear A220
        obtain ⟨ji23, hji23⟩ : ∃ j_ : Int, (wrap64 (Int.tmod a2 8)) = j_ := ⟨_, rfl⟩
        replace H : (if 0 ≤ (ji23) then (if (ji23) ≤ 7 then ((wicketmanlaw06_known.f).bind fun t110 => (if t110 = true then (if t105 = true then (if t107 = true then (if t109 = true then (if t101.size + t102.size ≤ 9223372036854775807 then ((text_Escape.f (t101 ++ t102)).bind fun t111 => ((text_Escape.f t102).bind fun t112 => (if t103.size + t112.size ≤ 9223372036854775807 then (if t111.toList = (t103 ++ t112).toList then ((text_Escape.f ((⟨#[97, 98, 99, 32, 120, 121, 122]⟩ : ByteArray).extract 0 ((ji23) : Int).toNat)).bind fun t113 => (some (t113.toList == ((⟨#[97, 98, 99, 32, 120, 121, 122]⟩ : ByteArray).extract 0 ((ji23) : Int).toNat).toList))) else (none)) else (none)))) else (none)) else ((text_Escape.f ((⟨#[97, 98, 99, 32, 120, 121, 122]⟩ : ByteArray).extract 0 ((ji23) : Int).toNat)).bind fun t114 => (some (t114.toList == ((⟨#[97, 98, 99, 32, 120, 121, 122]⟩ : ByteArray).extract 0 ((ji23) : Int).toNat).toList)))) else ((text_Escape.f ((⟨#[97, 98, 99, 32, 120, 121, 122]⟩ : ByteArray).extract 0 ((ji23) : Int).toNat)).bind fun t115 => (some (t115.toList == ((⟨#[97, 98, 99, 32, 120, 121, 122]⟩ : ByteArray).extract 0 ((ji23) : Int).toNat).toList)))) else (none)) else (none))) else (none)) else (none)) = some r := by first | (rw [hji23] at H; exact H) | (simp only [hji23] at H ⊢; exact H)
        (try rw [hji23] at A20)
        (try rw [hji23] at A21)
        (try rw [hji23] at A22)
        have hji23w : (IntKind.i64.wrap (Int.tmod a2 8)) = ji23 := (i64_w _).trans hji23
        by_cases c24 : 0 ≤ (ji23)
        · rw [if_pos c24] at H
          have c24b0 := eq_true c24
          have c24b1 : decide (0 ≤ (ji23)) = true := decide_eq_true c24
          clear c24
          by_cases c25 : (ji23) ≤ 7
          · rw [if_pos c25] at H
            have c25b0 := eq_true c25
            have c25b1 : decide ((ji23) ≤ 7) = true := decide_eq_true c25
            clear c25
            replace H := Option.bind_eq_some_iff.mp H
            obtain ⟨t110, A260, H⟩ := H
            replace H : (if t110 = true then (if t105 = true then (if t107 = true then (if t109 = true then (if t101.size + t102.size ≤ 9223372036854775807 then ((text_Escape.f (t101 ++ t102)).bind fun t111 => ((text_Escape.f t102).bind fun t112 => (if t103.size + t112.size ≤ 9223372036854775807 then (if t111.toList = (t103 ++ t112).toList then ((text_Escape.f ((⟨#[97, 98, 99, 32, 120, 121, 122]⟩ : ByteArray).extract 0 ((ji23) : Int).toNat)).bind fun t113 => (some (t113.toList == ((⟨#[97, 98, 99, 32, 120, 121, 122]⟩ : ByteArray).extract 0 ((ji23) : Int).toNat).toList))) else (none)) else (none)))) else (none)) else ((text_Escape.f ((⟨#[97, 98, 99, 32, 120, 121, 122]⟩ : ByteArray).extract 0 ((ji23) : Int).toNat)).bind fun t114 => (some (t114.toList == ((⟨#[97, 98, 99, 32, 120, 121, 122]⟩ : ByteArray).extract 0 ((ji23) : Int).toNat).toList)))) else ((text_Escape.f ((⟨#[97, 98, 99, 32, 120, 121, 122]⟩ : ByteArray).extract 0 ((ji23) : Int).toNat)).bind fun t115 => (some (t115.toList == ((⟨#[97, 98, 99, 32, 120, 121, 122]⟩ : ByteArray).extract 0 ((ji23) : Int).toNat).toList)))) else (none)) else (none)) = some r := H
            have A26 := Aside0.mk A260
            clear A260
            by_cases c27 : t110 = true
            · subst c27
              have H1 : (if t105 = true then (if t107 = true then (if t109 = true then (if t101.size + t102.size ≤ 9223372036854775807 then ((text_Escape.f (t101 ++ t102)).bind fun t111 => ((text_Escape.f t102).bind fun t112 => (if t103.size + t112.size ≤ 9223372036854775807 then (if t111.toList = (t103 ++ t112).toList then ((text_Escape.f ((⟨#[97, 98, 99, 32, 120, 121, 122]⟩ : ByteArray).extract 0 ((ji23) : Int).toNat)).bind fun t113 => (some (t113.toList == ((⟨#[97, 98, 99, 32, 120, 121, 122]⟩ : ByteArray).extract 0 ((ji23) : Int).toNat).toList))) else (none)) else (none)))) else (none)) else ((text_Escape.f ((⟨#[97, 98, 99, 32, 120, 121, 122]⟩ : ByteArray).extract 0 ((ji23) : Int).toNat)).bind fun t114 => (some (t114.toList == ((⟨#[97, 98, 99, 32, 120, 121, 122]⟩ : ByteArray).extract 0 ((ji23) : Int).toNat).toList)))) else ((text_Escape.f ((⟨#[97, 98, 99, 32, 120, 121, 122]⟩ : ByteArray).extract 0 ((ji23) : Int).toNat)).bind fun t115 => (some (t115.toList == ((⟨#[97, 98, 99, 32, 120, 121, 122]⟩ : ByteArray).extract 0 ((ji23) : Int).toNat).toList)))) else (none)) = some r := by rw [if_pos rfl] at H; exact H
              clear H
              have H := H1
              clear H1
              by_cases c28 : t105 = true
              · subst c28
                have H1 : (if t107 = true then (if t109 = true then (if t101.size + t102.size ≤ 9223372036854775807 then ((text_Escape.f (t101 ++ t102)).bind fun t111 => ((text_Escape.f t102).bind fun t112 => (if t103.size + t112.size ≤ 9223372036854775807 then (if t111.toList = (t103 ++ t112).toList then ((text_Escape.f ((⟨#[97, 98, 99, 32, 120, 121, 122]⟩ : ByteArray).extract 0 ((ji23) : Int).toNat)).bind fun t113 => (some (t113.toList == ((⟨#[97, 98, 99, 32, 120, 121, 122]⟩ : ByteArray).extract 0 ((ji23) : Int).toNat).toList))) else (none)) else (none)))) else (none)) else ((text_Escape.f ((⟨#[97, 98, 99, 32, 120, 121, 122]⟩ : ByteArray).extract 0 ((ji23) : Int).toNat)).bind fun t114 => (some (t114.toList == ((⟨#[97, 98, 99, 32, 120, 121, 122]⟩ : ByteArray).extract 0 ((ji23) : Int).toNat).toList)))) else ((text_Escape.f ((⟨#[97, 98, 99, 32, 120, 121, 122]⟩ : ByteArray).extract 0 ((ji23) : Int).toNat)).bind fun t115 => (some (t115.toList == ((⟨#[97, 98, 99, 32, 120, 121, 122]⟩ : ByteArray).extract 0 ((ji23) : Int).toNat).toList)))) = some r := by rw [if_pos rfl] at H; exact H
                clear H
                have H := H1
                clear H1
                by_cases c29 : t107 = true
                · subst c29
                  have H1 : (if t109 = true then (if t101.size + t102.size ≤ 9223372036854775807 then ((text_Escape.f (t101 ++ t102)).bind fun t111 => ((text_Escape.f t102).bind fun t112 => (if t103.size + t112.size ≤ 9223372036854775807 then (if t111.toList = (t103 ++ t112).toList then ((text_Escape.f ((⟨#[97, 98, 99, 32, 120, 121, 122]⟩ : ByteArray).extract 0 ((ji23) : Int).toNat)).bind fun t113 => (some (t113.toList == ((⟨#[97, 98, 99, 32, 120, 121, 122]⟩ : ByteArray).extract 0 ((ji23) : Int).toNat).toList))) else (none)) else (none)))) else (none)) else ((text_Escape.f ((⟨#[97, 98, 99, 32, 120, 121, 122]⟩ : ByteArray).extract 0 ((ji23) : Int).toNat)).bind fun t114 => (some (t114.toList == ((⟨#[97, 98, 99, 32, 120, 121, 122]⟩ : ByteArray).extract 0 ((ji23) : Int).toNat).toList)))) = some r := by rw [if_pos rfl] at H; exact H
                  clear H
                  have H := H1
                  clear H1
                  by_cases c30 : t109 = true
                  · subst c30
                    have H1 : (if t101.size + t102.size ≤ 9223372036854775807 then ((text_Escape.f (t101 ++ t102)).bind fun t111 => ((text_Escape.f t102).bind fun t112 => (if t103.size + t112.size ≤ 9223372036854775807 then (if t111.toList = (t103 ++ t112).toList then ((text_Escape.f ((⟨#[97, 98, 99, 32, 120, 121, 122]⟩ : ByteArray).extract 0 ((ji23) : Int).toNat)).bind fun t113 => (some (t113.toList == ((⟨#[97, 98, 99, 32, 120, 121, 122]⟩ : ByteArray).extract 0 ((ji23) : Int).toNat).toList))) else (none)) else (none)))) else (none)) = some r := by rw [if_pos rfl] at H; exact H
                    clear H
                    have H := H1
                    clear H1
                    by_cases c31 : t101.size + t102.size ≤ 9223372036854775807
                    · rw [if_pos c31] at H
                      have c31b0 := eq_true c31
                      have c31b1 : decide (t101.size + t102.size ≤ 9223372036854775807) = true := decide_eq_true c31
                      try have c31b2 : (9223372036854775807 < t101.size + t102.size) = False := eq_false (Nat.not_lt.2 c31)
                      try (have c31b3 := c31; simp at c31b3)
                      try have c31b4 := eq_false (Nat.not_lt.2 c31b3)
                      replace H := Option.bind_eq_some_iff.mp H
                      obtain ⟨t111, A320, H⟩ := H
                      replace H : ((text_Escape.f t102).bind fun t112 => (if t103.size + t112.size ≤ 9223372036854775807 then (if t111.toList = (t103 ++ t112).toList then ((text_Escape.f ((⟨#[97, 98, 99, 32, 120, 121, 122]⟩ : ByteArray).extract 0 ((ji23) : Int).toNat)).bind fun t113 => (some (t113.toList == ((⟨#[97, 98, 99, 32, 120, 121, 122]⟩ : ByteArray).extract 0 ((ji23) : Int).toNat).toList))) else (none)) else (none))) = some r := H
                      have A32 := Aside0.mk A320
                      clear A320
                      replace H := Option.bind_eq_some_iff.mp H
                      obtain ⟨t112, A330, H⟩ := H
                      replace H : (if t103.size + t112.size ≤ 9223372036854775807 then (if t111.toList = (t103 ++ t112).toList then ((text_Escape.f ((⟨#[97, 98, 99, 32, 120, 121, 122]⟩ : ByteArray).extract 0 ((ji23) : Int).toNat)).bind fun t113 => (some (t113.toList == ((⟨#[97, 98, 99, 32, 120, 121, 122]⟩ : ByteArray).extract 0 ((ji23) : Int).toNat).toList))) else (none)) else (none)) = some r := H
                      have A33 := Aside0.mk A330
                      clear A330
                      by_cases c34 : t103.size + t112.size ≤ 9223372036854775807
                      · rw [if_pos c34] at H
                        have c34b0 := eq_true c34
                        have c34b1 : decide (t103.size + t112.size ≤ 9223372036854775807) = true := decide_eq_true c34
                        try have c34b2 : (9223372036854775807 < t103.size + t112.size) = False := eq_false (Nat.not_lt.2 c34)
                        try (have c34b3 := c34; simp at c34b3)
                        try have c34b4 := eq_false (Nat.not_lt.2 c34b3)
                        by_cases c35 : t111.toList = (t103 ++ t112).toList
                        · rw [if_pos c35] at H
                          have c35b0 : (t111.toList == (t103 ++ t112).toList) = true := beq_iff_eq.mpr c35
                          have c35b1 : (t111.toList != (t103 ++ t112).toList) = false := bne_eq_false_iff_eq.mpr c35
                          clear c35
                          replace H := Option.bind_eq_some_iff.mp H
                          obtain ⟨t113, A360, H⟩ := H
                          replace H : (some (t113.toList == ((⟨#[97, 98, 99, 32, 120, 121, 122]⟩ : ByteArray).extract 0 ((ji23) : Int).toNat).toList)) = some r := H
                          have A36 := Aside0.mk A360
                          clear A360
                          obtain rfl := Option.some.inj H
                          go_wp2_with (first | ((with_reducible refine gate_callee (f := 12) rfl ?_); refine goesL_ (some 54) rfl rfl Tryd.func12 (by kernel_rfl) rfl #[.string t103] rfl (by (try simp only [List.map_toArray, List.map_cons, List.map_nil]); first | done | rfl | (simp only [List.length_drop, List.length_take]; rfl)) ?_; (with_reducible refine (text_Runes.calls t103 t104 true _ A20.out (HGR.out.below rfl (by repeat (first | (with_reducible first | exact HB.out | apply below_alloc | apply pw_below_drewN | apply below_drew1) | exact HB.out | exact Aside0.out (by assumption))))).mono ?_); rintro e w37 ⟨rfl, hb⟩; refine ⟨_, rfl, ?_⟩; have n0_ := Aside0.mk (below_step (by repeat (first | (with_reducible first | exact HB.out | apply below_alloc | apply pw_below_drewN | apply below_drew1) | exact HB.out)) hb); clear HB; have HB := n0_; clear n0_; (try clear hb); (try clear hb2); (try clear hk); (try clear hi)) | ((with_reducible refine gate_callee (f := 12) rfl ?_); refine goesL_ (some 59) rfl rfl Tryd.func12 (by kernel_rfl) rfl #[.string t101] rfl (by (try simp only [List.map_toArray, List.map_cons, List.map_nil]); first | done | rfl | (simp only [List.length_drop, List.length_take]; rfl)) ?_; (with_reducible refine (text_Runes.calls t101 t106 true _ A21.out (HGR.out.below rfl (by repeat (first | (with_reducible first | exact HB.out | apply below_alloc | apply pw_below_drewN | apply below_drew1) | exact HB.out | exact Aside0.out (by assumption))))).mono ?_); rintro e w38 ⟨rfl, hb⟩; refine ⟨_, rfl, ?_⟩; have n0_ := Aside0.mk (below_step (by repeat (first | (with_reducible first | exact HB.out | apply below_alloc | apply pw_below_drewN | apply below_drew1) | exact HB.out)) hb); clear HB; have HB := n0_; clear n0_; (try clear hb); (try clear hb2); (try clear hk); (try clear hi)) | ((with_reducible refine gate_callee (f := 12) rfl ?_); refine goesL_ (some 64) rfl rfl Tryd.func12 (by kernel_rfl) rfl #[.string t102] rfl (by (try simp only [List.map_toArray, List.map_cons, List.map_nil]); first | done | rfl | (simp only [List.length_drop, List.length_take]; rfl)) ?_; (with_reducible refine (text_Runes.calls t102 t108 true _ A22.out (HGR.out.below rfl (by repeat (first | (with_reducible first | exact HB.out | apply below_alloc | apply pw_below_drewN | apply below_drew1) | exact HB.out | exact Aside0.out (by assumption))))).mono ?_); rintro e w39 ⟨rfl, hb⟩; refine ⟨_, rfl, ?_⟩; have n0_ := Aside0.mk (below_step (by repeat (first | (with_reducible first | exact HB.out | apply below_alloc | apply pw_below_drewN | apply below_drew1) | exact HB.out)) hb); clear HB; have HB := n0_; clear n0_; (try clear hb); (try clear hb2); (try clear hk); (try clear hi)) | ((with_reducible refine gate_callee (f := 9) rfl ?_); refine goesL_ (some 71) rfl rfl Tryd.func9 (by kernel_rfl) rfl #[] rfl (by (try simp only [List.map_toArray, List.map_cons, List.map_nil]); first | done | rfl | (simp only [List.length_drop, List.length_take]; rfl)) ?_; (with_reducible refine (wicketmanlaw06_known.calls  true _ A26.out (HGR.out.below rfl (by repeat (first | (with_reducible first | exact HB.out | apply below_alloc | apply pw_below_drewN | apply below_drew1) | exact HB.out | exact Aside0.out (by assumption))))).mono ?_); rintro e w40 ⟨rfl, hb⟩; refine ⟨_, rfl, ?_⟩; have n0_ := Aside0.mk (below_step (by repeat (first | (with_reducible first | exact HB.out | apply below_alloc | apply pw_below_drewN | apply below_drew1) | exact HB.out)) hb); clear HB; have HB := n0_; clear n0_; (try clear hb); (try clear hb2); (try clear hk); (try clear hi)) | (go_at_call 13; (with_reducible refine (text_Escape.calls (t101 ++ t102) t111 _ A32.out).mono ?_); rintro e w41 ⟨rfl, hb⟩; have n0_ := Aside0.mk (below_step (by repeat (first | (with_reducible first | exact HB.out | apply below_alloc | apply pw_below_drewN | apply below_drew1) | exact HB.out)) hb); clear HB; have HB := n0_; clear n0_; (try clear hb); (try clear hb2); (try clear hk); (try clear hi)) | (go_at_call 13; (with_reducible refine (text_Escape.calls t102 t112 _ A33.out).mono ?_); rintro e w42 ⟨rfl, hb⟩; have n0_ := Aside0.mk (below_step (by repeat (first | (with_reducible first | exact HB.out | apply below_alloc | apply pw_below_drewN | apply below_drew1) | exact HB.out)) hb); clear HB; have HB := n0_; clear n0_; (try clear hb); (try clear hb2); (try clear hk); (try clear hi)) | (go_at_call 13; (with_reducible refine (text_Escape.calls ((⟨#[97, 98, 99, 32, 120, 121, 122]⟩ : ByteArray).extract 0 ((ji23) : Int).toNat) t113 _ A36.out).mono ?_); rintro e w43 ⟨rfl, hb⟩; have n0_ := Aside0.mk (below_step (by repeat (first | (with_reducible first | exact HB.out | apply below_alloc | apply pw_below_drewN | apply below_drew1) | exact HB.out)) hb); clear HB; have HB := n0_; clear n0_; (try clear hb); (try clear hb2); (try clear hk); (try clear hi)))
                          go_ret
                          exact ⟨by first | rfl | (simp [errW_none, errW_some] <;> rfl) | (simp only [← hji23]; first | rfl | (simp [errW_none, errW_some] <;> rfl)) | (simp [*, errW_none, errW_some] <;> rfl), by repeat (first | (with_reducible first | exact HB.out | apply below_alloc | apply pw_below_drewN | apply below_drew1) | exact HB.out)⟩
                        · rw [if_neg c35] at H
                          exact absurd H (by simp)
                      · rw [if_neg c34] at H
                        exact absurd H (by simp)
                    · rw [if_neg c31] at H
                      exact absurd H (by simp)
                  · replace c30 := Bool.eq_false_iff.mpr c30
                    subst c30
                    have H1 : ((text_Escape.f ((⟨#[97, 98, 99, 32, 120, 121, 122]⟩ : ByteArray).extract 0 ((ji23) : Int).toNat)).bind fun t114 => (some (t114.toList == ((⟨#[97, 98, 99, 32, 120, 121, 122]⟩ : ByteArray).extract 0 ((ji23) : Int).toNat).toList))) = some r := by rw [if_neg (show ¬ (false = true) by decide)] at H; exact H
                    clear H
                    have H := H1
                    clear H1
                    replace H := Option.bind_eq_some_iff.mp H
                    obtain ⟨t114, A440, H⟩ := H
                    replace H : (some (t114.toList == ((⟨#[97, 98, 99, 32, 120, 121, 122]⟩ : ByteArray).extract 0 ((ji23) : Int).toNat).toList)) = some r := H
                    have A44 := Aside0.mk A440
                    clear A440
                    obtain rfl := Option.some.inj H
                    go_wp2_with (first | ((with_reducible refine gate_callee (f := 12) rfl ?_); refine goesL_ (some 54) rfl rfl Tryd.func12 (by kernel_rfl) rfl #[.string t103] rfl (by (try simp only [List.map_toArray, List.map_cons, List.map_nil]); first | done | rfl | (simp only [List.length_drop, List.length_take]; rfl)) ?_; (with_reducible refine (text_Runes.calls t103 t104 true _ A20.out (HGR.out.below rfl (by repeat (first | (with_reducible first | exact HB.out | apply below_alloc | apply pw_below_drewN | apply below_drew1) | exact HB.out | exact Aside0.out (by assumption))))).mono ?_); rintro e w45 ⟨rfl, hb⟩; refine ⟨_, rfl, ?_⟩; have n0_ := Aside0.mk (below_step (by repeat (first | (with_reducible first | exact HB.out | apply below_alloc | apply pw_below_drewN | apply below_drew1) | exact HB.out)) hb); clear HB; have HB := n0_; clear n0_; (try clear hb); (try clear hb2); (try clear hk); (try clear hi)) | ((with_reducible refine gate_callee (f := 12) rfl ?_); refine goesL_ (some 59) rfl rfl Tryd.func12 (by kernel_rfl) rfl #[.string t101] rfl (by (try simp only [List.map_toArray, List.map_cons, List.map_nil]); first | done | rfl | (simp only [List.length_drop, List.length_take]; rfl)) ?_; (with_reducible refine (text_Runes.calls t101 t106 true _ A21.out (HGR.out.below rfl (by repeat (first | (with_reducible first | exact HB.out | apply below_alloc | apply pw_below_drewN | apply below_drew1) | exact HB.out | exact Aside0.out (by assumption))))).mono ?_); rintro e w46 ⟨rfl, hb⟩; refine ⟨_, rfl, ?_⟩; have n0_ := Aside0.mk (below_step (by repeat (first | (with_reducible first | exact HB.out | apply below_alloc | apply pw_below_drewN | apply below_drew1) | exact HB.out)) hb); clear HB; have HB := n0_; clear n0_; (try clear hb); (try clear hb2); (try clear hk); (try clear hi)) | ((with_reducible refine gate_callee (f := 12) rfl ?_); refine goesL_ (some 64) rfl rfl Tryd.func12 (by kernel_rfl) rfl #[.string t102] rfl (by (try simp only [List.map_toArray, List.map_cons, List.map_nil]); first | done | rfl | (simp only [List.length_drop, List.length_take]; rfl)) ?_; (with_reducible refine (text_Runes.calls t102 t108 false _ A22.out (HGR.out.below rfl (by repeat (first | (with_reducible first | exact HB.out | apply below_alloc | apply pw_below_drewN | apply below_drew1) | exact HB.out | exact Aside0.out (by assumption))))).mono ?_); rintro e w47 ⟨rfl, hb⟩; refine ⟨_, rfl, ?_⟩; have n0_ := Aside0.mk (below_step (by repeat (first | (with_reducible first | exact HB.out | apply below_alloc | apply pw_below_drewN | apply below_drew1) | exact HB.out)) hb); clear HB; have HB := n0_; clear n0_; (try clear hb); (try clear hb2); (try clear hk); (try clear hi)) | ((with_reducible refine gate_callee (f := 9) rfl ?_); refine goesL_ (some 71) rfl rfl Tryd.func9 (by kernel_rfl) rfl #[] rfl (by (try simp only [List.map_toArray, List.map_cons, List.map_nil]); first | done | rfl | (simp only [List.length_drop, List.length_take]; rfl)) ?_; (with_reducible refine (wicketmanlaw06_known.calls  true _ A26.out (HGR.out.below rfl (by repeat (first | (with_reducible first | exact HB.out | apply below_alloc | apply pw_below_drewN | apply below_drew1) | exact HB.out | exact Aside0.out (by assumption))))).mono ?_); rintro e w48 ⟨rfl, hb⟩; refine ⟨_, rfl, ?_⟩; have n0_ := Aside0.mk (below_step (by repeat (first | (with_reducible first | exact HB.out | apply below_alloc | apply pw_below_drewN | apply below_drew1) | exact HB.out)) hb); clear HB; have HB := n0_; clear n0_; (try clear hb); (try clear hb2); (try clear hk); (try clear hi)) | (go_at_call 13; (with_reducible refine (text_Escape.calls ((⟨#[97, 98, 99, 32, 120, 121, 122]⟩ : ByteArray).extract 0 ((ji23) : Int).toNat) t114 _ A44.out).mono ?_); rintro e w49 ⟨rfl, hb⟩; have n0_ := Aside0.mk (below_step (by repeat (first | (with_reducible first | exact HB.out | apply below_alloc | apply pw_below_drewN | apply below_drew1) | exact HB.out)) hb); clear HB; have HB := n0_; clear n0_; (try clear hb); (try clear hb2); (try clear hk); (try clear hi)))
                    go_ret
                    exact ⟨by first | rfl | (simp [errW_none, errW_some] <;> rfl) | (simp only [← hji23]; first | rfl | (simp [errW_none, errW_some] <;> rfl)) | (simp [*, errW_none, errW_some] <;> rfl), by repeat (first | (with_reducible first | exact HB.out | apply below_alloc | apply pw_below_drewN | apply below_drew1) | exact HB.out)⟩
                · replace c29 := Bool.eq_false_iff.mpr c29
                  subst c29
                  have H1 : ((text_Escape.f ((⟨#[97, 98, 99, 32, 120, 121, 122]⟩ : ByteArray).extract 0 ((ji23) : Int).toNat)).bind fun t115 => (some (t115.toList == ((⟨#[97, 98, 99, 32, 120, 121, 122]⟩ : ByteArray).extract 0 ((ji23) : Int).toNat).toList))) = some r := by rw [if_neg (show ¬ (false = true) by decide)] at H; exact H
                  clear H
                  have H := H1
                  clear H1
                  replace H := Option.bind_eq_some_iff.mp H
                  obtain ⟨t115, A500, H⟩ := H
                  replace H : (some (t115.toList == ((⟨#[97, 98, 99, 32, 120, 121, 122]⟩ : ByteArray).extract 0 ((ji23) : Int).toNat).toList)) = some r := H
                  have A50 := Aside0.mk A500
                  clear A500
                  obtain rfl := Option.some.inj H
                  go_wp2_with (first | ((with_reducible refine gate_callee (f := 12) rfl ?_); refine goesL_ (some 54) rfl rfl Tryd.func12 (by kernel_rfl) rfl #[.string t103] rfl (by (try simp only [List.map_toArray, List.map_cons, List.map_nil]); first | done | rfl | (simp only [List.length_drop, List.length_take]; rfl)) ?_; (with_reducible refine (text_Runes.calls t103 t104 true _ A20.out (HGR.out.below rfl (by repeat (first | (with_reducible first | exact HB.out | apply below_alloc | apply pw_below_drewN | apply below_drew1) | exact HB.out | exact Aside0.out (by assumption))))).mono ?_); rintro e w51 ⟨rfl, hb⟩; refine ⟨_, rfl, ?_⟩; have n0_ := Aside0.mk (below_step (by repeat (first | (with_reducible first | exact HB.out | apply below_alloc | apply pw_below_drewN | apply below_drew1) | exact HB.out)) hb); clear HB; have HB := n0_; clear n0_; (try clear hb); (try clear hb2); (try clear hk); (try clear hi)) | ((with_reducible refine gate_callee (f := 12) rfl ?_); refine goesL_ (some 59) rfl rfl Tryd.func12 (by kernel_rfl) rfl #[.string t101] rfl (by (try simp only [List.map_toArray, List.map_cons, List.map_nil]); first | done | rfl | (simp only [List.length_drop, List.length_take]; rfl)) ?_; (with_reducible refine (text_Runes.calls t101 t106 false _ A21.out (HGR.out.below rfl (by repeat (first | (with_reducible first | exact HB.out | apply below_alloc | apply pw_below_drewN | apply below_drew1) | exact HB.out | exact Aside0.out (by assumption))))).mono ?_); rintro e w52 ⟨rfl, hb⟩; refine ⟨_, rfl, ?_⟩; have n0_ := Aside0.mk (below_step (by repeat (first | (with_reducible first | exact HB.out | apply below_alloc | apply pw_below_drewN | apply below_drew1) | exact HB.out)) hb); clear HB; have HB := n0_; clear n0_; (try clear hb); (try clear hb2); (try clear hk); (try clear hi)) | ((with_reducible refine gate_callee (f := 12) rfl ?_); refine goesL_ (some 64) rfl rfl Tryd.func12 (by kernel_rfl) rfl #[.string t102] rfl (by (try simp only [List.map_toArray, List.map_cons, List.map_nil]); first | done | rfl | (simp only [List.length_drop, List.length_take]; rfl)) ?_; (with_reducible refine (text_Runes.calls t102 t108 t109 _ A22.out (HGR.out.below rfl (by repeat (first | (with_reducible first | exact HB.out | apply below_alloc | apply pw_below_drewN | apply below_drew1) | exact HB.out | exact Aside0.out (by assumption))))).mono ?_); rintro e w53 ⟨rfl, hb⟩; refine ⟨_, rfl, ?_⟩; have n0_ := Aside0.mk (below_step (by repeat (first | (with_reducible first | exact HB.out | apply below_alloc | apply pw_below_drewN | apply below_drew1) | exact HB.out)) hb); clear HB; have HB := n0_; clear n0_; (try clear hb); (try clear hb2); (try clear hk); (try clear hi)) | ((with_reducible refine gate_callee (f := 9) rfl ?_); refine goesL_ (some 71) rfl rfl Tryd.func9 (by kernel_rfl) rfl #[] rfl (by (try simp only [List.map_toArray, List.map_cons, List.map_nil]); first | done | rfl | (simp only [List.length_drop, List.length_take]; rfl)) ?_; (with_reducible refine (wicketmanlaw06_known.calls  true _ A26.out (HGR.out.below rfl (by repeat (first | (with_reducible first | exact HB.out | apply below_alloc | apply pw_below_drewN | apply below_drew1) | exact HB.out | exact Aside0.out (by assumption))))).mono ?_); rintro e w54 ⟨rfl, hb⟩; refine ⟨_, rfl, ?_⟩; have n0_ := Aside0.mk (below_step (by repeat (first | (with_reducible first | exact HB.out | apply below_alloc | apply pw_below_drewN | apply below_drew1) | exact HB.out)) hb); clear HB; have HB := n0_; clear n0_; (try clear hb); (try clear hb2); (try clear hk); (try clear hi)) | (go_at_call 13; (with_reducible refine (text_Escape.calls ((⟨#[97, 98, 99, 32, 120, 121, 122]⟩ : ByteArray).extract 0 ((ji23) : Int).toNat) t115 _ A50.out).mono ?_); rintro e w55 ⟨rfl, hb⟩; have n0_ := Aside0.mk (below_step (by repeat (first | (with_reducible first | exact HB.out | apply below_alloc | apply pw_below_drewN | apply below_drew1) | exact HB.out)) hb); clear HB; have HB := n0_; clear n0_; (try clear hb); (try clear hb2); (try clear hk); (try clear hi)))
                  go_ret
                  exact ⟨by first | rfl | (simp [errW_none, errW_some] <;> rfl) | (simp only [← hji23]; first | rfl | (simp [errW_none, errW_some] <;> rfl)) | (simp [*, errW_none, errW_some] <;> rfl), by repeat (first | (with_reducible first | exact HB.out | apply below_alloc | apply pw_below_drewN | apply below_drew1) | exact HB.out)⟩
              · replace c28 := Bool.eq_false_iff.mpr c28
                subst c28
                have H1 : (none) = some r := by rw [if_neg (show ¬ (false = true) by decide)] at H; exact H
                clear H
                have H := H1
                clear H1
                exact absurd H (by simp)
            · replace c27 := Bool.eq_false_iff.mpr c27
              subst c27
              have H1 : (none) = some r := by rw [if_neg (show ¬ (false = true) by decide)] at H; exact H
              clear H
              have H := H1
              clear H1
              exact absurd H (by simp)
          · rw [if_neg c25] at H
            exact absurd H (by simp)
        · rw [if_neg c24] at H
          exact absurd H (by simp)

/-- THE ONE PURE STATEMENT of wicketmanlaw06_TextSafe: yours. -/
def wicketmanlaw06_TextSafe.Pure : Prop := ∀ (l0 : List Int) (l1 : List Int) (a2 : Int), l0.length ≤ maxLen → l0.length * 1 ≤ 140737488351232 → (∀ x ∈ l0, (Lit.int .u8 x).wf = true) → l1.length ≤ maxLen → l1.length * 1 ≤ 140737488351232 → (∀ x ∈ l1, (Lit.int .u8 x).wf = true) → (Lit.int .u8 a2).wf = true → ∃ k, wicketmanlaw06_TextSafe.f k l0 l1 a2 = some true
theorem wicketmanlaw06_TextSafe.walk (P : wicketmanlaw06_TextSafe.Pure) (a0 : Option Addr) (len0 cap0 : Nat) (z0 : List Int) (a1 : Option Addr) (len1 cap1 : Nat) (z1 : List Int) (a2 : Int) (w : World) (w0 : (a0 = none ∧ len0 = 0 ∧ cap0 = 0 ∧ z0 = []) ∨ ∃ x, a0 = some x ∧ len0 ≤ cap0 ∧ cap0 ≤ maxLen ∧ z0.length = cap0 ∧ (∀ i, i < z0.length → w.cell? (x.add i) = some (.int .u8 (z0.getD i 0))) ∧ ∀ n ∈ z0, (Lit.int .u8 n).wf = true) (y0 : len0 * 1 ≤ 140737488351232) (w1 : (a1 = none ∧ len1 = 0 ∧ cap1 = 0 ∧ z1 = []) ∨ ∃ x, a1 = some x ∧ len1 ≤ cap1 ∧ cap1 ≤ maxLen ∧ z1.length = cap1 ∧ (∀ i, i < z1.length → w.cell? (x.add i) = some (.int .u8 (z1.getD i 0))) ∧ ∀ n ∈ z1, (Lit.int .u8 n).wf = true) (y1 : len1 * 1 ≤ 140737488351232) (w2 : (Lit.int .u8 a2).wf = true) (hG_ : RootsIn w) :
    Calls Tryd.prog 5 #[.slice a0 len0 cap0, .slice a1 len1 cap1, .int .u8 a2] w fun e w' => e = .returned (.bool true) ∧ Below w.heap.size w w' := by
  obtain ⟨l0, rfl, hr0, hm0, hw0, hc0⟩ := ReadsInt.ofRowC w0
  obtain ⟨l1, rfl, hr1, hm1, hw1, hc1⟩ := ReadsInt.ofRowC w1
  obtain ⟨k, h⟩ := P l0 l1 a2 hm0 y0 hw0 hm1 y1 hw1 w2
  refine (wicketmanlaw06_TextSafe.calls k _ _ l0 _ _ l1 a2 true w (Kd.C_of_reads (d := (0 : Int)) (h1 := fun _ => rfl) hr0) hc0 (Kd.C_of_reads (d := (0 : Int)) (h1 := fun _ => rfl) hr1) hc1 h hG_).mono ?_
  rintro e w' ⟨rfl, hd⟩
  exact ⟨rfl, hd⟩

end Go.Proofs.YtlehjehnapjioaaDoor.Pr
