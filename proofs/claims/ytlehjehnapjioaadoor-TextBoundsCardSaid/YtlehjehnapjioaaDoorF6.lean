-- Written for this claim by wip/myprint.py, this session's driver over the kit's print.py. Not trusted: Lean checks it.
import Derived.Test.YtlehjehnapjioaaDoorF
import Derived.Test.YtlehjehnapjioaaDoorF10
import Derived.Test.YtlehjehnapjioaaDoorF9
import Derived.Test.YtlehjehnapjioaaDoorTx2
namespace Go.Proofs.YtlehjehnapjioaaDoor.Pr
open Go.RowKit Go.Proofs.YtlehjehnapjioaaDoorW.PrintWords Go.Proofs.YtlehjehnapjioaaDoorW.PrintLast Go.Proofs.YtlehjehnapjioaaDoorW.PrintMore Go.Proofs.YtlehjehnapjioaaDoor.E
attribute [local go_sem] max2_int min2_int max_two min_two max_three min_three max_four min_four   -- for this text's walks alone
set_option linter.unusedVariables false
set_option linter.unusedSimpArgs false

/-! ### wicketmanlaw06_TextBounds: function 6 -/
def wicketmanlaw06_TextBounds.l0 : Nat → List Int → Int → ByteArray → Int → Option (Bool)
  | 0, _, _, _, _ => none
  | k + 1, x0, x1, x5, x6 => if x6 < (wrap64 (x1)) then (if x5.size + 1 ≤ 9223372036854775807 then (wicketmanlaw06_TextBounds.l0 k x0 x1 (x5 ++ (⟨#[97]⟩ : ByteArray)) (wrap64 (x6 + 1))) else (none)) else ((wicketmanlaw06_Text.f k x0).bind fun t101 => ((text_Name.f t101).bind fun t102 => ((text_Pass.f t101).bind fun t103 => ((text_Note.f t101).bind fun t104 => ((wicketmanlaw06_known.f).bind fun t105 => (if t105 = true then ((text_Name.f x5).bind fun t106 => (if x1 ≥ 1 then (if (t106 == (decide (x1 ≤ 20))) = true then ((text_Pass.f x5).bind fun t107 => (if (t107 == (decide (x1 ≤ 60))) = true then ((text_Note.f x5).bind fun t108 => (if (t108 == (decide (x1 ≤ 200))) = true then (if t102 = true then (if t103 = true then (if t104 = true then (if x5.size + 1 ≤ 9223372036854775807 then ((text_Note.f (x5 ++ (⟨#[10]⟩ : ByteArray))).bind fun t109 => (if (t109 == (decide (x1 < 200))) = true then ((text_Pass.f (x5 ++ (⟨#[10]⟩ : ByteArray))).bind fun t110 => (some (!t110))) else (none))) else (none)) else (none)) else (none)) else (if t103 = true then (if t104 = true then (if x5.size + 1 ≤ 9223372036854775807 then ((text_Note.f (x5 ++ (⟨#[10]⟩ : ByteArray))).bind fun t111 => (if (t111 == (decide (x1 < 200))) = true then ((text_Pass.f (x5 ++ (⟨#[10]⟩ : ByteArray))).bind fun t112 => (some (!t112))) else (none))) else (none)) else (none)) else (if x5.size + 1 ≤ 9223372036854775807 then ((text_Note.f (x5 ++ (⟨#[10]⟩ : ByteArray))).bind fun t113 => (if (t113 == (decide (x1 < 200))) = true then ((text_Pass.f (x5 ++ (⟨#[10]⟩ : ByteArray))).bind fun t114 => (some (!t114))) else (none))) else (none)))) else (none))) else (none))) else (none)) else (if (t106 == false) = true then ((text_Pass.f x5).bind fun t115 => (if (t115 == false) = true then ((text_Note.f x5).bind fun t116 => (if (t116 == (decide (x1 ≤ 200))) = true then (if t102 = true then (if t103 = true then (if t104 = true then (if x5.size + 1 ≤ 9223372036854775807 then ((text_Note.f (x5 ++ (⟨#[10]⟩ : ByteArray))).bind fun t117 => (if (t117 == (decide (x1 < 200))) = true then ((text_Pass.f (x5 ++ (⟨#[10]⟩ : ByteArray))).bind fun t118 => (some (!t118))) else (none))) else (none)) else (none)) else (none)) else (if t103 = true then (if t104 = true then (if x5.size + 1 ≤ 9223372036854775807 then ((text_Note.f (x5 ++ (⟨#[10]⟩ : ByteArray))).bind fun t119 => (if (t119 == (decide (x1 < 200))) = true then ((text_Pass.f (x5 ++ (⟨#[10]⟩ : ByteArray))).bind fun t120 => (some (!t120))) else (none))) else (none)) else (none)) else (if x5.size + 1 ≤ 9223372036854775807 then ((text_Note.f (x5 ++ (⟨#[10]⟩ : ByteArray))).bind fun t121 => (if (t121 == (decide (x1 < 200))) = true then ((text_Pass.f (x5 ++ (⟨#[10]⟩ : ByteArray))).bind fun t122 => (some (!t122))) else (none))) else (none)))) else (none))) else (none))) else (none)))) else (none)))))))
def wicketmanlaw06_TextBounds.f (k : Nat) (l0 : List Int) (a1 : Int) : Option (Bool) := wicketmanlaw06_TextBounds.l0 k l0 a1 (⟨#[]⟩ : ByteArray) 0
theorem wicketmanlaw06_TextBounds.mono_l : ∀ k, (∀ y0 y1 y2 y3, LeO (wicketmanlaw06_TextBounds.l0 k y0 y1 y2 y3) (wicketmanlaw06_TextBounds.l0 (k + 1) y0 y1 y2 y3))
  | 0 => fun _ _ _ _ r h => by simp [wicketmanlaw06_TextBounds.l0] at h
  | k + 1 => by
    have ih0 := wicketmanlaw06_TextBounds.mono_l k
    · intro y0 y1 y2 y3
      unfold wicketmanlaw06_TextBounds.l0
      repeat' first
      | (with_reducible exact ih0 _ _ _ _)
      | (with_reducible exact wicketmanlaw06_Text.mono _ _)
      | (with_reducible exact LeO.refl _)
      | (with_reducible exact LeO.none _)
      | (with_reducible refine LeO.ite ?_ ?_)
      | (with_reducible refine LeO.bind ?_ (fun _ => ?_))
      | exact ih0 _ _ _ _
      | exact wicketmanlaw06_Text.mono _ _
      | exact LeO.none _
      | refine LeO.ite ?_ ?_
      | refine LeO.bind ?_ (fun _ => ?_)
theorem wicketmanlaw06_TextBounds.mono : ∀ a0 a1 k, LeO (wicketmanlaw06_TextBounds.f k a0 a1) (wicketmanlaw06_TextBounds.f (k + 1) a0 a1) := by
  intro a0 a1 k
  have ih0 := wicketmanlaw06_TextBounds.mono_l k
  unfold wicketmanlaw06_TextBounds.f
  repeat' first
      | (with_reducible exact ih0 _ _ _ _)
      | (with_reducible exact wicketmanlaw06_Text.mono _ _)
      | (with_reducible exact LeO.refl _)
      | (with_reducible exact LeO.none _)
      | (with_reducible refine LeO.ite ?_ ?_)
      | (with_reducible refine LeO.bind ?_ (fun _ => ?_))
      | exact ih0 _ _ _ _
      | exact wicketmanlaw06_Text.mono _ _
      | exact LeO.none _
      | refine LeO.ite ?_ ?_
      | refine LeO.bind ?_ (fun _ => ?_)
set_option maxHeartbeats 8000000 in
set_option maxRecDepth 1000000 in
theorem wicketmanlaw06_TextBounds.calls (k : Nat) (A0 : Option Addr) (c0 : Nat) (l0 : List Int) (a1 : Int) (r : Bool) (w : World) (hr0 : Kd.C (Kd.int .u8) w A0 l0.length l0) (hc0 : l0.length ≤ c0) (h : wicketmanlaw06_TextBounds.f k l0 a1 = some r) (hG_ : RootsIn w) :
    Calls Tryd.prog 6 #[.slice A0 l0.length c0, .int .u8 a1] w fun e w' => e = .returned (.bool r) ∧ Below w.heap.size w w' := by
  have HR0 := Aside0.mk hr0
  have HC0 := Aside0.mk hc0
  clear hr0 hc0
  have HB := Aside0.mk (Below.refl w.heap.size w)
  have HGR := Aside0.mk hG_
  clear hG_
  have H : (wicketmanlaw06_TextBounds.l0 k l0 a1 (⟨#[]⟩ : ByteArray) 0) = some r := h
  clear h
  have H' := Aside0.mk H
  clear H
  go_enter Tryd.func6, Tryd.ntmps6
  go_wp2
  go_loopg [5, 6] k (fun kq v5 v6 w' => ∃ (x5_1 : ByteArray) (x6_1 : Int), v5 = .string x5_1 ∧ v6 = .int .i64 x6_1 ∧ Aside0 (wicketmanlaw06_TextBounds.l0 kq l0 a1 x5_1 x6_1 = some r) ∧ Aside0 (kq ≤ k) ∧ Aside0 (Below w.heap.size w w'))
  case atStart => exact ⟨((⟨#[]⟩ : ByteArray)), (0), (by first | rfl | (simp; done) | (simp [*]; done)), (by first | rfl | (simp; done) | (simp [*]; done)), H', ⟨Nat.le_refl _⟩, ⟨by repeat (first | (with_reducible first | exact HB.out | apply below_alloc | apply pw_below_drewN | apply below_drew1) | exact HB.out)⟩⟩
  case round =>
    clear H'
    try clear p2
    obtain ⟨x5_1, x6_1, rfl, rfl, HA, HK1, HB⟩ := hrel
    cases gk with
    | zero => exact absurd HA.out (by simp [wicketmanlaw06_TextBounds.l0])
    | succ k1 =>
      have H := HA.out
      clear HA
      simp only [wicketmanlaw06_TextBounds.l0] at H
      by_cases c3 : x6_1 < (wrap64 (a1))
      · rw [if_pos c3] at H
        have c3b0 : decide (x6_1 < (wrap64 (a1))) = true := decide_eq_true c3
        clear c3
        by_cases c4 : x5_1.size + 1 ≤ 9223372036854775807
        · rw [if_pos c4] at H
          have c4b0 := eq_true c4
          have c4b1 : decide (x5_1.size + 1 ≤ 9223372036854775807) = true := decide_eq_true c4
          try have c4b2 : (9223372036854775807 < x5_1.size + 1) = False := eq_false (Nat.not_lt.2 c4)
          try (have c4b3 := c4; simp at c4b3)
          try have c4b4 := eq_false (Nat.not_lt.2 c4b3)
          have H' := Aside0.mk H
          clear H
          go_wp2
          go_roundg k1
          case measure => have := HK1.out; omega
          case rel => exact ⟨(x5_1 ++ (⟨#[97]⟩ : ByteArray)), (wrap64 (x6_1 + 1)), (by first | rfl | (simp; done) | (simp [*]; done)), (by first | rfl | (simp; done) | (simp [*]; done)), H', ⟨by have := HK1.out; omega⟩, ⟨by repeat (first | (with_reducible first | exact HB.out | apply below_alloc | apply pw_below_drewN | apply below_drew1) | exact HB.out)⟩⟩
        · rw [if_neg c4] at H
          exact absurd H (by simp)
      · rw [if_neg c3] at H
        have c3b0 : decide (x6_1 < (wrap64 (a1))) = false := decide_eq_false c3
        clear c3
        replace H := Option.bind_eq_some_iff.mp H
        obtain ⟨t101, A50, H⟩ := H
        replace H : ((text_Name.f t101).bind fun t102 => ((text_Pass.f t101).bind fun t103 => ((text_Note.f t101).bind fun t104 => ((wicketmanlaw06_known.f).bind fun t105 => (if t105 = true then ((text_Name.f x5_1).bind fun t106 => (if a1 ≥ 1 then (if (t106 == (decide (a1 ≤ 20))) = true then ((text_Pass.f x5_1).bind fun t107 => (if (t107 == (decide (a1 ≤ 60))) = true then ((text_Note.f x5_1).bind fun t108 => (if (t108 == (decide (a1 ≤ 200))) = true then (if t102 = true then (if t103 = true then (if t104 = true then (if x5_1.size + 1 ≤ 9223372036854775807 then ((text_Note.f (x5_1 ++ (⟨#[10]⟩ : ByteArray))).bind fun t109 => (if (t109 == (decide (a1 < 200))) = true then ((text_Pass.f (x5_1 ++ (⟨#[10]⟩ : ByteArray))).bind fun t110 => (some (!t110))) else (none))) else (none)) else (none)) else (none)) else (if t103 = true then (if t104 = true then (if x5_1.size + 1 ≤ 9223372036854775807 then ((text_Note.f (x5_1 ++ (⟨#[10]⟩ : ByteArray))).bind fun t111 => (if (t111 == (decide (a1 < 200))) = true then ((text_Pass.f (x5_1 ++ (⟨#[10]⟩ : ByteArray))).bind fun t112 => (some (!t112))) else (none))) else (none)) else (none)) else (if x5_1.size + 1 ≤ 9223372036854775807 then ((text_Note.f (x5_1 ++ (⟨#[10]⟩ : ByteArray))).bind fun t113 => (if (t113 == (decide (a1 < 200))) = true then ((text_Pass.f (x5_1 ++ (⟨#[10]⟩ : ByteArray))).bind fun t114 => (some (!t114))) else (none))) else (none)))) else (none))) else (none))) else (none)) else (if (t106 == false) = true then ((text_Pass.f x5_1).bind fun t115 => (if (t115 == false) = true then ((text_Note.f x5_1).bind fun t116 => (if (t116 == (decide (a1 ≤ 200))) = true then (if t102 = true then (if t103 = true then (if t104 = true then (if x5_1.size + 1 ≤ 9223372036854775807 then ((text_Note.f (x5_1 ++ (⟨#[10]⟩ : ByteArray))).bind fun t117 => (if (t117 == (decide (a1 < 200))) = true then ((text_Pass.f (x5_1 ++ (⟨#[10]⟩ : ByteArray))).bind fun t118 => (some (!t118))) else (none))) else (none)) else (none)) else (none)) else (if t103 = true then (if t104 = true then (if x5_1.size + 1 ≤ 9223372036854775807 then ((text_Note.f (x5_1 ++ (⟨#[10]⟩ : ByteArray))).bind fun t119 => (if (t119 == (decide (a1 < 200))) = true then ((text_Pass.f (x5_1 ++ (⟨#[10]⟩ : ByteArray))).bind fun t120 => (some (!t120))) else (none))) else (none)) else (none)) else (if x5_1.size + 1 ≤ 9223372036854775807 then ((text_Note.f (x5_1 ++ (⟨#[10]⟩ : ByteArray))).bind fun t121 => (if (t121 == (decide (a1 < 200))) = true then ((text_Pass.f (x5_1 ++ (⟨#[10]⟩ : ByteArray))).bind fun t122 => (some (!t122))) else (none))) else (none)))) else (none))) else (none))) else (none)))) else (none)))))) = some r := H
        have A5 := Aside0.mk A50
        clear A50
        replace H := Option.bind_eq_some_iff.mp H
        obtain ⟨t102, A60, H⟩ := H
        replace H : ((text_Pass.f t101).bind fun t103 => ((text_Note.f t101).bind fun t104 => ((wicketmanlaw06_known.f).bind fun t105 => (if t105 = true then ((text_Name.f x5_1).bind fun t106 => (if a1 ≥ 1 then (if (t106 == (decide (a1 ≤ 20))) = true then ((text_Pass.f x5_1).bind fun t107 => (if (t107 == (decide (a1 ≤ 60))) = true then ((text_Note.f x5_1).bind fun t108 => (if (t108 == (decide (a1 ≤ 200))) = true then (if t102 = true then (if t103 = true then (if t104 = true then (if x5_1.size + 1 ≤ 9223372036854775807 then ((text_Note.f (x5_1 ++ (⟨#[10]⟩ : ByteArray))).bind fun t109 => (if (t109 == (decide (a1 < 200))) = true then ((text_Pass.f (x5_1 ++ (⟨#[10]⟩ : ByteArray))).bind fun t110 => (some (!t110))) else (none))) else (none)) else (none)) else (none)) else (if t103 = true then (if t104 = true then (if x5_1.size + 1 ≤ 9223372036854775807 then ((text_Note.f (x5_1 ++ (⟨#[10]⟩ : ByteArray))).bind fun t111 => (if (t111 == (decide (a1 < 200))) = true then ((text_Pass.f (x5_1 ++ (⟨#[10]⟩ : ByteArray))).bind fun t112 => (some (!t112))) else (none))) else (none)) else (none)) else (if x5_1.size + 1 ≤ 9223372036854775807 then ((text_Note.f (x5_1 ++ (⟨#[10]⟩ : ByteArray))).bind fun t113 => (if (t113 == (decide (a1 < 200))) = true then ((text_Pass.f (x5_1 ++ (⟨#[10]⟩ : ByteArray))).bind fun t114 => (some (!t114))) else (none))) else (none)))) else (none))) else (none))) else (none)) else (if (t106 == false) = true then ((text_Pass.f x5_1).bind fun t115 => (if (t115 == false) = true then ((text_Note.f x5_1).bind fun t116 => (if (t116 == (decide (a1 ≤ 200))) = true then (if t102 = true then (if t103 = true then (if t104 = true then (if x5_1.size + 1 ≤ 9223372036854775807 then ((text_Note.f (x5_1 ++ (⟨#[10]⟩ : ByteArray))).bind fun t117 => (if (t117 == (decide (a1 < 200))) = true then ((text_Pass.f (x5_1 ++ (⟨#[10]⟩ : ByteArray))).bind fun t118 => (some (!t118))) else (none))) else (none)) else (none)) else (none)) else (if t103 = true then (if t104 = true then (if x5_1.size + 1 ≤ 9223372036854775807 then ((text_Note.f (x5_1 ++ (⟨#[10]⟩ : ByteArray))).bind fun t119 => (if (t119 == (decide (a1 < 200))) = true then ((text_Pass.f (x5_1 ++ (⟨#[10]⟩ : ByteArray))).bind fun t120 => (some (!t120))) else (none))) else (none)) else (none)) else (if x5_1.size + 1 ≤ 9223372036854775807 then ((text_Note.f (x5_1 ++ (⟨#[10]⟩ : ByteArray))).bind fun t121 => (if (t121 == (decide (a1 < 200))) = true then ((text_Pass.f (x5_1 ++ (⟨#[10]⟩ : ByteArray))).bind fun t122 => (some (!t122))) else (none))) else (none)))) else (none))) else (none))) else (none)))) else (none))))) = some r := H
        have A6 := Aside0.mk A60
        clear A60
        replace H := Option.bind_eq_some_iff.mp H
        obtain ⟨t103, A70, H⟩ := H
        replace H : ((text_Note.f t101).bind fun t104 => ((wicketmanlaw06_known.f).bind fun t105 => (if t105 = true then ((text_Name.f x5_1).bind fun t106 => (if a1 ≥ 1 then (if (t106 == (decide (a1 ≤ 20))) = true then ((text_Pass.f x5_1).bind fun t107 => (if (t107 == (decide (a1 ≤ 60))) = true then ((text_Note.f x5_1).bind fun t108 => (if (t108 == (decide (a1 ≤ 200))) = true then (if t102 = true then (if t103 = true then (if t104 = true then (if x5_1.size + 1 ≤ 9223372036854775807 then ((text_Note.f (x5_1 ++ (⟨#[10]⟩ : ByteArray))).bind fun t109 => (if (t109 == (decide (a1 < 200))) = true then ((text_Pass.f (x5_1 ++ (⟨#[10]⟩ : ByteArray))).bind fun t110 => (some (!t110))) else (none))) else (none)) else (none)) else (none)) else (if t103 = true then (if t104 = true then (if x5_1.size + 1 ≤ 9223372036854775807 then ((text_Note.f (x5_1 ++ (⟨#[10]⟩ : ByteArray))).bind fun t111 => (if (t111 == (decide (a1 < 200))) = true then ((text_Pass.f (x5_1 ++ (⟨#[10]⟩ : ByteArray))).bind fun t112 => (some (!t112))) else (none))) else (none)) else (none)) else (if x5_1.size + 1 ≤ 9223372036854775807 then ((text_Note.f (x5_1 ++ (⟨#[10]⟩ : ByteArray))).bind fun t113 => (if (t113 == (decide (a1 < 200))) = true then ((text_Pass.f (x5_1 ++ (⟨#[10]⟩ : ByteArray))).bind fun t114 => (some (!t114))) else (none))) else (none)))) else (none))) else (none))) else (none)) else (if (t106 == false) = true then ((text_Pass.f x5_1).bind fun t115 => (if (t115 == false) = true then ((text_Note.f x5_1).bind fun t116 => (if (t116 == (decide (a1 ≤ 200))) = true then (if t102 = true then (if t103 = true then (if t104 = true then (if x5_1.size + 1 ≤ 9223372036854775807 then ((text_Note.f (x5_1 ++ (⟨#[10]⟩ : ByteArray))).bind fun t117 => (if (t117 == (decide (a1 < 200))) = true then ((text_Pass.f (x5_1 ++ (⟨#[10]⟩ : ByteArray))).bind fun t118 => (some (!t118))) else (none))) else (none)) else (none)) else (none)) else (if t103 = true then (if t104 = true then (if x5_1.size + 1 ≤ 9223372036854775807 then ((text_Note.f (x5_1 ++ (⟨#[10]⟩ : ByteArray))).bind fun t119 => (if (t119 == (decide (a1 < 200))) = true then ((text_Pass.f (x5_1 ++ (⟨#[10]⟩ : ByteArray))).bind fun t120 => (some (!t120))) else (none))) else (none)) else (none)) else (if x5_1.size + 1 ≤ 9223372036854775807 then ((text_Note.f (x5_1 ++ (⟨#[10]⟩ : ByteArray))).bind fun t121 => (if (t121 == (decide (a1 < 200))) = true then ((text_Pass.f (x5_1 ++ (⟨#[10]⟩ : ByteArray))).bind fun t122 => (some (!t122))) else (none))) else (none)))) else (none))) else (none))) else (none)))) else (none)))) = some r := H
        have A7 := Aside0.mk A70
        clear A70
        replace H := Option.bind_eq_some_iff.mp H
        obtain ⟨t104, A80, H⟩ := H
        replace H : ((wicketmanlaw06_known.f).bind fun t105 => (if t105 = true then ((text_Name.f x5_1).bind fun t106 => (if a1 ≥ 1 then (if (t106 == (decide (a1 ≤ 20))) = true then ((text_Pass.f x5_1).bind fun t107 => (if (t107 == (decide (a1 ≤ 60))) = true then ((text_Note.f x5_1).bind fun t108 => (if (t108 == (decide (a1 ≤ 200))) = true then (if t102 = true then (if t103 = true then (if t104 = true then (if x5_1.size + 1 ≤ 9223372036854775807 then ((text_Note.f (x5_1 ++ (⟨#[10]⟩ : ByteArray))).bind fun t109 => (if (t109 == (decide (a1 < 200))) = true then ((text_Pass.f (x5_1 ++ (⟨#[10]⟩ : ByteArray))).bind fun t110 => (some (!t110))) else (none))) else (none)) else (none)) else (none)) else (if t103 = true then (if t104 = true then (if x5_1.size + 1 ≤ 9223372036854775807 then ((text_Note.f (x5_1 ++ (⟨#[10]⟩ : ByteArray))).bind fun t111 => (if (t111 == (decide (a1 < 200))) = true then ((text_Pass.f (x5_1 ++ (⟨#[10]⟩ : ByteArray))).bind fun t112 => (some (!t112))) else (none))) else (none)) else (none)) else (if x5_1.size + 1 ≤ 9223372036854775807 then ((text_Note.f (x5_1 ++ (⟨#[10]⟩ : ByteArray))).bind fun t113 => (if (t113 == (decide (a1 < 200))) = true then ((text_Pass.f (x5_1 ++ (⟨#[10]⟩ : ByteArray))).bind fun t114 => (some (!t114))) else (none))) else (none)))) else (none))) else (none))) else (none)) else (if (t106 == false) = true then ((text_Pass.f x5_1).bind fun t115 => (if (t115 == false) = true then ((text_Note.f x5_1).bind fun t116 => (if (t116 == (decide (a1 ≤ 200))) = true then (if t102 = true then (if t103 = true then (if t104 = true then (if x5_1.size + 1 ≤ 9223372036854775807 then ((text_Note.f (x5_1 ++ (⟨#[10]⟩ : ByteArray))).bind fun t117 => (if (t117 == (decide (a1 < 200))) = true then ((text_Pass.f (x5_1 ++ (⟨#[10]⟩ : ByteArray))).bind fun t118 => (some (!t118))) else (none))) else (none)) else (none)) else (none)) else (if t103 = true then (if t104 = true then (if x5_1.size + 1 ≤ 9223372036854775807 then ((text_Note.f (x5_1 ++ (⟨#[10]⟩ : ByteArray))).bind fun t119 => (if (t119 == (decide (a1 < 200))) = true then ((text_Pass.f (x5_1 ++ (⟨#[10]⟩ : ByteArray))).bind fun t120 => (some (!t120))) else (none))) else (none)) else (none)) else (if x5_1.size + 1 ≤ 9223372036854775807 then ((text_Note.f (x5_1 ++ (⟨#[10]⟩ : ByteArray))).bind fun t121 => (if (t121 == (decide (a1 < 200))) = true then ((text_Pass.f (x5_1 ++ (⟨#[10]⟩ : ByteArray))).bind fun t122 => (some (!t122))) else (none))) else (none)))) else (none))) else (none))) else (none)))) else (none))) = some r := H
        have A8 := Aside0.mk A80
        clear A80
        replace H := Option.bind_eq_some_iff.mp H
        obtain ⟨t105, A90, H⟩ := H
        replace H : (if t105 = true then ((text_Name.f x5_1).bind fun t106 => (if a1 ≥ 1 then (if (t106 == (decide (a1 ≤ 20))) = true then ((text_Pass.f x5_1).bind fun t107 => (if (t107 == (decide (a1 ≤ 60))) = true then ((text_Note.f x5_1).bind fun t108 => (if (t108 == (decide (a1 ≤ 200))) = true then (if t102 = true then (if t103 = true then (if t104 = true then (if x5_1.size + 1 ≤ 9223372036854775807 then ((text_Note.f (x5_1 ++ (⟨#[10]⟩ : ByteArray))).bind fun t109 => (if (t109 == (decide (a1 < 200))) = true then ((text_Pass.f (x5_1 ++ (⟨#[10]⟩ : ByteArray))).bind fun t110 => (some (!t110))) else (none))) else (none)) else (none)) else (none)) else (if t103 = true then (if t104 = true then (if x5_1.size + 1 ≤ 9223372036854775807 then ((text_Note.f (x5_1 ++ (⟨#[10]⟩ : ByteArray))).bind fun t111 => (if (t111 == (decide (a1 < 200))) = true then ((text_Pass.f (x5_1 ++ (⟨#[10]⟩ : ByteArray))).bind fun t112 => (some (!t112))) else (none))) else (none)) else (none)) else (if x5_1.size + 1 ≤ 9223372036854775807 then ((text_Note.f (x5_1 ++ (⟨#[10]⟩ : ByteArray))).bind fun t113 => (if (t113 == (decide (a1 < 200))) = true then ((text_Pass.f (x5_1 ++ (⟨#[10]⟩ : ByteArray))).bind fun t114 => (some (!t114))) else (none))) else (none)))) else (none))) else (none))) else (none)) else (if (t106 == false) = true then ((text_Pass.f x5_1).bind fun t115 => (if (t115 == false) = true then ((text_Note.f x5_1).bind fun t116 => (if (t116 == (decide (a1 ≤ 200))) = true then (if t102 = true then (if t103 = true then (if t104 = true then (if x5_1.size + 1 ≤ 9223372036854775807 then ((text_Note.f (x5_1 ++ (⟨#[10]⟩ : ByteArray))).bind fun t117 => (if (t117 == (decide (a1 < 200))) = true then ((text_Pass.f (x5_1 ++ (⟨#[10]⟩ : ByteArray))).bind fun t118 => (some (!t118))) else (none))) else (none)) else (none)) else (none)) else (if t103 = true then (if t104 = true then (if x5_1.size + 1 ≤ 9223372036854775807 then ((text_Note.f (x5_1 ++ (⟨#[10]⟩ : ByteArray))).bind fun t119 => (if (t119 == (decide (a1 < 200))) = true then ((text_Pass.f (x5_1 ++ (⟨#[10]⟩ : ByteArray))).bind fun t120 => (some (!t120))) else (none))) else (none)) else (none)) else (if x5_1.size + 1 ≤ 9223372036854775807 then ((text_Note.f (x5_1 ++ (⟨#[10]⟩ : ByteArray))).bind fun t121 => (if (t121 == (decide (a1 < 200))) = true then ((text_Pass.f (x5_1 ++ (⟨#[10]⟩ : ByteArray))).bind fun t122 => (some (!t122))) else (none))) else (none)))) else (none))) else (none))) else (none)))) else (none)) = some r := H
        have A9 := Aside0.mk A90
        clear A90
        by_cases c10 : t105 = true
        · subst c10
          have H1 : ((text_Name.f x5_1).bind fun t106 => (if a1 ≥ 1 then (if (t106 == (decide (a1 ≤ 20))) = true then ((text_Pass.f x5_1).bind fun t107 => (if (t107 == (decide (a1 ≤ 60))) = true then ((text_Note.f x5_1).bind fun t108 => (if (t108 == (decide (a1 ≤ 200))) = true then (if t102 = true then (if t103 = true then (if t104 = true then (if x5_1.size + 1 ≤ 9223372036854775807 then ((text_Note.f (x5_1 ++ (⟨#[10]⟩ : ByteArray))).bind fun t109 => (if (t109 == (decide (a1 < 200))) = true then ((text_Pass.f (x5_1 ++ (⟨#[10]⟩ : ByteArray))).bind fun t110 => (some (!t110))) else (none))) else (none)) else (none)) else (none)) else (if t103 = true then (if t104 = true then (if x5_1.size + 1 ≤ 9223372036854775807 then ((text_Note.f (x5_1 ++ (⟨#[10]⟩ : ByteArray))).bind fun t111 => (if (t111 == (decide (a1 < 200))) = true then ((text_Pass.f (x5_1 ++ (⟨#[10]⟩ : ByteArray))).bind fun t112 => (some (!t112))) else (none))) else (none)) else (none)) else (if x5_1.size + 1 ≤ 9223372036854775807 then ((text_Note.f (x5_1 ++ (⟨#[10]⟩ : ByteArray))).bind fun t113 => (if (t113 == (decide (a1 < 200))) = true then ((text_Pass.f (x5_1 ++ (⟨#[10]⟩ : ByteArray))).bind fun t114 => (some (!t114))) else (none))) else (none)))) else (none))) else (none))) else (none)) else (if (t106 == false) = true then ((text_Pass.f x5_1).bind fun t115 => (if (t115 == false) = true then ((text_Note.f x5_1).bind fun t116 => (if (t116 == (decide (a1 ≤ 200))) = true then (if t102 = true then (if t103 = true then (if t104 = true then (if x5_1.size + 1 ≤ 9223372036854775807 then ((text_Note.f (x5_1 ++ (⟨#[10]⟩ : ByteArray))).bind fun t117 => (if (t117 == (decide (a1 < 200))) = true then ((text_Pass.f (x5_1 ++ (⟨#[10]⟩ : ByteArray))).bind fun t118 => (some (!t118))) else (none))) else (none)) else (none)) else (none)) else (if t103 = true then (if t104 = true then (if x5_1.size + 1 ≤ 9223372036854775807 then ((text_Note.f (x5_1 ++ (⟨#[10]⟩ : ByteArray))).bind fun t119 => (if (t119 == (decide (a1 < 200))) = true then ((text_Pass.f (x5_1 ++ (⟨#[10]⟩ : ByteArray))).bind fun t120 => (some (!t120))) else (none))) else (none)) else (none)) else (if x5_1.size + 1 ≤ 9223372036854775807 then ((text_Note.f (x5_1 ++ (⟨#[10]⟩ : ByteArray))).bind fun t121 => (if (t121 == (decide (a1 < 200))) = true then ((text_Pass.f (x5_1 ++ (⟨#[10]⟩ : ByteArray))).bind fun t122 => (some (!t122))) else (none))) else (none)))) else (none))) else (none))) else (none)))) = some r := by rw [if_pos rfl] at H; exact H
          clear H
          have H := H1
          clear H1
          replace H := Option.bind_eq_some_iff.mp H
          obtain ⟨t106, A110, H⟩ := H
          replace H : (if a1 ≥ 1 then (if (t106 == (decide (a1 ≤ 20))) = true then ((text_Pass.f x5_1).bind fun t107 => (if (t107 == (decide (a1 ≤ 60))) = true then ((text_Note.f x5_1).bind fun t108 => (if (t108 == (decide (a1 ≤ 200))) = true then (if t102 = true then (if t103 = true then (if t104 = true then (if x5_1.size + 1 ≤ 9223372036854775807 then ((text_Note.f (x5_1 ++ (⟨#[10]⟩ : ByteArray))).bind fun t109 => (if (t109 == (decide (a1 < 200))) = true then ((text_Pass.f (x5_1 ++ (⟨#[10]⟩ : ByteArray))).bind fun t110 => (some (!t110))) else (none))) else (none)) else (none)) else (none)) else (if t103 = true then (if t104 = true then (if x5_1.size + 1 ≤ 9223372036854775807 then ((text_Note.f (x5_1 ++ (⟨#[10]⟩ : ByteArray))).bind fun t111 => (if (t111 == (decide (a1 < 200))) = true then ((text_Pass.f (x5_1 ++ (⟨#[10]⟩ : ByteArray))).bind fun t112 => (some (!t112))) else (none))) else (none)) else (none)) else (if x5_1.size + 1 ≤ 9223372036854775807 then ((text_Note.f (x5_1 ++ (⟨#[10]⟩ : ByteArray))).bind fun t113 => (if (t113 == (decide (a1 < 200))) = true then ((text_Pass.f (x5_1 ++ (⟨#[10]⟩ : ByteArray))).bind fun t114 => (some (!t114))) else (none))) else (none)))) else (none))) else (none))) else (none)) else (if (t106 == false) = true then ((text_Pass.f x5_1).bind fun t115 => (if (t115 == false) = true then ((text_Note.f x5_1).bind fun t116 => (if (t116 == (decide (a1 ≤ 200))) = true then (if t102 = true then (if t103 = true then (if t104 = true then (if x5_1.size + 1 ≤ 9223372036854775807 then ((text_Note.f (x5_1 ++ (⟨#[10]⟩ : ByteArray))).bind fun t117 => (if (t117 == (decide (a1 < 200))) = true then ((text_Pass.f (x5_1 ++ (⟨#[10]⟩ : ByteArray))).bind fun t118 => (some (!t118))) else (none))) else (none)) else (none)) else (none)) else (if t103 = true then (if t104 = true then (if x5_1.size + 1 ≤ 9223372036854775807 then ((text_Note.f (x5_1 ++ (⟨#[10]⟩ : ByteArray))).bind fun t119 => (if (t119 == (decide (a1 < 200))) = true then ((text_Pass.f (x5_1 ++ (⟨#[10]⟩ : ByteArray))).bind fun t120 => (some (!t120))) else (none))) else (none)) else (none)) else (if x5_1.size + 1 ≤ 9223372036854775807 then ((text_Note.f (x5_1 ++ (⟨#[10]⟩ : ByteArray))).bind fun t121 => (if (t121 == (decide (a1 < 200))) = true then ((text_Pass.f (x5_1 ++ (⟨#[10]⟩ : ByteArray))).bind fun t122 => (some (!t122))) else (none))) else (none)))) else (none))) else (none))) else (none))) = some r := H
          have A11 := Aside0.mk A110
          clear A110
          by_cases c12 : a1 ≥ 1
          · rw [if_pos c12] at H
            have c12b0 : decide (1 ≤ a1) = true := decide_eq_true c12
            clear c12
            by_cases c13 : (t106 == (decide (a1 ≤ 20))) = true
            · rw [if_pos c13] at H
              have c13b0 : (t106 == (decide (a1 ≤ 20))) = true := c13
              (try (have c13b1 : decide (t106 = (decide (a1 ≤ 20))) = true := by simpa using c13))
              (try (have c13b2 : (t106 == (decide (a1 ≤ 20))) = true := by simpa using c13))
              clear c13
              replace H := Option.bind_eq_some_iff.mp H
              obtain ⟨t107, A140, H⟩ := H
              replace H : (if (t107 == (decide (a1 ≤ 60))) = true then ((text_Note.f x5_1).bind fun t108 => (if (t108 == (decide (a1 ≤ 200))) = true then (if t102 = true then (if t103 = true then (if t104 = true then (if x5_1.size + 1 ≤ 9223372036854775807 then ((text_Note.f (x5_1 ++ (⟨#[10]⟩ : ByteArray))).bind fun t109 => (if (t109 == (decide (a1 < 200))) = true then ((text_Pass.f (x5_1 ++ (⟨#[10]⟩ : ByteArray))).bind fun t110 => (some (!t110))) else (none))) else (none)) else (none)) else (none)) else (if t103 = true then (if t104 = true then (if x5_1.size + 1 ≤ 9223372036854775807 then ((text_Note.f (x5_1 ++ (⟨#[10]⟩ : ByteArray))).bind fun t111 => (if (t111 == (decide (a1 < 200))) = true then ((text_Pass.f (x5_1 ++ (⟨#[10]⟩ : ByteArray))).bind fun t112 => (some (!t112))) else (none))) else (none)) else (none)) else (if x5_1.size + 1 ≤ 9223372036854775807 then ((text_Note.f (x5_1 ++ (⟨#[10]⟩ : ByteArray))).bind fun t113 => (if (t113 == (decide (a1 < 200))) = true then ((text_Pass.f (x5_1 ++ (⟨#[10]⟩ : ByteArray))).bind fun t114 => (some (!t114))) else (none))) else (none)))) else (none))) else (none)) = some r := H
              have A14 := Aside0.mk A140
              clear A140
              by_cases c15 : (t107 == (decide (a1 ≤ 60))) = true
              · rw [if_pos c15] at H
                have c15b0 : (t107 == (decide (a1 ≤ 60))) = true := c15
                (try (have c15b1 : decide (t107 = (decide (a1 ≤ 60))) = true := by simpa using c15))
                (try (have c15b2 : (t107 == (decide (a1 ≤ 60))) = true := by simpa using c15))
                clear c15
                replace H := Option.bind_eq_some_iff.mp H
                obtain ⟨t108, A160, H⟩ := H
                replace H : (if (t108 == (decide (a1 ≤ 200))) = true then (if t102 = true then (if t103 = true then (if t104 = true then (if x5_1.size + 1 ≤ 9223372036854775807 then ((text_Note.f (x5_1 ++ (⟨#[10]⟩ : ByteArray))).bind fun t109 => (if (t109 == (decide (a1 < 200))) = true then ((text_Pass.f (x5_1 ++ (⟨#[10]⟩ : ByteArray))).bind fun t110 => (some (!t110))) else (none))) else (none)) else (none)) else (none)) else (if t103 = true then (if t104 = true then (if x5_1.size + 1 ≤ 9223372036854775807 then ((text_Note.f (x5_1 ++ (⟨#[10]⟩ : ByteArray))).bind fun t111 => (if (t111 == (decide (a1 < 200))) = true then ((text_Pass.f (x5_1 ++ (⟨#[10]⟩ : ByteArray))).bind fun t112 => (some (!t112))) else (none))) else (none)) else (none)) else (if x5_1.size + 1 ≤ 9223372036854775807 then ((text_Note.f (x5_1 ++ (⟨#[10]⟩ : ByteArray))).bind fun t113 => (if (t113 == (decide (a1 < 200))) = true then ((text_Pass.f (x5_1 ++ (⟨#[10]⟩ : ByteArray))).bind fun t114 => (some (!t114))) else (none))) else (none)))) else (none)) = some r := H
                have A16 := Aside0.mk A160
                clear A160
                by_cases c17 : (t108 == (decide (a1 ≤ 200))) = true
                · rw [if_pos c17] at H
                  have c17b0 : (t108 == (decide (a1 ≤ 200))) = true := c17
                  (try (have c17b1 : decide (t108 = (decide (a1 ≤ 200))) = true := by simpa using c17))
                  (try (have c17b2 : (t108 == (decide (a1 ≤ 200))) = true := by simpa using c17))
                  clear c17
                  by_cases c18 : t102 = true
                  · subst c18
                    have H1 : (if t103 = true then (if t104 = true then (if x5_1.size + 1 ≤ 9223372036854775807 then ((text_Note.f (x5_1 ++ (⟨#[10]⟩ : ByteArray))).bind fun t109 => (if (t109 == (decide (a1 < 200))) = true then ((text_Pass.f (x5_1 ++ (⟨#[10]⟩ : ByteArray))).bind fun t110 => (some (!t110))) else (none))) else (none)) else (none)) else (none)) = some r := by rw [if_pos rfl] at H; exact H
                    clear H
                    have H := H1
                    clear H1
                    by_cases c19 : t103 = true
                    · subst c19
                      have H1 : (if t104 = true then (if x5_1.size + 1 ≤ 9223372036854775807 then ((text_Note.f (x5_1 ++ (⟨#[10]⟩ : ByteArray))).bind fun t109 => (if (t109 == (decide (a1 < 200))) = true then ((text_Pass.f (x5_1 ++ (⟨#[10]⟩ : ByteArray))).bind fun t110 => (some (!t110))) else (none))) else (none)) else (none)) = some r := by rw [if_pos rfl] at H; exact H
                      clear H
                      have H := H1
                      clear H1
                      by_cases c20 : t104 = true
                      · subst c20
                        have H1 : (if x5_1.size + 1 ≤ 9223372036854775807 then ((text_Note.f (x5_1 ++ (⟨#[10]⟩ : ByteArray))).bind fun t109 => (if (t109 == (decide (a1 < 200))) = true then ((text_Pass.f (x5_1 ++ (⟨#[10]⟩ : ByteArray))).bind fun t110 => (some (!t110))) else (none))) else (none)) = some r := by rw [if_pos rfl] at H; exact H
                        clear H
                        have H := H1
                        clear H1
                        by_cases c21 : x5_1.size + 1 ≤ 9223372036854775807
                        · rw [if_pos c21] at H
                          have c21b0 := eq_true c21
                          have c21b1 : decide (x5_1.size + 1 ≤ 9223372036854775807) = true := decide_eq_true c21
                          try have c21b2 : (9223372036854775807 < x5_1.size + 1) = False := eq_false (Nat.not_lt.2 c21)
                          try (have c21b3 := c21; simp at c21b3)
                          try have c21b4 := eq_false (Nat.not_lt.2 c21b3)
                          replace H := Option.bind_eq_some_iff.mp H
                          obtain ⟨t109, A220, H⟩ := H
                          replace H : (if (t109 == (decide (a1 < 200))) = true then ((text_Pass.f (x5_1 ++ (⟨#[10]⟩ : ByteArray))).bind fun t110 => (some (!t110))) else (none)) = some r := H
                          have A22 := Aside0.mk A220
                          clear A220
                          by_cases c23 : (t109 == (decide (a1 < 200))) = true
                          · rw [if_pos c23] at H
                            have c23b0 : (t109 == (decide (a1 < 200))) = true := c23
                            (try (have c23b1 : decide (t109 = (decide (a1 < 200))) = true := by simpa using c23))
                            (try (have c23b2 : (t109 == (decide (a1 < 200))) = true := by simpa using c23))
                            clear c23
                            replace H := Option.bind_eq_some_iff.mp H
                            obtain ⟨t110, A240, H⟩ := H
                            replace H : (some (!t110)) = some r := H
                            have A24 := Aside0.mk A240
                            clear A240
                            obtain rfl := Option.some.inj H
                            go_wp2_with (first | ((with_reducible refine gate_callee (f := 10) rfl ?_); refine goesL_ (some 20) rfl rfl Tryd.func10 (by kernel_rfl) rfl #[.slice A0 l0.length c0] rfl (by (try simp only [List.map_toArray, List.map_cons, List.map_nil]); first | done | rfl | (simp only [List.length_drop, List.length_take]; rfl)) ?_; (with_reducible refine (wicketmanlaw06_Text.calls k1 _ _ l0 t101 _ ?side1 ?side2 A5.out).mono ?_); (case side1 => repeat (first | exact (Kd.C_below HR0.out HB.out) | (with_reducible refine Kd.C_alloc ?_ _) | (with_reducible refine Kd.C_drewN ?_ _) | (with_reducible refine Kd.C_drew ?_))); (case side2 => exact HC0.out); rintro e w25 ⟨rfl, hb⟩; refine ⟨_, rfl, ?_⟩; have n0_ := Aside0.mk (below_step (by repeat (first | (with_reducible first | exact HB.out | apply below_alloc | apply pw_below_drewN | apply below_drew1) | exact HB.out)) hb); clear HB; have HB := n0_; clear n0_; (try clear hb); (try clear hb2); (try clear hk); (try clear hi)) | ((with_reducible refine gate_callee (f := 14) rfl ?_); refine goesL_ (some 22) rfl rfl Tryd.func14 (by kernel_rfl) rfl #[.string t101] rfl (by (try simp only [List.map_toArray, List.map_cons, List.map_nil]); first | done | rfl | (simp only [List.length_drop, List.length_take]; rfl)) ?_; (with_reducible refine (text_Name.calls t101 true _ A6.out (HGR.out.below rfl (by repeat (first | (with_reducible first | exact HB.out | apply below_alloc | apply pw_below_drewN | apply below_drew1) | exact HB.out | exact Aside0.out (by assumption))))).mono ?_); rintro e w26 ⟨rfl, hb⟩; refine ⟨_, rfl, ?_⟩; have n0_ := Aside0.mk (below_step (by repeat (first | (with_reducible first | exact HB.out | apply below_alloc | apply pw_below_drewN | apply below_drew1) | exact HB.out)) hb); clear HB; have HB := n0_; clear n0_; (try clear hb); (try clear hb2); (try clear hk); (try clear hi)) | ((with_reducible refine gate_callee (f := 15) rfl ?_); refine goesL_ (some 24) rfl rfl Tryd.func15 (by kernel_rfl) rfl #[.string t101] rfl (by (try simp only [List.map_toArray, List.map_cons, List.map_nil]); first | done | rfl | (simp only [List.length_drop, List.length_take]; rfl)) ?_; (with_reducible refine (text_Pass.calls t101 true _ A7.out (HGR.out.below rfl (by repeat (first | (with_reducible first | exact HB.out | apply below_alloc | apply pw_below_drewN | apply below_drew1) | exact HB.out | exact Aside0.out (by assumption))))).mono ?_); rintro e w27 ⟨rfl, hb⟩; refine ⟨_, rfl, ?_⟩; have n0_ := Aside0.mk (below_step (by repeat (first | (with_reducible first | exact HB.out | apply below_alloc | apply pw_below_drewN | apply below_drew1) | exact HB.out)) hb); clear HB; have HB := n0_; clear n0_; (try clear hb); (try clear hb2); (try clear hk); (try clear hi)) | ((with_reducible refine gate_callee (f := 16) rfl ?_); refine goesL_ (some 26) rfl rfl Tryd.func16 (by kernel_rfl) rfl #[.string t101] rfl (by (try simp only [List.map_toArray, List.map_cons, List.map_nil]); first | done | rfl | (simp only [List.length_drop, List.length_take]; rfl)) ?_; (with_reducible refine (text_Note.calls t101 true _ A8.out (HGR.out.below rfl (by repeat (first | (with_reducible first | exact HB.out | apply below_alloc | apply pw_below_drewN | apply below_drew1) | exact HB.out | exact Aside0.out (by assumption))))).mono ?_); rintro e w28 ⟨rfl, hb⟩; refine ⟨_, rfl, ?_⟩; have n0_ := Aside0.mk (below_step (by repeat (first | (with_reducible first | exact HB.out | apply below_alloc | apply pw_below_drewN | apply below_drew1) | exact HB.out)) hb); clear HB; have HB := n0_; clear n0_; (try clear hb); (try clear hb2); (try clear hk); (try clear hi)) | ((with_reducible refine gate_callee (f := 9) rfl ?_); refine goesL_ (some 27) rfl rfl Tryd.func9 (by kernel_rfl) rfl #[] rfl (by (try simp only [List.map_toArray, List.map_cons, List.map_nil]); first | done | rfl | (simp only [List.length_drop, List.length_take]; rfl)) ?_; (with_reducible refine (wicketmanlaw06_known.calls  true _ A9.out (HGR.out.below rfl (by repeat (first | (with_reducible first | exact HB.out | apply below_alloc | apply pw_below_drewN | apply below_drew1) | exact HB.out | exact Aside0.out (by assumption))))).mono ?_); rintro e w29 ⟨rfl, hb⟩; refine ⟨_, rfl, ?_⟩; have n0_ := Aside0.mk (below_step (by repeat (first | (with_reducible first | exact HB.out | apply below_alloc | apply pw_below_drewN | apply below_drew1) | exact HB.out)) hb); clear HB; have HB := n0_; clear n0_; (try clear hb); (try clear hb2); (try clear hk); (try clear hi)) | (go_at_call 14; (with_reducible refine (text_Name.calls x5_1 t106 _ A11.out (HGR.out.below rfl (by repeat (first | (with_reducible first | exact HB.out | apply below_alloc | apply pw_below_drewN | apply below_drew1) | exact HB.out | exact Aside0.out (by assumption))))).mono ?_); rintro e w30 ⟨rfl, hb⟩; have n0_ := Aside0.mk (below_step (by repeat (first | (with_reducible first | exact HB.out | apply below_alloc | apply pw_below_drewN | apply below_drew1) | exact HB.out)) hb); clear HB; have HB := n0_; clear n0_; (try clear hb); (try clear hb2); (try clear hk); (try clear hi)) | (go_at_call 15; (with_reducible refine (text_Pass.calls x5_1 t107 _ A14.out (HGR.out.below rfl (by repeat (first | (with_reducible first | exact HB.out | apply below_alloc | apply pw_below_drewN | apply below_drew1) | exact HB.out | exact Aside0.out (by assumption))))).mono ?_); rintro e w31 ⟨rfl, hb⟩; have n0_ := Aside0.mk (below_step (by repeat (first | (with_reducible first | exact HB.out | apply below_alloc | apply pw_below_drewN | apply below_drew1) | exact HB.out)) hb); clear HB; have HB := n0_; clear n0_; (try clear hb); (try clear hb2); (try clear hk); (try clear hi)) | (go_at_call 16; (with_reducible refine (text_Note.calls x5_1 t108 _ A16.out (HGR.out.below rfl (by repeat (first | (with_reducible first | exact HB.out | apply below_alloc | apply pw_below_drewN | apply below_drew1) | exact HB.out | exact Aside0.out (by assumption))))).mono ?_); rintro e w32 ⟨rfl, hb⟩; have n0_ := Aside0.mk (below_step (by repeat (first | (with_reducible first | exact HB.out | apply below_alloc | apply pw_below_drewN | apply below_drew1) | exact HB.out)) hb); clear HB; have HB := n0_; clear n0_; (try clear hb); (try clear hb2); (try clear hk); (try clear hi)) | (go_at_call 16; (with_reducible refine (text_Note.calls (x5_1 ++ (⟨#[10]⟩ : ByteArray)) t109 _ A22.out (HGR.out.below rfl (by repeat (first | (with_reducible first | exact HB.out | apply below_alloc | apply pw_below_drewN | apply below_drew1) | exact HB.out | exact Aside0.out (by assumption))))).mono ?_); rintro e w33 ⟨rfl, hb⟩; have n0_ := Aside0.mk (below_step (by repeat (first | (with_reducible first | exact HB.out | apply below_alloc | apply pw_below_drewN | apply below_drew1) | exact HB.out)) hb); clear HB; have HB := n0_; clear n0_; (try clear hb); (try clear hb2); (try clear hk); (try clear hi)) | (go_at_call 15; (with_reducible refine (text_Pass.calls (x5_1 ++ (⟨#[10]⟩ : ByteArray)) t110 _ A24.out (HGR.out.below rfl (by repeat (first | (with_reducible first | exact HB.out | apply below_alloc | apply pw_below_drewN | apply below_drew1) | exact HB.out | exact Aside0.out (by assumption))))).mono ?_); rintro e w34 ⟨rfl, hb⟩; have n0_ := Aside0.mk (below_step (by repeat (first | (with_reducible first | exact HB.out | apply below_alloc | apply pw_below_drewN | apply below_drew1) | exact HB.out)) hb); clear HB; have HB := n0_; clear n0_; (try clear hb); (try clear hb2); (try clear hk); (try clear hi)))
                            go_ret
                            exact ⟨by first | rfl | (simp [errW_none, errW_some] <;> rfl) | (simp [*, errW_none, errW_some] <;> rfl), by repeat (first | (with_reducible first | exact HB.out | apply below_alloc | apply pw_below_drewN | apply below_drew1) | exact HB.out)⟩
                          · rw [if_neg c23] at H
                            exact absurd H (by simp)
                        · rw [if_neg c21] at H
                          exact absurd H (by simp)
                      · replace c20 := Bool.eq_false_iff.mpr c20
                        subst c20
                        have H1 : (none) = some r := by rw [if_neg (show ¬ (false = true) by decide)] at H; exact H
                        clear H
                        have H := H1
                        clear H1
                        exact absurd H (by simp)
                    · replace c19 := Bool.eq_false_iff.mpr c19
                      subst c19
                      have H1 : (none) = some r := by rw [if_neg (show ¬ (false = true) by decide)] at H; exact H
                      clear H
                      have H := H1
                      clear H1
                      exact absurd H (by simp)
                  · replace c18 := Bool.eq_false_iff.mpr c18
                    subst c18
                    have H1 : (if t103 = true then (if t104 = true then (if x5_1.size + 1 ≤ 9223372036854775807 then ((text_Note.f (x5_1 ++ (⟨#[10]⟩ : ByteArray))).bind fun t111 => (if (t111 == (decide (a1 < 200))) = true then ((text_Pass.f (x5_1 ++ (⟨#[10]⟩ : ByteArray))).bind fun t112 => (some (!t112))) else (none))) else (none)) else (none)) else (if x5_1.size + 1 ≤ 9223372036854775807 then ((text_Note.f (x5_1 ++ (⟨#[10]⟩ : ByteArray))).bind fun t113 => (if (t113 == (decide (a1 < 200))) = true then ((text_Pass.f (x5_1 ++ (⟨#[10]⟩ : ByteArray))).bind fun t114 => (some (!t114))) else (none))) else (none))) = some r := by rw [if_neg (show ¬ (false = true) by decide)] at H; exact H
                    clear H
                    have H := H1
                    clear H1
                    by_cases c35 : t103 = true
                    · subst c35
                      have H1 : (if t104 = true then (if x5_1.size + 1 ≤ 9223372036854775807 then ((text_Note.f (x5_1 ++ (⟨#[10]⟩ : ByteArray))).bind fun t111 => (if (t111 == (decide (a1 < 200))) = true then ((text_Pass.f (x5_1 ++ (⟨#[10]⟩ : ByteArray))).bind fun t112 => (some (!t112))) else (none))) else (none)) else (none)) = some r := by rw [if_pos rfl] at H; exact H
                      clear H
                      have H := H1
                      clear H1
                      by_cases c36 : t104 = true
                      · subst c36
                        have H1 : (if x5_1.size + 1 ≤ 9223372036854775807 then ((text_Note.f (x5_1 ++ (⟨#[10]⟩ : ByteArray))).bind fun t111 => (if (t111 == (decide (a1 < 200))) = true then ((text_Pass.f (x5_1 ++ (⟨#[10]⟩ : ByteArray))).bind fun t112 => (some (!t112))) else (none))) else (none)) = some r := by rw [if_pos rfl] at H; exact H
                        clear H
                        have H := H1
                        clear H1
                        by_cases c37 : x5_1.size + 1 ≤ 9223372036854775807
                        · rw [if_pos c37] at H
                          have c37b0 := eq_true c37
                          have c37b1 : decide (x5_1.size + 1 ≤ 9223372036854775807) = true := decide_eq_true c37
                          try have c37b2 : (9223372036854775807 < x5_1.size + 1) = False := eq_false (Nat.not_lt.2 c37)
                          try (have c37b3 := c37; simp at c37b3)
                          try have c37b4 := eq_false (Nat.not_lt.2 c37b3)
                          replace H := Option.bind_eq_some_iff.mp H
                          obtain ⟨t111, A380, H⟩ := H
                          replace H : (if (t111 == (decide (a1 < 200))) = true then ((text_Pass.f (x5_1 ++ (⟨#[10]⟩ : ByteArray))).bind fun t112 => (some (!t112))) else (none)) = some r := H
                          have A38 := Aside0.mk A380
                          clear A380
                          by_cases c39 : (t111 == (decide (a1 < 200))) = true
                          · rw [if_pos c39] at H
                            have c39b0 : (t111 == (decide (a1 < 200))) = true := c39
                            (try (have c39b1 : decide (t111 = (decide (a1 < 200))) = true := by simpa using c39))
                            (try (have c39b2 : (t111 == (decide (a1 < 200))) = true := by simpa using c39))
                            clear c39
                            replace H := Option.bind_eq_some_iff.mp H
                            obtain ⟨t112, A400, H⟩ := H
                            replace H : (some (!t112)) = some r := H
                            have A40 := Aside0.mk A400
                            clear A400
                            obtain rfl := Option.some.inj H
                            go_wp2_with (first | ((with_reducible refine gate_callee (f := 10) rfl ?_); refine goesL_ (some 20) rfl rfl Tryd.func10 (by kernel_rfl) rfl #[.slice A0 l0.length c0] rfl (by (try simp only [List.map_toArray, List.map_cons, List.map_nil]); first | done | rfl | (simp only [List.length_drop, List.length_take]; rfl)) ?_; (with_reducible refine (wicketmanlaw06_Text.calls k1 _ _ l0 t101 _ ?side1 ?side2 A5.out).mono ?_); (case side1 => repeat (first | exact (Kd.C_below HR0.out HB.out) | (with_reducible refine Kd.C_alloc ?_ _) | (with_reducible refine Kd.C_drewN ?_ _) | (with_reducible refine Kd.C_drew ?_))); (case side2 => exact HC0.out); rintro e w41 ⟨rfl, hb⟩; refine ⟨_, rfl, ?_⟩; have n0_ := Aside0.mk (below_step (by repeat (first | (with_reducible first | exact HB.out | apply below_alloc | apply pw_below_drewN | apply below_drew1) | exact HB.out)) hb); clear HB; have HB := n0_; clear n0_; (try clear hb); (try clear hb2); (try clear hk); (try clear hi)) | ((with_reducible refine gate_callee (f := 14) rfl ?_); refine goesL_ (some 22) rfl rfl Tryd.func14 (by kernel_rfl) rfl #[.string t101] rfl (by (try simp only [List.map_toArray, List.map_cons, List.map_nil]); first | done | rfl | (simp only [List.length_drop, List.length_take]; rfl)) ?_; (with_reducible refine (text_Name.calls t101 false _ A6.out (HGR.out.below rfl (by repeat (first | (with_reducible first | exact HB.out | apply below_alloc | apply pw_below_drewN | apply below_drew1) | exact HB.out | exact Aside0.out (by assumption))))).mono ?_); rintro e w42 ⟨rfl, hb⟩; refine ⟨_, rfl, ?_⟩; have n0_ := Aside0.mk (below_step (by repeat (first | (with_reducible first | exact HB.out | apply below_alloc | apply pw_below_drewN | apply below_drew1) | exact HB.out)) hb); clear HB; have HB := n0_; clear n0_; (try clear hb); (try clear hb2); (try clear hk); (try clear hi)) | ((with_reducible refine gate_callee (f := 15) rfl ?_); refine goesL_ (some 24) rfl rfl Tryd.func15 (by kernel_rfl) rfl #[.string t101] rfl (by (try simp only [List.map_toArray, List.map_cons, List.map_nil]); first | done | rfl | (simp only [List.length_drop, List.length_take]; rfl)) ?_; (with_reducible refine (text_Pass.calls t101 true _ A7.out (HGR.out.below rfl (by repeat (first | (with_reducible first | exact HB.out | apply below_alloc | apply pw_below_drewN | apply below_drew1) | exact HB.out | exact Aside0.out (by assumption))))).mono ?_); rintro e w43 ⟨rfl, hb⟩; refine ⟨_, rfl, ?_⟩; have n0_ := Aside0.mk (below_step (by repeat (first | (with_reducible first | exact HB.out | apply below_alloc | apply pw_below_drewN | apply below_drew1) | exact HB.out)) hb); clear HB; have HB := n0_; clear n0_; (try clear hb); (try clear hb2); (try clear hk); (try clear hi)) | ((with_reducible refine gate_callee (f := 16) rfl ?_); refine goesL_ (some 26) rfl rfl Tryd.func16 (by kernel_rfl) rfl #[.string t101] rfl (by (try simp only [List.map_toArray, List.map_cons, List.map_nil]); first | done | rfl | (simp only [List.length_drop, List.length_take]; rfl)) ?_; (with_reducible refine (text_Note.calls t101 true _ A8.out (HGR.out.below rfl (by repeat (first | (with_reducible first | exact HB.out | apply below_alloc | apply pw_below_drewN | apply below_drew1) | exact HB.out | exact Aside0.out (by assumption))))).mono ?_); rintro e w44 ⟨rfl, hb⟩; refine ⟨_, rfl, ?_⟩; have n0_ := Aside0.mk (below_step (by repeat (first | (with_reducible first | exact HB.out | apply below_alloc | apply pw_below_drewN | apply below_drew1) | exact HB.out)) hb); clear HB; have HB := n0_; clear n0_; (try clear hb); (try clear hb2); (try clear hk); (try clear hi)) | ((with_reducible refine gate_callee (f := 9) rfl ?_); refine goesL_ (some 27) rfl rfl Tryd.func9 (by kernel_rfl) rfl #[] rfl (by (try simp only [List.map_toArray, List.map_cons, List.map_nil]); first | done | rfl | (simp only [List.length_drop, List.length_take]; rfl)) ?_; (with_reducible refine (wicketmanlaw06_known.calls  true _ A9.out (HGR.out.below rfl (by repeat (first | (with_reducible first | exact HB.out | apply below_alloc | apply pw_below_drewN | apply below_drew1) | exact HB.out | exact Aside0.out (by assumption))))).mono ?_); rintro e w45 ⟨rfl, hb⟩; refine ⟨_, rfl, ?_⟩; have n0_ := Aside0.mk (below_step (by repeat (first | (with_reducible first | exact HB.out | apply below_alloc | apply pw_below_drewN | apply below_drew1) | exact HB.out)) hb); clear HB; have HB := n0_; clear n0_; (try clear hb); (try clear hb2); (try clear hk); (try clear hi)) | (go_at_call 14; (with_reducible refine (text_Name.calls x5_1 t106 _ A11.out (HGR.out.below rfl (by repeat (first | (with_reducible first | exact HB.out | apply below_alloc | apply pw_below_drewN | apply below_drew1) | exact HB.out | exact Aside0.out (by assumption))))).mono ?_); rintro e w46 ⟨rfl, hb⟩; have n0_ := Aside0.mk (below_step (by repeat (first | (with_reducible first | exact HB.out | apply below_alloc | apply pw_below_drewN | apply below_drew1) | exact HB.out)) hb); clear HB; have HB := n0_; clear n0_; (try clear hb); (try clear hb2); (try clear hk); (try clear hi)) | (go_at_call 15; (with_reducible refine (text_Pass.calls x5_1 t107 _ A14.out (HGR.out.below rfl (by repeat (first | (with_reducible first | exact HB.out | apply below_alloc | apply pw_below_drewN | apply below_drew1) | exact HB.out | exact Aside0.out (by assumption))))).mono ?_); rintro e w47 ⟨rfl, hb⟩; have n0_ := Aside0.mk (below_step (by repeat (first | (with_reducible first | exact HB.out | apply below_alloc | apply pw_below_drewN | apply below_drew1) | exact HB.out)) hb); clear HB; have HB := n0_; clear n0_; (try clear hb); (try clear hb2); (try clear hk); (try clear hi)) | (go_at_call 16; (with_reducible refine (text_Note.calls x5_1 t108 _ A16.out (HGR.out.below rfl (by repeat (first | (with_reducible first | exact HB.out | apply below_alloc | apply pw_below_drewN | apply below_drew1) | exact HB.out | exact Aside0.out (by assumption))))).mono ?_); rintro e w48 ⟨rfl, hb⟩; have n0_ := Aside0.mk (below_step (by repeat (first | (with_reducible first | exact HB.out | apply below_alloc | apply pw_below_drewN | apply below_drew1) | exact HB.out)) hb); clear HB; have HB := n0_; clear n0_; (try clear hb); (try clear hb2); (try clear hk); (try clear hi)) | (go_at_call 16; (with_reducible refine (text_Note.calls (x5_1 ++ (⟨#[10]⟩ : ByteArray)) t111 _ A38.out (HGR.out.below rfl (by repeat (first | (with_reducible first | exact HB.out | apply below_alloc | apply pw_below_drewN | apply below_drew1) | exact HB.out | exact Aside0.out (by assumption))))).mono ?_); rintro e w49 ⟨rfl, hb⟩; have n0_ := Aside0.mk (below_step (by repeat (first | (with_reducible first | exact HB.out | apply below_alloc | apply pw_below_drewN | apply below_drew1) | exact HB.out)) hb); clear HB; have HB := n0_; clear n0_; (try clear hb); (try clear hb2); (try clear hk); (try clear hi)) | (go_at_call 15; (with_reducible refine (text_Pass.calls (x5_1 ++ (⟨#[10]⟩ : ByteArray)) t112 _ A40.out (HGR.out.below rfl (by repeat (first | (with_reducible first | exact HB.out | apply below_alloc | apply pw_below_drewN | apply below_drew1) | exact HB.out | exact Aside0.out (by assumption))))).mono ?_); rintro e w50 ⟨rfl, hb⟩; have n0_ := Aside0.mk (below_step (by repeat (first | (with_reducible first | exact HB.out | apply below_alloc | apply pw_below_drewN | apply below_drew1) | exact HB.out)) hb); clear HB; have HB := n0_; clear n0_; (try clear hb); (try clear hb2); (try clear hk); (try clear hi)))
                            go_ret
                            exact ⟨by first | rfl | (simp [errW_none, errW_some] <;> rfl) | (simp [*, errW_none, errW_some] <;> rfl), by repeat (first | (with_reducible first | exact HB.out | apply below_alloc | apply pw_below_drewN | apply below_drew1) | exact HB.out)⟩
                          · rw [if_neg c39] at H
                            exact absurd H (by simp)
                        · rw [if_neg c37] at H
                          exact absurd H (by simp)
                      · replace c36 := Bool.eq_false_iff.mpr c36
                        subst c36
                        have H1 : (none) = some r := by rw [if_neg (show ¬ (false = true) by decide)] at H; exact H
                        clear H
                        have H := H1
                        clear H1
                        exact absurd H (by simp)
                    · replace c35 := Bool.eq_false_iff.mpr c35
                      subst c35
                      have H1 : (if x5_1.size + 1 ≤ 9223372036854775807 then ((text_Note.f (x5_1 ++ (⟨#[10]⟩ : ByteArray))).bind fun t113 => (if (t113 == (decide (a1 < 200))) = true then ((text_Pass.f (x5_1 ++ (⟨#[10]⟩ : ByteArray))).bind fun t114 => (some (!t114))) else (none))) else (none)) = some r := by rw [if_neg (show ¬ (false = true) by decide)] at H; exact H
                      clear H
                      have H := H1
                      clear H1
                      by_cases c51 : x5_1.size + 1 ≤ 9223372036854775807
                      · rw [if_pos c51] at H
                        have c51b0 := eq_true c51
                        have c51b1 : decide (x5_1.size + 1 ≤ 9223372036854775807) = true := decide_eq_true c51
                        try have c51b2 : (9223372036854775807 < x5_1.size + 1) = False := eq_false (Nat.not_lt.2 c51)
                        try (have c51b3 := c51; simp at c51b3)
                        try have c51b4 := eq_false (Nat.not_lt.2 c51b3)
                        replace H := Option.bind_eq_some_iff.mp H
                        obtain ⟨t113, A520, H⟩ := H
                        replace H : (if (t113 == (decide (a1 < 200))) = true then ((text_Pass.f (x5_1 ++ (⟨#[10]⟩ : ByteArray))).bind fun t114 => (some (!t114))) else (none)) = some r := H
                        have A52 := Aside0.mk A520
                        clear A520
                        by_cases c53 : (t113 == (decide (a1 < 200))) = true
                        · rw [if_pos c53] at H
                          have c53b0 : (t113 == (decide (a1 < 200))) = true := c53
                          (try (have c53b1 : decide (t113 = (decide (a1 < 200))) = true := by simpa using c53))
                          (try (have c53b2 : (t113 == (decide (a1 < 200))) = true := by simpa using c53))
                          clear c53
                          replace H := Option.bind_eq_some_iff.mp H
                          obtain ⟨t114, A540, H⟩ := H
                          replace H : (some (!t114)) = some r := H
                          have A54 := Aside0.mk A540
                          clear A540
                          obtain rfl := Option.some.inj H
                          go_wp2_with (first | ((with_reducible refine gate_callee (f := 10) rfl ?_); refine goesL_ (some 20) rfl rfl Tryd.func10 (by kernel_rfl) rfl #[.slice A0 l0.length c0] rfl (by (try simp only [List.map_toArray, List.map_cons, List.map_nil]); first | done | rfl | (simp only [List.length_drop, List.length_take]; rfl)) ?_; (with_reducible refine (wicketmanlaw06_Text.calls k1 _ _ l0 t101 _ ?side1 ?side2 A5.out).mono ?_); (case side1 => repeat (first | exact (Kd.C_below HR0.out HB.out) | (with_reducible refine Kd.C_alloc ?_ _) | (with_reducible refine Kd.C_drewN ?_ _) | (with_reducible refine Kd.C_drew ?_))); (case side2 => exact HC0.out); rintro e w55 ⟨rfl, hb⟩; refine ⟨_, rfl, ?_⟩; have n0_ := Aside0.mk (below_step (by repeat (first | (with_reducible first | exact HB.out | apply below_alloc | apply pw_below_drewN | apply below_drew1) | exact HB.out)) hb); clear HB; have HB := n0_; clear n0_; (try clear hb); (try clear hb2); (try clear hk); (try clear hi)) | ((with_reducible refine gate_callee (f := 14) rfl ?_); refine goesL_ (some 22) rfl rfl Tryd.func14 (by kernel_rfl) rfl #[.string t101] rfl (by (try simp only [List.map_toArray, List.map_cons, List.map_nil]); first | done | rfl | (simp only [List.length_drop, List.length_take]; rfl)) ?_; (with_reducible refine (text_Name.calls t101 false _ A6.out (HGR.out.below rfl (by repeat (first | (with_reducible first | exact HB.out | apply below_alloc | apply pw_below_drewN | apply below_drew1) | exact HB.out | exact Aside0.out (by assumption))))).mono ?_); rintro e w56 ⟨rfl, hb⟩; refine ⟨_, rfl, ?_⟩; have n0_ := Aside0.mk (below_step (by repeat (first | (with_reducible first | exact HB.out | apply below_alloc | apply pw_below_drewN | apply below_drew1) | exact HB.out)) hb); clear HB; have HB := n0_; clear n0_; (try clear hb); (try clear hb2); (try clear hk); (try clear hi)) | ((with_reducible refine gate_callee (f := 15) rfl ?_); refine goesL_ (some 24) rfl rfl Tryd.func15 (by kernel_rfl) rfl #[.string t101] rfl (by (try simp only [List.map_toArray, List.map_cons, List.map_nil]); first | done | rfl | (simp only [List.length_drop, List.length_take]; rfl)) ?_; (with_reducible refine (text_Pass.calls t101 false _ A7.out (HGR.out.below rfl (by repeat (first | (with_reducible first | exact HB.out | apply below_alloc | apply pw_below_drewN | apply below_drew1) | exact HB.out | exact Aside0.out (by assumption))))).mono ?_); rintro e w57 ⟨rfl, hb⟩; refine ⟨_, rfl, ?_⟩; have n0_ := Aside0.mk (below_step (by repeat (first | (with_reducible first | exact HB.out | apply below_alloc | apply pw_below_drewN | apply below_drew1) | exact HB.out)) hb); clear HB; have HB := n0_; clear n0_; (try clear hb); (try clear hb2); (try clear hk); (try clear hi)) | ((with_reducible refine gate_callee (f := 16) rfl ?_); refine goesL_ (some 26) rfl rfl Tryd.func16 (by kernel_rfl) rfl #[.string t101] rfl (by (try simp only [List.map_toArray, List.map_cons, List.map_nil]); first | done | rfl | (simp only [List.length_drop, List.length_take]; rfl)) ?_; (with_reducible refine (text_Note.calls t101 t104 _ A8.out (HGR.out.below rfl (by repeat (first | (with_reducible first | exact HB.out | apply below_alloc | apply pw_below_drewN | apply below_drew1) | exact HB.out | exact Aside0.out (by assumption))))).mono ?_); rintro e w58 ⟨rfl, hb⟩; refine ⟨_, rfl, ?_⟩; have n0_ := Aside0.mk (below_step (by repeat (first | (with_reducible first | exact HB.out | apply below_alloc | apply pw_below_drewN | apply below_drew1) | exact HB.out)) hb); clear HB; have HB := n0_; clear n0_; (try clear hb); (try clear hb2); (try clear hk); (try clear hi)) | ((with_reducible refine gate_callee (f := 9) rfl ?_); refine goesL_ (some 27) rfl rfl Tryd.func9 (by kernel_rfl) rfl #[] rfl (by (try simp only [List.map_toArray, List.map_cons, List.map_nil]); first | done | rfl | (simp only [List.length_drop, List.length_take]; rfl)) ?_; (with_reducible refine (wicketmanlaw06_known.calls  true _ A9.out (HGR.out.below rfl (by repeat (first | (with_reducible first | exact HB.out | apply below_alloc | apply pw_below_drewN | apply below_drew1) | exact HB.out | exact Aside0.out (by assumption))))).mono ?_); rintro e w59 ⟨rfl, hb⟩; refine ⟨_, rfl, ?_⟩; have n0_ := Aside0.mk (below_step (by repeat (first | (with_reducible first | exact HB.out | apply below_alloc | apply pw_below_drewN | apply below_drew1) | exact HB.out)) hb); clear HB; have HB := n0_; clear n0_; (try clear hb); (try clear hb2); (try clear hk); (try clear hi)) | (go_at_call 14; (with_reducible refine (text_Name.calls x5_1 t106 _ A11.out (HGR.out.below rfl (by repeat (first | (with_reducible first | exact HB.out | apply below_alloc | apply pw_below_drewN | apply below_drew1) | exact HB.out | exact Aside0.out (by assumption))))).mono ?_); rintro e w60 ⟨rfl, hb⟩; have n0_ := Aside0.mk (below_step (by repeat (first | (with_reducible first | exact HB.out | apply below_alloc | apply pw_below_drewN | apply below_drew1) | exact HB.out)) hb); clear HB; have HB := n0_; clear n0_; (try clear hb); (try clear hb2); (try clear hk); (try clear hi)) | (go_at_call 15; (with_reducible refine (text_Pass.calls x5_1 t107 _ A14.out (HGR.out.below rfl (by repeat (first | (with_reducible first | exact HB.out | apply below_alloc | apply pw_below_drewN | apply below_drew1) | exact HB.out | exact Aside0.out (by assumption))))).mono ?_); rintro e w61 ⟨rfl, hb⟩; have n0_ := Aside0.mk (below_step (by repeat (first | (with_reducible first | exact HB.out | apply below_alloc | apply pw_below_drewN | apply below_drew1) | exact HB.out)) hb); clear HB; have HB := n0_; clear n0_; (try clear hb); (try clear hb2); (try clear hk); (try clear hi)) | (go_at_call 16; (with_reducible refine (text_Note.calls x5_1 t108 _ A16.out (HGR.out.below rfl (by repeat (first | (with_reducible first | exact HB.out | apply below_alloc | apply pw_below_drewN | apply below_drew1) | exact HB.out | exact Aside0.out (by assumption))))).mono ?_); rintro e w62 ⟨rfl, hb⟩; have n0_ := Aside0.mk (below_step (by repeat (first | (with_reducible first | exact HB.out | apply below_alloc | apply pw_below_drewN | apply below_drew1) | exact HB.out)) hb); clear HB; have HB := n0_; clear n0_; (try clear hb); (try clear hb2); (try clear hk); (try clear hi)) | (go_at_call 16; (with_reducible refine (text_Note.calls (x5_1 ++ (⟨#[10]⟩ : ByteArray)) t113 _ A52.out (HGR.out.below rfl (by repeat (first | (with_reducible first | exact HB.out | apply below_alloc | apply pw_below_drewN | apply below_drew1) | exact HB.out | exact Aside0.out (by assumption))))).mono ?_); rintro e w63 ⟨rfl, hb⟩; have n0_ := Aside0.mk (below_step (by repeat (first | (with_reducible first | exact HB.out | apply below_alloc | apply pw_below_drewN | apply below_drew1) | exact HB.out)) hb); clear HB; have HB := n0_; clear n0_; (try clear hb); (try clear hb2); (try clear hk); (try clear hi)) | (go_at_call 15; (with_reducible refine (text_Pass.calls (x5_1 ++ (⟨#[10]⟩ : ByteArray)) t114 _ A54.out (HGR.out.below rfl (by repeat (first | (with_reducible first | exact HB.out | apply below_alloc | apply pw_below_drewN | apply below_drew1) | exact HB.out | exact Aside0.out (by assumption))))).mono ?_); rintro e w64 ⟨rfl, hb⟩; have n0_ := Aside0.mk (below_step (by repeat (first | (with_reducible first | exact HB.out | apply below_alloc | apply pw_below_drewN | apply below_drew1) | exact HB.out)) hb); clear HB; have HB := n0_; clear n0_; (try clear hb); (try clear hb2); (try clear hk); (try clear hi)))
                          go_ret
                          exact ⟨by first | rfl | (simp [errW_none, errW_some] <;> rfl) | (simp [*, errW_none, errW_some] <;> rfl), by repeat (first | (with_reducible first | exact HB.out | apply below_alloc | apply pw_below_drewN | apply below_drew1) | exact HB.out)⟩
                        · rw [if_neg c53] at H
                          exact absurd H (by simp)
                      · rw [if_neg c51] at H
                        exact absurd H (by simp)
                · rw [if_neg c17] at H
                  exact absurd H (by simp)
              · rw [if_neg c15] at H
                exact absurd H (by simp)
            · rw [if_neg c13] at H
              exact absurd H (by simp)
          · rw [if_neg c12] at H
            have c12b0 : decide (1 ≤ a1) = false := decide_eq_false c12
            clear c12
            by_cases c65 : (t106 == false) = true
            · rw [if_pos c65] at H
              have c65b0 : (t106 == false) = true := c65
              (try (have c65b1 : decide (t106 = false) = true := by simpa using c65))
              (try (have c65b2 : (t106 == false) = true := by simpa using c65))
              clear c65
              replace H := Option.bind_eq_some_iff.mp H
              obtain ⟨t115, A660, H⟩ := H
              replace H : (if (t115 == false) = true then ((text_Note.f x5_1).bind fun t116 => (if (t116 == (decide (a1 ≤ 200))) = true then (if t102 = true then (if t103 = true then (if t104 = true then (if x5_1.size + 1 ≤ 9223372036854775807 then ((text_Note.f (x5_1 ++ (⟨#[10]⟩ : ByteArray))).bind fun t117 => (if (t117 == (decide (a1 < 200))) = true then ((text_Pass.f (x5_1 ++ (⟨#[10]⟩ : ByteArray))).bind fun t118 => (some (!t118))) else (none))) else (none)) else (none)) else (none)) else (if t103 = true then (if t104 = true then (if x5_1.size + 1 ≤ 9223372036854775807 then ((text_Note.f (x5_1 ++ (⟨#[10]⟩ : ByteArray))).bind fun t119 => (if (t119 == (decide (a1 < 200))) = true then ((text_Pass.f (x5_1 ++ (⟨#[10]⟩ : ByteArray))).bind fun t120 => (some (!t120))) else (none))) else (none)) else (none)) else (if x5_1.size + 1 ≤ 9223372036854775807 then ((text_Note.f (x5_1 ++ (⟨#[10]⟩ : ByteArray))).bind fun t121 => (if (t121 == (decide (a1 < 200))) = true then ((text_Pass.f (x5_1 ++ (⟨#[10]⟩ : ByteArray))).bind fun t122 => (some (!t122))) else (none))) else (none)))) else (none))) else (none)) = some r := H
              have A66 := Aside0.mk A660
              clear A660
              by_cases c67 : (t115 == false) = true
              · rw [if_pos c67] at H
                have c67b0 : (t115 == false) = true := c67
                (try (have c67b1 : decide (t115 = false) = true := by simpa using c67))
                (try (have c67b2 : (t115 == false) = true := by simpa using c67))
                clear c67
                replace H := Option.bind_eq_some_iff.mp H
                obtain ⟨t116, A680, H⟩ := H
                replace H : (if (t116 == (decide (a1 ≤ 200))) = true then (if t102 = true then (if t103 = true then (if t104 = true then (if x5_1.size + 1 ≤ 9223372036854775807 then ((text_Note.f (x5_1 ++ (⟨#[10]⟩ : ByteArray))).bind fun t117 => (if (t117 == (decide (a1 < 200))) = true then ((text_Pass.f (x5_1 ++ (⟨#[10]⟩ : ByteArray))).bind fun t118 => (some (!t118))) else (none))) else (none)) else (none)) else (none)) else (if t103 = true then (if t104 = true then (if x5_1.size + 1 ≤ 9223372036854775807 then ((text_Note.f (x5_1 ++ (⟨#[10]⟩ : ByteArray))).bind fun t119 => (if (t119 == (decide (a1 < 200))) = true then ((text_Pass.f (x5_1 ++ (⟨#[10]⟩ : ByteArray))).bind fun t120 => (some (!t120))) else (none))) else (none)) else (none)) else (if x5_1.size + 1 ≤ 9223372036854775807 then ((text_Note.f (x5_1 ++ (⟨#[10]⟩ : ByteArray))).bind fun t121 => (if (t121 == (decide (a1 < 200))) = true then ((text_Pass.f (x5_1 ++ (⟨#[10]⟩ : ByteArray))).bind fun t122 => (some (!t122))) else (none))) else (none)))) else (none)) = some r := H
                have A68 := Aside0.mk A680
                clear A680
                by_cases c69 : (t116 == (decide (a1 ≤ 200))) = true
                · rw [if_pos c69] at H
                  have c69b0 : (t116 == (decide (a1 ≤ 200))) = true := c69
                  (try (have c69b1 : decide (t116 = (decide (a1 ≤ 200))) = true := by simpa using c69))
                  (try (have c69b2 : (t116 == (decide (a1 ≤ 200))) = true := by simpa using c69))
                  clear c69
                  by_cases c70 : t102 = true
                  · subst c70
                    have H1 : (if t103 = true then (if t104 = true then (if x5_1.size + 1 ≤ 9223372036854775807 then ((text_Note.f (x5_1 ++ (⟨#[10]⟩ : ByteArray))).bind fun t117 => (if (t117 == (decide (a1 < 200))) = true then ((text_Pass.f (x5_1 ++ (⟨#[10]⟩ : ByteArray))).bind fun t118 => (some (!t118))) else (none))) else (none)) else (none)) else (none)) = some r := by rw [if_pos rfl] at H; exact H
                    clear H
                    have H := H1
                    clear H1
                    by_cases c71 : t103 = true
                    · subst c71
                      have H1 : (if t104 = true then (if x5_1.size + 1 ≤ 9223372036854775807 then ((text_Note.f (x5_1 ++ (⟨#[10]⟩ : ByteArray))).bind fun t117 => (if (t117 == (decide (a1 < 200))) = true then ((text_Pass.f (x5_1 ++ (⟨#[10]⟩ : ByteArray))).bind fun t118 => (some (!t118))) else (none))) else (none)) else (none)) = some r := by rw [if_pos rfl] at H; exact H
                      clear H
                      have H := H1
                      clear H1
                      by_cases c72 : t104 = true
                      · subst c72
                        have H1 : (if x5_1.size + 1 ≤ 9223372036854775807 then ((text_Note.f (x5_1 ++ (⟨#[10]⟩ : ByteArray))).bind fun t117 => (if (t117 == (decide (a1 < 200))) = true then ((text_Pass.f (x5_1 ++ (⟨#[10]⟩ : ByteArray))).bind fun t118 => (some (!t118))) else (none))) else (none)) = some r := by rw [if_pos rfl] at H; exact H
                        clear H
                        have H := H1
                        clear H1
                        by_cases c73 : x5_1.size + 1 ≤ 9223372036854775807
                        · rw [if_pos c73] at H
                          have c73b0 := eq_true c73
                          have c73b1 : decide (x5_1.size + 1 ≤ 9223372036854775807) = true := decide_eq_true c73
                          try have c73b2 : (9223372036854775807 < x5_1.size + 1) = False := eq_false (Nat.not_lt.2 c73)
                          try (have c73b3 := c73; simp at c73b3)
                          try have c73b4 := eq_false (Nat.not_lt.2 c73b3)
                          replace H := Option.bind_eq_some_iff.mp H
                          obtain ⟨t117, A740, H⟩ := H
                          replace H : (if (t117 == (decide (a1 < 200))) = true then ((text_Pass.f (x5_1 ++ (⟨#[10]⟩ : ByteArray))).bind fun t118 => (some (!t118))) else (none)) = some r := H
                          have A74 := Aside0.mk A740
                          clear A740
                          by_cases c75 : (t117 == (decide (a1 < 200))) = true
                          · rw [if_pos c75] at H
                            have c75b0 : (t117 == (decide (a1 < 200))) = true := c75
                            (try (have c75b1 : decide (t117 = (decide (a1 < 200))) = true := by simpa using c75))
                            (try (have c75b2 : (t117 == (decide (a1 < 200))) = true := by simpa using c75))
                            clear c75
                            replace H := Option.bind_eq_some_iff.mp H
                            obtain ⟨t118, A760, H⟩ := H
                            replace H : (some (!t118)) = some r := H
                            have A76 := Aside0.mk A760
                            clear A760
                            obtain rfl := Option.some.inj H
                            go_wp2_with (first | ((with_reducible refine gate_callee (f := 10) rfl ?_); refine goesL_ (some 20) rfl rfl Tryd.func10 (by kernel_rfl) rfl #[.slice A0 l0.length c0] rfl (by (try simp only [List.map_toArray, List.map_cons, List.map_nil]); first | done | rfl | (simp only [List.length_drop, List.length_take]; rfl)) ?_; (with_reducible refine (wicketmanlaw06_Text.calls k1 _ _ l0 t101 _ ?side1 ?side2 A5.out).mono ?_); (case side1 => repeat (first | exact (Kd.C_below HR0.out HB.out) | (with_reducible refine Kd.C_alloc ?_ _) | (with_reducible refine Kd.C_drewN ?_ _) | (with_reducible refine Kd.C_drew ?_))); (case side2 => exact HC0.out); rintro e w77 ⟨rfl, hb⟩; refine ⟨_, rfl, ?_⟩; have n0_ := Aside0.mk (below_step (by repeat (first | (with_reducible first | exact HB.out | apply below_alloc | apply pw_below_drewN | apply below_drew1) | exact HB.out)) hb); clear HB; have HB := n0_; clear n0_; (try clear hb); (try clear hb2); (try clear hk); (try clear hi)) | ((with_reducible refine gate_callee (f := 14) rfl ?_); refine goesL_ (some 22) rfl rfl Tryd.func14 (by kernel_rfl) rfl #[.string t101] rfl (by (try simp only [List.map_toArray, List.map_cons, List.map_nil]); first | done | rfl | (simp only [List.length_drop, List.length_take]; rfl)) ?_; (with_reducible refine (text_Name.calls t101 true _ A6.out (HGR.out.below rfl (by repeat (first | (with_reducible first | exact HB.out | apply below_alloc | apply pw_below_drewN | apply below_drew1) | exact HB.out | exact Aside0.out (by assumption))))).mono ?_); rintro e w78 ⟨rfl, hb⟩; refine ⟨_, rfl, ?_⟩; have n0_ := Aside0.mk (below_step (by repeat (first | (with_reducible first | exact HB.out | apply below_alloc | apply pw_below_drewN | apply below_drew1) | exact HB.out)) hb); clear HB; have HB := n0_; clear n0_; (try clear hb); (try clear hb2); (try clear hk); (try clear hi)) | ((with_reducible refine gate_callee (f := 15) rfl ?_); refine goesL_ (some 24) rfl rfl Tryd.func15 (by kernel_rfl) rfl #[.string t101] rfl (by (try simp only [List.map_toArray, List.map_cons, List.map_nil]); first | done | rfl | (simp only [List.length_drop, List.length_take]; rfl)) ?_; (with_reducible refine (text_Pass.calls t101 true _ A7.out (HGR.out.below rfl (by repeat (first | (with_reducible first | exact HB.out | apply below_alloc | apply pw_below_drewN | apply below_drew1) | exact HB.out | exact Aside0.out (by assumption))))).mono ?_); rintro e w79 ⟨rfl, hb⟩; refine ⟨_, rfl, ?_⟩; have n0_ := Aside0.mk (below_step (by repeat (first | (with_reducible first | exact HB.out | apply below_alloc | apply pw_below_drewN | apply below_drew1) | exact HB.out)) hb); clear HB; have HB := n0_; clear n0_; (try clear hb); (try clear hb2); (try clear hk); (try clear hi)) | ((with_reducible refine gate_callee (f := 16) rfl ?_); refine goesL_ (some 26) rfl rfl Tryd.func16 (by kernel_rfl) rfl #[.string t101] rfl (by (try simp only [List.map_toArray, List.map_cons, List.map_nil]); first | done | rfl | (simp only [List.length_drop, List.length_take]; rfl)) ?_; (with_reducible refine (text_Note.calls t101 true _ A8.out (HGR.out.below rfl (by repeat (first | (with_reducible first | exact HB.out | apply below_alloc | apply pw_below_drewN | apply below_drew1) | exact HB.out | exact Aside0.out (by assumption))))).mono ?_); rintro e w80 ⟨rfl, hb⟩; refine ⟨_, rfl, ?_⟩; have n0_ := Aside0.mk (below_step (by repeat (first | (with_reducible first | exact HB.out | apply below_alloc | apply pw_below_drewN | apply below_drew1) | exact HB.out)) hb); clear HB; have HB := n0_; clear n0_; (try clear hb); (try clear hb2); (try clear hk); (try clear hi)) | ((with_reducible refine gate_callee (f := 9) rfl ?_); refine goesL_ (some 27) rfl rfl Tryd.func9 (by kernel_rfl) rfl #[] rfl (by (try simp only [List.map_toArray, List.map_cons, List.map_nil]); first | done | rfl | (simp only [List.length_drop, List.length_take]; rfl)) ?_; (with_reducible refine (wicketmanlaw06_known.calls  true _ A9.out (HGR.out.below rfl (by repeat (first | (with_reducible first | exact HB.out | apply below_alloc | apply pw_below_drewN | apply below_drew1) | exact HB.out | exact Aside0.out (by assumption))))).mono ?_); rintro e w81 ⟨rfl, hb⟩; refine ⟨_, rfl, ?_⟩; have n0_ := Aside0.mk (below_step (by repeat (first | (with_reducible first | exact HB.out | apply below_alloc | apply pw_below_drewN | apply below_drew1) | exact HB.out)) hb); clear HB; have HB := n0_; clear n0_; (try clear hb); (try clear hb2); (try clear hk); (try clear hi)) | (go_at_call 14; (with_reducible refine (text_Name.calls x5_1 t106 _ A11.out (HGR.out.below rfl (by repeat (first | (with_reducible first | exact HB.out | apply below_alloc | apply pw_below_drewN | apply below_drew1) | exact HB.out | exact Aside0.out (by assumption))))).mono ?_); rintro e w82 ⟨rfl, hb⟩; have n0_ := Aside0.mk (below_step (by repeat (first | (with_reducible first | exact HB.out | apply below_alloc | apply pw_below_drewN | apply below_drew1) | exact HB.out)) hb); clear HB; have HB := n0_; clear n0_; (try clear hb); (try clear hb2); (try clear hk); (try clear hi)) | (go_at_call 15; (with_reducible refine (text_Pass.calls x5_1 t115 _ A66.out (HGR.out.below rfl (by repeat (first | (with_reducible first | exact HB.out | apply below_alloc | apply pw_below_drewN | apply below_drew1) | exact HB.out | exact Aside0.out (by assumption))))).mono ?_); rintro e w83 ⟨rfl, hb⟩; have n0_ := Aside0.mk (below_step (by repeat (first | (with_reducible first | exact HB.out | apply below_alloc | apply pw_below_drewN | apply below_drew1) | exact HB.out)) hb); clear HB; have HB := n0_; clear n0_; (try clear hb); (try clear hb2); (try clear hk); (try clear hi)) | (go_at_call 16; (with_reducible refine (text_Note.calls x5_1 t116 _ A68.out (HGR.out.below rfl (by repeat (first | (with_reducible first | exact HB.out | apply below_alloc | apply pw_below_drewN | apply below_drew1) | exact HB.out | exact Aside0.out (by assumption))))).mono ?_); rintro e w84 ⟨rfl, hb⟩; have n0_ := Aside0.mk (below_step (by repeat (first | (with_reducible first | exact HB.out | apply below_alloc | apply pw_below_drewN | apply below_drew1) | exact HB.out)) hb); clear HB; have HB := n0_; clear n0_; (try clear hb); (try clear hb2); (try clear hk); (try clear hi)) | (go_at_call 16; (with_reducible refine (text_Note.calls (x5_1 ++ (⟨#[10]⟩ : ByteArray)) t117 _ A74.out (HGR.out.below rfl (by repeat (first | (with_reducible first | exact HB.out | apply below_alloc | apply pw_below_drewN | apply below_drew1) | exact HB.out | exact Aside0.out (by assumption))))).mono ?_); rintro e w85 ⟨rfl, hb⟩; have n0_ := Aside0.mk (below_step (by repeat (first | (with_reducible first | exact HB.out | apply below_alloc | apply pw_below_drewN | apply below_drew1) | exact HB.out)) hb); clear HB; have HB := n0_; clear n0_; (try clear hb); (try clear hb2); (try clear hk); (try clear hi)) | (go_at_call 15; (with_reducible refine (text_Pass.calls (x5_1 ++ (⟨#[10]⟩ : ByteArray)) t118 _ A76.out (HGR.out.below rfl (by repeat (first | (with_reducible first | exact HB.out | apply below_alloc | apply pw_below_drewN | apply below_drew1) | exact HB.out | exact Aside0.out (by assumption))))).mono ?_); rintro e w86 ⟨rfl, hb⟩; have n0_ := Aside0.mk (below_step (by repeat (first | (with_reducible first | exact HB.out | apply below_alloc | apply pw_below_drewN | apply below_drew1) | exact HB.out)) hb); clear HB; have HB := n0_; clear n0_; (try clear hb); (try clear hb2); (try clear hk); (try clear hi)))
                            go_ret
                            exact ⟨by first | rfl | (simp [errW_none, errW_some] <;> rfl) | (simp [*, errW_none, errW_some] <;> rfl), by repeat (first | (with_reducible first | exact HB.out | apply below_alloc | apply pw_below_drewN | apply below_drew1) | exact HB.out)⟩
                          · rw [if_neg c75] at H
                            exact absurd H (by simp)
                        · rw [if_neg c73] at H
                          exact absurd H (by simp)
                      · replace c72 := Bool.eq_false_iff.mpr c72
                        subst c72
                        have H1 : (none) = some r := by rw [if_neg (show ¬ (false = true) by decide)] at H; exact H
                        clear H
                        have H := H1
                        clear H1
                        exact absurd H (by simp)
                    · replace c71 := Bool.eq_false_iff.mpr c71
                      subst c71
                      have H1 : (none) = some r := by rw [if_neg (show ¬ (false = true) by decide)] at H; exact H
                      clear H
                      have H := H1
                      clear H1
                      exact absurd H (by simp)
                  · replace c70 := Bool.eq_false_iff.mpr c70
                    subst c70
                    have H1 : (if t103 = true then (if t104 = true then (if x5_1.size + 1 ≤ 9223372036854775807 then ((text_Note.f (x5_1 ++ (⟨#[10]⟩ : ByteArray))).bind fun t119 => (if (t119 == (decide (a1 < 200))) = true then ((text_Pass.f (x5_1 ++ (⟨#[10]⟩ : ByteArray))).bind fun t120 => (some (!t120))) else (none))) else (none)) else (none)) else (if x5_1.size + 1 ≤ 9223372036854775807 then ((text_Note.f (x5_1 ++ (⟨#[10]⟩ : ByteArray))).bind fun t121 => (if (t121 == (decide (a1 < 200))) = true then ((text_Pass.f (x5_1 ++ (⟨#[10]⟩ : ByteArray))).bind fun t122 => (some (!t122))) else (none))) else (none))) = some r := by rw [if_neg (show ¬ (false = true) by decide)] at H; exact H
                    clear H
                    have H := H1
                    clear H1
                    by_cases c87 : t103 = true
                    · subst c87
                      have H1 : (if t104 = true then (if x5_1.size + 1 ≤ 9223372036854775807 then ((text_Note.f (x5_1 ++ (⟨#[10]⟩ : ByteArray))).bind fun t119 => (if (t119 == (decide (a1 < 200))) = true then ((text_Pass.f (x5_1 ++ (⟨#[10]⟩ : ByteArray))).bind fun t120 => (some (!t120))) else (none))) else (none)) else (none)) = some r := by rw [if_pos rfl] at H; exact H
                      clear H
                      have H := H1
                      clear H1
                      by_cases c88 : t104 = true
                      · subst c88
                        have H1 : (if x5_1.size + 1 ≤ 9223372036854775807 then ((text_Note.f (x5_1 ++ (⟨#[10]⟩ : ByteArray))).bind fun t119 => (if (t119 == (decide (a1 < 200))) = true then ((text_Pass.f (x5_1 ++ (⟨#[10]⟩ : ByteArray))).bind fun t120 => (some (!t120))) else (none))) else (none)) = some r := by rw [if_pos rfl] at H; exact H
                        clear H
                        have H := H1
                        clear H1
                        by_cases c89 : x5_1.size + 1 ≤ 9223372036854775807
                        · rw [if_pos c89] at H
                          have c89b0 := eq_true c89
                          have c89b1 : decide (x5_1.size + 1 ≤ 9223372036854775807) = true := decide_eq_true c89
                          try have c89b2 : (9223372036854775807 < x5_1.size + 1) = False := eq_false (Nat.not_lt.2 c89)
                          try (have c89b3 := c89; simp at c89b3)
                          try have c89b4 := eq_false (Nat.not_lt.2 c89b3)
                          replace H := Option.bind_eq_some_iff.mp H
                          obtain ⟨t119, A900, H⟩ := H
                          replace H : (if (t119 == (decide (a1 < 200))) = true then ((text_Pass.f (x5_1 ++ (⟨#[10]⟩ : ByteArray))).bind fun t120 => (some (!t120))) else (none)) = some r := H
                          have A90 := Aside0.mk A900
                          clear A900
                          by_cases c91 : (t119 == (decide (a1 < 200))) = true
                          · rw [if_pos c91] at H
                            have c91b0 : (t119 == (decide (a1 < 200))) = true := c91
                            (try (have c91b1 : decide (t119 = (decide (a1 < 200))) = true := by simpa using c91))
                            (try (have c91b2 : (t119 == (decide (a1 < 200))) = true := by simpa using c91))
                            clear c91
                            replace H := Option.bind_eq_some_iff.mp H
                            obtain ⟨t120, A920, H⟩ := H
                            replace H : (some (!t120)) = some r := H
                            have A92 := Aside0.mk A920
                            clear A920
                            obtain rfl := Option.some.inj H
                            go_wp2_with (first | ((with_reducible refine gate_callee (f := 10) rfl ?_); refine goesL_ (some 20) rfl rfl Tryd.func10 (by kernel_rfl) rfl #[.slice A0 l0.length c0] rfl (by (try simp only [List.map_toArray, List.map_cons, List.map_nil]); first | done | rfl | (simp only [List.length_drop, List.length_take]; rfl)) ?_; (with_reducible refine (wicketmanlaw06_Text.calls k1 _ _ l0 t101 _ ?side1 ?side2 A5.out).mono ?_); (case side1 => repeat (first | exact (Kd.C_below HR0.out HB.out) | (with_reducible refine Kd.C_alloc ?_ _) | (with_reducible refine Kd.C_drewN ?_ _) | (with_reducible refine Kd.C_drew ?_))); (case side2 => exact HC0.out); rintro e w93 ⟨rfl, hb⟩; refine ⟨_, rfl, ?_⟩; have n0_ := Aside0.mk (below_step (by repeat (first | (with_reducible first | exact HB.out | apply below_alloc | apply pw_below_drewN | apply below_drew1) | exact HB.out)) hb); clear HB; have HB := n0_; clear n0_; (try clear hb); (try clear hb2); (try clear hk); (try clear hi)) | ((with_reducible refine gate_callee (f := 14) rfl ?_); refine goesL_ (some 22) rfl rfl Tryd.func14 (by kernel_rfl) rfl #[.string t101] rfl (by (try simp only [List.map_toArray, List.map_cons, List.map_nil]); first | done | rfl | (simp only [List.length_drop, List.length_take]; rfl)) ?_; (with_reducible refine (text_Name.calls t101 false _ A6.out (HGR.out.below rfl (by repeat (first | (with_reducible first | exact HB.out | apply below_alloc | apply pw_below_drewN | apply below_drew1) | exact HB.out | exact Aside0.out (by assumption))))).mono ?_); rintro e w94 ⟨rfl, hb⟩; refine ⟨_, rfl, ?_⟩; have n0_ := Aside0.mk (below_step (by repeat (first | (with_reducible first | exact HB.out | apply below_alloc | apply pw_below_drewN | apply below_drew1) | exact HB.out)) hb); clear HB; have HB := n0_; clear n0_; (try clear hb); (try clear hb2); (try clear hk); (try clear hi)) | ((with_reducible refine gate_callee (f := 15) rfl ?_); refine goesL_ (some 24) rfl rfl Tryd.func15 (by kernel_rfl) rfl #[.string t101] rfl (by (try simp only [List.map_toArray, List.map_cons, List.map_nil]); first | done | rfl | (simp only [List.length_drop, List.length_take]; rfl)) ?_; (with_reducible refine (text_Pass.calls t101 true _ A7.out (HGR.out.below rfl (by repeat (first | (with_reducible first | exact HB.out | apply below_alloc | apply pw_below_drewN | apply below_drew1) | exact HB.out | exact Aside0.out (by assumption))))).mono ?_); rintro e w95 ⟨rfl, hb⟩; refine ⟨_, rfl, ?_⟩; have n0_ := Aside0.mk (below_step (by repeat (first | (with_reducible first | exact HB.out | apply below_alloc | apply pw_below_drewN | apply below_drew1) | exact HB.out)) hb); clear HB; have HB := n0_; clear n0_; (try clear hb); (try clear hb2); (try clear hk); (try clear hi)) | ((with_reducible refine gate_callee (f := 16) rfl ?_); refine goesL_ (some 26) rfl rfl Tryd.func16 (by kernel_rfl) rfl #[.string t101] rfl (by (try simp only [List.map_toArray, List.map_cons, List.map_nil]); first | done | rfl | (simp only [List.length_drop, List.length_take]; rfl)) ?_; (with_reducible refine (text_Note.calls t101 true _ A8.out (HGR.out.below rfl (by repeat (first | (with_reducible first | exact HB.out | apply below_alloc | apply pw_below_drewN | apply below_drew1) | exact HB.out | exact Aside0.out (by assumption))))).mono ?_); rintro e w96 ⟨rfl, hb⟩; refine ⟨_, rfl, ?_⟩; have n0_ := Aside0.mk (below_step (by repeat (first | (with_reducible first | exact HB.out | apply below_alloc | apply pw_below_drewN | apply below_drew1) | exact HB.out)) hb); clear HB; have HB := n0_; clear n0_; (try clear hb); (try clear hb2); (try clear hk); (try clear hi)) | ((with_reducible refine gate_callee (f := 9) rfl ?_); refine goesL_ (some 27) rfl rfl Tryd.func9 (by kernel_rfl) rfl #[] rfl (by (try simp only [List.map_toArray, List.map_cons, List.map_nil]); first | done | rfl | (simp only [List.length_drop, List.length_take]; rfl)) ?_; (with_reducible refine (wicketmanlaw06_known.calls  true _ A9.out (HGR.out.below rfl (by repeat (first | (with_reducible first | exact HB.out | apply below_alloc | apply pw_below_drewN | apply below_drew1) | exact HB.out | exact Aside0.out (by assumption))))).mono ?_); rintro e w97 ⟨rfl, hb⟩; refine ⟨_, rfl, ?_⟩; have n0_ := Aside0.mk (below_step (by repeat (first | (with_reducible first | exact HB.out | apply below_alloc | apply pw_below_drewN | apply below_drew1) | exact HB.out)) hb); clear HB; have HB := n0_; clear n0_; (try clear hb); (try clear hb2); (try clear hk); (try clear hi)) | (go_at_call 14; (with_reducible refine (text_Name.calls x5_1 t106 _ A11.out (HGR.out.below rfl (by repeat (first | (with_reducible first | exact HB.out | apply below_alloc | apply pw_below_drewN | apply below_drew1) | exact HB.out | exact Aside0.out (by assumption))))).mono ?_); rintro e w98 ⟨rfl, hb⟩; have n0_ := Aside0.mk (below_step (by repeat (first | (with_reducible first | exact HB.out | apply below_alloc | apply pw_below_drewN | apply below_drew1) | exact HB.out)) hb); clear HB; have HB := n0_; clear n0_; (try clear hb); (try clear hb2); (try clear hk); (try clear hi)) | (go_at_call 15; (with_reducible refine (text_Pass.calls x5_1 t115 _ A66.out (HGR.out.below rfl (by repeat (first | (with_reducible first | exact HB.out | apply below_alloc | apply pw_below_drewN | apply below_drew1) | exact HB.out | exact Aside0.out (by assumption))))).mono ?_); rintro e w99 ⟨rfl, hb⟩; have n0_ := Aside0.mk (below_step (by repeat (first | (with_reducible first | exact HB.out | apply below_alloc | apply pw_below_drewN | apply below_drew1) | exact HB.out)) hb); clear HB; have HB := n0_; clear n0_; (try clear hb); (try clear hb2); (try clear hk); (try clear hi)) | (go_at_call 16; (with_reducible refine (text_Note.calls x5_1 t116 _ A68.out (HGR.out.below rfl (by repeat (first | (with_reducible first | exact HB.out | apply below_alloc | apply pw_below_drewN | apply below_drew1) | exact HB.out | exact Aside0.out (by assumption))))).mono ?_); rintro e w100 ⟨rfl, hb⟩; have n0_ := Aside0.mk (below_step (by repeat (first | (with_reducible first | exact HB.out | apply below_alloc | apply pw_below_drewN | apply below_drew1) | exact HB.out)) hb); clear HB; have HB := n0_; clear n0_; (try clear hb); (try clear hb2); (try clear hk); (try clear hi)) | (go_at_call 16; (with_reducible refine (text_Note.calls (x5_1 ++ (⟨#[10]⟩ : ByteArray)) t119 _ A90.out (HGR.out.below rfl (by repeat (first | (with_reducible first | exact HB.out | apply below_alloc | apply pw_below_drewN | apply below_drew1) | exact HB.out | exact Aside0.out (by assumption))))).mono ?_); rintro e w101 ⟨rfl, hb⟩; have n0_ := Aside0.mk (below_step (by repeat (first | (with_reducible first | exact HB.out | apply below_alloc | apply pw_below_drewN | apply below_drew1) | exact HB.out)) hb); clear HB; have HB := n0_; clear n0_; (try clear hb); (try clear hb2); (try clear hk); (try clear hi)) | (go_at_call 15; (with_reducible refine (text_Pass.calls (x5_1 ++ (⟨#[10]⟩ : ByteArray)) t120 _ A92.out (HGR.out.below rfl (by repeat (first | (with_reducible first | exact HB.out | apply below_alloc | apply pw_below_drewN | apply below_drew1) | exact HB.out | exact Aside0.out (by assumption))))).mono ?_); rintro e w102 ⟨rfl, hb⟩; have n0_ := Aside0.mk (below_step (by repeat (first | (with_reducible first | exact HB.out | apply below_alloc | apply pw_below_drewN | apply below_drew1) | exact HB.out)) hb); clear HB; have HB := n0_; clear n0_; (try clear hb); (try clear hb2); (try clear hk); (try clear hi)))
                            go_ret
                            exact ⟨by first | rfl | (simp [errW_none, errW_some] <;> rfl) | (simp [*, errW_none, errW_some] <;> rfl), by repeat (first | (with_reducible first | exact HB.out | apply below_alloc | apply pw_below_drewN | apply below_drew1) | exact HB.out)⟩
                          · rw [if_neg c91] at H
                            exact absurd H (by simp)
                        · rw [if_neg c89] at H
                          exact absurd H (by simp)
                      · replace c88 := Bool.eq_false_iff.mpr c88
                        subst c88
                        have H1 : (none) = some r := by rw [if_neg (show ¬ (false = true) by decide)] at H; exact H
                        clear H
                        have H := H1
                        clear H1
                        exact absurd H (by simp)
                    · replace c87 := Bool.eq_false_iff.mpr c87
                      subst c87
                      have H1 : (if x5_1.size + 1 ≤ 9223372036854775807 then ((text_Note.f (x5_1 ++ (⟨#[10]⟩ : ByteArray))).bind fun t121 => (if (t121 == (decide (a1 < 200))) = true then ((text_Pass.f (x5_1 ++ (⟨#[10]⟩ : ByteArray))).bind fun t122 => (some (!t122))) else (none))) else (none)) = some r := by rw [if_neg (show ¬ (false = true) by decide)] at H; exact H
                      clear H
                      have H := H1
                      clear H1
                      by_cases c103 : x5_1.size + 1 ≤ 9223372036854775807
                      · rw [if_pos c103] at H
                        have c103b0 := eq_true c103
                        have c103b1 : decide (x5_1.size + 1 ≤ 9223372036854775807) = true := decide_eq_true c103
                        try have c103b2 : (9223372036854775807 < x5_1.size + 1) = False := eq_false (Nat.not_lt.2 c103)
                        try (have c103b3 := c103; simp at c103b3)
                        try have c103b4 := eq_false (Nat.not_lt.2 c103b3)
                        replace H := Option.bind_eq_some_iff.mp H
                        obtain ⟨t121, A1040, H⟩ := H
                        replace H : (if (t121 == (decide (a1 < 200))) = true then ((text_Pass.f (x5_1 ++ (⟨#[10]⟩ : ByteArray))).bind fun t122 => (some (!t122))) else (none)) = some r := H
                        have A104 := Aside0.mk A1040
                        clear A1040
                        by_cases c105 : (t121 == (decide (a1 < 200))) = true
                        · rw [if_pos c105] at H
                          have c105b0 : (t121 == (decide (a1 < 200))) = true := c105
                          (try (have c105b1 : decide (t121 = (decide (a1 < 200))) = true := by simpa using c105))
                          (try (have c105b2 : (t121 == (decide (a1 < 200))) = true := by simpa using c105))
                          clear c105
                          replace H := Option.bind_eq_some_iff.mp H
                          obtain ⟨t122, A1060, H⟩ := H
                          replace H : (some (!t122)) = some r := H
                          have A106 := Aside0.mk A1060
                          clear A1060
                          obtain rfl := Option.some.inj H
                          go_wp2_with (first | ((with_reducible refine gate_callee (f := 10) rfl ?_); refine goesL_ (some 20) rfl rfl Tryd.func10 (by kernel_rfl) rfl #[.slice A0 l0.length c0] rfl (by (try simp only [List.map_toArray, List.map_cons, List.map_nil]); first | done | rfl | (simp only [List.length_drop, List.length_take]; rfl)) ?_; (with_reducible refine (wicketmanlaw06_Text.calls k1 _ _ l0 t101 _ ?side1 ?side2 A5.out).mono ?_); (case side1 => repeat (first | exact (Kd.C_below HR0.out HB.out) | (with_reducible refine Kd.C_alloc ?_ _) | (with_reducible refine Kd.C_drewN ?_ _) | (with_reducible refine Kd.C_drew ?_))); (case side2 => exact HC0.out); rintro e w107 ⟨rfl, hb⟩; refine ⟨_, rfl, ?_⟩; have n0_ := Aside0.mk (below_step (by repeat (first | (with_reducible first | exact HB.out | apply below_alloc | apply pw_below_drewN | apply below_drew1) | exact HB.out)) hb); clear HB; have HB := n0_; clear n0_; (try clear hb); (try clear hb2); (try clear hk); (try clear hi)) | ((with_reducible refine gate_callee (f := 14) rfl ?_); refine goesL_ (some 22) rfl rfl Tryd.func14 (by kernel_rfl) rfl #[.string t101] rfl (by (try simp only [List.map_toArray, List.map_cons, List.map_nil]); first | done | rfl | (simp only [List.length_drop, List.length_take]; rfl)) ?_; (with_reducible refine (text_Name.calls t101 false _ A6.out (HGR.out.below rfl (by repeat (first | (with_reducible first | exact HB.out | apply below_alloc | apply pw_below_drewN | apply below_drew1) | exact HB.out | exact Aside0.out (by assumption))))).mono ?_); rintro e w108 ⟨rfl, hb⟩; refine ⟨_, rfl, ?_⟩; have n0_ := Aside0.mk (below_step (by repeat (first | (with_reducible first | exact HB.out | apply below_alloc | apply pw_below_drewN | apply below_drew1) | exact HB.out)) hb); clear HB; have HB := n0_; clear n0_; (try clear hb); (try clear hb2); (try clear hk); (try clear hi)) | ((with_reducible refine gate_callee (f := 15) rfl ?_); refine goesL_ (some 24) rfl rfl Tryd.func15 (by kernel_rfl) rfl #[.string t101] rfl (by (try simp only [List.map_toArray, List.map_cons, List.map_nil]); first | done | rfl | (simp only [List.length_drop, List.length_take]; rfl)) ?_; (with_reducible refine (text_Pass.calls t101 false _ A7.out (HGR.out.below rfl (by repeat (first | (with_reducible first | exact HB.out | apply below_alloc | apply pw_below_drewN | apply below_drew1) | exact HB.out | exact Aside0.out (by assumption))))).mono ?_); rintro e w109 ⟨rfl, hb⟩; refine ⟨_, rfl, ?_⟩; have n0_ := Aside0.mk (below_step (by repeat (first | (with_reducible first | exact HB.out | apply below_alloc | apply pw_below_drewN | apply below_drew1) | exact HB.out)) hb); clear HB; have HB := n0_; clear n0_; (try clear hb); (try clear hb2); (try clear hk); (try clear hi)) | ((with_reducible refine gate_callee (f := 16) rfl ?_); refine goesL_ (some 26) rfl rfl Tryd.func16 (by kernel_rfl) rfl #[.string t101] rfl (by (try simp only [List.map_toArray, List.map_cons, List.map_nil]); first | done | rfl | (simp only [List.length_drop, List.length_take]; rfl)) ?_; (with_reducible refine (text_Note.calls t101 t104 _ A8.out (HGR.out.below rfl (by repeat (first | (with_reducible first | exact HB.out | apply below_alloc | apply pw_below_drewN | apply below_drew1) | exact HB.out | exact Aside0.out (by assumption))))).mono ?_); rintro e w110 ⟨rfl, hb⟩; refine ⟨_, rfl, ?_⟩; have n0_ := Aside0.mk (below_step (by repeat (first | (with_reducible first | exact HB.out | apply below_alloc | apply pw_below_drewN | apply below_drew1) | exact HB.out)) hb); clear HB; have HB := n0_; clear n0_; (try clear hb); (try clear hb2); (try clear hk); (try clear hi)) | ((with_reducible refine gate_callee (f := 9) rfl ?_); refine goesL_ (some 27) rfl rfl Tryd.func9 (by kernel_rfl) rfl #[] rfl (by (try simp only [List.map_toArray, List.map_cons, List.map_nil]); first | done | rfl | (simp only [List.length_drop, List.length_take]; rfl)) ?_; (with_reducible refine (wicketmanlaw06_known.calls  true _ A9.out (HGR.out.below rfl (by repeat (first | (with_reducible first | exact HB.out | apply below_alloc | apply pw_below_drewN | apply below_drew1) | exact HB.out | exact Aside0.out (by assumption))))).mono ?_); rintro e w111 ⟨rfl, hb⟩; refine ⟨_, rfl, ?_⟩; have n0_ := Aside0.mk (below_step (by repeat (first | (with_reducible first | exact HB.out | apply below_alloc | apply pw_below_drewN | apply below_drew1) | exact HB.out)) hb); clear HB; have HB := n0_; clear n0_; (try clear hb); (try clear hb2); (try clear hk); (try clear hi)) | (go_at_call 14; (with_reducible refine (text_Name.calls x5_1 t106 _ A11.out (HGR.out.below rfl (by repeat (first | (with_reducible first | exact HB.out | apply below_alloc | apply pw_below_drewN | apply below_drew1) | exact HB.out | exact Aside0.out (by assumption))))).mono ?_); rintro e w112 ⟨rfl, hb⟩; have n0_ := Aside0.mk (below_step (by repeat (first | (with_reducible first | exact HB.out | apply below_alloc | apply pw_below_drewN | apply below_drew1) | exact HB.out)) hb); clear HB; have HB := n0_; clear n0_; (try clear hb); (try clear hb2); (try clear hk); (try clear hi)) | (go_at_call 15; (with_reducible refine (text_Pass.calls x5_1 t115 _ A66.out (HGR.out.below rfl (by repeat (first | (with_reducible first | exact HB.out | apply below_alloc | apply pw_below_drewN | apply below_drew1) | exact HB.out | exact Aside0.out (by assumption))))).mono ?_); rintro e w113 ⟨rfl, hb⟩; have n0_ := Aside0.mk (below_step (by repeat (first | (with_reducible first | exact HB.out | apply below_alloc | apply pw_below_drewN | apply below_drew1) | exact HB.out)) hb); clear HB; have HB := n0_; clear n0_; (try clear hb); (try clear hb2); (try clear hk); (try clear hi)) | (go_at_call 16; (with_reducible refine (text_Note.calls x5_1 t116 _ A68.out (HGR.out.below rfl (by repeat (first | (with_reducible first | exact HB.out | apply below_alloc | apply pw_below_drewN | apply below_drew1) | exact HB.out | exact Aside0.out (by assumption))))).mono ?_); rintro e w114 ⟨rfl, hb⟩; have n0_ := Aside0.mk (below_step (by repeat (first | (with_reducible first | exact HB.out | apply below_alloc | apply pw_below_drewN | apply below_drew1) | exact HB.out)) hb); clear HB; have HB := n0_; clear n0_; (try clear hb); (try clear hb2); (try clear hk); (try clear hi)) | (go_at_call 16; (with_reducible refine (text_Note.calls (x5_1 ++ (⟨#[10]⟩ : ByteArray)) t121 _ A104.out (HGR.out.below rfl (by repeat (first | (with_reducible first | exact HB.out | apply below_alloc | apply pw_below_drewN | apply below_drew1) | exact HB.out | exact Aside0.out (by assumption))))).mono ?_); rintro e w115 ⟨rfl, hb⟩; have n0_ := Aside0.mk (below_step (by repeat (first | (with_reducible first | exact HB.out | apply below_alloc | apply pw_below_drewN | apply below_drew1) | exact HB.out)) hb); clear HB; have HB := n0_; clear n0_; (try clear hb); (try clear hb2); (try clear hk); (try clear hi)) | (go_at_call 15; (with_reducible refine (text_Pass.calls (x5_1 ++ (⟨#[10]⟩ : ByteArray)) t122 _ A106.out (HGR.out.below rfl (by repeat (first | (with_reducible first | exact HB.out | apply below_alloc | apply pw_below_drewN | apply below_drew1) | exact HB.out | exact Aside0.out (by assumption))))).mono ?_); rintro e w116 ⟨rfl, hb⟩; have n0_ := Aside0.mk (below_step (by repeat (first | (with_reducible first | exact HB.out | apply below_alloc | apply pw_below_drewN | apply below_drew1) | exact HB.out)) hb); clear HB; have HB := n0_; clear n0_; (try clear hb); (try clear hb2); (try clear hk); (try clear hi)))
                          go_ret
                          exact ⟨by first | rfl | (simp [errW_none, errW_some] <;> rfl) | (simp [*, errW_none, errW_some] <;> rfl), by repeat (first | (with_reducible first | exact HB.out | apply below_alloc | apply pw_below_drewN | apply below_drew1) | exact HB.out)⟩
                        · rw [if_neg c105] at H
                          exact absurd H (by simp)
                      · rw [if_neg c103] at H
                        exact absurd H (by simp)
                · rw [if_neg c69] at H
                  exact absurd H (by simp)
              · rw [if_neg c67] at H
                exact absurd H (by simp)
            · rw [if_neg c65] at H
              exact absurd H (by simp)
        · replace c10 := Bool.eq_false_iff.mpr c10
          subst c10
          have H1 : (none) = some r := by rw [if_neg (show ¬ (false = true) by decide)] at H; exact H
          clear H
          have H := H1
          clear H1
          exact absurd H (by simp)

/-- THE ONE PURE STATEMENT of wicketmanlaw06_TextBounds: yours. -/
def wicketmanlaw06_TextBounds.Pure : Prop := ∀ (l0 : List Int) (a1 : Int), l0.length ≤ maxLen → l0.length * 1 ≤ 140737488351232 → (∀ x ∈ l0, (Lit.int .u8 x).wf = true) → (Lit.int .u8 a1).wf = true → ∃ k, wicketmanlaw06_TextBounds.f k l0 a1 = some true
theorem wicketmanlaw06_TextBounds.walk (P : wicketmanlaw06_TextBounds.Pure) (a0 : Option Addr) (len0 cap0 : Nat) (z0 : List Int) (a1 : Int) (w : World) (w0 : (a0 = none ∧ len0 = 0 ∧ cap0 = 0 ∧ z0 = []) ∨ ∃ x, a0 = some x ∧ len0 ≤ cap0 ∧ cap0 ≤ maxLen ∧ z0.length = cap0 ∧ (∀ i, i < z0.length → w.cell? (x.add i) = some (.int .u8 (z0.getD i 0))) ∧ ∀ n ∈ z0, (Lit.int .u8 n).wf = true) (y0 : len0 * 1 ≤ 140737488351232) (w1 : (Lit.int .u8 a1).wf = true) (hG_ : RootsIn w) :
    Calls Tryd.prog 6 #[.slice a0 len0 cap0, .int .u8 a1] w fun e w' => e = .returned (.bool true) ∧ Below w.heap.size w w' := by
  obtain ⟨l0, rfl, hr0, hm0, hw0, hc0⟩ := ReadsInt.ofRowC w0
  obtain ⟨k, h⟩ := P l0 a1 hm0 y0 hw0 w1
  refine (wicketmanlaw06_TextBounds.calls k _ _ l0 a1 true w (Kd.C_of_reads (d := (0 : Int)) (h1 := fun _ => rfl) hr0) hc0 h hG_).mono ?_
  rintro e w' ⟨rfl, hd⟩
  exact ⟨rfl, hd⟩

end Go.Proofs.YtlehjehnapjioaaDoor.Pr
