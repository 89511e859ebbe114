-- Written for this claim by wip/myprint.py, this session's driver over the kit's print.py. Not trusted: Lean checks it.
import Derived.Test.YtlehjehnapjioaaDoorF
import Derived.Test.YtlehjehnapjioaaDoorF10
import Derived.Test.YtlehjehnapjioaaDoorF11
import Derived.Test.YtlehjehnapjioaaDoorF9
namespace Go.Proofs.YtlehjehnapjioaaDoor.Pr
open Go.RowKit Go.Proofs.YtlehjehnapjioaaDoorW.PrintWords Go.Proofs.YtlehjehnapjioaaDoorW.PrintLast Go.Proofs.YtlehjehnapjioaaDoorW.PrintMore Go.Proofs.YtlehjehnapjioaaDoor.E
attribute [local go_sem] max2_int min2_int max_two min_two max_three min_three max_four min_four   -- for this text's walks alone
set_option linter.unusedVariables false
set_option linter.unusedSimpArgs false

/-! ### wicketmanlaw06_TextAsks: function 3 -/
def wicketmanlaw06_TextAsks.j0 : Nat → ByteArray → List Int → Bool → Option (Bool)
  | 0, _, _, _ => none
  | k + 1, x0, x1, x12 => if x12 = true then ((wicketmanlaw06_known.f).bind fun t102 => (some t102)) else ((wicketmanlaw06_Text.f k x1).bind fun t103 => ((wicketmanlaw06_asks.f k x0).bind fun t104 => (if t104 = true then ((wicketmanlaw06_asks.f k t103).bind fun t105 => (if t105 = true then (if x0.size + t103.size ≤ 9223372036854775807 then ((wicketmanlaw06_asks.f k (x0 ++ t103)).bind fun t106 => (if t106 = true then (if 0 ≤ (wrap64 ((t103.size : Int) / 2)) then (if (wrap64 ((t103.size : Int) / 2)) ≤ (t103.size : Int) then ((wicketmanlaw06_asks.f k (t103.extract 0 ((wrap64 ((t103.size : Int) / 2)) : Int).toNat)).bind fun t107 => (if t107 = true then (if 0 ≤ (wrap64 ((t103.size : Int) / 3)) then (if (wrap64 ((t103.size : Int) / 3)) ≤ (t103.size : Int) then ((wicketmanlaw06_asks.f k (t103.extract ((wrap64 ((t103.size : Int) / 3)) : Int).toNat t103.size)).bind fun t108 => (some t108)) else (none)) else (none)) else (none))) else (none)) else (none)) else (none))) else (none)) else (none))) else (none))))
def wicketmanlaw06_TextAsks.f (k : Nat) (a0 : ByteArray) (l1 : List Int) : Option (Bool) := if (a0.size : Int) > 300 then (wicketmanlaw06_TextAsks.j0 k a0 l1 true) else ((wicketmanlaw06_known.f).bind fun t101 => (wicketmanlaw06_TextAsks.j0 k a0 l1 (!t101)))
theorem wicketmanlaw06_TextAsks.mono_l : ∀ k, (∀ y0 y1 y2, LeO (wicketmanlaw06_TextAsks.j0 k y0 y1 y2) (wicketmanlaw06_TextAsks.j0 (k + 1) y0 y1 y2))
  | 0 => fun _ _ _ r h => by simp [wicketmanlaw06_TextAsks.j0] at h
  | k + 1 => by
    have ih0 := wicketmanlaw06_TextAsks.mono_l k
    · intro y0 y1 y2
      unfold wicketmanlaw06_TextAsks.j0
      repeat' first
      | (with_reducible exact ih0 _ _ _)
      | (with_reducible exact wicketmanlaw06_Text.mono _ _)
      | (with_reducible exact wicketmanlaw06_asks.mono _ _)
      | (with_reducible exact LeO.refl _)
      | (with_reducible exact LeO.none _)
      | (with_reducible refine LeO.ite ?_ ?_)
      | (with_reducible refine LeO.bind ?_ (fun _ => ?_))
      | exact ih0 _ _ _
      | exact wicketmanlaw06_Text.mono _ _
      | exact wicketmanlaw06_asks.mono _ _
      | exact LeO.none _
      | refine LeO.ite ?_ ?_
      | refine LeO.bind ?_ (fun _ => ?_)
theorem wicketmanlaw06_TextAsks.mono : ∀ a0 a1 k, LeO (wicketmanlaw06_TextAsks.f k a0 a1) (wicketmanlaw06_TextAsks.f (k + 1) a0 a1) := by
  intro a0 a1 k
  have ih0 := wicketmanlaw06_TextAsks.mono_l k
  unfold wicketmanlaw06_TextAsks.f
  repeat' first
      | (with_reducible exact ih0 _ _ _)
      | (with_reducible exact wicketmanlaw06_Text.mono _ _)
      | (with_reducible exact wicketmanlaw06_asks.mono _ _)
      | (with_reducible exact LeO.refl _)
      | (with_reducible exact LeO.none _)
      | (with_reducible refine LeO.ite ?_ ?_)
      | (with_reducible refine LeO.bind ?_ (fun _ => ?_))
      | exact ih0 _ _ _
      | exact wicketmanlaw06_Text.mono _ _
      | exact wicketmanlaw06_asks.mono _ _
      | exact LeO.none _
      | refine LeO.ite ?_ ?_
      | refine LeO.bind ?_ (fun _ => ?_)
set_option maxHeartbeats 8000000 in
set_option maxRecDepth 1000000 in
theorem wicketmanlaw06_TextAsks.calls (k : Nat) (a0 : ByteArray) (A1 : Option Addr) (c1 : Nat) (l1 : List Int) (r : Bool) (w : World) (hr1 : Kd.C (Kd.int .u8) w A1 l1.length l1) (hc1 : l1.length ≤ c1) (h : wicketmanlaw06_TextAsks.f k a0 l1 = some r) (hG_ : RootsIn w) :
    Calls Tryd.prog 3 #[.string a0, .slice A1 l1.length c1] w fun e w' => e = .returned (.bool r) ∧ Below w.heap.size w w' := by
  have HR1 := Aside0.mk hr1
  have HC1 := Aside0.mk hc1
  clear hr1 hc1
  have HB := Aside0.mk (Below.refl w.heap.size w)
  have HGR := Aside0.mk hG_
  clear hG_
  have H : (if (a0.size : Int) > 300 then (wicketmanlaw06_TextAsks.j0 k a0 l1 true) else ((wicketmanlaw06_known.f).bind fun t101 => (wicketmanlaw06_TextAsks.j0 k a0 l1 (!t101)))) = some r := h
  clear h
  have HC3 := Aside0.mk H
  clear H
  go_enter Tryd.func3, Tryd.ntmps3
  go_upto_region 1 with (fail)
  go_cut [12] (fun v12 wc => ∃ (kq : Nat) (x12_2 : Bool), v12 = .bool x12_2 ∧ Aside0 (wicketmanlaw06_TextAsks.j0 kq a0 l1 x12_2 = some r) ∧ Aside0 (kq ≤ k) ∧ Aside0 (Below w.heap.size w wc))
  case first =>
    have H := HC3.out
    clear HC3
    by_cases c4 : (a0.size : Int) > 300
    · rw [if_pos c4] at H
      have c4b0 : decide (300 < (a0.size : Int)) = true := decide_eq_true c4
      have c4b1 : decide (300 < a0.size) = true := decide_eq_true (by omega)
      clear c4
      (first | rw [c4b0] | (simp only [i64_w, i32_w]; rw [c4b0]) | skip)
      have H' := Aside0.mk H
      clear H
      go_wp2
      go_meet
      case rel => exact ⟨_, (true), (by first | rfl | (simp; done) | (simp [*]; done)), H', ⟨by first | omega | exact Nat.le_refl _⟩, ⟨by repeat (first | (with_reducible first | exact HB.out | apply below_alloc | apply pw_below_drewN | apply below_drew1) | exact HB.out)⟩⟩
    · rw [if_neg c4] at H
      have c4b0 : decide (300 < (a0.size : Int)) = false := decide_eq_false c4
      have c4b1 : decide (300 < a0.size) = false := decide_eq_false (by omega)
      clear c4
      (first | rw [c4b0] | (simp only [i64_w, i32_w]; rw [c4b0]) | skip)
      replace H := Option.bind_eq_some_iff.mp H
      obtain ⟨t101, A50, H⟩ := H
      replace H : (wicketmanlaw06_TextAsks.j0 k a0 l1 (!t101)) = some r := H
      have A5 := Aside0.mk A50
      clear A50
      have H' := Aside0.mk H
      clear H
      go_wp2_with (first | (go_at_call 9; (with_reducible refine (wicketmanlaw06_known.calls  t101 _ A5.out (HGR.out.below rfl (by repeat (first | (with_reducible first | exact HB.out | apply below_alloc | apply pw_below_drewN | apply below_drew1) | exact HB.out | exact Aside0.out (by assumption))))).mono ?_); rintro e w6 ⟨rfl, hb⟩; have n0_ := Aside0.mk (below_step (by repeat (first | (with_reducible first | exact HB.out | apply below_alloc | apply pw_below_drewN | apply below_drew1) | exact HB.out)) hb); clear HB; have HB := n0_; clear n0_; (try clear hb); (try clear hb2); (try clear hk); (try clear hi)))
      go_meet
      case rel => exact ⟨_, (!t101), (by first | rfl | (simp; done) | (simp [*]; done)), H', ⟨by first | omega | exact Nat.le_refl _⟩, ⟨by repeat (first | (with_reducible first | exact HB.out | apply below_alloc | apply pw_below_drewN | apply below_drew1) | exact HB.out)⟩⟩
  case rest =>
    clear HC3
    try clear c1
    try clear p2
    try clear c3
    try clear c4
    try clear c4b0
    try clear c4b1
    obtain ⟨kq, x12_2, rfl, HA, HJ2, HB⟩ := hcut
    cases kq with
    | zero => exact absurd HA.out (by simp [wicketmanlaw06_TextAsks.j0])
    | succ kj2 =>
      have H := HA.out
      clear HA
      simp only [wicketmanlaw06_TextAsks.j0] at H
      by_cases c7 : x12_2 = true
      · subst c7
        have H1 : ((wicketmanlaw06_known.f).bind fun t102 => (some t102)) = some r := by rw [if_pos rfl] at H; exact H
        clear H
        have H := H1
        clear H1
        replace H := Option.bind_eq_some_iff.mp H
        obtain ⟨t102, A80, H⟩ := H
        replace H : (some t102) = some r := H
        have A8 := Aside0.mk A80
        clear A80
        obtain rfl := Option.some.inj H
        go_wp2_with (first | ((with_reducible refine gate_callee (f := 9) rfl ?_); refine goesL_ (some 13) rfl rfl Tryd.func9 (by kernel_rfl) rfl #[] rfl (by (try simp only [List.map_toArray, List.map_cons, List.map_nil]); first | done | rfl | (simp only [List.length_drop, List.length_take]; rfl)) ?_; (with_reducible refine (wicketmanlaw06_known.calls  t102 _ A8.out (HGR.out.below rfl (by repeat (first | (with_reducible first | exact HB.out | apply below_alloc | apply pw_below_drewN | apply below_drew1) | exact HB.out | exact Aside0.out (by assumption))))).mono ?_); rintro e w9 ⟨rfl, hb⟩; refine ⟨_, rfl, ?_⟩; have n0_ := Aside0.mk (below_step (by repeat (first | (with_reducible first | exact HB.out | apply below_alloc | apply pw_below_drewN | apply below_drew1) | exact HB.out)) hb); clear HB; have HB := n0_; clear n0_; (try clear hb); (try clear hb2); (try clear hk); (try clear hi)))
        go_ret
        exact ⟨by first | rfl | (simp [errW_none, errW_some] <;> rfl) | (simp [*, errW_none, errW_some] <;> rfl), by repeat (first | (with_reducible first | exact HB.out | apply below_alloc | apply pw_below_drewN | apply below_drew1) | exact HB.out)⟩
      · replace c7 := Bool.eq_false_iff.mpr c7
        subst c7
        have H1 : ((wicketmanlaw06_Text.f kj2 l1).bind fun t103 => ((wicketmanlaw06_asks.f kj2 a0).bind fun t104 => (if t104 = true then ((wicketmanlaw06_asks.f kj2 t103).bind fun t105 => (if t105 = true then (if a0.size + t103.size ≤ 9223372036854775807 then ((wicketmanlaw06_asks.f kj2 (a0 ++ t103)).bind fun t106 => (if t106 = true then (if 0 ≤ (wrap64 ((t103.size : Int) / 2)) then (if (wrap64 ((t103.size : Int) / 2)) ≤ (t103.size : Int) then ((wicketmanlaw06_asks.f kj2 (t103.extract 0 ((wrap64 ((t103.size : Int) / 2)) : Int).toNat)).bind fun t107 => (if t107 = true then (if 0 ≤ (wrap64 ((t103.size : Int) / 3)) then (if (wrap64 ((t103.size : Int) / 3)) ≤ (t103.size : Int) then ((wicketmanlaw06_asks.f kj2 (t103.extract ((wrap64 ((t103.size : Int) / 3)) : Int).toNat t103.size)).bind fun t108 => (some t108)) else (none)) else (none)) else (none))) else (none)) else (none)) else (none))) else (none)) else (none))) else (none)))) = some r := by rw [if_neg (show ¬ (false = true) by decide)] at H; exact H
        clear H
        have H := H1
        clear H1
        replace H := Option.bind_eq_some_iff.mp H
        obtain ⟨t103, A100, H⟩ := H
        replace H : ((wicketmanlaw06_asks.f kj2 a0).bind fun t104 => (if t104 = true then ((wicketmanlaw06_asks.f kj2 t103).bind fun t105 => (if t105 = true then (if a0.size + t103.size ≤ 9223372036854775807 then ((wicketmanlaw06_asks.f kj2 (a0 ++ t103)).bind fun t106 => (if t106 = true then (if 0 ≤ (wrap64 ((t103.size : Int) / 2)) then (if (wrap64 ((t103.size : Int) / 2)) ≤ (t103.size : Int) then ((wicketmanlaw06_asks.f kj2 (t103.extract 0 ((wrap64 ((t103.size : Int) / 2)) : Int).toNat)).bind fun t107 => (if t107 = true then (if 0 ≤ (wrap64 ((t103.size : Int) / 3)) then (if (wrap64 ((t103.size : Int) / 3)) ≤ (t103.size : Int) then ((wicketmanlaw06_asks.f kj2 (t103.extract ((wrap64 ((t103.size : Int) / 3)) : Int).toNat t103.size)).bind fun t108 => (some t108)) else (none)) else (none)) else (none))) else (none)) else (none)) else (none))) else (none)) else (none))) else (none))) = some r := H
        have A10 := Aside0.mk A100
        clear A100
        replace H := Option.bind_eq_some_iff.mp H
        obtain ⟨t104, A110, H⟩ := H
        replace H : (if t104 = true then ((wicketmanlaw06_asks.f kj2 t103).bind fun t105 => (if t105 = true then (if a0.size + t103.size ≤ 9223372036854775807 then ((wicketmanlaw06_asks.f kj2 (a0 ++ t103)).bind fun t106 => (if t106 = true then (if 0 ≤ (wrap64 ((t103.size : Int) / 2)) then (if (wrap64 ((t103.size : Int) / 2)) ≤ (t103.size : Int) then ((wicketmanlaw06_asks.f kj2 (t103.extract 0 ((wrap64 ((t103.size : Int) / 2)) : Int).toNat)).bind fun t107 => (if t107 = true then (if 0 ≤ (wrap64 ((t103.size : Int) / 3)) then (if (wrap64 ((t103.size : Int) / 3)) ≤ (t103.size : Int) then ((wicketmanlaw06_asks.f kj2 (t103.extract ((wrap64 ((t103.size : Int) / 3)) : Int).toNat t103.size)).bind fun t108 => (some t108)) else (none)) else (none)) else (none))) else (none)) else (none)) else (none))) else (none)) else (none))) else (none)) = some r := H
        have A11 := Aside0.mk A110
        clear A110
        by_cases c12 : t104 = true
        · subst c12
          have H1 : ((wicketmanlaw06_asks.f kj2 t103).bind fun t105 => (if t105 = true then (if a0.size + t103.size ≤ 9223372036854775807 then ((wicketmanlaw06_asks.f kj2 (a0 ++ t103)).bind fun t106 => (if t106 = true then (if 0 ≤ (wrap64 ((t103.size : Int) / 2)) then (if (wrap64 ((t103.size : Int) / 2)) ≤ (t103.size : Int) then ((wicketmanlaw06_asks.f kj2 (t103.extract 0 ((wrap64 ((t103.size : Int) / 2)) : Int).toNat)).bind fun t107 => (if t107 = true then (if 0 ≤ (wrap64 ((t103.size : Int) / 3)) then (if (wrap64 ((t103.size : Int) / 3)) ≤ (t103.size : Int) then ((wicketmanlaw06_asks.f kj2 (t103.extract ((wrap64 ((t103.size : Int) / 3)) : Int).toNat t103.size)).bind fun t108 => (some t108)) else (none)) else (none)) else (none))) else (none)) else (none)) else (none))) else (none)) else (none))) = some r := by rw [if_pos rfl] at H; exact H
          clear H
          have H := H1
          clear H1
          replace H := Option.bind_eq_some_iff.mp H
          obtain ⟨t105, A130, H⟩ := H
          replace H : (if t105 = true then (if a0.size + t103.size ≤ 9223372036854775807 then ((wicketmanlaw06_asks.f kj2 (a0 ++ t103)).bind fun t106 => (if t106 = true then (if 0 ≤ (wrap64 ((t103.size : Int) / 2)) then (if (wrap64 ((t103.size : Int) / 2)) ≤ (t103.size : Int) then ((wicketmanlaw06_asks.f kj2 (t103.extract 0 ((wrap64 ((t103.size : Int) / 2)) : Int).toNat)).bind fun t107 => (if t107 = true then (if 0 ≤ (wrap64 ((t103.size : Int) / 3)) then (if (wrap64 ((t103.size : Int) / 3)) ≤ (t103.size : Int) then ((wicketmanlaw06_asks.f kj2 (t103.extract ((wrap64 ((t103.size : Int) / 3)) : Int).toNat t103.size)).bind fun t108 => (some t108)) else (none)) else (none)) else (none))) else (none)) else (none)) else (none))) else (none)) else (none)) = some r := H
          have A13 := Aside0.mk A130
          clear A130
          by_cases c14 : t105 = true
          · subst c14
            have H1 : (if a0.size + t103.size ≤ 9223372036854775807 then ((wicketmanlaw06_asks.f kj2 (a0 ++ t103)).bind fun t106 => (if t106 = true then (if 0 ≤ (wrap64 ((t103.size : Int) / 2)) then (if (wrap64 ((t103.size : Int) / 2)) ≤ (t103.size : Int) then ((wicketmanlaw06_asks.f kj2 (t103.extract 0 ((wrap64 ((t103.size : Int) / 2)) : Int).toNat)).bind fun t107 => (if t107 = true then (if 0 ≤ (wrap64 ((t103.size : Int) / 3)) then (if (wrap64 ((t103.size : Int) / 3)) ≤ (t103.size : Int) then ((wicketmanlaw06_asks.f kj2 (t103.extract ((wrap64 ((t103.size : Int) / 3)) : Int).toNat t103.size)).bind fun t108 => (some t108)) else (none)) else (none)) else (none))) else (none)) else (none)) else (none))) else (none)) = some r := by rw [if_pos rfl] at H; exact H
            clear H
            have H := H1
            clear H1
            by_cases c15 : a0.size + t103.size ≤ 9223372036854775807
            · rw [if_pos c15] at H
              have c15b0 := eq_true c15
              have c15b1 : decide (a0.size + t103.size ≤ 9223372036854775807) = true := decide_eq_true c15
              try have c15b2 : (9223372036854775807 < a0.size + t103.size) = False := eq_false (Nat.not_lt.2 c15)
              try (have c15b3 := c15; simp at c15b3)
              try have c15b4 := eq_false (Nat.not_lt.2 c15b3)
              replace H := Option.bind_eq_some_iff.mp H
              obtain ⟨t106, A160, H⟩ := H
              replace H : (if t106 = true then (if 0 ≤ (wrap64 ((t103.size : Int) / 2)) then (if (wrap64 ((t103.size : Int) / 2)) ≤ (t103.size : Int) then ((wicketmanlaw06_asks.f kj2 (t103.extract 0 ((wrap64 ((t103.size : Int) / 2)) : Int).toNat)).bind fun t107 => (if t107 = true then (if 0 ≤ (wrap64 ((t103.size : Int) / 3)) then (if (wrap64 ((t103.size : Int) / 3)) ≤ (t103.size : Int) then ((wicketmanlaw06_asks.f kj2 (t103.extract ((wrap64 ((t103.size : Int) / 3)) : Int).toNat t103.size)).bind fun t108 => (some t108)) else (none)) else (none)) else (none))) else (none)) else (none)) else (none)) = some r := H
              have A16 := Aside0.mk A160
              clear A160
              by_cases c17 : t106 = true
              · subst c17
                have H1 : (if 0 ≤ (wrap64 ((t103.size : Int) / 2)) then (if (wrap64 ((t103.size : Int) / 2)) ≤ (t103.size : Int) then ((wicketmanlaw06_asks.f kj2 (t103.extract 0 ((wrap64 ((t103.size : Int) / 2)) : Int).toNat)).bind fun t107 => (if t107 = true then (if 0 ≤ (wrap64 ((t103.size : Int) / 3)) then (if (wrap64 ((t103.size : Int) / 3)) ≤ (t103.size : Int) then ((wicketmanlaw06_asks.f kj2 (t103.extract ((wrap64 ((t103.size : Int) / 3)) : Int).toNat t103.size)).bind fun t108 => (some t108)) else (none)) else (none)) else (none))) else (none)) else (none)) = some r := by rw [if_pos rfl] at H; exact H
                clear H
                have H := H1
                clear H1
                obtain ⟨ji18, hji18⟩ : ∃ j_ : Int, (wrap64 ((t103.size : Int) / 2)) = j_ := ⟨_, rfl⟩
                replace H : (if 0 ≤ (ji18) then (if (ji18) ≤ (t103.size : Int) then ((wicketmanlaw06_asks.f kj2 (t103.extract 0 ((ji18) : Int).toNat)).bind fun t107 => (if t107 = true then (if 0 ≤ (wrap64 ((t103.size : Int) / 3)) then (if (wrap64 ((t103.size : Int) / 3)) ≤ (t103.size : Int) then ((wicketmanlaw06_asks.f kj2 (t103.extract ((wrap64 ((t103.size : Int) / 3)) : Int).toNat t103.size)).bind fun t108 => (some t108)) else (none)) else (none)) else (none))) else (none)) else (none)) = some r := by first | (rw [hji18] at H; exact H) | (simp only [hji18] at H ⊢; exact H)
                (try rw [hji18] at A10)
                (try rw [hji18] at A11)
                (try rw [hji18] at A13)
                (try rw [hji18] at A16)
                have hji18w : (IntKind.i64.wrap ((t103.size : Int) / 2)) = ji18 := (i64_w _).trans hji18
                by_cases c19 : 0 ≤ (ji18)
                · rw [if_pos c19] at H
                  have c19b0 := eq_true c19
                  have c19b1 : decide (0 ≤ (ji18)) = true := decide_eq_true c19
                  clear c19
                  by_cases c20 : (ji18) ≤ (t103.size : Int)
                  · rw [if_pos c20] at H
                    have c20b0 := eq_true c20
                    have c20b1 : decide ((ji18) ≤ (t103.size : Int)) = true := decide_eq_true c20
                    clear c20
                    replace H := Option.bind_eq_some_iff.mp H
                    obtain ⟨t107, A210, H⟩ := H
                    replace H : (if t107 = true then (if 0 ≤ (wrap64 ((t103.size : Int) / 3)) then (if (wrap64 ((t103.size : Int) / 3)) ≤ (t103.size : Int) then ((wicketmanlaw06_asks.f kj2 (t103.extract ((wrap64 ((t103.size : Int) / 3)) : Int).toNat t103.size)).bind fun t108 => (some t108)) else (none)) else (none)) else (none)) = some r := H
                    have A21 := Aside0.mk A210
                    clear A210
                    by_cases c22 : t107 = true
                    · subst c22
                      have H1 : (if 0 ≤ (wrap64 ((t103.size : Int) / 3)) then (if (wrap64 ((t103.size : Int) / 3)) ≤ (t103.size : Int) then ((wicketmanlaw06_asks.f kj2 (t103.extract ((wrap64 ((t103.size : Int) / 3)) : Int).toNat t103.size)).bind fun t108 => (some t108)) else (none)) else (none)) = some r := by rw [if_pos rfl] at H; exact H
                      clear H
                      have H := H1
                      clear H1
                      obtain ⟨ji23, hji23⟩ : ∃ j_ : Int, (wrap64 ((t103.size : Int) / 3)) = j_ := ⟨_, rfl⟩
                      replace H : (if 0 ≤ (ji23) then (if (ji23) ≤ (t103.size : Int) then ((wicketmanlaw06_asks.f kj2 (t103.extract ((ji23) : Int).toNat t103.size)).bind fun t108 => (some t108)) else (none)) else (none)) = some r := by first | (rw [hji23] at H; exact H) | (simp only [hji23] at H ⊢; exact H)
                      (try rw [hji23] at A10)
                      (try rw [hji23] at A11)
                      (try rw [hji23] at A13)
                      (try rw [hji23] at A16)
                      (try rw [hji23] at A21)
                      have hji23w : (IntKind.i64.wrap ((t103.size : Int) / 3)) = ji23 := (i64_w _).trans hji23
                      by_cases c24 : 0 ≤ (ji23)
                      · rw [if_pos c24] at H
                        have c24b0 := eq_true c24
                        have c24b1 : decide (0 ≤ (ji23)) = true := decide_eq_true c24
                        clear c24
                        by_cases c25 : (ji23) ≤ (t103.size : Int)
                        · rw [if_pos c25] at H
                          have c25b0 := eq_true c25
                          have c25b1 : decide ((ji23) ≤ (t103.size : Int)) = true := decide_eq_true c25
                          clear c25
                          replace H := Option.bind_eq_some_iff.mp H
                          obtain ⟨t108, A260, H⟩ := H
                          replace H : (some t108) = some r := H
                          have A26 := Aside0.mk A260
                          clear A260
                          obtain rfl := Option.some.inj H
                          go_wp2_with (first | ((with_reducible refine gate_callee (f := 10) rfl ?_); refine goesL_ (some 15) rfl rfl Tryd.func10 (by kernel_rfl) rfl #[.slice A1 l1.length c1] rfl (by (try simp only [List.map_toArray, List.map_cons, List.map_nil]); first | done | rfl | (simp only [List.length_drop, List.length_take]; rfl)) ?_; (with_reducible refine (wicketmanlaw06_Text.calls kj2 _ _ l1 t103 _ ?side1 ?side2 A10.out).mono ?_); (case side1 => repeat (first | exact (Kd.C_below HR1.out HB.out) | (with_reducible refine Kd.C_alloc ?_ _) | (with_reducible refine Kd.C_drewN ?_ _) | (with_reducible refine Kd.C_drew ?_))); (case side2 => exact HC1.out); rintro e w27 ⟨rfl, hb⟩; refine ⟨_, rfl, ?_⟩; have n0_ := Aside0.mk (below_step (by repeat (first | (with_reducible first | exact HB.out | apply below_alloc | apply pw_below_drewN | apply below_drew1) | exact HB.out)) hb); clear HB; have HB := n0_; clear n0_; (try clear hb); (try clear hb2); (try clear hk); (try clear hi)) | ((with_reducible refine gate_callee (f := 11) rfl ?_); refine goesL_ (some 17) rfl rfl Tryd.func11 (by kernel_rfl) rfl #[.string a0] rfl (by (try simp only [List.map_toArray, List.map_cons, List.map_nil]); first | done | rfl | (simp only [List.length_drop, List.length_take]; rfl)) ?_; (with_reducible refine (wicketmanlaw06_asks.calls kj2 a0 true _ A11.out (HGR.out.below rfl (by repeat (first | (with_reducible first | exact HB.out | apply below_alloc | apply pw_below_drewN | apply below_drew1) | exact HB.out | exact Aside0.out (by assumption))))).mono ?_); rintro e w28 ⟨rfl, hb⟩; refine ⟨_, rfl, ?_⟩; have n0_ := Aside0.mk (below_step (by repeat (first | (with_reducible first | exact HB.out | apply below_alloc | apply pw_below_drewN | apply below_drew1) | exact HB.out)) hb); clear HB; have HB := n0_; clear n0_; (try clear hb); (try clear hb2); (try clear hk); (try clear hi)) | (go_at_call 11; (with_reducible refine (wicketmanlaw06_asks.calls kj2 t103 true _ A13.out (HGR.out.below rfl (by repeat (first | (with_reducible first | exact HB.out | apply below_alloc | apply pw_below_drewN | apply below_drew1) | exact HB.out | exact Aside0.out (by assumption))))).mono ?_); rintro e w29 ⟨rfl, hb⟩; have n0_ := Aside0.mk (below_step (by repeat (first | (with_reducible first | exact HB.out | apply below_alloc | apply pw_below_drewN | apply below_drew1) | exact HB.out)) hb); clear HB; have HB := n0_; clear n0_; (try clear hb); (try clear hb2); (try clear hk); (try clear hi)) | (go_at_call 11; (with_reducible refine (wicketmanlaw06_asks.calls kj2 (a0 ++ t103) true _ A16.out (HGR.out.below rfl (by repeat (first | (with_reducible first | exact HB.out | apply below_alloc | apply pw_below_drewN | apply below_drew1) | exact HB.out | exact Aside0.out (by assumption))))).mono ?_); rintro e w30 ⟨rfl, hb⟩; have n0_ := Aside0.mk (below_step (by repeat (first | (with_reducible first | exact HB.out | apply below_alloc | apply pw_below_drewN | apply below_drew1) | exact HB.out)) hb); clear HB; have HB := n0_; clear n0_; (try clear hb); (try clear hb2); (try clear hk); (try clear hi)) | (go_at_call 11; (with_reducible refine (wicketmanlaw06_asks.calls kj2 (t103.extract 0 ((ji18) : Int).toNat) true _ A21.out (HGR.out.below rfl (by repeat (first | (with_reducible first | exact HB.out | apply below_alloc | apply pw_below_drewN | apply below_drew1) | exact HB.out | exact Aside0.out (by assumption))))).mono ?_); rintro e w31 ⟨rfl, hb⟩; have n0_ := Aside0.mk (below_step (by repeat (first | (with_reducible first | exact HB.out | apply below_alloc | apply pw_below_drewN | apply below_drew1) | exact HB.out)) hb); clear HB; have HB := n0_; clear n0_; (try clear hb); (try clear hb2); (try clear hk); (try clear hi)) | (go_at_call 11; (with_reducible refine (wicketmanlaw06_asks.calls kj2 (t103.extract ((ji23) : Int).toNat t103.size) t108 _ A26.out (HGR.out.below rfl (by repeat (first | (with_reducible first | exact HB.out | apply below_alloc | apply pw_below_drewN | apply below_drew1) | exact HB.out | exact Aside0.out (by assumption))))).mono ?_); rintro e w32 ⟨rfl, hb⟩; have n0_ := Aside0.mk (below_step (by repeat (first | (with_reducible first | exact HB.out | apply below_alloc | apply pw_below_drewN | apply below_drew1) | exact HB.out)) hb); clear HB; have HB := n0_; clear n0_; (try clear hb); (try clear hb2); (try clear hk); (try clear hi)))
                          go_ret
                          exact ⟨by first | rfl | (simp [errW_none, errW_some] <;> rfl) | (simp only [← hji18, ← hji23]; first | rfl | (simp [errW_none, errW_some] <;> rfl)) | (simp [*, errW_none, errW_some] <;> rfl), by repeat (first | (with_reducible first | exact HB.out | apply below_alloc | apply pw_below_drewN | apply below_drew1) | exact HB.out)⟩
                        · rw [if_neg c25] at H
                          exact absurd H (by simp)
                      · rw [if_neg c24] at H
                        exact absurd H (by simp)
                    · replace c22 := Bool.eq_false_iff.mpr c22
                      subst c22
                      have H1 : (none) = some r := by rw [if_neg (show ¬ (false = true) by decide)] at H; exact H
                      clear H
                      have H := H1
                      clear H1
                      exact absurd H (by simp)
                  · rw [if_neg c20] at H
                    exact absurd H (by simp)
                · rw [if_neg c19] at H
                  exact absurd H (by simp)
              · replace c17 := Bool.eq_false_iff.mpr c17
                subst c17
                have H1 : (none) = some r := by rw [if_neg (show ¬ (false = true) by decide)] at H; exact H
                clear H
                have H := H1
                clear H1
                exact absurd H (by simp)
            · rw [if_neg c15] at H
              exact absurd H (by simp)
          · replace c14 := Bool.eq_false_iff.mpr c14
            subst c14
            have H1 : (none) = some r := by rw [if_neg (show ¬ (false = true) by decide)] at H; exact H
            clear H
            have H := H1
            clear H1
            exact absurd H (by simp)
        · replace c12 := Bool.eq_false_iff.mpr c12
          subst c12
          have H1 : (none) = some r := by rw [if_neg (show ¬ (false = true) by decide)] at H; exact H
          clear H
          have H := H1
          clear H1
          exact absurd H (by simp)

/-- THE ONE PURE STATEMENT of wicketmanlaw06_TextAsks: yours. -/
def wicketmanlaw06_TextAsks.Pure : Prop := ∀ (a0 : ByteArray) (l1 : List Int), a0.size ≤ 140737488351232 → l1.length ≤ maxLen → l1.length * 1 ≤ 140737488351232 → (∀ x ∈ l1, (Lit.int .u8 x).wf = true) → ∃ k, wicketmanlaw06_TextAsks.f k a0 l1 = some true
theorem wicketmanlaw06_TextAsks.walk (P : wicketmanlaw06_TextAsks.Pure) (a0 : ByteArray) (a1 : Option Addr) (len1 cap1 : Nat) (z1 : List Int) (w : World) (w0 : a0.size ≤ 140737488351232) (w1 : (a1 = none ∧ len1 = 0 ∧ cap1 = 0 ∧ z1 = []) ∨ ∃ x, a1 = some x ∧ len1 ≤ cap1 ∧ cap1 ≤ maxLen ∧ z1.length = cap1 ∧ (∀ i, i < z1.length → w.cell? (x.add i) = some (.int .u8 (z1.getD i 0))) ∧ ∀ n ∈ z1, (Lit.int .u8 n).wf = true) (y1 : len1 * 1 ≤ 140737488351232) (hG_ : RootsIn w) :
    Calls Tryd.prog 3 #[.string a0, .slice a1 len1 cap1] w fun e w' => e = .returned (.bool true) ∧ Below w.heap.size w w' := by
  obtain ⟨l1, rfl, hr1, hm1, hw1, hc1⟩ := ReadsInt.ofRowC w1
  obtain ⟨k, h⟩ := P a0 l1 w0 hm1 y1 hw1
  refine (wicketmanlaw06_TextAsks.calls k a0 _ _ l1 true w (Kd.C_of_reads (d := (0 : Int)) (h1 := fun _ => rfl) hr1) hc1 h hG_).mono ?_
  rintro e w' ⟨rfl, hd⟩
  exact ⟨rfl, hd⟩

end Go.Proofs.YtlehjehnapjioaaDoor.Pr
