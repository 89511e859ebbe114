-- Written for this claim by wip/myprint.py, this session's driver over the kit's print.py. Not trusted: Lean checks it.
import Derived.Test.YtlehjehnapjioaaDoorF
import Derived.Test.YtlehjehnapjioaaDoorF32
namespace Go.Proofs.YtlehjehnapjioaaDoor.Pr
open Go.RowKit Go.Proofs.YtlehjehnapjioaaDoorW.PrintWords Go.Proofs.YtlehjehnapjioaaDoorW.PrintLast Go.Proofs.YtlehjehnapjioaaDoorW.PrintMore Go.Proofs.YtlehjehnapjioaaDoor.E
attribute [local go_sem] max2_int min2_int max_two min_two max_three min_three max_four min_four   -- for this text's walks alone
set_option linter.unusedVariables false
set_option linter.unusedSimpArgs false

/-! ### wicketmanref06_Escape: function 21 -/
def wicketmanref06_Escape.l0 : Nat → ByteArray → ByteArray → Option (ByteArray)
  | 0, _, _ => none
  | k + 1, x0, x3 => if x0.toList = ([] : List UInt8) then (some x3) else ((wicketmanref06_One.f k x0).bind fun bt101 => (if 0 ≤ (mx bt101.2 1) then (if (mx bt101.2 1) ≤ (x0.size : Int) then (if 0 < (x0.size : Int) then (if (bt x0 0) = 38 then (if bt101.2 = 0 then (if x3.size + 1 ≤ 9223372036854775807 then (wicketmanref06_Escape.l0 k (x0.extract ((mx bt101.2 1) : Int).toNat x0.size) (x3 ++ (⟨#[63]⟩ : ByteArray))) else (none)) else (if x3.size + 5 ≤ 9223372036854775807 then (wicketmanref06_Escape.l0 k (x0.extract ((mx bt101.2 1) : Int).toNat x0.size) (x3 ++ (⟨#[38, 97, 109, 112, 59]⟩ : ByteArray))) else (none))) else (if (bt x0 0) = 60 then (if bt101.2 = 0 then (if x3.size + 1 ≤ 9223372036854775807 then (wicketmanref06_Escape.l0 k (x0.extract ((mx bt101.2 1) : Int).toNat x0.size) (x3 ++ (⟨#[63]⟩ : ByteArray))) else (none)) else (if x3.size + 4 ≤ 9223372036854775807 then (wicketmanref06_Escape.l0 k (x0.extract ((mx bt101.2 1) : Int).toNat x0.size) (x3 ++ (⟨#[38, 108, 116, 59]⟩ : ByteArray))) else (none))) else (if (bt x0 0) = 62 then (if bt101.2 = 0 then (if x3.size + 1 ≤ 9223372036854775807 then (wicketmanref06_Escape.l0 k (x0.extract ((mx bt101.2 1) : Int).toNat x0.size) (x3 ++ (⟨#[63]⟩ : ByteArray))) else (none)) else (if x3.size + 4 ≤ 9223372036854775807 then (wicketmanref06_Escape.l0 k (x0.extract ((mx bt101.2 1) : Int).toNat x0.size) (x3 ++ (⟨#[38, 103, 116, 59]⟩ : ByteArray))) else (none))) else (if (bt x0 0) = 34 then (if bt101.2 = 0 then (if x3.size + 1 ≤ 9223372036854775807 then (wicketmanref06_Escape.l0 k (x0.extract ((mx bt101.2 1) : Int).toNat x0.size) (x3 ++ (⟨#[63]⟩ : ByteArray))) else (none)) else (if x3.size + 5 ≤ 9223372036854775807 then (wicketmanref06_Escape.l0 k (x0.extract ((mx bt101.2 1) : Int).toNat x0.size) (x3 ++ (⟨#[38, 35, 51, 52, 59]⟩ : ByteArray))) else (none))) else (if (bt x0 0) = 39 then (if bt101.2 = 0 then (if x3.size + 1 ≤ 9223372036854775807 then (wicketmanref06_Escape.l0 k (x0.extract ((mx bt101.2 1) : Int).toNat x0.size) (x3 ++ (⟨#[63]⟩ : ByteArray))) else (none)) else (if x3.size + 5 ≤ 9223372036854775807 then (wicketmanref06_Escape.l0 k (x0.extract ((mx bt101.2 1) : Int).toNat x0.size) (x3 ++ (⟨#[38, 35, 51, 57, 59]⟩ : ByteArray))) else (none))) else (if bt101.2 = 0 then (if x3.size + 1 ≤ 9223372036854775807 then (wicketmanref06_Escape.l0 k (x0.extract ((mx bt101.2 1) : Int).toNat x0.size) (x3 ++ (⟨#[63]⟩ : ByteArray))) else (none)) else (if x3.size + (x0.extract 0 ((mx bt101.2 1) : Int).toNat).size ≤ 9223372036854775807 then (wicketmanref06_Escape.l0 k (x0.extract ((mx bt101.2 1) : Int).toNat x0.size) (x3 ++ (x0.extract 0 ((mx bt101.2 1) : Int).toNat))) else (none)))))))) else (none)) else (none)) else (none)))
def wicketmanref06_Escape.f (k : Nat) (a0 : ByteArray) : Option (ByteArray) := wicketmanref06_Escape.l0 k a0 (⟨#[]⟩ : ByteArray)
theorem wicketmanref06_Escape.mono_l : ∀ k, (∀ y0 y1, LeO (wicketmanref06_Escape.l0 k y0 y1) (wicketmanref06_Escape.l0 (k + 1) y0 y1))
  | 0 => fun _ _ r h => by simp [wicketmanref06_Escape.l0] at h
  | k + 1 => by
    have ih0 := wicketmanref06_Escape.mono_l k
    · intro y0 y1
      unfold wicketmanref06_Escape.l0
      repeat' first
      | (with_reducible exact ih0 _ _)
      | (with_reducible exact wicketmanref06_One.mono _ _)
      | (with_reducible exact LeO.refl _)
      | (with_reducible exact LeO.none _)
      | (with_reducible refine LeO.ite ?_ ?_)
      | (with_reducible refine LeO.bind ?_ (fun _ => ?_))
      | exact ih0 _ _
      | exact wicketmanref06_One.mono _ _
      | exact LeO.none _
      | refine LeO.ite ?_ ?_
      | refine LeO.bind ?_ (fun _ => ?_)
theorem wicketmanref06_Escape.mono : ∀ a0 k, LeO (wicketmanref06_Escape.f k a0) (wicketmanref06_Escape.f (k + 1) a0) := by
  intro a0 k
  have ih0 := wicketmanref06_Escape.mono_l k
  unfold wicketmanref06_Escape.f
  repeat' first
      | (with_reducible exact ih0 _ _)
      | (with_reducible exact wicketmanref06_One.mono _ _)
      | (with_reducible exact LeO.refl _)
      | (with_reducible exact LeO.none _)
      | (with_reducible refine LeO.ite ?_ ?_)
      | (with_reducible refine LeO.bind ?_ (fun _ => ?_))
      | exact ih0 _ _
      | exact wicketmanref06_One.mono _ _
      | exact LeO.none _
      | refine LeO.ite ?_ ?_
      | refine LeO.bind ?_ (fun _ => ?_)
set_option maxHeartbeats 8000000 in
set_option maxRecDepth 1000000 in
theorem wicketmanref06_Escape.calls (k : Nat) (a0 : ByteArray) (r : ByteArray) (w : World) (h : wicketmanref06_Escape.f k a0 = some r) :
    Calls Tryd.prog 21 #[.string a0] w fun e w' => e = .returned (.string r) ∧ Below w.heap.size w w' := by
  have HB := Aside0.mk (Below.refl w.heap.size w)
  have H : (wicketmanref06_Escape.l0 k a0 (⟨#[]⟩ : ByteArray)) = some r := h
  clear h
  have H' := Aside0.mk H
  clear H
  go_enter Tryd.func21, Tryd.ntmps21
  go_wp2
  go_loopg [0, 3] k (fun kq v0 v3 w' => ∃ (x0_1 : ByteArray) (x3_1 : ByteArray), v0 = .string x0_1 ∧ v3 = .string x3_1 ∧ Aside0 (wicketmanref06_Escape.l0 kq x0_1 x3_1 = some r) ∧ Aside0 (kq ≤ k) ∧ Aside0 (Below w.heap.size w w'))
  case atStart => exact ⟨(a0), ((⟨#[]⟩ : ByteArray)), (by first | rfl | (simp; done) | (simp [*]; done)), (by first | rfl | (simp; done) | (simp [*]; done)), H', ⟨Nat.le_refl _⟩, ⟨by repeat (first | (with_reducible first | exact HB.out | apply below_alloc | apply pw_below_drewN | apply below_drew1) | exact HB.out)⟩⟩
  case round =>
    clear H'
    obtain ⟨x0_1, x3_1, rfl, rfl, HA, HK1, HB⟩ := hrel
    cases gk with
    | zero => exact absurd HA.out (by simp [wicketmanref06_Escape.l0])
    | succ k1 =>
      have H := HA.out
      clear HA
      simp only [wicketmanref06_Escape.l0] at H
      by_cases c2 : x0_1.toList = ([] : List UInt8)
      · rw [if_pos c2] at H
        have c2b0 : (x0_1.toList == ([] : List UInt8)) = true := beq_iff_eq.mpr c2
        have c2b1 : (x0_1.toList != ([] : List UInt8)) = false := bne_eq_false_iff_eq.mpr c2
        clear c2
        obtain rfl := Option.some.inj H
        go_wp2
        go_ret
        exact ⟨by first | rfl | (simp [errW_none, errW_some] <;> rfl) | (simp [*, errW_none, errW_some] <;> rfl), by repeat (first | (with_reducible first | exact HB.out | apply below_alloc | apply pw_below_drewN | apply below_drew1) | exact HB.out)⟩
      · rw [if_neg c2] at H
        have c2b0 : (x0_1.toList == ([] : List UInt8)) = false := beq_eq_false_iff_ne.mpr c2
        have c2b1 : (x0_1.toList != ([] : List UInt8)) = true := bne_iff_ne.mpr c2
        replace H := Option.bind_eq_some_iff.mp H
        obtain ⟨⟨t101, t102⟩, A30, H⟩ := H
        replace H : (if 0 ≤ (mx t102 1) then (if (mx t102 1) ≤ (x0_1.size : Int) then (if 0 < (x0_1.size : Int) then (if (bt x0_1 0) = 38 then (if t102 = 0 then (if x3_1.size + 1 ≤ 9223372036854775807 then (wicketmanref06_Escape.l0 k1 (x0_1.extract ((mx t102 1) : Int).toNat x0_1.size) (x3_1 ++ (⟨#[63]⟩ : ByteArray))) else (none)) else (if x3_1.size + 5 ≤ 9223372036854775807 then (wicketmanref06_Escape.l0 k1 (x0_1.extract ((mx t102 1) : Int).toNat x0_1.size) (x3_1 ++ (⟨#[38, 97, 109, 112, 59]⟩ : ByteArray))) else (none))) else (if (bt x0_1 0) = 60 then (if t102 = 0 then (if x3_1.size + 1 ≤ 9223372036854775807 then (wicketmanref06_Escape.l0 k1 (x0_1.extract ((mx t102 1) : Int).toNat x0_1.size) (x3_1 ++ (⟨#[63]⟩ : ByteArray))) else (none)) else (if x3_1.size + 4 ≤ 9223372036854775807 then (wicketmanref06_Escape.l0 k1 (x0_1.extract ((mx t102 1) : Int).toNat x0_1.size) (x3_1 ++ (⟨#[38, 108, 116, 59]⟩ : ByteArray))) else (none))) else (if (bt x0_1 0) = 62 then (if t102 = 0 then (if x3_1.size + 1 ≤ 9223372036854775807 then (wicketmanref06_Escape.l0 k1 (x0_1.extract ((mx t102 1) : Int).toNat x0_1.size) (x3_1 ++ (⟨#[63]⟩ : ByteArray))) else (none)) else (if x3_1.size + 4 ≤ 9223372036854775807 then (wicketmanref06_Escape.l0 k1 (x0_1.extract ((mx t102 1) : Int).toNat x0_1.size) (x3_1 ++ (⟨#[38, 103, 116, 59]⟩ : ByteArray))) else (none))) else (if (bt x0_1 0) = 34 then (if t102 = 0 then (if x3_1.size + 1 ≤ 9223372036854775807 then (wicketmanref06_Escape.l0 k1 (x0_1.extract ((mx t102 1) : Int).toNat x0_1.size) (x3_1 ++ (⟨#[63]⟩ : ByteArray))) else (none)) else (if x3_1.size + 5 ≤ 9223372036854775807 then (wicketmanref06_Escape.l0 k1 (x0_1.extract ((mx t102 1) : Int).toNat x0_1.size) (x3_1 ++ (⟨#[38, 35, 51, 52, 59]⟩ : ByteArray))) else (none))) else (if (bt x0_1 0) = 39 then (if t102 = 0 then (if x3_1.size + 1 ≤ 9223372036854775807 then (wicketmanref06_Escape.l0 k1 (x0_1.extract ((mx t102 1) : Int).toNat x0_1.size) (x3_1 ++ (⟨#[63]⟩ : ByteArray))) else (none)) else (if x3_1.size + 5 ≤ 9223372036854775807 then (wicketmanref06_Escape.l0 k1 (x0_1.extract ((mx t102 1) : Int).toNat x0_1.size) (x3_1 ++ (⟨#[38, 35, 51, 57, 59]⟩ : ByteArray))) else (none))) else (if t102 = 0 then (if x3_1.size + 1 ≤ 9223372036854775807 then (wicketmanref06_Escape.l0 k1 (x0_1.extract ((mx t102 1) : Int).toNat x0_1.size) (x3_1 ++ (⟨#[63]⟩ : ByteArray))) else (none)) else (if x3_1.size + (x0_1.extract 0 ((mx t102 1) : Int).toNat).size ≤ 9223372036854775807 then (wicketmanref06_Escape.l0 k1 (x0_1.extract ((mx t102 1) : Int).toNat x0_1.size) (x3_1 ++ (x0_1.extract 0 ((mx t102 1) : Int).toNat))) else (none)))))))) else (none)) else (none)) else (none)) = some r := H
        have A3 := Aside0.mk A30
        clear A30
        obtain ⟨ji4, hji4⟩ : ∃ j_ : Int, (mx t102 1) = j_ := ⟨_, rfl⟩
        replace H : (if 0 ≤ (ji4) then (if (ji4) ≤ (x0_1.size : Int) then (if 0 < (x0_1.size : Int) then (if (bt x0_1 0) = 38 then (if t102 = 0 then (if x3_1.size + 1 ≤ 9223372036854775807 then (wicketmanref06_Escape.l0 k1 (x0_1.extract ((ji4) : Int).toNat x0_1.size) (x3_1 ++ (⟨#[63]⟩ : ByteArray))) else (none)) else (if x3_1.size + 5 ≤ 9223372036854775807 then (wicketmanref06_Escape.l0 k1 (x0_1.extract ((ji4) : Int).toNat x0_1.size) (x3_1 ++ (⟨#[38, 97, 109, 112, 59]⟩ : ByteArray))) else (none))) else (if (bt x0_1 0) = 60 then (if t102 = 0 then (if x3_1.size + 1 ≤ 9223372036854775807 then (wicketmanref06_Escape.l0 k1 (x0_1.extract ((ji4) : Int).toNat x0_1.size) (x3_1 ++ (⟨#[63]⟩ : ByteArray))) else (none)) else (if x3_1.size + 4 ≤ 9223372036854775807 then (wicketmanref06_Escape.l0 k1 (x0_1.extract ((ji4) : Int).toNat x0_1.size) (x3_1 ++ (⟨#[38, 108, 116, 59]⟩ : ByteArray))) else (none))) else (if (bt x0_1 0) = 62 then (if t102 = 0 then (if x3_1.size + 1 ≤ 9223372036854775807 then (wicketmanref06_Escape.l0 k1 (x0_1.extract ((ji4) : Int).toNat x0_1.size) (x3_1 ++ (⟨#[63]⟩ : ByteArray))) else (none)) else (if x3_1.size + 4 ≤ 9223372036854775807 then (wicketmanref06_Escape.l0 k1 (x0_1.extract ((ji4) : Int).toNat x0_1.size) (x3_1 ++ (⟨#[38, 103, 116, 59]⟩ : ByteArray))) else (none))) else (if (bt x0_1 0) = 34 then (if t102 = 0 then (if x3_1.size + 1 ≤ 9223372036854775807 then (wicketmanref06_Escape.l0 k1 (x0_1.extract ((ji4) : Int).toNat x0_1.size) (x3_1 ++ (⟨#[63]⟩ : ByteArray))) else (none)) else (if x3_1.size + 5 ≤ 9223372036854775807 then (wicketmanref06_Escape.l0 k1 (x0_1.extract ((ji4) : Int).toNat x0_1.size) (x3_1 ++ (⟨#[38, 35, 51, 52, 59]⟩ : ByteArray))) else (none))) else (if (bt x0_1 0) = 39 then (if t102 = 0 then (if x3_1.size + 1 ≤ 9223372036854775807 then (wicketmanref06_Escape.l0 k1 (x0_1.extract ((ji4) : Int).toNat x0_1.size) (x3_1 ++ (⟨#[63]⟩ : ByteArray))) else (none)) else (if x3_1.size + 5 ≤ 9223372036854775807 then (wicketmanref06_Escape.l0 k1 (x0_1.extract ((ji4) : Int).toNat x0_1.size) (x3_1 ++ (⟨#[38, 35, 51, 57, 59]⟩ : ByteArray))) else (none))) else (if t102 = 0 then (if x3_1.size + 1 ≤ 9223372036854775807 then (wicketmanref06_Escape.l0 k1 (x0_1.extract ((ji4) : Int).toNat x0_1.size) (x3_1 ++ (⟨#[63]⟩ : ByteArray))) else (none)) else (if x3_1.size + (x0_1.extract 0 ((ji4) : Int).toNat).size ≤ 9223372036854775807 then (wicketmanref06_Escape.l0 k1 (x0_1.extract ((ji4) : Int).toNat x0_1.size) (x3_1 ++ (x0_1.extract 0 ((ji4) : Int).toNat))) else (none)))))))) else (none)) else (none)) else (none)) = some r := by first | (rw [hji4] at H; exact H) | (simp only [hji4] at H ⊢; exact H)
        (try rw [hji4] at A3)
        (try (have hji4l : 1 ≤ ji4 := by (rw [← hji4]; unfold mx; (repeat' split) <;> omega)))
        (try (have hji4m : 0 ≤ ji4 := by omega))
        have hji4_ : (if t102 < 1 then 1 else t102) = ji4 := hji4
        by_cases c5 : 0 ≤ (ji4)
        · rw [if_pos c5] at H
          have c5b0 := eq_true c5
          have c5b1 : decide (0 ≤ (ji4)) = true := decide_eq_true c5
          clear c5
          by_cases c6 : (ji4) ≤ (x0_1.size : Int)
          · rw [if_pos c6] at H
            have c6b0 := eq_true c6
            have c6b1 : decide ((ji4) ≤ (x0_1.size : Int)) = true := decide_eq_true c6
            clear c6
            by_cases c7 : 0 < (x0_1.size : Int)
            · rw [if_pos c7] at H
              have c7b0 : decide (0 < (x0_1.size : Int)) = true := decide_eq_true c7
              have c7b1 : decide (0 < x0_1.size) = true := decide_eq_true (by omega)
              clear c7
              by_cases c9 : (bt x0_1 0) = 38
              · rw [if_pos c9] at H
                have c9b0 : ((bt x0_1 0) == 38) = true := beq_iff_eq.mpr c9
                have c9b1 : ((bt x0_1 0) != 38) = false := bne_eq_false_iff_eq.mpr c9
                clear c9
                by_cases c10 : t102 = 0
                · rw [if_pos c10] at H
                  have c10b0 : (t102 == 0) = true := beq_iff_eq.mpr c10
                  have c10b1 : (t102 != 0) = false := bne_eq_false_iff_eq.mpr c10
                  clear c10
                  by_cases c11 : x3_1.size + 1 ≤ 9223372036854775807
                  · rw [if_pos c11] at H
                    have c11b0 := eq_true c11
                    have c11b1 : decide (x3_1.size + 1 ≤ 9223372036854775807) = true := decide_eq_true c11
                    try have c11b2 : (9223372036854775807 < x3_1.size + 1) = False := eq_false (Nat.not_lt.2 c11)
                    try (have c11b3 := c11; simp at c11b3)
                    try have c11b4 := eq_false (Nat.not_lt.2 c11b3)
                    have c13b0 := eq_true (of_decide_eq_true (by first | (with_reducible assumption) | assumption) : 0 ≤ (ji4))
                    have c14b0 := eq_true (of_decide_eq_true (by first | (with_reducible assumption) | assumption) : (ji4) ≤ (x0_1.size : Int))
                    have H' := Aside0.mk H
                    clear H
                    go_wp2_with (first | ((with_reducible refine gate_callee (f := 32) rfl ?_); refine goesL_ (some 11) rfl rfl Tryd.func32 (by kernel_rfl) rfl #[.string x0_1] rfl (by (try simp only [List.map_toArray, List.map_cons, List.map_nil]); first | done | rfl | (simp only [List.length_drop, List.length_take]; rfl)) ?_; (with_reducible refine (wicketmanref06_One.calls k1 x0_1 t101 t102 _ A3.out).mono ?_); rintro e w15 ⟨rfl, hb⟩; refine ⟨_, rfl, ?_⟩; have n0_ := Aside0.mk (below_step (by repeat (first | (with_reducible first | exact HB.out | apply below_alloc | apply pw_below_drewN | apply below_drew1) | exact HB.out)) hb); clear HB; have HB := n0_; clear n0_; (try clear hb); (try clear hb2); (try clear hk); (try clear hi); have p8 : 0 ≤ (0 : Int) := (by omega); have q8 : 0 < x0_1.size := (by have : (0 : Int) < (x0_1.size : Int) := of_decide_eq_true (by first | (with_reducible assumption) | assumption); omega); have hx8 : ∀ h : 0 < x0_1.size, ((x0_1[0]'h).toNat : Int) = bt x0_1 0 := bt_at x0_1 0; clear p8; have qi8 : (0 < (x0_1.size : Int)) = True := eq_true (of_decide_eq_true (by first | (with_reducible assumption) | assumption)); replace q8 := eq_true q8))
                    go_roundg k1
                    case measure => have := HK1.out; omega
                    case rel => exact ⟨(x0_1.extract ((ji4) : Int).toNat x0_1.size), (x3_1 ++ (⟨#[63]⟩ : ByteArray)), (by first | rfl | (simp; done) | (simp only [← hji4] <;> (first | rfl | simp)) | (simp [*]; done)), (by first | rfl | (simp; done) | (simp [*]; done)), H', ⟨by have := HK1.out; omega⟩, ⟨by repeat (first | (with_reducible first | exact HB.out | apply below_alloc | apply pw_below_drewN | apply below_drew1) | exact HB.out)⟩⟩
                  · rw [if_neg c11] at H
                    exact absurd H (by simp)
                · rw [if_neg c10] at H
                  have c10b0 : (t102 == 0) = false := beq_eq_false_iff_ne.mpr c10
                  have c10b1 : (t102 != 0) = true := bne_iff_ne.mpr c10
                  by_cases c16 : x3_1.size + 5 ≤ 9223372036854775807
                  · rw [if_pos c16] at H
                    have c16b0 := eq_true c16
                    have c16b1 : decide (x3_1.size + 5 ≤ 9223372036854775807) = true := decide_eq_true c16
                    try have c16b2 : (9223372036854775807 < x3_1.size + 5) = False := eq_false (Nat.not_lt.2 c16)
                    try (have c16b3 := c16; simp at c16b3)
                    try have c16b4 := eq_false (Nat.not_lt.2 c16b3)
                    have c18b0 := eq_true (of_decide_eq_true (by first | (with_reducible assumption) | assumption) : 0 ≤ (ji4))
                    have c19b0 := eq_true (of_decide_eq_true (by first | (with_reducible assumption) | assumption) : (ji4) ≤ (x0_1.size : Int))
                    have H' := Aside0.mk H
                    clear H
                    go_wp2_with (first | ((with_reducible refine gate_callee (f := 32) rfl ?_); refine goesL_ (some 11) rfl rfl Tryd.func32 (by kernel_rfl) rfl #[.string x0_1] rfl (by (try simp only [List.map_toArray, List.map_cons, List.map_nil]); first | done | rfl | (simp only [List.length_drop, List.length_take]; rfl)) ?_; (with_reducible refine (wicketmanref06_One.calls k1 x0_1 t101 t102 _ A3.out).mono ?_); rintro e w20 ⟨rfl, hb⟩; refine ⟨_, rfl, ?_⟩; have n0_ := Aside0.mk (below_step (by repeat (first | (with_reducible first | exact HB.out | apply below_alloc | apply pw_below_drewN | apply below_drew1) | exact HB.out)) hb); clear HB; have HB := n0_; clear n0_; (try clear hb); (try clear hb2); (try clear hk); (try clear hi); have p8 : 0 ≤ (0 : Int) := (by omega); have q8 : 0 < x0_1.size := (by have : (0 : Int) < (x0_1.size : Int) := of_decide_eq_true (by first | (with_reducible assumption) | assumption); omega); have hx8 : ∀ h : 0 < x0_1.size, ((x0_1[0]'h).toNat : Int) = bt x0_1 0 := bt_at x0_1 0; clear p8; have qi8 : (0 < (x0_1.size : Int)) = True := eq_true (of_decide_eq_true (by first | (with_reducible assumption) | assumption)); replace q8 := eq_true q8))
                    go_roundg k1
                    case measure => have := HK1.out; omega
                    case rel => exact ⟨(x0_1.extract ((ji4) : Int).toNat x0_1.size), (x3_1 ++ (⟨#[38, 97, 109, 112, 59]⟩ : ByteArray)), (by first | rfl | (simp; done) | (simp only [← hji4] <;> (first | rfl | simp)) | (simp [*]; done)), (by first | rfl | (simp; done) | (simp [*]; done)), H', ⟨by have := HK1.out; omega⟩, ⟨by repeat (first | (with_reducible first | exact HB.out | apply below_alloc | apply pw_below_drewN | apply below_drew1) | exact HB.out)⟩⟩
                  · rw [if_neg c16] at H
                    exact absurd H (by simp)
              · rw [if_neg c9] at H
                have c9b0 : ((bt x0_1 0) == 38) = false := beq_eq_false_iff_ne.mpr c9
                have c9b1 : ((bt x0_1 0) != 38) = true := bne_iff_ne.mpr c9
                by_cases c21 : (bt x0_1 0) = 60
                · rw [if_pos c21] at H
                  have c21b0 : ((bt x0_1 0) == 60) = true := beq_iff_eq.mpr c21
                  have c21b1 : ((bt x0_1 0) != 60) = false := bne_eq_false_iff_eq.mpr c21
                  clear c21
                  by_cases c22 : t102 = 0
                  · rw [if_pos c22] at H
                    have c22b0 : (t102 == 0) = true := beq_iff_eq.mpr c22
                    have c22b1 : (t102 != 0) = false := bne_eq_false_iff_eq.mpr c22
                    clear c22
                    by_cases c23 : x3_1.size + 1 ≤ 9223372036854775807
                    · rw [if_pos c23] at H
                      have c23b0 := eq_true c23
                      have c23b1 : decide (x3_1.size + 1 ≤ 9223372036854775807) = true := decide_eq_true c23
                      try have c23b2 : (9223372036854775807 < x3_1.size + 1) = False := eq_false (Nat.not_lt.2 c23)
                      try (have c23b3 := c23; simp at c23b3)
                      try have c23b4 := eq_false (Nat.not_lt.2 c23b3)
                      have c25b0 := eq_true (of_decide_eq_true (by first | (with_reducible assumption) | assumption) : 0 ≤ (ji4))
                      have c26b0 := eq_true (of_decide_eq_true (by first | (with_reducible assumption) | assumption) : (ji4) ≤ (x0_1.size : Int))
                      have H' := Aside0.mk H
                      clear H
                      go_wp2_with (first | ((with_reducible refine gate_callee (f := 32) rfl ?_); refine goesL_ (some 11) rfl rfl Tryd.func32 (by kernel_rfl) rfl #[.string x0_1] rfl (by (try simp only [List.map_toArray, List.map_cons, List.map_nil]); first | done | rfl | (simp only [List.length_drop, List.length_take]; rfl)) ?_; (with_reducible refine (wicketmanref06_One.calls k1 x0_1 t101 t102 _ A3.out).mono ?_); rintro e w27 ⟨rfl, hb⟩; refine ⟨_, rfl, ?_⟩; have n0_ := Aside0.mk (below_step (by repeat (first | (with_reducible first | exact HB.out | apply below_alloc | apply pw_below_drewN | apply below_drew1) | exact HB.out)) hb); clear HB; have HB := n0_; clear n0_; (try clear hb); (try clear hb2); (try clear hk); (try clear hi); have p8 : 0 ≤ (0 : Int) := (by omega); have q8 : 0 < x0_1.size := (by have : (0 : Int) < (x0_1.size : Int) := of_decide_eq_true (by first | (with_reducible assumption) | assumption); omega); have hx8 : ∀ h : 0 < x0_1.size, ((x0_1[0]'h).toNat : Int) = bt x0_1 0 := bt_at x0_1 0; clear p8; have qi8 : (0 < (x0_1.size : Int)) = True := eq_true (of_decide_eq_true (by first | (with_reducible assumption) | assumption)); replace q8 := eq_true q8))
                      go_roundg k1
                      case measure => have := HK1.out; omega
                      case rel => exact ⟨(x0_1.extract ((ji4) : Int).toNat x0_1.size), (x3_1 ++ (⟨#[63]⟩ : ByteArray)), (by first | rfl | (simp; done) | (simp only [← hji4] <;> (first | rfl | simp)) | (simp [*]; done)), (by first | rfl | (simp; done) | (simp [*]; done)), H', ⟨by have := HK1.out; omega⟩, ⟨by repeat (first | (with_reducible first | exact HB.out | apply below_alloc | apply pw_below_drewN | apply below_drew1) | exact HB.out)⟩⟩
                    · rw [if_neg c23] at H
                      exact absurd H (by simp)
                  · rw [if_neg c22] at H
                    have c22b0 : (t102 == 0) = false := beq_eq_false_iff_ne.mpr c22
                    have c22b1 : (t102 != 0) = true := bne_iff_ne.mpr c22
                    by_cases c28 : x3_1.size + 4 ≤ 9223372036854775807
                    · rw [if_pos c28] at H
                      have c28b0 := eq_true c28
                      have c28b1 : decide (x3_1.size + 4 ≤ 9223372036854775807) = true := decide_eq_true c28
                      try have c28b2 : (9223372036854775807 < x3_1.size + 4) = False := eq_false (Nat.not_lt.2 c28)
                      try (have c28b3 := c28; simp at c28b3)
                      try have c28b4 := eq_false (Nat.not_lt.2 c28b3)
                      have c30b0 := eq_true (of_decide_eq_true (by first | (with_reducible assumption) | assumption) : 0 ≤ (ji4))
                      have c31b0 := eq_true (of_decide_eq_true (by first | (with_reducible assumption) | assumption) : (ji4) ≤ (x0_1.size : Int))
                      have H' := Aside0.mk H
                      clear H
                      go_wp2_with (first | ((with_reducible refine gate_callee (f := 32) rfl ?_); refine goesL_ (some 11) rfl rfl Tryd.func32 (by kernel_rfl) rfl #[.string x0_1] rfl (by (try simp only [List.map_toArray, List.map_cons, List.map_nil]); first | done | rfl | (simp only [List.length_drop, List.length_take]; rfl)) ?_; (with_reducible refine (wicketmanref06_One.calls k1 x0_1 t101 t102 _ A3.out).mono ?_); rintro e w32 ⟨rfl, hb⟩; refine ⟨_, rfl, ?_⟩; have n0_ := Aside0.mk (below_step (by repeat (first | (with_reducible first | exact HB.out | apply below_alloc | apply pw_below_drewN | apply below_drew1) | exact HB.out)) hb); clear HB; have HB := n0_; clear n0_; (try clear hb); (try clear hb2); (try clear hk); (try clear hi); have p8 : 0 ≤ (0 : Int) := (by omega); have q8 : 0 < x0_1.size := (by have : (0 : Int) < (x0_1.size : Int) := of_decide_eq_true (by first | (with_reducible assumption) | assumption); omega); have hx8 : ∀ h : 0 < x0_1.size, ((x0_1[0]'h).toNat : Int) = bt x0_1 0 := bt_at x0_1 0; clear p8; have qi8 : (0 < (x0_1.size : Int)) = True := eq_true (of_decide_eq_true (by first | (with_reducible assumption) | assumption)); replace q8 := eq_true q8))
                      go_roundg k1
                      case measure => have := HK1.out; omega
                      case rel => exact ⟨(x0_1.extract ((ji4) : Int).toNat x0_1.size), (x3_1 ++ (⟨#[38, 108, 116, 59]⟩ : ByteArray)), (by first | rfl | (simp; done) | (simp only [← hji4] <;> (first | rfl | simp)) | (simp [*]; done)), (by first | rfl | (simp; done) | (simp [*]; done)), H', ⟨by have := HK1.out; omega⟩, ⟨by repeat (first | (with_reducible first | exact HB.out | apply below_alloc | apply pw_below_drewN | apply below_drew1) | exact HB.out)⟩⟩
                    · rw [if_neg c28] at H
                      exact absurd H (by simp)
                · rw [if_neg c21] at H
                  have c21b0 : ((bt x0_1 0) == 60) = false := beq_eq_false_iff_ne.mpr c21
                  have c21b1 : ((bt x0_1 0) != 60) = true := bne_iff_ne.mpr c21
                  by_cases c33 : (bt x0_1 0) = 62
                  · rw [if_pos c33] at H
                    have c33b0 : ((bt x0_1 0) == 62) = true := beq_iff_eq.mpr c33
                    have c33b1 : ((bt x0_1 0) != 62) = false := bne_eq_false_iff_eq.mpr c33
                    clear c33
                    by_cases c34 : t102 = 0
                    · rw [if_pos c34] at H
                      have c34b0 : (t102 == 0) = true := beq_iff_eq.mpr c34
                      have c34b1 : (t102 != 0) = false := bne_eq_false_iff_eq.mpr c34
                      clear c34
                      by_cases c35 : x3_1.size + 1 ≤ 9223372036854775807
                      · rw [if_pos c35] at H
                        have c35b0 := eq_true c35
                        have c35b1 : decide (x3_1.size + 1 ≤ 9223372036854775807) = true := decide_eq_true c35
                        try have c35b2 : (9223372036854775807 < x3_1.size + 1) = False := eq_false (Nat.not_lt.2 c35)
                        try (have c35b3 := c35; simp at c35b3)
                        try have c35b4 := eq_false (Nat.not_lt.2 c35b3)
                        have c37b0 := eq_true (of_decide_eq_true (by first | (with_reducible assumption) | assumption) : 0 ≤ (ji4))
                        have c38b0 := eq_true (of_decide_eq_true (by first | (with_reducible assumption) | assumption) : (ji4) ≤ (x0_1.size : Int))
                        have H' := Aside0.mk H
                        clear H
                        go_wp2_with (first | ((with_reducible refine gate_callee (f := 32) rfl ?_); refine goesL_ (some 11) rfl rfl Tryd.func32 (by kernel_rfl) rfl #[.string x0_1] rfl (by (try simp only [List.map_toArray, List.map_cons, List.map_nil]); first | done | rfl | (simp only [List.length_drop, List.length_take]; rfl)) ?_; (with_reducible refine (wicketmanref06_One.calls k1 x0_1 t101 t102 _ A3.out).mono ?_); rintro e w39 ⟨rfl, hb⟩; refine ⟨_, rfl, ?_⟩; have n0_ := Aside0.mk (below_step (by repeat (first | (with_reducible first | exact HB.out | apply below_alloc | apply pw_below_drewN | apply below_drew1) | exact HB.out)) hb); clear HB; have HB := n0_; clear n0_; (try clear hb); (try clear hb2); (try clear hk); (try clear hi); have p8 : 0 ≤ (0 : Int) := (by omega); have q8 : 0 < x0_1.size := (by have : (0 : Int) < (x0_1.size : Int) := of_decide_eq_true (by first | (with_reducible assumption) | assumption); omega); have hx8 : ∀ h : 0 < x0_1.size, ((x0_1[0]'h).toNat : Int) = bt x0_1 0 := bt_at x0_1 0; clear p8; have qi8 : (0 < (x0_1.size : Int)) = True := eq_true (of_decide_eq_true (by first | (with_reducible assumption) | assumption)); replace q8 := eq_true q8))
                        go_roundg k1
                        case measure => have := HK1.out; omega
                        case rel => exact ⟨(x0_1.extract ((ji4) : Int).toNat x0_1.size), (x3_1 ++ (⟨#[63]⟩ : ByteArray)), (by first | rfl | (simp; done) | (simp only [← hji4] <;> (first | rfl | simp)) | (simp [*]; done)), (by first | rfl | (simp; done) | (simp [*]; done)), H', ⟨by have := HK1.out; omega⟩, ⟨by repeat (first | (with_reducible first | exact HB.out | apply below_alloc | apply pw_below_drewN | apply below_drew1) | exact HB.out)⟩⟩
                      · rw [if_neg c35] at H
                        exact absurd H (by simp)
                    · rw [if_neg c34] at H
                      have c34b0 : (t102 == 0) = false := beq_eq_false_iff_ne.mpr c34
                      have c34b1 : (t102 != 0) = true := bne_iff_ne.mpr c34
                      by_cases c40 : x3_1.size + 4 ≤ 9223372036854775807
                      · rw [if_pos c40] at H
                        have c40b0 := eq_true c40
                        have c40b1 : decide (x3_1.size + 4 ≤ 9223372036854775807) = true := decide_eq_true c40
                        try have c40b2 : (9223372036854775807 < x3_1.size + 4) = False := eq_false (Nat.not_lt.2 c40)
                        try (have c40b3 := c40; simp at c40b3)
                        try have c40b4 := eq_false (Nat.not_lt.2 c40b3)
                        have c42b0 := eq_true (of_decide_eq_true (by first | (with_reducible assumption) | assumption) : 0 ≤ (ji4))
                        have c43b0 := eq_true (of_decide_eq_true (by first | (with_reducible assumption) | assumption) : (ji4) ≤ (x0_1.size : Int))
                        have H' := Aside0.mk H
                        clear H
                        go_wp2_with (first | ((with_reducible refine gate_callee (f := 32) rfl ?_); refine goesL_ (some 11) rfl rfl Tryd.func32 (by kernel_rfl) rfl #[.string x0_1] rfl (by (try simp only [List.map_toArray, List.map_cons, List.map_nil]); first | done | rfl | (simp only [List.length_drop, List.length_take]; rfl)) ?_; (with_reducible refine (wicketmanref06_One.calls k1 x0_1 t101 t102 _ A3.out).mono ?_); rintro e w44 ⟨rfl, hb⟩; refine ⟨_, rfl, ?_⟩; have n0_ := Aside0.mk (below_step (by repeat (first | (with_reducible first | exact HB.out | apply below_alloc | apply pw_below_drewN | apply below_drew1) | exact HB.out)) hb); clear HB; have HB := n0_; clear n0_; (try clear hb); (try clear hb2); (try clear hk); (try clear hi); have p8 : 0 ≤ (0 : Int) := (by omega); have q8 : 0 < x0_1.size := (by have : (0 : Int) < (x0_1.size : Int) := of_decide_eq_true (by first | (with_reducible assumption) | assumption); omega); have hx8 : ∀ h : 0 < x0_1.size, ((x0_1[0]'h).toNat : Int) = bt x0_1 0 := bt_at x0_1 0; clear p8; have qi8 : (0 < (x0_1.size : Int)) = True := eq_true (of_decide_eq_true (by first | (with_reducible assumption) | assumption)); replace q8 := eq_true q8))
                        go_roundg k1
                        case measure => have := HK1.out; omega
                        case rel => exact ⟨(x0_1.extract ((ji4) : Int).toNat x0_1.size), (x3_1 ++ (⟨#[38, 103, 116, 59]⟩ : ByteArray)), (by first | rfl | (simp; done) | (simp only [← hji4] <;> (first | rfl | simp)) | (simp [*]; done)), (by first | rfl | (simp; done) | (simp [*]; done)), H', ⟨by have := HK1.out; omega⟩, ⟨by repeat (first | (with_reducible first | exact HB.out | apply below_alloc | apply pw_below_drewN | apply below_drew1) | exact HB.out)⟩⟩
                      · rw [if_neg c40] at H
                        exact absurd H (by simp)
                  · rw [if_neg c33] at H
                    have c33b0 : ((bt x0_1 0) == 62) = false := beq_eq_false_iff_ne.mpr c33
                    have c33b1 : ((bt x0_1 0) != 62) = true := bne_iff_ne.mpr c33
                    by_cases c45 : (bt x0_1 0) = 34
                    · rw [if_pos c45] at H
                      have c45b0 : ((bt x0_1 0) == 34) = true := beq_iff_eq.mpr c45
                      have c45b1 : ((bt x0_1 0) != 34) = false := bne_eq_false_iff_eq.mpr c45
                      clear c45
                      by_cases c46 : t102 = 0
                      · rw [if_pos c46] at H
                        have c46b0 : (t102 == 0) = true := beq_iff_eq.mpr c46
                        have c46b1 : (t102 != 0) = false := bne_eq_false_iff_eq.mpr c46
                        clear c46
                        by_cases c47 : x3_1.size + 1 ≤ 9223372036854775807
                        · rw [if_pos c47] at H
                          have c47b0 := eq_true c47
                          have c47b1 : decide (x3_1.size + 1 ≤ 9223372036854775807) = true := decide_eq_true c47
                          try have c47b2 : (9223372036854775807 < x3_1.size + 1) = False := eq_false (Nat.not_lt.2 c47)
                          try (have c47b3 := c47; simp at c47b3)
                          try have c47b4 := eq_false (Nat.not_lt.2 c47b3)
                          have c49b0 := eq_true (of_decide_eq_true (by first | (with_reducible assumption) | assumption) : 0 ≤ (ji4))
                          have c50b0 := eq_true (of_decide_eq_true (by first | (with_reducible assumption) | assumption) : (ji4) ≤ (x0_1.size : Int))
                          have H' := Aside0.mk H
                          clear H
                          go_wp2_with (first | ((with_reducible refine gate_callee (f := 32) rfl ?_); refine goesL_ (some 11) rfl rfl Tryd.func32 (by kernel_rfl) rfl #[.string x0_1] rfl (by (try simp only [List.map_toArray, List.map_cons, List.map_nil]); first | done | rfl | (simp only [List.length_drop, List.length_take]; rfl)) ?_; (with_reducible refine (wicketmanref06_One.calls k1 x0_1 t101 t102 _ A3.out).mono ?_); rintro e w51 ⟨rfl, hb⟩; refine ⟨_, rfl, ?_⟩; have n0_ := Aside0.mk (below_step (by repeat (first | (with_reducible first | exact HB.out | apply below_alloc | apply pw_below_drewN | apply below_drew1) | exact HB.out)) hb); clear HB; have HB := n0_; clear n0_; (try clear hb); (try clear hb2); (try clear hk); (try clear hi); have p8 : 0 ≤ (0 : Int) := (by omega); have q8 : 0 < x0_1.size := (by have : (0 : Int) < (x0_1.size : Int) := of_decide_eq_true (by first | (with_reducible assumption) | assumption); omega); have hx8 : ∀ h : 0 < x0_1.size, ((x0_1[0]'h).toNat : Int) = bt x0_1 0 := bt_at x0_1 0; clear p8; have qi8 : (0 < (x0_1.size : Int)) = True := eq_true (of_decide_eq_true (by first | (with_reducible assumption) | assumption)); replace q8 := eq_true q8))
                          go_roundg k1
                          case measure => have := HK1.out; omega
                          case rel => exact ⟨(x0_1.extract ((ji4) : Int).toNat x0_1.size), (x3_1 ++ (⟨#[63]⟩ : ByteArray)), (by first | rfl | (simp; done) | (simp only [← hji4] <;> (first | rfl | simp)) | (simp [*]; done)), (by first | rfl | (simp; done) | (simp [*]; done)), H', ⟨by have := HK1.out; omega⟩, ⟨by repeat (first | (with_reducible first | exact HB.out | apply below_alloc | apply pw_below_drewN | apply below_drew1) | exact HB.out)⟩⟩
                        · rw [if_neg c47] at H
                          exact absurd H (by simp)
                      · rw [if_neg c46] at H
                        have c46b0 : (t102 == 0) = false := beq_eq_false_iff_ne.mpr c46
                        have c46b1 : (t102 != 0) = true := bne_iff_ne.mpr c46
                        by_cases c52 : x3_1.size + 5 ≤ 9223372036854775807
                        · rw [if_pos c52] at H
                          have c52b0 := eq_true c52
                          have c52b1 : decide (x3_1.size + 5 ≤ 9223372036854775807) = true := decide_eq_true c52
                          try have c52b2 : (9223372036854775807 < x3_1.size + 5) = False := eq_false (Nat.not_lt.2 c52)
                          try (have c52b3 := c52; simp at c52b3)
                          try have c52b4 := eq_false (Nat.not_lt.2 c52b3)
                          have c54b0 := eq_true (of_decide_eq_true (by first | (with_reducible assumption) | assumption) : 0 ≤ (ji4))
                          have c55b0 := eq_true (of_decide_eq_true (by first | (with_reducible assumption) | assumption) : (ji4) ≤ (x0_1.size : Int))
                          have H' := Aside0.mk H
                          clear H
                          go_wp2_with (first | ((with_reducible refine gate_callee (f := 32) rfl ?_); refine goesL_ (some 11) rfl rfl Tryd.func32 (by kernel_rfl) rfl #[.string x0_1] rfl (by (try simp only [List.map_toArray, List.map_cons, List.map_nil]); first | done | rfl | (simp only [List.length_drop, List.length_take]; rfl)) ?_; (with_reducible refine (wicketmanref06_One.calls k1 x0_1 t101 t102 _ A3.out).mono ?_); rintro e w56 ⟨rfl, hb⟩; refine ⟨_, rfl, ?_⟩; have n0_ := Aside0.mk (below_step (by repeat (first | (with_reducible first | exact HB.out | apply below_alloc | apply pw_below_drewN | apply below_drew1) | exact HB.out)) hb); clear HB; have HB := n0_; clear n0_; (try clear hb); (try clear hb2); (try clear hk); (try clear hi); have p8 : 0 ≤ (0 : Int) := (by omega); have q8 : 0 < x0_1.size := (by have : (0 : Int) < (x0_1.size : Int) := of_decide_eq_true (by first | (with_reducible assumption) | assumption); omega); have hx8 : ∀ h : 0 < x0_1.size, ((x0_1[0]'h).toNat : Int) = bt x0_1 0 := bt_at x0_1 0; clear p8; have qi8 : (0 < (x0_1.size : Int)) = True := eq_true (of_decide_eq_true (by first | (with_reducible assumption) | assumption)); replace q8 := eq_true q8))
                          go_roundg k1
                          case measure => have := HK1.out; omega
                          case rel => exact ⟨(x0_1.extract ((ji4) : Int).toNat x0_1.size), (x3_1 ++ (⟨#[38, 35, 51, 52, 59]⟩ : ByteArray)), (by first | rfl | (simp; done) | (simp only [← hji4] <;> (first | rfl | simp)) | (simp [*]; done)), (by first | rfl | (simp; done) | (simp [*]; done)), H', ⟨by have := HK1.out; omega⟩, ⟨by repeat (first | (with_reducible first | exact HB.out | apply below_alloc | apply pw_below_drewN | apply below_drew1) | exact HB.out)⟩⟩
                        · rw [if_neg c52] at H
                          exact absurd H (by simp)
                    · rw [if_neg c45] at H
                      have c45b0 : ((bt x0_1 0) == 34) = false := beq_eq_false_iff_ne.mpr c45
                      have c45b1 : ((bt x0_1 0) != 34) = true := bne_iff_ne.mpr c45
                      by_cases c57 : (bt x0_1 0) = 39
                      · rw [if_pos c57] at H
                        have c57b0 : ((bt x0_1 0) == 39) = true := beq_iff_eq.mpr c57
                        have c57b1 : ((bt x0_1 0) != 39) = false := bne_eq_false_iff_eq.mpr c57
                        clear c57
                        by_cases c58 : t102 = 0
                        · rw [if_pos c58] at H
                          have c58b0 : (t102 == 0) = true := beq_iff_eq.mpr c58
                          have c58b1 : (t102 != 0) = false := bne_eq_false_iff_eq.mpr c58
                          clear c58
                          by_cases c59 : x3_1.size + 1 ≤ 9223372036854775807
                          · rw [if_pos c59] at H
                            have c59b0 := eq_true c59
                            have c59b1 : decide (x3_1.size + 1 ≤ 9223372036854775807) = true := decide_eq_true c59
                            try have c59b2 : (9223372036854775807 < x3_1.size + 1) = False := eq_false (Nat.not_lt.2 c59)
                            try (have c59b3 := c59; simp at c59b3)
                            try have c59b4 := eq_false (Nat.not_lt.2 c59b3)
                            have c61b0 := eq_true (of_decide_eq_true (by first | (with_reducible assumption) | assumption) : 0 ≤ (ji4))
                            have c62b0 := eq_true (of_decide_eq_true (by first | (with_reducible assumption) | assumption) : (ji4) ≤ (x0_1.size : Int))
                            have H' := Aside0.mk H
                            clear H
                            go_wp2_with (first | ((with_reducible refine gate_callee (f := 32) rfl ?_); refine goesL_ (some 11) rfl rfl Tryd.func32 (by kernel_rfl) rfl #[.string x0_1] rfl (by (try simp only [List.map_toArray, List.map_cons, List.map_nil]); first | done | rfl | (simp only [List.length_drop, List.length_take]; rfl)) ?_; (with_reducible refine (wicketmanref06_One.calls k1 x0_1 t101 t102 _ A3.out).mono ?_); rintro e w63 ⟨rfl, hb⟩; refine ⟨_, rfl, ?_⟩; have n0_ := Aside0.mk (below_step (by repeat (first | (with_reducible first | exact HB.out | apply below_alloc | apply pw_below_drewN | apply below_drew1) | exact HB.out)) hb); clear HB; have HB := n0_; clear n0_; (try clear hb); (try clear hb2); (try clear hk); (try clear hi); have p8 : 0 ≤ (0 : Int) := (by omega); have q8 : 0 < x0_1.size := (by have : (0 : Int) < (x0_1.size : Int) := of_decide_eq_true (by first | (with_reducible assumption) | assumption); omega); have hx8 : ∀ h : 0 < x0_1.size, ((x0_1[0]'h).toNat : Int) = bt x0_1 0 := bt_at x0_1 0; clear p8; have qi8 : (0 < (x0_1.size : Int)) = True := eq_true (of_decide_eq_true (by first | (with_reducible assumption) | assumption)); replace q8 := eq_true q8))
                            go_roundg k1
                            case measure => have := HK1.out; omega
                            case rel => exact ⟨(x0_1.extract ((ji4) : Int).toNat x0_1.size), (x3_1 ++ (⟨#[63]⟩ : ByteArray)), (by first | rfl | (simp; done) | (simp only [← hji4] <;> (first | rfl | simp)) | (simp [*]; done)), (by first | rfl | (simp; done) | (simp [*]; done)), H', ⟨by have := HK1.out; omega⟩, ⟨by repeat (first | (with_reducible first | exact HB.out | apply below_alloc | apply pw_below_drewN | apply below_drew1) | exact HB.out)⟩⟩
                          · rw [if_neg c59] at H
                            exact absurd H (by simp)
                        · rw [if_neg c58] at H
                          have c58b0 : (t102 == 0) = false := beq_eq_false_iff_ne.mpr c58
                          have c58b1 : (t102 != 0) = true := bne_iff_ne.mpr c58
                          by_cases c64 : x3_1.size + 5 ≤ 9223372036854775807
                          · rw [if_pos c64] at H
                            have c64b0 := eq_true c64
                            have c64b1 : decide (x3_1.size + 5 ≤ 9223372036854775807) = true := decide_eq_true c64
                            try have c64b2 : (9223372036854775807 < x3_1.size + 5) = False := eq_false (Nat.not_lt.2 c64)
                            try (have c64b3 := c64; simp at c64b3)
                            try have c64b4 := eq_false (Nat.not_lt.2 c64b3)
                            have c66b0 := eq_true (of_decide_eq_true (by first | (with_reducible assumption) | assumption) : 0 ≤ (ji4))
                            have c67b0 := eq_true (of_decide_eq_true (by first | (with_reducible assumption) | assumption) : (ji4) ≤ (x0_1.size : Int))
                            have H' := Aside0.mk H
                            clear H
                            go_wp2_with (first | ((with_reducible refine gate_callee (f := 32) rfl ?_); refine goesL_ (some 11) rfl rfl Tryd.func32 (by kernel_rfl) rfl #[.string x0_1] rfl (by (try simp only [List.map_toArray, List.map_cons, List.map_nil]); first | done | rfl | (simp only [List.length_drop, List.length_take]; rfl)) ?_; (with_reducible refine (wicketmanref06_One.calls k1 x0_1 t101 t102 _ A3.out).mono ?_); rintro e w68 ⟨rfl, hb⟩; refine ⟨_, rfl, ?_⟩; have n0_ := Aside0.mk (below_step (by repeat (first | (with_reducible first | exact HB.out | apply below_alloc | apply pw_below_drewN | apply below_drew1) | exact HB.out)) hb); clear HB; have HB := n0_; clear n0_; (try clear hb); (try clear hb2); (try clear hk); (try clear hi); have p8 : 0 ≤ (0 : Int) := (by omega); have q8 : 0 < x0_1.size := (by have : (0 : Int) < (x0_1.size : Int) := of_decide_eq_true (by first | (with_reducible assumption) | assumption); omega); have hx8 : ∀ h : 0 < x0_1.size, ((x0_1[0]'h).toNat : Int) = bt x0_1 0 := bt_at x0_1 0; clear p8; have qi8 : (0 < (x0_1.size : Int)) = True := eq_true (of_decide_eq_true (by first | (with_reducible assumption) | assumption)); replace q8 := eq_true q8))
                            go_roundg k1
                            case measure => have := HK1.out; omega
                            case rel => exact ⟨(x0_1.extract ((ji4) : Int).toNat x0_1.size), (x3_1 ++ (⟨#[38, 35, 51, 57, 59]⟩ : ByteArray)), (by first | rfl | (simp; done) | (simp only [← hji4] <;> (first | rfl | simp)) | (simp [*]; done)), (by first | rfl | (simp; done) | (simp [*]; done)), H', ⟨by have := HK1.out; omega⟩, ⟨by repeat (first | (with_reducible first | exact HB.out | apply below_alloc | apply pw_below_drewN | apply below_drew1) | exact HB.out)⟩⟩
                          · rw [if_neg c64] at H
                            exact absurd H (by simp)
                      · rw [if_neg c57] at H
                        have c57b0 : ((bt x0_1 0) == 39) = false := beq_eq_false_iff_ne.mpr c57
                        have c57b1 : ((bt x0_1 0) != 39) = true := bne_iff_ne.mpr c57
                        by_cases c69 : t102 = 0
                        · rw [if_pos c69] at H
                          have c69b0 : (t102 == 0) = true := beq_iff_eq.mpr c69
                          have c69b1 : (t102 != 0) = false := bne_eq_false_iff_eq.mpr c69
                          clear c69
                          by_cases c70 : x3_1.size + 1 ≤ 9223372036854775807
                          · rw [if_pos c70] at H
                            have c70b0 := eq_true c70
                            have c70b1 : decide (x3_1.size + 1 ≤ 9223372036854775807) = true := decide_eq_true c70
                            try have c70b2 : (9223372036854775807 < x3_1.size + 1) = False := eq_false (Nat.not_lt.2 c70)
                            try (have c70b3 := c70; simp at c70b3)
                            try have c70b4 := eq_false (Nat.not_lt.2 c70b3)
                            have c72b0 := eq_true (of_decide_eq_true (by first | (with_reducible assumption) | assumption) : 0 ≤ (ji4))
                            have c73b0 := eq_true (of_decide_eq_true (by first | (with_reducible assumption) | assumption) : (ji4) ≤ (x0_1.size : Int))
                            have H' := Aside0.mk H
                            clear H
                            go_wp2_with (first | ((with_reducible refine gate_callee (f := 32) rfl ?_); refine goesL_ (some 11) rfl rfl Tryd.func32 (by kernel_rfl) rfl #[.string x0_1] rfl (by (try simp only [List.map_toArray, List.map_cons, List.map_nil]); first | done | rfl | (simp only [List.length_drop, List.length_take]; rfl)) ?_; (with_reducible refine (wicketmanref06_One.calls k1 x0_1 t101 t102 _ A3.out).mono ?_); rintro e w74 ⟨rfl, hb⟩; refine ⟨_, rfl, ?_⟩; have n0_ := Aside0.mk (below_step (by repeat (first | (with_reducible first | exact HB.out | apply below_alloc | apply pw_below_drewN | apply below_drew1) | exact HB.out)) hb); clear HB; have HB := n0_; clear n0_; (try clear hb); (try clear hb2); (try clear hk); (try clear hi); have p8 : 0 ≤ (0 : Int) := (by omega); have q8 : 0 < x0_1.size := (by have : (0 : Int) < (x0_1.size : Int) := of_decide_eq_true (by first | (with_reducible assumption) | assumption); omega); have hx8 : ∀ h : 0 < x0_1.size, ((x0_1[0]'h).toNat : Int) = bt x0_1 0 := bt_at x0_1 0; clear p8; have qi8 : (0 < (x0_1.size : Int)) = True := eq_true (of_decide_eq_true (by first | (with_reducible assumption) | assumption)); replace q8 := eq_true q8))
                            go_roundg k1
                            case measure => have := HK1.out; omega
                            case rel => exact ⟨(x0_1.extract ((ji4) : Int).toNat x0_1.size), (x3_1 ++ (⟨#[63]⟩ : ByteArray)), (by first | rfl | (simp; done) | (simp only [← hji4] <;> (first | rfl | simp)) | (simp [*]; done)), (by first | rfl | (simp; done) | (simp [*]; done)), H', ⟨by have := HK1.out; omega⟩, ⟨by repeat (first | (with_reducible first | exact HB.out | apply below_alloc | apply pw_below_drewN | apply below_drew1) | exact HB.out)⟩⟩
                          · rw [if_neg c70] at H
                            exact absurd H (by simp)
                        · rw [if_neg c69] at H
                          have c69b0 : (t102 == 0) = false := beq_eq_false_iff_ne.mpr c69
                          have c69b1 : (t102 != 0) = true := bne_iff_ne.mpr c69
                          by_cases c75 : x3_1.size + (x0_1.extract 0 ((ji4) : Int).toNat).size ≤ 9223372036854775807
                          · rw [if_pos c75] at H
                            have c75b0 := eq_true c75
                            have c75b1 : decide (x3_1.size + (x0_1.extract 0 ((ji4) : Int).toNat).size ≤ 9223372036854775807) = true := decide_eq_true c75
                            try have c75b2 : (9223372036854775807 < x3_1.size + (x0_1.extract 0 ((ji4) : Int).toNat).size) = False := eq_false (Nat.not_lt.2 c75)
                            try (have c75b3 := c75; simp at c75b3; (try rw [Nat.min_eq_left (by (have z_ := of_decide_eq_true (show decide (ji4 ≤ (x0_1.size : Int)) = true by assumption)); omega)] at c75b3))
                            try have c75b4 := eq_false (Nat.not_lt.2 c75b3)
                            have c77b0 := eq_true (of_decide_eq_true (by first | (with_reducible assumption) | assumption) : 0 ≤ (ji4))
                            have c78b0 := eq_true (of_decide_eq_true (by first | (with_reducible assumption) | assumption) : (ji4) ≤ (x0_1.size : Int))
                            have H' := Aside0.mk H
                            clear H
                            go_wp2_with (first | ((with_reducible refine gate_callee (f := 32) rfl ?_); refine goesL_ (some 11) rfl rfl Tryd.func32 (by kernel_rfl) rfl #[.string x0_1] rfl (by (try simp only [List.map_toArray, List.map_cons, List.map_nil]); first | done | rfl | (simp only [List.length_drop, List.length_take]; rfl)) ?_; (with_reducible refine (wicketmanref06_One.calls k1 x0_1 t101 t102 _ A3.out).mono ?_); rintro e w79 ⟨rfl, hb⟩; refine ⟨_, rfl, ?_⟩; have n0_ := Aside0.mk (below_step (by repeat (first | (with_reducible first | exact HB.out | apply below_alloc | apply pw_below_drewN | apply below_drew1) | exact HB.out)) hb); clear HB; have HB := n0_; clear n0_; (try clear hb); (try clear hb2); (try clear hk); (try clear hi); have p8 : 0 ≤ (0 : Int) := (by omega); have q8 : 0 < x0_1.size := (by have : (0 : Int) < (x0_1.size : Int) := of_decide_eq_true (by first | (with_reducible assumption) | assumption); omega); have hx8 : ∀ h : 0 < x0_1.size, ((x0_1[0]'h).toNat : Int) = bt x0_1 0 := bt_at x0_1 0; clear p8; have qi8 : (0 < (x0_1.size : Int)) = True := eq_true (of_decide_eq_true (by first | (with_reducible assumption) | assumption)); replace q8 := eq_true q8))
                            go_roundg k1
                            case measure => have := HK1.out; omega
                            case rel => exact ⟨(x0_1.extract ((ji4) : Int).toNat x0_1.size), (x3_1 ++ (x0_1.extract 0 ((ji4) : Int).toNat)), (by first | rfl | (simp; done) | (simp only [← hji4] <;> (first | rfl | simp)) | (simp [*]; done)), (by first | rfl | (simp; done) | (simp only [← hji4] <;> (first | rfl | simp)) | (simp [*]; done)), H', ⟨by have := HK1.out; omega⟩, ⟨by repeat (first | (with_reducible first | exact HB.out | apply below_alloc | apply pw_below_drewN | apply below_drew1) | exact HB.out)⟩⟩
                          · rw [if_neg c75] at H
                            exact absurd H (by simp)
            · rw [if_neg c7] at H
              exact absurd H (by simp)
          · rw [if_neg c6] at H
            exact absurd H (by simp)
        · rw [if_neg c5] at H
          exact absurd H (by simp)

end Go.Proofs.YtlehjehnapjioaaDoor.Pr
