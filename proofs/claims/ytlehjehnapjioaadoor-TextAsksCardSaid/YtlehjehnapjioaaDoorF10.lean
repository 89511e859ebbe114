-- Written for this claim by wip/myprint.py, this session's driver over the kit's print.py. Not trusted: Lean checks it.
import Derived.Test.YtlehjehnapjioaaDoorF
namespace Go.Proofs.YtlehjehnapjioaaDoor.Pr
open Go.RowKit Go.Proofs.YtlehjehnapjioaaDoorW.PrintWords Go.Proofs.YtlehjehnapjioaaDoorW.PrintLast Go.Proofs.YtlehjehnapjioaaDoorW.PrintMore Go.Proofs.YtlehjehnapjioaaDoor.E
attribute [local go_sem] max2_int min2_int max_two min_two max_three min_three max_four min_four   -- for this text's walks alone
set_option linter.unusedVariables false
set_option linter.unusedSimpArgs false

/-! ### wicketmanlaw06_Text: function 10 -/
def wicketmanlaw06_Text.l0 : Nat → List Int → List ByteArray → ByteArray → Int → Option (ByteArray)
  | 0, _, _, _, _ => none
  | k + 1, x0, x3, x4, x5 => if x5 < (x0.length : Int) then (if x5 < 60 then (if 0 ≤ x5 then (if (x3.length : Int) = 0 then (none) else (if 0 ≤ (Int.tmod (wrap64 (rd x0 x5)) (x3.length : Int)) then (if (Int.tmod (wrap64 (rd x0 x5)) (x3.length : Int)) < (x3.length : Int) then (if x4.size + (rdOf ByteArray.empty x3 (Int.tmod (wrap64 (rd x0 x5)) (x3.length : Int))).size ≤ 9223372036854775807 then (wicketmanlaw06_Text.l0 k x0 x3 (x4 ++ (rdOf ByteArray.empty x3 (Int.tmod (wrap64 (rd x0 x5)) (x3.length : Int)))) (wrap64 (x5 + 1))) else (none)) else (none)) else (none))) else (none)) else (some x4)) else (some x4)
def wicketmanlaw06_Text.f (k : Nat) (l0 : List Int) : Option (ByteArray) := wicketmanlaw06_Text.l0 k l0 (([(⟨#[97]⟩ : ByteArray), (⟨#[98]⟩ : ByteArray), (⟨#[122]⟩ : ByteArray), (⟨#[95]⟩ : ByteArray), (⟨#[48]⟩ : ByteArray), (⟨#[55]⟩ : ByteArray), (⟨#[32]⟩ : ByteArray), (⟨#[10]⟩ : ByteArray), (⟨#[195, 169]⟩ : ByteArray), (⟨#[226, 130, 172]⟩ : ByteArray), (⟨#[240, 159, 152, 128]⟩ : ByteArray), (⟨#[38]⟩ : ByteArray), (⟨#[60]⟩ : ByteArray), (⟨#[62]⟩ : ByteArray), (⟨#[34]⟩ : ByteArray), (⟨#[39]⟩ : ByteArray), (⟨#[255]⟩ : ByteArray), (⟨#[195]⟩ : ByteArray), (⟨#[127]⟩ : ByteArray), (⟨#[237, 160, 128]⟩ : ByteArray), (⟨#[192, 128]⟩ : ByteArray), (⟨#[239, 191, 189]⟩ : ByteArray), (⟨#[65]⟩ : ByteArray), (⟨#[61]⟩ : ByteArray)] : List ByteArray)) (⟨#[]⟩ : ByteArray) 0
theorem wicketmanlaw06_Text.mono_l : ∀ k, (∀ y0 y1 y2 y3, LeO (wicketmanlaw06_Text.l0 k y0 y1 y2 y3) (wicketmanlaw06_Text.l0 (k + 1) y0 y1 y2 y3))
  | 0 => fun _ _ _ _ r h => by simp [wicketmanlaw06_Text.l0] at h
  | k + 1 => by
    have ih0 := wicketmanlaw06_Text.mono_l k
    · intro y0 y1 y2 y3
      unfold wicketmanlaw06_Text.l0
      repeat' first
      | (with_reducible exact ih0 _ _ _ _)
      | (with_reducible exact LeO.refl _)
      | (with_reducible exact LeO.none _)
      | (with_reducible refine LeO.ite ?_ ?_)
      | (with_reducible refine LeO.bind ?_ (fun _ => ?_))
      | exact ih0 _ _ _ _
      | exact LeO.none _
      | refine LeO.ite ?_ ?_
      | refine LeO.bind ?_ (fun _ => ?_)
theorem wicketmanlaw06_Text.mono : ∀ a0 k, LeO (wicketmanlaw06_Text.f k a0) (wicketmanlaw06_Text.f (k + 1) a0) := by
  intro a0 k
  have ih0 := wicketmanlaw06_Text.mono_l k
  unfold wicketmanlaw06_Text.f
  repeat' first
      | (with_reducible exact ih0 _ _ _ _)
      | (with_reducible exact LeO.refl _)
      | (with_reducible exact LeO.none _)
      | (with_reducible refine LeO.ite ?_ ?_)
      | (with_reducible refine LeO.bind ?_ (fun _ => ?_))
      | exact ih0 _ _ _ _
      | exact LeO.none _
      | refine LeO.ite ?_ ?_
      | refine LeO.bind ?_ (fun _ => ?_)
set_option maxHeartbeats 8000000 in
set_option maxRecDepth 1000000 in
theorem wicketmanlaw06_Text.calls (k : Nat) (A0 : Option Addr) (c0 : Nat) (l0 : List Int) (r : ByteArray) (w : World) (hr0 : Kd.C (Kd.int .u8) w A0 l0.length l0) (hc0 : l0.length ≤ c0) (h : wicketmanlaw06_Text.f k l0 = some r) :
    Calls Tryd.prog 10 #[.slice A0 l0.length c0] w fun e w' => e = .returned (.string r) ∧ Below w.heap.size w w' := by
  have HR0 := Aside0.mk hr0
  have HC0 := Aside0.mk hc0
  clear hr0 hc0
  have HB := Aside0.mk (Below.refl w.heap.size w)
  have H : (wicketmanlaw06_Text.l0 k l0 (([(⟨#[97]⟩ : ByteArray), (⟨#[98]⟩ : ByteArray), (⟨#[122]⟩ : ByteArray), (⟨#[95]⟩ : ByteArray), (⟨#[48]⟩ : ByteArray), (⟨#[55]⟩ : ByteArray), (⟨#[32]⟩ : ByteArray), (⟨#[10]⟩ : ByteArray), (⟨#[195, 169]⟩ : ByteArray), (⟨#[226, 130, 172]⟩ : ByteArray), (⟨#[240, 159, 152, 128]⟩ : ByteArray), (⟨#[38]⟩ : ByteArray), (⟨#[60]⟩ : ByteArray), (⟨#[62]⟩ : ByteArray), (⟨#[34]⟩ : ByteArray), (⟨#[39]⟩ : ByteArray), (⟨#[255]⟩ : ByteArray), (⟨#[195]⟩ : ByteArray), (⟨#[127]⟩ : ByteArray), (⟨#[237, 160, 128]⟩ : ByteArray), (⟨#[192, 128]⟩ : ByteArray), (⟨#[239, 191, 189]⟩ : ByteArray), (⟨#[65]⟩ : ByteArray), (⟨#[61]⟩ : ByteArray)] : List ByteArray)) (⟨#[]⟩ : ByteArray) 0) = some r := h
  clear h
  obtain ⟨y101, hy101⟩ : ∃ y_ : List ByteArray, y_ = (([(⟨#[97]⟩ : ByteArray), (⟨#[98]⟩ : ByteArray), (⟨#[122]⟩ : ByteArray), (⟨#[95]⟩ : ByteArray), (⟨#[48]⟩ : ByteArray), (⟨#[55]⟩ : ByteArray), (⟨#[32]⟩ : ByteArray), (⟨#[10]⟩ : ByteArray), (⟨#[195, 169]⟩ : ByteArray), (⟨#[226, 130, 172]⟩ : ByteArray), (⟨#[240, 159, 152, 128]⟩ : ByteArray), (⟨#[38]⟩ : ByteArray), (⟨#[60]⟩ : ByteArray), (⟨#[62]⟩ : ByteArray), (⟨#[34]⟩ : ByteArray), (⟨#[39]⟩ : ByteArray), (⟨#[255]⟩ : ByteArray), (⟨#[195]⟩ : ByteArray), (⟨#[127]⟩ : ByteArray), (⟨#[237, 160, 128]⟩ : ByteArray), (⟨#[192, 128]⟩ : ByteArray), (⟨#[239, 191, 189]⟩ : ByteArray), (⟨#[65]⟩ : ByteArray), (⟨#[61]⟩ : ByteArray)] : List ByteArray)) := ⟨_, rfl⟩
  replace H : (wicketmanlaw06_Text.l0 k l0 y101 (⟨#[]⟩ : ByteArray) 0) = some r := by first | (rw [hy101]; with_reducible exact H) | (have H2_ := (Option.bind_some _ _).symm.trans H; rw [hy101]; with_reducible exact H2_) | (have H2_ := (Option.bind_some _ _).symm.trans H; with_reducible exact H2_) | with_reducible exact H | (rw [hy101]; exact H) | exact H
  have Ny101 := Aside0.mk hy101
  clear hy101
  have H' := Aside0.mk H
  clear H
  go_enter Tryd.func10, Tryd.ntmps10
  go_wp2_with (first | ((with_reducible refine gate_dst (N := 6) rfl ?_); refine Kd.R_lit Kd.string _ 9 ?hg (N := 6) ?hd (xs := ([(⟨#[97]⟩ : ByteArray), (⟨#[98]⟩ : ByteArray), (⟨#[122]⟩ : ByteArray), (⟨#[95]⟩ : ByteArray), (⟨#[48]⟩ : ByteArray), (⟨#[55]⟩ : ByteArray), (⟨#[32]⟩ : ByteArray), (⟨#[10]⟩ : ByteArray), (⟨#[195, 169]⟩ : ByteArray), (⟨#[226, 130, 172]⟩ : ByteArray), (⟨#[240, 159, 152, 128]⟩ : ByteArray), (⟨#[38]⟩ : ByteArray), (⟨#[60]⟩ : ByteArray), (⟨#[62]⟩ : ByteArray), (⟨#[34]⟩ : ByteArray), (⟨#[39]⟩ : ByteArray), (⟨#[255]⟩ : ByteArray), (⟨#[195]⟩ : ByteArray), (⟨#[127]⟩ : ByteArray), (⟨#[237, 160, 128]⟩ : ByteArray), (⟨#[192, 128]⟩ : ByteArray), (⟨#[239, 191, 189]⟩ : ByteArray), (⟨#[65]⟩ : ByteArray), (⟨#[61]⟩ : ByteArray)] : List ByteArray)) (inner := [.string (⟨#[97]⟩ : ByteArray), .string (⟨#[98]⟩ : ByteArray), .string (⟨#[122]⟩ : ByteArray), .string (⟨#[95]⟩ : ByteArray), .string (⟨#[48]⟩ : ByteArray), .string (⟨#[55]⟩ : ByteArray), .string (⟨#[32]⟩ : ByteArray), .string (⟨#[10]⟩ : ByteArray), .string (⟨#[195, 169]⟩ : ByteArray), .string (⟨#[226, 130, 172]⟩ : ByteArray), .string (⟨#[240, 159, 152, 128]⟩ : ByteArray), .string (⟨#[38]⟩ : ByteArray), .string (⟨#[60]⟩ : ByteArray), .string (⟨#[62]⟩ : ByteArray), .string (⟨#[34]⟩ : ByteArray), .string (⟨#[39]⟩ : ByteArray), .string (⟨#[255]⟩ : ByteArray), .string (⟨#[195]⟩ : ByteArray), .string (⟨#[127]⟩ : ByteArray), .string (⟨#[237, 160, 128]⟩ : ByteArray), .string (⟨#[192, 128]⟩ : ByteArray), .string (⟨#[239, 191, 189]⟩ : ByteArray), .string (⟨#[65]⟩ : ByteArray), .string (⟨#[61]⟩ : ByteArray)]) (ok := fun _ => True) (okp := fun _ => True) ?hr ?hp (fun _ hk => hk) trivial (Below.refl _ _) (Nat.le_refl _) (by simp) ?_; (case hd => rfl); (case hg => rfl); (case hr => first | (go_simp; done) | (go_simp; rfl)); (case hp => exact (Reps.one (show Kd.M Kd.string _ _ _ (⟨#[97]⟩ : ByteArray) [.string (⟨#[97]⟩ : ByteArray)] from rfl) (Reps.one (show Kd.M Kd.string _ _ _ (⟨#[98]⟩ : ByteArray) [.string (⟨#[98]⟩ : ByteArray)] from rfl) (Reps.one (show Kd.M Kd.string _ _ _ (⟨#[122]⟩ : ByteArray) [.string (⟨#[122]⟩ : ByteArray)] from rfl) (Reps.one (show Kd.M Kd.string _ _ _ (⟨#[95]⟩ : ByteArray) [.string (⟨#[95]⟩ : ByteArray)] from rfl) (Reps.one (show Kd.M Kd.string _ _ _ (⟨#[48]⟩ : ByteArray) [.string (⟨#[48]⟩ : ByteArray)] from rfl) (Reps.one (show Kd.M Kd.string _ _ _ (⟨#[55]⟩ : ByteArray) [.string (⟨#[55]⟩ : ByteArray)] from rfl) (Reps.one (show Kd.M Kd.string _ _ _ (⟨#[32]⟩ : ByteArray) [.string (⟨#[32]⟩ : ByteArray)] from rfl) (Reps.one (show Kd.M Kd.string _ _ _ (⟨#[10]⟩ : ByteArray) [.string (⟨#[10]⟩ : ByteArray)] from rfl) (Reps.one (show Kd.M Kd.string _ _ _ (⟨#[195, 169]⟩ : ByteArray) [.string (⟨#[195, 169]⟩ : ByteArray)] from rfl) (Reps.one (show Kd.M Kd.string _ _ _ (⟨#[226, 130, 172]⟩ : ByteArray) [.string (⟨#[226, 130, 172]⟩ : ByteArray)] from rfl) (Reps.one (show Kd.M Kd.string _ _ _ (⟨#[240, 159, 152, 128]⟩ : ByteArray) [.string (⟨#[240, 159, 152, 128]⟩ : ByteArray)] from rfl) (Reps.one (show Kd.M Kd.string _ _ _ (⟨#[38]⟩ : ByteArray) [.string (⟨#[38]⟩ : ByteArray)] from rfl) (Reps.one (show Kd.M Kd.string _ _ _ (⟨#[60]⟩ : ByteArray) [.string (⟨#[60]⟩ : ByteArray)] from rfl) (Reps.one (show Kd.M Kd.string _ _ _ (⟨#[62]⟩ : ByteArray) [.string (⟨#[62]⟩ : ByteArray)] from rfl) (Reps.one (show Kd.M Kd.string _ _ _ (⟨#[34]⟩ : ByteArray) [.string (⟨#[34]⟩ : ByteArray)] from rfl) (Reps.one (show Kd.M Kd.string _ _ _ (⟨#[39]⟩ : ByteArray) [.string (⟨#[39]⟩ : ByteArray)] from rfl) (Reps.one (show Kd.M Kd.string _ _ _ (⟨#[255]⟩ : ByteArray) [.string (⟨#[255]⟩ : ByteArray)] from rfl) (Reps.one (show Kd.M Kd.string _ _ _ (⟨#[195]⟩ : ByteArray) [.string (⟨#[195]⟩ : ByteArray)] from rfl) (Reps.one (show Kd.M Kd.string _ _ _ (⟨#[127]⟩ : ByteArray) [.string (⟨#[127]⟩ : ByteArray)] from rfl) (Reps.one (show Kd.M Kd.string _ _ _ (⟨#[237, 160, 128]⟩ : ByteArray) [.string (⟨#[237, 160, 128]⟩ : ByteArray)] from rfl) (Reps.one (show Kd.M Kd.string _ _ _ (⟨#[192, 128]⟩ : ByteArray) [.string (⟨#[192, 128]⟩ : ByteArray)] from rfl) (Reps.one (show Kd.M Kd.string _ _ _ (⟨#[239, 191, 189]⟩ : ByteArray) [.string (⟨#[239, 191, 189]⟩ : ByteArray)] from rfl) (Reps.one (show Kd.M Kd.string _ _ _ (⟨#[65]⟩ : ByteArray) [.string (⟨#[65]⟩ : ByteArray)] from rfl) (Reps.one (show Kd.M Kd.string _ _ _ (⟨#[61]⟩ : ByteArray) [.string (⟨#[61]⟩ : ByteArray)] from rfl) (Reps.none _ _)))))))))))))))))))))))))); intro v102 w2 ho3 hb hg_ hnew_; clear hg_ hnew_; (first | rw [← Ny101.out] at ho3 | (simp only [Int.reduceToNat] at ho3; rw [← Ny101.out] at ho3)); have n0_ := Aside0.mk (Kd.R_lower ho3 (below_size (by repeat (first | (with_reducible first | exact HB.out | apply below_alloc | apply pw_below_drewN | apply below_drew1) | exact HB.out)))); have n1_ := Aside0.mk (below_step (by repeat (first | (with_reducible first | exact HB.out | apply below_alloc | apply pw_below_drewN | apply below_drew1) | exact HB.out)) hb); clear HB; have HO103 := n0_; have HB := n1_; clear n0_ n1_; clear hb ho3))
  go_loopg [4, 5] k (fun kq v4 v5 w' => ∃ (x4_1 : ByteArray) (x5_1 : Int), v4 = .string x4_1 ∧ v5 = .int .i64 x5_1 ∧ Aside0 (wicketmanlaw06_Text.l0 kq l0 y101 x4_1 x5_1 = some r) ∧ Aside0 (kq ≤ k) ∧ Aside0 (Kd.R Kd.string 9 w' w.heap.size (fun _ => True) v102 y101) ∧ Aside0 (Below w.heap.size w w'))
  case atStart => exact ⟨((⟨#[]⟩ : ByteArray)), (0), (by first | rfl | (simp; done) | (simp [*]; done)), (by first | rfl | (simp; done) | (simp [*]; done)), H', ⟨Nat.le_refl _⟩, ⟨by (with_reducible repeat (first | apply Kd.R_alloc | apply Kd.R_drewN | apply Kd.R_drew)); exact HO103.out⟩, ⟨by repeat (first | (with_reducible first | exact HB.out | apply below_alloc | apply pw_below_drewN | apply below_drew1) | exact HB.out)⟩⟩
  case round =>
    clear H'
    try clear c1
    try clear p2
    obtain ⟨x4_1, x5_1, rfl, rfl, HA, HK1, HO_3, HB⟩ := hrel
    cases gk with
    | zero => exact absurd HA.out (by simp [wicketmanlaw06_Text.l0])
    | succ k1 =>
      have H := HA.out
      clear HA
      simp only [wicketmanlaw06_Text.l0] at H
      by_cases c4 : x5_1 < (l0.length : Int)
      · rw [if_pos c4] at H
        have c4b0 : decide (x5_1 < (l0.length : Int)) = true := decide_eq_true c4
        clear c4
        by_cases c5 : x5_1 < 60
        · rw [if_pos c5] at H
          have c5b0 : decide (x5_1 < 60) = true := decide_eq_true c5
          clear c5
          by_cases c6 : 0 ≤ x5_1
          · rw [if_pos c6] at H
            have c6b0 : decide (0 ≤ x5_1) = true := decide_eq_true c6
            clear c6
            by_cases c7 : (y101.length : Int) = 0
            · rw [if_pos c7] at H
              exact absurd H (by simp)
            · rw [if_neg c7] at H
              have c7b0 : ((y101.length : Int) == 0) = false := beq_eq_false_iff_ne.mpr c7
              have c7b1 : ((y101.length : Int) != 0) = true := bne_iff_ne.mpr c7
              have c7b2 : ¬ (y101 = []) := fun h_ => c7 (by rw [h_]; rfl)
              obtain ⟨ji8, hji8⟩ : ∃ j_ : Int, (Int.tmod (wrap64 (rd l0 x5_1)) (y101.length : Int)) = j_ := ⟨_, rfl⟩
              replace H : (if 0 ≤ (ji8) then (if (ji8) < (y101.length : Int) then (if x4_1.size + (rdOf ByteArray.empty y101 (ji8)).size ≤ 9223372036854775807 then (wicketmanlaw06_Text.l0 k1 l0 y101 (x4_1 ++ (rdOf ByteArray.empty y101 (ji8))) (wrap64 (x5_1 + 1))) else (none)) else (none)) else (none)) = some r := by first | (rw [hji8] at H; exact H) | (simp only [hji8] at H ⊢; exact H)
              by_cases c9 : 0 ≤ (ji8)
              · rw [if_pos c9] at H
                have c9b0 : decide (0 ≤ (ji8)) = true := decide_eq_true c9
                clear c9
                by_cases c10 : (ji8) < (y101.length : Int)
                · rw [if_pos c10] at H
                  have c10b0 : decide ((ji8) < (y101.length : Int)) = true := decide_eq_true c10
                  clear c10
                  by_cases c11 : x4_1.size + (rdOf ByteArray.empty y101 (ji8)).size ≤ 9223372036854775807
                  · rw [if_pos c11] at H
                    have c11b0 := eq_true c11
                    have c11b1 : decide (x4_1.size + (rdOf ByteArray.empty y101 (ji8)).size ≤ 9223372036854775807) = true := decide_eq_true c11
                    try have c11b2 : (9223372036854775807 < x4_1.size + (rdOf ByteArray.empty y101 (ji8)).size) = False := eq_false (Nat.not_lt.2 c11)
                    try (have c11b3 := c11; simp at c11b3)
                    try have c11b4 := eq_false (Nat.not_lt.2 c11b3)
                    have H' := Aside0.mk H
                    clear H
                    have p104 : 0 ≤ (x5_1 : Int) := of_decide_eq_true (by first | (with_reducible assumption) | assumption)
                    have q104 : x5_1 < (l0.length : Int) := of_decide_eq_true (by first | (with_reducible assumption) | assumption)
                    obtain ⟨ad104, e104, hx104_0⟩ := Kd.at_int HR0.out x5_1 p104 q104
                    cases e104
                    replace hx104_0 := (HB.out.cell (World.block_lt_of_cell? w _ hx104_0)).trans hx104_0
                    replace p104 := eq_true p104
                    replace q104 := eq_true q104
                    obtain ⟨Ao12, co12, eo12⟩ := Kd.R_slice HO_3.out
                    subst eo12
                    have p105 : 0 ≤ ((ji8) : Int) := of_decide_eq_true (by first | (with_reducible assumption) | assumption)
                    have q105 : (ji8) < (y101.length : Int) := of_decide_eq_true (by first | (with_reducible assumption) | assumption)
                    obtain ⟨ad105, e105, hx105_0⟩ := Kd.at_string (Kd.R_reads' HO_3.out).2.2 (ji8) p105 q105
                    cases e105
                    replace p105 := eq_true p105
                    replace q105 := eq_true q105
                    go_wp2
                    go_roundg k1
                    case measure => have := HK1.out; omega
                    case rel => exact ⟨(x4_1 ++ (rdOf ByteArray.empty y101 (ji8))), (wrap64 (x5_1 + 1)), (by first | rfl | (simp; done) | (simp only [← hji8] <;> (first | rfl | simp)) | (simp [*]; done)), (by first | rfl | (simp; done) | (simp [*]; done)), H', ⟨by have := HK1.out; omega⟩, ⟨by (with_reducible repeat (first | apply Kd.R_alloc | apply Kd.R_drewN | apply Kd.R_drew)); exact HO_3.out⟩, ⟨by repeat (first | (with_reducible first | exact HB.out | apply below_alloc | apply pw_below_drewN | apply below_drew1) | exact HB.out)⟩⟩
                  · rw [if_neg c11] at H
                    exact absurd H (by simp)
                · rw [if_neg c10] at H
                  exact absurd H (by simp)
              · rw [if_neg c9] at H
                exact absurd H (by simp)
          · rw [if_neg c6] at H
            exact absurd H (by simp)
        · rw [if_neg c5] at H
          have c5b0 : decide (x5_1 < 60) = false := decide_eq_false c5
          clear c5
          obtain rfl := Option.some.inj H
          go_wp2
          go_ret
          exact ⟨by first | rfl | (simp [errW_none, errW_some] <;> rfl) | (simp [*, errW_none, errW_some] <;> rfl), by repeat (first | (with_reducible first | exact HB.out | apply below_alloc | apply pw_below_drewN | apply below_drew1) | exact HB.out)⟩
      · rw [if_neg c4] at H
        have c4b0 : decide (x5_1 < (l0.length : Int)) = false := decide_eq_false c4
        clear c4
        obtain rfl := Option.some.inj H
        go_wp2
        go_ret
        exact ⟨by first | rfl | (simp [errW_none, errW_some] <;> rfl) | (simp [*, errW_none, errW_some] <;> rfl), by repeat (first | (with_reducible first | exact HB.out | apply below_alloc | apply pw_below_drewN | apply below_drew1) | exact HB.out)⟩

end Go.Proofs.YtlehjehnapjioaaDoor.Pr
