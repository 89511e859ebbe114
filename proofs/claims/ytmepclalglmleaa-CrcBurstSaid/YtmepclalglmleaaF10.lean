-- Written for this claim by wip/myprint.py, this session's driver over the kit's print.py. Not trusted: Lean checks it.
import Derived.Test.YtmepclalglmleaaF
import Derived.Test.YtmepclalglmleaaC5
namespace Go.Proofs.Ytmepclalglmleaa.Pr
open Go.RowKit Go.Proofs.YtmepclalglmleaaW.PrintWords Go.Proofs.YtmepclalglmleaaW.PrintLast Go.Proofs.YtmepclalglmleaaW.PrintMore Go.Proofs.Ytmepclalglmleaa.E
attribute [local go_sem] max2_int min2_int max_two min_two max_three min_three max_four min_four   -- for this text's walks alone
set_option linter.unusedVariables false
set_option linter.unusedSimpArgs false

/-! ### wicketmanlaw13_CrcBurst: function 10 -/
mutual
def wicketmanlaw13_CrcBurst.j0 : Nat → List Int → Int → Int → Bool → Option (Bool)
  | 0, _, _, _, _ => none
  | k + 1, x0, x1, x2, x18 => if x18 = true then ((wicketmanlaw13_known.f).bind fun t101 => (some t101)) else (if ([] : List Int).length + x0.length < 140737488355328 then ((some (([] : List Int) ++ x0 : List Int)).bind fun y102 => (if (wrap64 (8 * (y102.length : Int))) = 0 then (none) else (wicketmanlaw13_CrcBurst.l0 k x0 x2 y102 (Int.tmod (wrap64 (x1)) (wrap64 (8 * (y102.length : Int)))) false 0))) else (none))
def wicketmanlaw13_CrcBurst.l0 : Nat → List Int → Int → List Int → Int → Bool → Int → Option (Bool)
  | 0, _, _, _, _, _, _ => none
  | k + 1, x0, x2, x7, x8, x9, x10 => if x10 < 32 then (wicketmanlaw13_CrcBurst.j2 k x0 x2 x7 x8 x9 x10 (decide ((wrap64 (x8 + x10)) < (wrap64 (8 * (x7.length : Int)))))) else (wicketmanlaw13_CrcBurst.j2 k x0 x2 x7 x8 x9 x10 false)
def wicketmanlaw13_CrcBurst.j2 : Nat → List Int → Int → List Int → Int → Bool → Int → Bool → Option (Bool)
  | 0, _, _, _, _, _, _, _ => none
  | k + 1, x0, x2, x7, x8, x9, x10, x39 => if x39 = true then (if 0 ≤ (IntKind.u64.wrap (x10)) then (if (Int.tmod (shr .u32 x2 (IntKind.u64.wrap (x10))) 2) = 1 then (if 0 ≤ (wrap64 (Int.tdiv (wrap64 (x8 + x10)) 8)) then (if (wrap64 (Int.tdiv (wrap64 (x8 + x10)) 8)) < (x7.length : Int) then (if 0 ≤ (IntKind.u64.wrap (Int.tmod (wrap64 (x8 + x10)) 8)) then (wicketmanlaw13_CrcBurst.l0 k x0 x2 (x7.set ((wrap64 (Int.tdiv (wrap64 (x8 + x10)) 8)) : Int).toNat (Go.bits .xor .u8 (rd x7 (wrap64 (Int.tdiv (wrap64 (x8 + x10)) 8))) (shl .u8 1 (IntKind.u64.wrap (Int.tmod (wrap64 (x8 + x10)) 8))))) x8 true (wrap64 (x10 + 1))) else (none)) else (none)) else (none)) else (wicketmanlaw13_CrcBurst.l0 k x0 x2 x7 x8 x9 (wrap64 (x10 + 1)))) else (none)) else ((wicketmanlaw13_known.f).bind fun t107 => (if t107 = true then ((crc_Sum.f x7).bind fun t108 => ((crc_Sum.f x0).bind fun t109 => (some ((t108 == t109) == (!x9))))) else (none)))
end
def wicketmanlaw13_CrcBurst.f (k : Nat) (l0 : List Int) (a1 : Int) (a2 : Int) : Option (Bool) := if (l0.length : Int) > 200 then (wicketmanlaw13_CrcBurst.j0 k l0 a1 a2 true) else (wicketmanlaw13_CrcBurst.j0 k l0 a1 a2 ((l0.length : Int) == 0))
theorem wicketmanlaw13_CrcBurst.mono_l : ∀ k, (∀ y0 y1 y2 y3, LeO (wicketmanlaw13_CrcBurst.j0 k y0 y1 y2 y3) (wicketmanlaw13_CrcBurst.j0 (k + 1) y0 y1 y2 y3)) ∧ (∀ y0 y1 y2 y3 y4 y5, LeO (wicketmanlaw13_CrcBurst.l0 k y0 y1 y2 y3 y4 y5) (wicketmanlaw13_CrcBurst.l0 (k + 1) y0 y1 y2 y3 y4 y5)) ∧ (∀ y0 y1 y2 y3 y4 y5 y6, LeO (wicketmanlaw13_CrcBurst.j2 k y0 y1 y2 y3 y4 y5 y6) (wicketmanlaw13_CrcBurst.j2 (k + 1) y0 y1 y2 y3 y4 y5 y6))
  | 0 => ⟨fun _ _ _ _ r h => by simp [wicketmanlaw13_CrcBurst.j0] at h, fun _ _ _ _ _ _ r h => by simp [wicketmanlaw13_CrcBurst.l0] at h, fun _ _ _ _ _ _ _ r h => by simp [wicketmanlaw13_CrcBurst.j2] at h⟩
  | k + 1 => by
    obtain ⟨ih0, ih1, ih2⟩ := wicketmanlaw13_CrcBurst.mono_l k
    refine ⟨?_, ?_, ?_⟩
    · intro y0 y1 y2 y3
      unfold wicketmanlaw13_CrcBurst.j0
      repeat' first
      | (with_reducible exact ih0 _ _ _ _)
      | (with_reducible exact ih1 _ _ _ _ _ _)
      | (with_reducible exact ih2 _ _ _ _ _ _ _)
      | (with_reducible exact LeO.refl _)
      | (with_reducible exact LeO.none _)
      | (with_reducible refine LeO.ite ?_ ?_)
      | (with_reducible refine LeO.bind ?_ (fun _ => ?_))
      | exact ih0 _ _ _ _
      | exact ih1 _ _ _ _ _ _
      | exact ih2 _ _ _ _ _ _ _
      | exact LeO.none _
      | refine LeO.ite ?_ ?_
      | refine LeO.bind ?_ (fun _ => ?_)
    · intro y0 y1 y2 y3 y4 y5
      unfold wicketmanlaw13_CrcBurst.l0
      repeat' first
      | (with_reducible exact ih0 _ _ _ _)
      | (with_reducible exact ih1 _ _ _ _ _ _)
      | (with_reducible exact ih2 _ _ _ _ _ _ _)
      | (with_reducible exact LeO.refl _)
      | (with_reducible exact LeO.none _)
      | (with_reducible refine LeO.ite ?_ ?_)
      | (with_reducible refine LeO.bind ?_ (fun _ => ?_))
      | exact ih0 _ _ _ _
      | exact ih1 _ _ _ _ _ _
      | exact ih2 _ _ _ _ _ _ _
      | exact LeO.none _
      | refine LeO.ite ?_ ?_
      | refine LeO.bind ?_ (fun _ => ?_)
    · intro y0 y1 y2 y3 y4 y5 y6
      unfold wicketmanlaw13_CrcBurst.j2
      repeat' first
      | (with_reducible exact ih0 _ _ _ _)
      | (with_reducible exact ih1 _ _ _ _ _ _)
      | (with_reducible exact ih2 _ _ _ _ _ _ _)
      | (with_reducible exact LeO.refl _)
      | (with_reducible exact LeO.none _)
      | (with_reducible refine LeO.ite ?_ ?_)
      | (with_reducible refine LeO.bind ?_ (fun _ => ?_))
      | exact ih0 _ _ _ _
      | exact ih1 _ _ _ _ _ _
      | exact ih2 _ _ _ _ _ _ _
      | exact LeO.none _
      | refine LeO.ite ?_ ?_
      | refine LeO.bind ?_ (fun _ => ?_)
theorem wicketmanlaw13_CrcBurst.mono : ∀ a0 a1 a2 k, LeO (wicketmanlaw13_CrcBurst.f k a0 a1 a2) (wicketmanlaw13_CrcBurst.f (k + 1) a0 a1 a2) := by
  intro a0 a1 a2 k
  obtain ⟨ih0, ih1, ih2⟩ := wicketmanlaw13_CrcBurst.mono_l k
  unfold wicketmanlaw13_CrcBurst.f
  repeat' first
      | (with_reducible exact ih0 _ _ _ _)
      | (with_reducible exact ih1 _ _ _ _ _ _)
      | (with_reducible exact ih2 _ _ _ _ _ _ _)
      | (with_reducible exact LeO.refl _)
      | (with_reducible exact LeO.none _)
      | (with_reducible refine LeO.ite ?_ ?_)
      | (with_reducible refine LeO.bind ?_ (fun _ => ?_))
      | exact ih0 _ _ _ _
      | exact ih1 _ _ _ _ _ _
      | exact ih2 _ _ _ _ _ _ _
      | exact LeO.none _
      | refine LeO.ite ?_ ?_
      | refine LeO.bind ?_ (fun _ => ?_)
set_option maxHeartbeats 8000000 in
set_option maxRecDepth 1000000 in
theorem wicketmanlaw13_CrcBurst.calls (k : Nat) (A0 : Option Addr) (c0 : Nat) (l0 : List Int) (a1 : Int) (a2 : Int) (r : Bool) (w : World) (hr0 : Kd.C (Kd.int .u8) w A0 l0.length l0) (hc0 : l0.length ≤ c0) (h : wicketmanlaw13_CrcBurst.f k l0 a1 a2 = some r) :
    Calls Try.prog 10 #[.slice A0 l0.length c0, .int .u16 a1, .int .u32 a2] w fun e w' => e = .returned (.bool r) ∧ Below w.heap.size w w' := by
  have HR0 := Aside0.mk hr0
  have HC0 := Aside0.mk hc0
  clear hr0 hc0
  have HB := Aside0.mk (Below.refl w.heap.size w)
  have H : (if (l0.length : Int) > 200 then (wicketmanlaw13_CrcBurst.j0 k l0 a1 a2 true) else (wicketmanlaw13_CrcBurst.j0 k l0 a1 a2 ((l0.length : Int) == 0))) = some r := h
  clear h
  have HC4 := Aside0.mk H
  clear H
  go_enter Try.func10, Try.ntmps10
  go_upto_region 1 with (fail)
  go_cut [18] (fun v18 wc => ∃ (kq : Nat) (x18_3 : Bool), v18 = .bool x18_3 ∧ Aside0 (wicketmanlaw13_CrcBurst.j0 kq l0 a1 a2 x18_3 = some r) ∧ Aside0 (kq ≤ k) ∧ Aside0 (Below w.heap.size w wc))
  case first =>
    have H := HC4.out
    clear HC4
    by_cases c5 : (l0.length : Int) > 200
    · rw [if_pos c5] at H
      have c5b0 : decide (200 < (l0.length : Int)) = true := decide_eq_true c5
      have c5b1 : decide (200 < l0.length) = true := decide_eq_true (by omega)
      clear c5
      (first | rw [c5b0] | (simp only [i64_w, i32_w]; rw [c5b0]) | skip)
      have H' := Aside0.mk H
      clear H
      go_wp2
      go_meet
      case rel => exact ⟨_, (true), (by first | rfl | (simp; done) | (simp [*]; done)), H', ⟨by first | omega | exact Nat.le_refl _⟩, ⟨by repeat (first | (with_reducible first | exact HB.out | apply below_alloc | apply pw_below_drewN | apply below_drew1) | exact HB.out)⟩⟩
    · rw [if_neg c5] at H
      have c5b0 : decide (200 < (l0.length : Int)) = false := decide_eq_false c5
      have c5b1 : decide (200 < l0.length) = false := decide_eq_false (by omega)
      clear c5
      (first | rw [c5b0] | (simp only [i64_w, i32_w]; rw [c5b0]) | skip)
      have H' := Aside0.mk H
      clear H
      go_wp2
      go_meet
      case rel => exact ⟨_, (((l0.length : Int) == 0)), (by first | rfl | (simp; done) | (simp [*]; done)), H', ⟨by first | omega | exact Nat.le_refl _⟩, ⟨by repeat (first | (with_reducible first | exact HB.out | apply below_alloc | apply pw_below_drewN | apply below_drew1) | exact HB.out)⟩⟩
  case rest =>
    clear HC4
    try clear c1
    try clear p2
    try clear c5
    try clear c5b0
    try clear c5b1
    obtain ⟨kq, x18_3, rfl, HA, HJ3, HB⟩ := hcut
    cases kq with
    | zero => exact absurd HA.out (by simp [wicketmanlaw13_CrcBurst.j0])
    | succ kj3 =>
      have H := HA.out
      clear HA
      simp only [wicketmanlaw13_CrcBurst.j0] at H
      by_cases c6 : x18_3 = true
      · subst c6
        have H1 : ((wicketmanlaw13_known.f).bind fun t101 => (some t101)) = some r := by rw [if_pos rfl] at H; exact H
        clear H
        have H := H1
        clear H1
        replace H := Option.bind_eq_some_iff.mp H
        obtain ⟨t101, A70, H⟩ := H
        replace H : (some t101) = some r := H
        have A7 := Aside0.mk A70
        clear A70
        obtain rfl := Option.some.inj H
        go_wp2_with (first | ((with_reducible refine gate_callee (f := 24) rfl ?_); refine goesL_ (some 19) rfl rfl Try.func24 (by kernel_rfl) rfl #[] rfl (by (try simp only [List.map_toArray, List.map_cons, List.map_nil]); first | done | rfl | (simp only [List.length_drop, List.length_take]; rfl)) ?_; (with_reducible refine (wicketmanlaw13_known.calls  t101 _ A7.out).mono ?_); rintro e w8 ⟨rfl, hb⟩; refine ⟨_, rfl, ?_⟩; have n0_ := Aside0.mk (below_step (by repeat (first | (with_reducible first | exact HB.out | apply below_alloc | apply pw_below_drewN | apply below_drew1) | exact HB.out)) hb); clear HB; have HB := n0_; clear n0_; (try clear hb); (try clear hb2); (try clear hk); (try clear hi)))
        go_ret
        exact ⟨by first | rfl | (simp [errW_none, errW_some] <;> rfl) | (simp [*, errW_none, errW_some] <;> rfl), by repeat (first | (with_reducible first | exact HB.out | apply below_alloc | apply pw_below_drewN | apply below_drew1) | exact HB.out)⟩
      · replace c6 := Bool.eq_false_iff.mpr c6
        subst c6
        have H1 : (if ([] : List Int).length + l0.length < 140737488355328 then ((some (([] : List Int) ++ l0 : List Int)).bind fun y102 => (if (wrap64 (8 * (y102.length : Int))) = 0 then (none) else (wicketmanlaw13_CrcBurst.l0 kj3 l0 a2 y102 (Int.tmod (wrap64 (a1)) (wrap64 (8 * (y102.length : Int)))) false 0))) else (none)) = some r := by rw [if_neg (show ¬ (false = true) by decide)] at H; exact H
        clear H
        have H := H1
        clear H1
        by_cases c9 : ([] : List Int).length + l0.length < 140737488355328
        · rw [if_pos c9] at H
          have LMc9 := Aside0.mk c9
          clear c9
          obtain ⟨y102, hy102⟩ : ∃ y_ : List Int, y_ = (([] : List Int) ++ l0) := ⟨_, rfl⟩
          replace H : (if (wrap64 (8 * (y102.length : Int))) = 0 then (none) else (wicketmanlaw13_CrcBurst.l0 kj3 l0 a2 y102 (Int.tmod (wrap64 (a1)) (wrap64 (8 * (y102.length : Int)))) false 0)) = some r := by first | (rw [hy102]; with_reducible exact H) | (have H2_ := (Option.bind_some _ _).symm.trans H; rw [hy102]; with_reducible exact H2_) | (have H2_ := (Option.bind_some _ _).symm.trans H; with_reducible exact H2_) | with_reducible exact H | (rw [hy102]; exact H) | exact H
          have Ny102 := Aside0.mk hy102
          clear hy102
          by_cases c10 : (wrap64 (8 * (y102.length : Int))) = 0
          · rw [if_pos c10] at H
            exact absurd H (by simp)
          · rw [if_neg c10] at H
            have c10b0 : ((wrap64 (8 * (y102.length : Int))) == 0) = false := beq_eq_false_iff_ne.mpr c10
            have c10b1 : ((wrap64 (8 * (y102.length : Int))) != 0) = true := bne_iff_ne.mpr c10
            have H' := Aside0.mk H
            clear H
            go_wp2_with (first | ((with_reducible refine gate_builtin (b := .append) (xs := #[.tmp 20, .tmp 21]) rfl ?_); (try (refine gate_guard (by rfl) ?_; dsimp only)); at_builtin; refine Kd.R_append_rows (Kd.int .u8) (w0 := w) w.heap.size rfl (.tmp 20) (.tmp 21) 22 5 (.int .u8 0) 1 rfl Try.underlying22 info5 rfl (by decide) (by omega) (.slice none 0 0) ([] : List Int) l0 _ _ _ (fun _ => True) (fun _ => False) rfl rfl ?aO ?aR (fun _ _ h => h) (fun _ h => h.elim) ?aF ?aB ?aS ?aL ?_; (case aR => repeat (first | exact (Kd.C_below HR0.out HB.out) | (with_reducible refine Kd.C_alloc ?_ _) | (with_reducible refine Kd.C_drewN ?_ _) | (with_reducible refine Kd.C_drew ?_))); (case aB => exact (by repeat (first | (with_reducible first | exact HB.out | apply below_alloc | apply pw_below_drewN | apply below_drew1) | exact HB.out))); (case aF => exact (fun _ _ => trivial)); (case aO => exact ((Kd.R_nil _ _ _ _ (fun _ => True)))); (case aS => exact (below_size (by repeat (first | (with_reducible first | exact HB.out | apply below_alloc | apply pw_below_drewN | apply below_drew1) | exact HB.out)))); (case aL => have := LMc9.out; omega); intro v103 w11 ho hb hg hat; rw [← Ny102.out] at ho; have n0_ := Aside0.mk (hb); have n1_ := Aside0.mk (ho); clear HB; have HB := n0_; have HO104 := n1_; clear n0_ n1_; clear ho hb hg hat; obtain ⟨Ao12, co12, eo12⟩ := Kd.R_slice HO104.out; subst eo12))
            go_loopg [9, 10] kj3 (fun kq v9 v10 w' => ∃ (x7_2 : List Int) (x9_2 : Bool) (x10_2 : Int), v9 = .bool x9_2 ∧ v10 = .int .i64 x10_2 ∧ Aside0 (wicketmanlaw13_CrcBurst.l0 kq l0 a2 x7_2 (Int.tmod (wrap64 (a1)) (wrap64 (8 * (y102.length : Int)))) x9_2 x10_2 = some r) ∧ Aside0 (kq ≤ kj3) ∧ Aside0 (Kd.R (Kd.int .u8) 5 w' w.heap.size (fun _ => True) (.slice Ao12 y102.length co12) x7_2) ∧ Aside0 (Below w.heap.size w w'))
            case atStart => exact ⟨(y102), (false), (0), (by first | rfl | (simp; done) | (simp [*]; done)), (by first | rfl | (simp; done) | (simp [*]; done)), H', ⟨Nat.le_refl _⟩, ⟨by (with_reducible repeat (first | apply Kd.R_alloc | apply Kd.R_drewN | apply Kd.R_drew)); exact HO104.out⟩, ⟨by repeat (first | (with_reducible first | exact HB.out | apply below_alloc | apply pw_below_drewN | apply below_drew1) | exact HB.out)⟩⟩
            case round =>
              clear H'
              try clear c1
              try clear c2
              try clear p2
              try clear c5
              try clear c5b0
              try clear c5b1
              try clear c6
              try clear p6
              try clear c9
              try clear c10
              try clear c10b0
              try clear c10b1
              try clear p2
              obtain ⟨x7_2, x9_2, x10_2, rfl, rfl, HA, HK2, HO_7, HB⟩ := hrel
              have hl7_2 := (Kd.R_reads' HO_7.out).1
              rw [hl7_2] at HO_7
              (try simp only [hl7_2])
              cases gk with
              | zero => exact absurd HA.out (by simp [wicketmanlaw13_CrcBurst.l0])
              | succ k2 =>
                have H := HA.out
                clear HA
                simp only [wicketmanlaw13_CrcBurst.l0] at H
                have HC13 := Aside0.mk H
                clear H
                go_upto_region 8 with (fail)
                go_cut [39] (fun v39 wc => ∃ (kq : Nat) (x39_12 : Bool), v39 = .bool x39_12 ∧ Aside0 (wicketmanlaw13_CrcBurst.j2 kq l0 a2 x7_2 (Int.tmod (wrap64 (a1)) (wrap64 (8 * (y102.length : Int)))) x9_2 x10_2 x39_12 = some r) ∧ Aside0 (kq ≤ k2) ∧ Aside0 (Kd.R (Kd.int .u8) 5 wc w.heap.size (fun _ => True) (.slice Ao12 x7_2.length co12) x7_2) ∧ Aside0 (Below w.heap.size w wc))
                case first =>
                  have H := HC13.out
                  clear HC13
                  by_cases c14 : x10_2 < 32
                  · rw [if_pos c14] at H
                    have c14b0 : decide (x10_2 < 32) = true := decide_eq_true c14
                    clear c14
                    (first | rw [c14b0] | (simp only [i64_w, i32_w]; rw [c14b0]) | skip)
                    have H' := Aside0.mk H
                    clear H
                    go_wp2
                    go_meet
                    case rel => exact ⟨_, (decide ((wrap64 ((Int.tmod (wrap64 (a1)) (wrap64 (8 * (y102.length : Int)))) + x10_2)) < (wrap64 (8 * (x7_2.length : Int))))), (by first | rfl | (simp; done) | (simp [*]; done)), H', ⟨by have := HJ3.out; have := HK2.out; first | omega | exact Nat.le_refl _⟩, ⟨by (try simp only [hl7_2]); (with_reducible repeat (first | apply Kd.R_alloc | apply Kd.R_drewN | apply Kd.R_drew)); exact HO_7.out⟩, ⟨by repeat (first | (with_reducible first | exact HB.out | apply below_alloc | apply pw_below_drewN | apply below_drew1) | exact HB.out)⟩⟩
                  · rw [if_neg c14] at H
                    have c14b0 : decide (x10_2 < 32) = false := decide_eq_false c14
                    clear c14
                    (first | rw [c14b0] | (simp only [i64_w, i32_w]; rw [c14b0]) | skip)
                    have H' := Aside0.mk H
                    clear H
                    go_wp2
                    go_meet
                    case rel => exact ⟨_, (false), (by first | rfl | (simp; done) | (simp [*]; done)), H', ⟨by have := HJ3.out; have := HK2.out; first | omega | exact Nat.le_refl _⟩, ⟨by (try simp only [hl7_2]); (with_reducible repeat (first | apply Kd.R_alloc | apply Kd.R_drewN | apply Kd.R_drew)); exact HO_7.out⟩, ⟨by repeat (first | (with_reducible first | exact HB.out | apply below_alloc | apply pw_below_drewN | apply below_drew1) | exact HB.out)⟩⟩
                case rest =>
                  clear HC13
                  try clear c1
                  try clear c2
                  try clear p2
                  try clear c5
                  try clear c5b0
                  try clear c5b1
                  try clear c6
                  try clear p6
                  try clear c9
                  try clear c10
                  try clear c10b0
                  try clear c10b1
                  try clear c14
                  try clear c14b0
                  try clear p2
                  try clear p6
                  obtain ⟨kq, x39_12, rfl, HA, HJ12, HO_7, HB⟩ := hcut
                  cases kq with
                  | zero => exact absurd HA.out (by simp [wicketmanlaw13_CrcBurst.j2])
                  | succ kj12 =>
                    have H := HA.out
                    clear HA
                    simp only [wicketmanlaw13_CrcBurst.j2] at H
                    by_cases c15 : x39_12 = true
                    · subst c15
                      have H1 : (if 0 ≤ (IntKind.u64.wrap (x10_2)) then (if (Int.tmod (shr .u32 a2 (IntKind.u64.wrap (x10_2))) 2) = 1 then (if 0 ≤ (wrap64 (Int.tdiv (wrap64 ((Int.tmod (wrap64 (a1)) (wrap64 (8 * (y102.length : Int)))) + x10_2)) 8)) then (if (wrap64 (Int.tdiv (wrap64 ((Int.tmod (wrap64 (a1)) (wrap64 (8 * (y102.length : Int)))) + x10_2)) 8)) < (x7_2.length : Int) then (if 0 ≤ (IntKind.u64.wrap (Int.tmod (wrap64 ((Int.tmod (wrap64 (a1)) (wrap64 (8 * (y102.length : Int)))) + x10_2)) 8)) then (wicketmanlaw13_CrcBurst.l0 kj12 l0 a2 (x7_2.set ((wrap64 (Int.tdiv (wrap64 ((Int.tmod (wrap64 (a1)) (wrap64 (8 * (y102.length : Int)))) + x10_2)) 8)) : Int).toNat (Go.bits .xor .u8 (rd x7_2 (wrap64 (Int.tdiv (wrap64 ((Int.tmod (wrap64 (a1)) (wrap64 (8 * (y102.length : Int)))) + x10_2)) 8))) (shl .u8 1 (IntKind.u64.wrap (Int.tmod (wrap64 ((Int.tmod (wrap64 (a1)) (wrap64 (8 * (y102.length : Int)))) + x10_2)) 8))))) (Int.tmod (wrap64 (a1)) (wrap64 (8 * (y102.length : Int)))) true (wrap64 (x10_2 + 1))) else (none)) else (none)) else (none)) else (wicketmanlaw13_CrcBurst.l0 kj12 l0 a2 x7_2 (Int.tmod (wrap64 (a1)) (wrap64 (8 * (y102.length : Int)))) x9_2 (wrap64 (x10_2 + 1)))) else (none)) = some r := by rw [if_pos rfl] at H; exact H
                      clear H
                      have H := H1
                      clear H1
                      obtain ⟨ji16, hji16⟩ : ∃ j_ : Int, (IntKind.u64.wrap (x10_2)) = j_ := ⟨_, rfl⟩
                      replace H : (if 0 ≤ (ji16) then (if (Int.tmod (shr .u32 a2 (ji16)) 2) = 1 then (if 0 ≤ (wrap64 (Int.tdiv (wrap64 ((Int.tmod (wrap64 (a1)) (wrap64 (8 * (y102.length : Int)))) + x10_2)) 8)) then (if (wrap64 (Int.tdiv (wrap64 ((Int.tmod (wrap64 (a1)) (wrap64 (8 * (y102.length : Int)))) + x10_2)) 8)) < (x7_2.length : Int) then (if 0 ≤ (IntKind.u64.wrap (Int.tmod (wrap64 ((Int.tmod (wrap64 (a1)) (wrap64 (8 * (y102.length : Int)))) + x10_2)) 8)) then (wicketmanlaw13_CrcBurst.l0 kj12 l0 a2 (x7_2.set ((wrap64 (Int.tdiv (wrap64 ((Int.tmod (wrap64 (a1)) (wrap64 (8 * (y102.length : Int)))) + x10_2)) 8)) : Int).toNat (Go.bits .xor .u8 (rd x7_2 (wrap64 (Int.tdiv (wrap64 ((Int.tmod (wrap64 (a1)) (wrap64 (8 * (y102.length : Int)))) + x10_2)) 8))) (shl .u8 1 (IntKind.u64.wrap (Int.tmod (wrap64 ((Int.tmod (wrap64 (a1)) (wrap64 (8 * (y102.length : Int)))) + x10_2)) 8))))) (Int.tmod (wrap64 (a1)) (wrap64 (8 * (y102.length : Int)))) true (wrap64 (x10_2 + 1))) else (none)) else (none)) else (none)) else (wicketmanlaw13_CrcBurst.l0 kj12 l0 a2 x7_2 (Int.tmod (wrap64 (a1)) (wrap64 (8 * (y102.length : Int)))) x9_2 (wrap64 (x10_2 + 1)))) else (none)) = some r := by first | (rw [hji16] at H; exact H) | (simp only [hji16] at H ⊢; exact H)
                      by_cases c17 : 0 ≤ (ji16)
                      · rw [if_pos c17] at H
                        have c17b0 := eq_true c17
                        have c17b1 : decide (0 ≤ (ji16)) = true := decide_eq_true c17
                        clear c17
                        obtain ⟨ji18, hji18⟩ : ∃ j_ : Int, (shr .u32 a2 (ji16)) = j_ := ⟨_, rfl⟩
                        replace H : (if (Int.tmod (ji18) 2) = 1 then (if 0 ≤ (wrap64 (Int.tdiv (wrap64 ((Int.tmod (wrap64 (a1)) (wrap64 (8 * (y102.length : Int)))) + x10_2)) 8)) then (if (wrap64 (Int.tdiv (wrap64 ((Int.tmod (wrap64 (a1)) (wrap64 (8 * (y102.length : Int)))) + x10_2)) 8)) < (x7_2.length : Int) then (if 0 ≤ (IntKind.u64.wrap (Int.tmod (wrap64 ((Int.tmod (wrap64 (a1)) (wrap64 (8 * (y102.length : Int)))) + x10_2)) 8)) then (wicketmanlaw13_CrcBurst.l0 kj12 l0 a2 (x7_2.set ((wrap64 (Int.tdiv (wrap64 ((Int.tmod (wrap64 (a1)) (wrap64 (8 * (y102.length : Int)))) + x10_2)) 8)) : Int).toNat (Go.bits .xor .u8 (rd x7_2 (wrap64 (Int.tdiv (wrap64 ((Int.tmod (wrap64 (a1)) (wrap64 (8 * (y102.length : Int)))) + x10_2)) 8))) (shl .u8 1 (IntKind.u64.wrap (Int.tmod (wrap64 ((Int.tmod (wrap64 (a1)) (wrap64 (8 * (y102.length : Int)))) + x10_2)) 8))))) (Int.tmod (wrap64 (a1)) (wrap64 (8 * (y102.length : Int)))) true (wrap64 (x10_2 + 1))) else (none)) else (none)) else (none)) else (wicketmanlaw13_CrcBurst.l0 kj12 l0 a2 x7_2 (Int.tmod (wrap64 (a1)) (wrap64 (8 * (y102.length : Int)))) x9_2 (wrap64 (x10_2 + 1)))) = some r := by first | (rw [hji18] at H; exact H) | (simp only [hji18] at H ⊢; exact H)
                        have hji18_ : (a2 / 2 ^ min (ji16).toNat 32) = ji18 := hji18
                        have hji18z : (ji16) ≤ 32 → (a2 / 2 ^ (ji16).toNat) = ji18 := shr_small hji18
                        by_cases c19 : (Int.tmod (ji18) 2) = 1
                        · rw [if_pos c19] at H
                          have c19b0 : ((Int.tmod (ji18) 2) == 1) = true := beq_iff_eq.mpr c19
                          have c19b1 : ((Int.tmod (ji18) 2) != 1) = false := bne_eq_false_iff_eq.mpr c19
                          clear c19
                          obtain ⟨ji20, hji20⟩ : ∃ j_ : Int, (wrap64 (Int.tdiv (wrap64 ((Int.tmod (wrap64 (a1)) (wrap64 (8 * (y102.length : Int)))) + x10_2)) 8)) = j_ := ⟨_, rfl⟩
                          (try (have hji20x0 := hji20; simp only [hl7_2] at hji20x0))
                          replace H : (if 0 ≤ (ji20) then (if (ji20) < (x7_2.length : Int) then (if 0 ≤ (IntKind.u64.wrap (Int.tmod (wrap64 ((Int.tmod (wrap64 (a1)) (wrap64 (8 * (y102.length : Int)))) + x10_2)) 8)) then (wicketmanlaw13_CrcBurst.l0 kj12 l0 a2 (x7_2.set ((ji20) : Int).toNat (Go.bits .xor .u8 (rd x7_2 (ji20)) (shl .u8 1 (IntKind.u64.wrap (Int.tmod (wrap64 ((Int.tmod (wrap64 (a1)) (wrap64 (8 * (y102.length : Int)))) + x10_2)) 8))))) (Int.tmod (wrap64 (a1)) (wrap64 (8 * (y102.length : Int)))) true (wrap64 (x10_2 + 1))) else (none)) else (none)) else (none)) = some r := by first | (rw [hji20] at H; exact H) | (simp only [hji20] at H ⊢; exact H)
                          have hji20w : (IntKind.i64.wrap (Int.tdiv (wrap64 ((Int.tmod (wrap64 (a1)) (wrap64 (8 * (y102.length : Int)))) + x10_2)) 8)) = ji20 := (i64_w _).trans hji20
                          (try (have hji20wx0 := hji20w; simp only [hl7_2] at hji20wx0))
                          by_cases c21 : 0 ≤ (ji20)
                          · rw [if_pos c21] at H
                            have c21b0 : decide (0 ≤ (ji20)) = true := decide_eq_true c21
                            clear c21
                            by_cases c22 : (ji20) < (x7_2.length : Int)
                            · rw [if_pos c22] at H
                              have c22b0 : decide ((ji20) < (x7_2.length : Int)) = true := decide_eq_true c22
                              (try simp only [hl7_2] at c22b0)
                              clear c22
                              obtain ⟨ji23, hji23⟩ : ∃ j_ : Int, (IntKind.u64.wrap (Int.tmod (wrap64 ((Int.tmod (wrap64 (a1)) (wrap64 (8 * (y102.length : Int)))) + x10_2)) 8)) = j_ := ⟨_, rfl⟩
                              (try (have hji23x0 := hji23; simp only [hl7_2] at hji23x0))
                              replace H : (if 0 ≤ (ji23) then (wicketmanlaw13_CrcBurst.l0 kj12 l0 a2 (x7_2.set ((ji20) : Int).toNat (Go.bits .xor .u8 (rd x7_2 (ji20)) (shl .u8 1 (ji23)))) (Int.tmod (wrap64 (a1)) (wrap64 (8 * (y102.length : Int)))) true (wrap64 (x10_2 + 1))) else (none)) = some r := by first | (rw [hji23] at H; exact H) | (simp only [hji23] at H ⊢; exact H)
                              by_cases c24 : 0 ≤ (ji23)
                              · rw [if_pos c24] at H
                                have c24b0 := eq_true c24
                                have c24b1 : decide (0 ≤ (ji23)) = true := decide_eq_true c24
                                clear c24
                                obtain ⟨ji25, hji25⟩ : ∃ j_ : Int, (shl .u8 1 (ji23)) = j_ := ⟨_, rfl⟩
                                replace H : (wicketmanlaw13_CrcBurst.l0 kj12 l0 a2 (x7_2.set ((ji20) : Int).toNat (Go.bits .xor .u8 (rd x7_2 (ji20)) (ji25))) (Int.tmod (wrap64 (a1)) (wrap64 (8 * (y102.length : Int)))) true (wrap64 (x10_2 + 1))) = some r := by first | (rw [hji25] at H; exact H) | (simp only [hji25] at H ⊢; exact H)
                                have hji25_ : (IntKind.u8.wrap (1 * 2 ^ min (ji23).toNat 8)) = ji25 := hji25
                                have hji25z : (ji23) ≤ 8 → (IntKind.u8.wrap (1 * 2 ^ (ji23).toNat)) = ji25 := shl_small hji25
                                have hji25u : (IntKind.u8.wrap (2 ^ min (ji23).toNat 8)) = ji25 := by have h_ := hji25_; rw [Int.one_mul] at h_; exact h_
                                have hji25v : (ji23) ≤ 8 → (IntKind.u8.wrap (2 ^ (ji23).toNat)) = ji25 := fun hle_ => by have h_ := hji25z hle_; rw [Int.one_mul] at h_; exact h_
                                obtain ⟨y106, hy106⟩ : ∃ y_ : List Int, y_ = (x7_2.set ((ji20) : Int).toNat (Go.bits .xor .u8 (rd x7_2 (ji20)) (ji25))) := ⟨_, rfl⟩
                                replace H : (wicketmanlaw13_CrcBurst.l0 kj12 l0 a2 y106 (Int.tmod (wrap64 (a1)) (wrap64 (8 * (y102.length : Int)))) true (wrap64 (x10_2 + 1))) = some r := by first | (rw [hy106]; with_reducible exact H) | (have H2_ := (Option.bind_some _ _).symm.trans H; rw [hy106]; with_reducible exact H2_) | (have H2_ := (Option.bind_some _ _).symm.trans H; with_reducible exact H2_) | with_reducible exact H | (rw [hy106]; exact H) | exact H
                                have Ny106 := Aside0.mk hy106
                                clear hy106
                                have H' := Aside0.mk H
                                clear H
                                have p105 : 0 ≤ ((ji20) : Int) := of_decide_eq_true (by first | (with_reducible assumption) | assumption)
                                have q105 : (ji20) < (x7_2.length : Int) := of_decide_eq_true (by first | (with_reducible assumption) | assumption)
                                obtain ⟨ad105, e105, hx105_0⟩ := Kd.at_int (Kd.R_reads' HO_7.out).2.2 (ji20) p105 q105
                                cases e105
                                replace p105 := eq_true p105
                                replace q105 := eq_true q105
                                have p26 : 0 ≤ ((ji20) : Int) := of_decide_eq_true (by first | (with_reducible assumption) | assumption)
                                have q26 : ((ji20) : Int) < ((x7_2.length : Int) : Int) := of_decide_eq_true (by first | (with_reducible assumption) | assumption)
                                obtain ⟨go26, co26, eo26, gb26, gl26, cl26, HG26⟩ := Kd.R_form HO_7.out (by omega)
                                (first | cases eo26 | (injection eo26 with ea_ en_ ec_; (first | subst ea_ | (injection ea_ with ea_; subst ea_)); subst ec_; clear en_))
                                have GB26 := Aside0.mk gb26
                                have GG26 := Aside0.mk HG26
                                clear gb26 gl26 HG26
                                (first | simp only [add_plain] at hx105_0 | skip)
                                obtain ⟨hx26_0, hf26_0⟩ := Kd.R_celln 0 HO_7.out ((ji20) : Int) p26 q26
                                replace p26 := eq_true p26
                                replace q26 := eq_true q26
                                have HP27 := Kd.R_putg HO_7.out ((ji20) : Int) (Go.bits .xor .u8 (rd x7_2 (ji20)) (ji25))
                                go_wp2_with (first | ((with_reducible refine gate_store (t := 5) (p := 62) rfl ?_); refine store_event (t := 5) (p := 62) (v := ?vo_w28) (w1 := (wc.setCell ⟨go26, ((ji20) : Int).toNat, none⟩ (.int .u8 (Go.bits .xor .u8 (rd x7_2 (ji20)) (ji25))))) ?hg ?ho ?hn ?hr ?_; (case ho => rfl); (case hg => rfl); (case hn => rfl); (case hr => first | (go_simp; done) | (go_simp; rfl)); intro w28 hw; have hg : wc.grownBy w28 (some go26) := (by rw [hw]; exact HP27.2); have hp_ : Kd.R (Kd.int .u8) 5 w28 w.heap.size (fun _ => True) (.slice (some ⟨go26, 0, none⟩) x7_2.length co12) y106 := (by rw [hw, Ny106.out]; exact HP27.1); clear HP27; have n0_ := Aside0.mk (hp_); have n1_ := Aside0.mk ((by rw [hw]; exact below_set (HB.out) GB26.out : Below w.heap.size w w28)); clear HO_7; clear HB; have HO_7 := n0_; have HB := n1_; clear n0_ n1_; clear hg hw hp_))
                                (try simp only [← hl7_2])
                                go_roundg kj12
                                case measure => have := HJ3.out; have := HK2.out; have := HJ12.out; omega
                                case rel => exact ⟨(y106), (true), (wrap64 (x10_2 + 1)), (by first | rfl | (simp; done) | (simp [*]; done)), (by first | rfl | (simp; done) | (simp [*]; done)), H', ⟨by have := HJ3.out; have := HK2.out; have := HJ12.out; omega⟩, ⟨by (try simp only [hl7_2]); (with_reducible repeat (first | apply Kd.R_alloc | apply Kd.R_drewN | apply Kd.R_drew)); exact HO_7.out⟩, ⟨by repeat (first | (with_reducible first | exact HB.out | apply below_alloc | apply pw_below_drewN | apply below_drew1) | exact HB.out)⟩⟩
                              · rw [if_neg c24] at H
                                exact absurd H (by simp)
                            · rw [if_neg c22] at H
                              exact absurd H (by simp)
                          · rw [if_neg c21] at H
                            exact absurd H (by simp)
                        · rw [if_neg c19] at H
                          have c19b0 : ((Int.tmod (ji18) 2) == 1) = false := beq_eq_false_iff_ne.mpr c19
                          have c19b1 : ((Int.tmod (ji18) 2) != 1) = true := bne_iff_ne.mpr c19
                          have H' := Aside0.mk H
                          clear H
                          go_wp2
                          (try simp only [← hl7_2])
                          go_roundg kj12
                          case measure => have := HJ3.out; have := HK2.out; have := HJ12.out; omega
                          case rel => exact ⟨(x7_2), (x9_2), (wrap64 (x10_2 + 1)), (by first | rfl | (simp; done) | (simp [*]; done)), (by first | rfl | (simp; done) | (simp [*]; done)), H', ⟨by have := HJ3.out; have := HK2.out; have := HJ12.out; omega⟩, ⟨by (try simp only [hl7_2]); (with_reducible repeat (first | apply Kd.R_alloc | apply Kd.R_drewN | apply Kd.R_drew)); exact HO_7.out⟩, ⟨by repeat (first | (with_reducible first | exact HB.out | apply below_alloc | apply pw_below_drewN | apply below_drew1) | exact HB.out)⟩⟩
                      · rw [if_neg c17] at H
                        exact absurd H (by simp)
                    · replace c15 := Bool.eq_false_iff.mpr c15
                      subst c15
                      have H1 : ((wicketmanlaw13_known.f).bind fun t107 => (if t107 = true then ((crc_Sum.f x7_2).bind fun t108 => ((crc_Sum.f l0).bind fun t109 => (some ((t108 == t109) == (!x9_2))))) else (none))) = some r := by rw [if_neg (show ¬ (false = true) by decide)] at H; exact H
                      clear H
                      have H := H1
                      clear H1
                      replace H := Option.bind_eq_some_iff.mp H
                      obtain ⟨t107, A290, H⟩ := H
                      replace H : (if t107 = true then ((crc_Sum.f x7_2).bind fun t108 => ((crc_Sum.f l0).bind fun t109 => (some ((t108 == t109) == (!x9_2))))) else (none)) = some r := H
                      have A29 := Aside0.mk A290
                      clear A290
                      by_cases c30 : t107 = true
                      · subst c30
                        have H1 : ((crc_Sum.f x7_2).bind fun t108 => ((crc_Sum.f l0).bind fun t109 => (some ((t108 == t109) == (!x9_2))))) = some r := by rw [if_pos rfl] at H; exact H
                        clear H
                        have H := H1
                        clear H1
                        replace H := Option.bind_eq_some_iff.mp H
                        obtain ⟨t108, A310, H⟩ := H
                        replace H : ((crc_Sum.f l0).bind fun t109 => (some ((t108 == t109) == (!x9_2)))) = some r := H
                        have A31 := Aside0.mk A310
                        clear A310
                        replace H := Option.bind_eq_some_iff.mp H
                        obtain ⟨t109, A320, H⟩ := H
                        replace H : (some ((t108 == t109) == (!x9_2))) = some r := H
                        have A32 := Aside0.mk A320
                        clear A320
                        obtain rfl := Option.some.inj H
                        go_wp2_with (first | ((with_reducible refine gate_callee (f := 24) rfl ?_); refine goesL_ (some 63) rfl rfl Try.func24 (by kernel_rfl) rfl #[] rfl (by (try simp only [List.map_toArray, List.map_cons, List.map_nil]); first | done | rfl | (simp only [List.length_drop, List.length_take]; rfl)) ?_; (with_reducible refine (wicketmanlaw13_known.calls  true _ A29.out).mono ?_); rintro e w33 ⟨rfl, hb⟩; refine ⟨_, rfl, ?_⟩; have n0_ := Aside0.mk (Kd.R_below (by (with_reducible repeat (first | apply Kd.R_alloc | apply Kd.R_drewN | apply Kd.R_drew)); exact HO_7.out) hb); have n1_ := Aside0.mk (below_step (by repeat (first | (with_reducible first | exact HB.out | apply below_alloc | apply pw_below_drewN | apply below_drew1) | exact HB.out)) hb); clear HO_7; clear HB; have HO_7 := n0_; have HB := n1_; clear n0_ n1_; (try clear hb); (try clear hb2); (try clear hk); (try clear hi)) | (go_at_call 27; (with_reducible refine (crc_Sum.calls _ _ x7_2 t108 _ ?side1 ?side2 A31.out).mono ?_); (case side1 => repeat (first | exact (Kd.R_reads' HO_7.out).2.2 | (with_reducible refine Kd.C_alloc ?_ _) | (with_reducible refine Kd.C_drewN ?_ _) | (with_reducible refine Kd.C_drew ?_))); (case side2 => exact (Kd.R_reads' HO_7.out).2.1); rintro e w34 ⟨rfl, hb⟩; have n0_ := Aside0.mk (Kd.R_below (by (with_reducible repeat (first | apply Kd.R_alloc | apply Kd.R_drewN | apply Kd.R_drew)); exact HO_7.out) hb); have n1_ := Aside0.mk (below_step (by repeat (first | (with_reducible first | exact HB.out | apply below_alloc | apply pw_below_drewN | apply below_drew1) | exact HB.out)) hb); clear HO_7; clear HB; have HO_7 := n0_; have HB := n1_; clear n0_ n1_; (try clear hb); (try clear hb2); (try clear hk); (try clear hi)) | (go_at_call 27; (with_reducible refine (crc_Sum.calls _ _ l0 t109 _ ?side1 ?side2 A32.out).mono ?_); (case side1 => repeat (first | exact (Kd.C_below HR0.out HB.out) | (with_reducible refine Kd.C_alloc ?_ _) | (with_reducible refine Kd.C_drewN ?_ _) | (with_reducible refine Kd.C_drew ?_))); (case side2 => exact HC0.out); rintro e w35 ⟨rfl, hb⟩; have n0_ := Aside0.mk (Kd.R_below (by (with_reducible repeat (first | apply Kd.R_alloc | apply Kd.R_drewN | apply Kd.R_drew)); exact HO_7.out) hb); have n1_ := Aside0.mk (below_step (by repeat (first | (with_reducible first | exact HB.out | apply below_alloc | apply pw_below_drewN | apply below_drew1) | exact HB.out)) hb); clear HO_7; clear HB; have HO_7 := n0_; have HB := n1_; clear n0_ n1_; (try clear hb); (try clear hb2); (try clear hk); (try clear hi)))
                        go_ret
                        exact ⟨by first | rfl | (simp [errW_none, errW_some] <;> rfl) | (simp [*, errW_none, errW_some] <;> rfl), by repeat (first | (with_reducible first | exact HB.out | apply below_alloc | apply pw_below_drewN | apply below_drew1) | exact HB.out)⟩
                      · replace c30 := Bool.eq_false_iff.mpr c30
                        subst c30
                        have H1 : (none) = some r := by rw [if_neg (show ¬ (false = true) by decide)] at H; exact H
                        clear H
                        have H := H1
                        clear H1
                        exact absurd H (by simp)
        · rw [if_neg c9] at H
          exact absurd H (by simp)

/-- THE ONE PURE STATEMENT of wicketmanlaw13_CrcBurst: yours. -/
def wicketmanlaw13_CrcBurst.Pure : Prop := ∀ (l0 : List Int) (a1 : Int) (a2 : Int), l0.length ≤ maxLen → l0.length * 1 ≤ 140737488351232 → (∀ x ∈ l0, (Lit.int .u8 x).wf = true) → (Lit.int .u16 a1).wf = true → (Lit.int .u32 a2).wf = true → ∃ k, wicketmanlaw13_CrcBurst.f k l0 a1 a2 = some true
theorem wicketmanlaw13_CrcBurst.walk (P : wicketmanlaw13_CrcBurst.Pure) (a0 : Option Addr) (len0 cap0 : Nat) (z0 : List Int) (a1 : Int) (a2 : Int) (w : World) (w0 : (a0 = none ∧ len0 = 0 ∧ cap0 = 0 ∧ z0 = []) ∨ ∃ x, a0 = some x ∧ len0 ≤ cap0 ∧ cap0 ≤ maxLen ∧ z0.length = cap0 ∧ (∀ i, i < z0.length → w.cell? (x.add i) = some (.int .u8 (z0.getD i 0))) ∧ ∀ n ∈ z0, (Lit.int .u8 n).wf = true) (y0 : len0 * 1 ≤ 140737488351232) (w1 : (Lit.int .u16 a1).wf = true) (w2 : (Lit.int .u32 a2).wf = true) :
    Calls Try.prog 10 #[.slice a0 len0 cap0, .int .u16 a1, .int .u32 a2] w fun e w' => e = .returned (.bool true) ∧ Below w.heap.size w w' := by
  obtain ⟨l0, rfl, hr0, hm0, hw0, hc0⟩ := ReadsInt.ofRowC w0
  obtain ⟨k, h⟩ := P l0 a1 a2 hm0 y0 hw0 w1 w2
  refine (wicketmanlaw13_CrcBurst.calls k _ _ l0 a1 a2 true w (Kd.C_of_reads (d := (0 : Int)) (h1 := fun _ => rfl) hr0) hc0 h).mono ?_
  rintro e w' ⟨rfl, hd⟩
  exact ⟨rfl, hd⟩

end Go.Proofs.Ytmepclalglmleaa.Pr
