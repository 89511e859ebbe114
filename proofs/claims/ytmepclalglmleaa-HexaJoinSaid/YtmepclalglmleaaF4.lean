-- Written for this claim by wip/myprint.py, this session's driver over the kit's print.py. Not trusted: Lean checks it.
import Derived.Test.YtmepclalglmleaaF
import Derived.Test.YtmepclalglmleaaE1
import Derived.Test.YtmepclalglmleaaF15
namespace Go.Proofs.Ytmepclalglmleaa.Pr
open Go.RowKit Go.Proofs.YtmepclalglmleaaW.PrintWords Go.Proofs.YtmepclalglmleaaW.PrintLast Go.Proofs.YtmepclalglmleaaW.PrintMore Go.Proofs.Ytmepclalglmleaa.E
attribute [local go_sem] max2_int min2_int max_two min_two max_three min_three max_four min_four   -- for this text's walks alone
set_option linter.unusedVariables false
set_option linter.unusedSimpArgs false

/-! ### wicketmanlaw05_HexaJoin: function 4 -/
def wicketmanlaw05_HexaJoin.f (l0 : List Int) (l1 : List Int) : Option (Bool) := if (wrap64 ((l0.length : Int) + (l1.length : Int))) > 300 then ((wicketmanlaw05_known.f).bind fun t101 => (some t101)) else (if ([] : List Int).length + l0.length < 140737488355328 then ((some (([] : List Int) ++ l0 : List Int)).bind fun y102 => (if y102.length + l1.length < 140737488355328 then ((wicketmanlaw05_known.f).bind fun t108 => (if t108 = true then ((hexa_Text.f (y102 ++ l1)).bind fun t109 => ((hexa_Text.f l0).bind fun t110 => ((hexa_Text.f l1).bind fun t111 => (if t110.size + t111.size ≤ 9223372036854775807 then (if t109.toList = (t110 ++ t111).toList then ((hexa_Text.f ([] : List Int)).bind fun t112 => (some (t112.toList == ([] : List UInt8)))) else (none)) else (none))))) else (none))) else (none))) else (none))
set_option maxHeartbeats 8000000 in
set_option maxRecDepth 1000000 in
theorem wicketmanlaw05_HexaJoin.calls (A0 : Option Addr) (c0 : Nat) (l0 : List Int) (A1 : Option Addr) (c1 : Nat) (l1 : List Int) (r : Bool) (w : World) (hr0 : Kd.C (Kd.int .u8) w A0 l0.length l0) (hc0 : l0.length ≤ c0) (hr1 : Kd.C (Kd.int .u8) w A1 l1.length l1) (hc1 : l1.length ≤ c1) (h : wicketmanlaw05_HexaJoin.f l0 l1 = some r) :
    Calls Try.prog 4 #[.slice A0 l0.length c0, .slice A1 l1.length c1] w fun e w' => e = .returned (.bool r) ∧ Below w.heap.size w w' := by
  have HR0 := Aside0.mk hr0
  have HC0 := Aside0.mk hc0
  clear hr0 hc0
  have HR1 := Aside0.mk hr1
  have HC1 := Aside0.mk hc1
  clear hr1 hc1
  have HB := Aside0.mk (Below.refl w.heap.size w)
  have H : (if (wrap64 ((l0.length : Int) + (l1.length : Int))) > 300 then ((wicketmanlaw05_known.f).bind fun t101 => (some t101)) else (if ([] : List Int).length + l0.length < 140737488355328 then ((some (([] : List Int) ++ l0 : List Int)).bind fun y102 => (if y102.length + l1.length < 140737488355328 then ((wicketmanlaw05_known.f).bind fun t108 => (if t108 = true then ((hexa_Text.f (y102 ++ l1)).bind fun t109 => ((hexa_Text.f l0).bind fun t110 => ((hexa_Text.f l1).bind fun t111 => (if t110.size + t111.size ≤ 9223372036854775807 then (if t109.toList = (t110 ++ t111).toList then ((hexa_Text.f ([] : List Int)).bind fun t112 => (some (t112.toList == ([] : List UInt8)))) else (none)) else (none))))) else (none))) else (none))) else (none))) = some r := h
  clear h
  by_cases c3 : (wrap64 ((l0.length : Int) + (l1.length : Int))) > 300
  · rw [if_pos c3] at H
    have c3b0 : decide (300 < (wrap64 ((l0.length : Int) + (l1.length : Int)))) = true := decide_eq_true c3
    clear c3
    replace H := Option.bind_eq_some_iff.mp H
    obtain ⟨t101, A40, H⟩ := H
    replace H : (some t101) = some r := H
    have A4 := Aside0.mk A40
    clear A40
    obtain rfl := Option.some.inj H
    go_enter Try.func4, Try.ntmps4
    go_wp2_with (first | ((with_reducible refine gate_callee (f := 15) rfl ?_); refine goesL_ (some 12) rfl rfl Try.func15 (by kernel_rfl) rfl #[] rfl (by (try simp only [List.map_toArray, List.map_cons, List.map_nil]); first | done | rfl | (simp only [List.length_drop, List.length_take]; rfl)) ?_; (with_reducible refine (wicketmanlaw05_known.calls  t101 _ A4.out).mono ?_); rintro e w5 ⟨rfl, hb⟩; refine ⟨_, rfl, ?_⟩; have n0_ := Aside0.mk (below_step (by repeat (first | (with_reducible first | exact HB.out | apply below_alloc | apply pw_below_drewN | apply below_drew1) | exact HB.out)) hb); clear HB; have HB := n0_; clear n0_; (try clear hb); (try clear hb2); (try clear hk); (try clear hi)))
    go_ret
    exact ⟨by first | rfl | (simp [errW_none, errW_some] <;> rfl) | (simp [*, errW_none, errW_some] <;> rfl), by repeat (first | (with_reducible first | exact HB.out | apply below_alloc | apply pw_below_drewN | apply below_drew1) | exact HB.out)⟩
  · rw [if_neg c3] at H
    have c3b0 : decide (300 < (wrap64 ((l0.length : Int) + (l1.length : Int)))) = false := decide_eq_false c3
    clear c3
    by_cases c6 : ([] : List Int).length + l0.length < 140737488355328
    · rw [if_pos c6] at H
      have LMc6 := Aside0.mk c6
      clear c6
      obtain ⟨y102, hy102⟩ : ∃ y_ : List Int, y_ = (([] : List Int) ++ l0) := ⟨_, rfl⟩
      replace H : (if y102.length + l1.length < 140737488355328 then ((wicketmanlaw05_known.f).bind fun t108 => (if t108 = true then ((hexa_Text.f (y102 ++ l1)).bind fun t109 => ((hexa_Text.f l0).bind fun t110 => ((hexa_Text.f l1).bind fun t111 => (if t110.size + t111.size ≤ 9223372036854775807 then (if t109.toList = (t110 ++ t111).toList then ((hexa_Text.f ([] : List Int)).bind fun t112 => (some (t112.toList == ([] : List UInt8)))) else (none)) else (none))))) else (none))) else (none)) = some r := by first | (rw [hy102]; with_reducible exact H) | (have H2_ := (Option.bind_some _ _).symm.trans H; rw [hy102]; with_reducible exact H2_) | (have H2_ := (Option.bind_some _ _).symm.trans H; with_reducible exact H2_) | with_reducible exact H | (rw [hy102]; exact H) | exact H
      have Ny102 := Aside0.mk hy102
      clear hy102
      by_cases c7 : y102.length + l1.length < 140737488355328
      · rw [if_pos c7] at H
        have LMc7 := Aside0.mk c7
        clear c7
        obtain ⟨y105, hy105⟩ : ∃ y_ : List Int, y_ = (y102 ++ l1) := ⟨_, rfl⟩
        replace H : ((wicketmanlaw05_known.f).bind fun t108 => (if t108 = true then ((hexa_Text.f y105).bind fun t109 => ((hexa_Text.f l0).bind fun t110 => ((hexa_Text.f l1).bind fun t111 => (if t110.size + t111.size ≤ 9223372036854775807 then (if t109.toList = (t110 ++ t111).toList then ((hexa_Text.f ([] : List Int)).bind fun t112 => (some (t112.toList == ([] : List UInt8)))) else (none)) else (none))))) else (none))) = some r := by first | (rw [hy105]; with_reducible exact H) | (have H2_ := (Option.bind_some _ _).symm.trans H; rw [hy105]; with_reducible exact H2_) | (have H2_ := (Option.bind_some _ _).symm.trans H; with_reducible exact H2_) | with_reducible exact H | (rw [hy105]; exact H) | exact H
        have Ny105 := Aside0.mk hy105
        clear hy105
        replace H := Option.bind_eq_some_iff.mp H
        obtain ⟨t108, A80, H⟩ := H
        replace H : (if t108 = true then ((hexa_Text.f y105).bind fun t109 => ((hexa_Text.f l0).bind fun t110 => ((hexa_Text.f l1).bind fun t111 => (if t110.size + t111.size ≤ 9223372036854775807 then (if t109.toList = (t110 ++ t111).toList then ((hexa_Text.f ([] : List Int)).bind fun t112 => (some (t112.toList == ([] : List UInt8)))) else (none)) else (none))))) else (none)) = some r := H
        have A8 := Aside0.mk A80
        clear A80
        by_cases c9 : t108 = true
        · subst c9
          have H1 : ((hexa_Text.f y105).bind fun t109 => ((hexa_Text.f l0).bind fun t110 => ((hexa_Text.f l1).bind fun t111 => (if t110.size + t111.size ≤ 9223372036854775807 then (if t109.toList = (t110 ++ t111).toList then ((hexa_Text.f ([] : List Int)).bind fun t112 => (some (t112.toList == ([] : List UInt8)))) else (none)) else (none))))) = some r := by rw [if_pos rfl] at H; exact H
          clear H
          have H := H1
          clear H1
          replace H := Option.bind_eq_some_iff.mp H
          obtain ⟨t109, A100, H⟩ := H
          replace H : ((hexa_Text.f l0).bind fun t110 => ((hexa_Text.f l1).bind fun t111 => (if t110.size + t111.size ≤ 9223372036854775807 then (if t109.toList = (t110 ++ t111).toList then ((hexa_Text.f ([] : List Int)).bind fun t112 => (some (t112.toList == ([] : List UInt8)))) else (none)) else (none)))) = some r := H
          have A10 := Aside0.mk A100
          clear A100
          replace H := Option.bind_eq_some_iff.mp H
          obtain ⟨t110, A110, H⟩ := H
          replace H : ((hexa_Text.f l1).bind fun t111 => (if t110.size + t111.size ≤ 9223372036854775807 then (if t109.toList = (t110 ++ t111).toList then ((hexa_Text.f ([] : List Int)).bind fun t112 => (some (t112.toList == ([] : List UInt8)))) else (none)) else (none))) = some r := H
          have A11 := Aside0.mk A110
          clear A110
          replace H := Option.bind_eq_some_iff.mp H
          obtain ⟨t111, A120, H⟩ := H
          replace H : (if t110.size + t111.size ≤ 9223372036854775807 then (if t109.toList = (t110 ++ t111).toList then ((hexa_Text.f ([] : List Int)).bind fun t112 => (some (t112.toList == ([] : List UInt8)))) else (none)) else (none)) = some r := H
          have A12 := Aside0.mk A120
          clear A120
          by_cases c13 : t110.size + t111.size ≤ 9223372036854775807
          · rw [if_pos c13] at H
            have c13b0 := eq_true c13
            have c13b1 : decide (t110.size + t111.size ≤ 9223372036854775807) = true := decide_eq_true c13
            try have c13b2 : (9223372036854775807 < t110.size + t111.size) = False := eq_false (Nat.not_lt.2 c13)
            try (have c13b3 := c13; simp at c13b3)
            try have c13b4 := eq_false (Nat.not_lt.2 c13b3)
            by_cases c14 : t109.toList = (t110 ++ t111).toList
            · rw [if_pos c14] at H
              have c14b0 : (t109.toList == (t110 ++ t111).toList) = true := beq_iff_eq.mpr c14
              have c14b1 : (t109.toList != (t110 ++ t111).toList) = false := bne_eq_false_iff_eq.mpr c14
              clear c14
              replace H := Option.bind_eq_some_iff.mp H
              obtain ⟨t112, A150, H⟩ := H
              replace H : (some (t112.toList == ([] : List UInt8))) = some r := H
              have A15 := Aside0.mk A150
              clear A150
              obtain rfl := Option.some.inj H
              go_enter Try.func4, Try.ntmps4
              go_wp2_with (first | ((with_reducible refine gate_builtin (b := .append) (xs := #[.tmp 13, .tmp 14]) rfl ?_); at_builtin; refine Kd.R_append_rows (Kd.int .u8) (w0 := w) w.heap.size rfl (.tmp 13) (.tmp 14) 22 5 (.int .u8 0) 1 rfl Try.underlying22 info5 rfl (by decide) (by omega) (.slice none 0 0) ([] : List Int) l0 _ _ _ (fun _ => True) (fun _ => False) rfl rfl ?aO ?aR (fun _ _ h => h) (fun _ h => h.elim) ?aF ?aB ?aS ?aL ?_; (case aR => repeat (first | exact HR0.out | (with_reducible refine Kd.C_alloc ?_ _) | (with_reducible refine Kd.C_drewN ?_ _) | (with_reducible refine Kd.C_drew ?_))); (case aB => exact (by repeat (first | (with_reducible first | exact HB.out | apply below_alloc | apply pw_below_drewN | apply below_drew1) | exact HB.out))); (case aF => exact (fun _ _ => trivial)); (case aO => exact ((Kd.R_nil _ _ _ _ (fun _ => True)))); (case aS => exact (below_size (by repeat (first | (with_reducible first | exact HB.out | apply below_alloc | apply pw_below_drewN | apply below_drew1) | exact HB.out)))); (case aL => have := LMc6.out; omega); intro v103 w16 ho hb hg hat; rw [← Ny102.out] at ho; have n0_ := Aside0.mk (hb); have n1_ := Aside0.mk (ho); clear HB; have HB := n0_; have HO104 := n1_; clear n0_ n1_; clear ho hb hg hat) | ((with_reducible refine gate_builtin (b := .append) (xs := #[.tmp 16, .tmp 17]) rfl ?_); at_builtin; refine Kd.R_append_rows (Kd.int .u8) (w0 := w) w.heap.size rfl (.tmp 16) (.tmp 17) 22 5 (.int .u8 0) 1 rfl Try.underlying22 info5 rfl (by decide) (by omega) v103 y102 l1 _ _ _ (fun _ => True) (fun _ => False) rfl rfl ?aO ?aR (fun _ _ h => h) (fun _ h => h.elim) ?aF ?aB ?aS ?aL ?_; (case aR => repeat (first | exact (Kd.C_below HR1.out HB.out) | (with_reducible refine Kd.C_alloc ?_ _) | (with_reducible refine Kd.C_drewN ?_ _) | (with_reducible refine Kd.C_drew ?_))); (case aB => exact (by repeat (first | (with_reducible first | exact HB.out | apply below_alloc | apply pw_below_drewN | apply below_drew1) | exact HB.out))); (case aF => exact (fun _ _ => trivial)); (case aO => exact (by (with_reducible repeat (first | apply Kd.R_alloc | apply Kd.R_drewN | apply Kd.R_drew)); exact HO104.out)); (case aS => exact (below_size (by repeat (first | (with_reducible first | exact HB.out | apply below_alloc | apply pw_below_drewN | apply below_drew1) | exact HB.out)))); (case aL => have := LMc7.out; omega); intro v106 w17 ho hb hg hat; rw [← Ny105.out] at ho; have n0_ := Aside0.mk (hb); have n1_ := Aside0.mk (ho); clear HB; clear HO104; have HB := n0_; have HO107 := n1_; clear n0_ n1_; clear ho hb hg hat) | ((with_reducible refine gate_callee (f := 15) rfl ?_); refine goesL_ (some 19) rfl rfl Try.func15 (by kernel_rfl) rfl #[] rfl (by (try simp only [List.map_toArray, List.map_cons, List.map_nil]); first | done | rfl | (simp only [List.length_drop, List.length_take]; rfl)) ?_; (with_reducible refine (wicketmanlaw05_known.calls  true _ A8.out).mono ?_); rintro e w18 ⟨rfl, hb⟩; refine ⟨_, rfl, ?_⟩; have n0_ := Aside0.mk (Kd.R_below (by (with_reducible repeat (first | apply Kd.R_alloc | apply Kd.R_drewN | apply Kd.R_drew)); exact HO107.out) hb); have n1_ := Aside0.mk (below_step (by repeat (first | (with_reducible first | exact HB.out | apply below_alloc | apply pw_below_drewN | apply below_drew1) | exact HB.out)) hb); clear HO107; clear HB; have HO107 := n0_; have HB := n1_; clear n0_ n1_; (try clear hb); (try clear hb2); (try clear hk); (try clear hi); obtain ⟨Ao19, co19, eo19⟩ := Kd.R_slice HO107.out; subst eo19) | (go_at_call 16; (with_reducible refine (hexa_Text.calls _ _ y105 t109 _ ?side1 ?side2 A10.out).mono ?_); (case side1 => repeat (first | exact (Kd.R_reads' HO107.out).2.2 | (with_reducible refine Kd.C_alloc ?_ _) | (with_reducible refine Kd.C_drewN ?_ _) | (with_reducible refine Kd.C_drew ?_))); (case side2 => exact (Kd.R_reads' HO107.out).2.1); rintro e w20 ⟨rfl, hb⟩; have n0_ := Aside0.mk (Kd.R_below (by (with_reducible repeat (first | apply Kd.R_alloc | apply Kd.R_drewN | apply Kd.R_drew)); exact HO107.out) hb); have n1_ := Aside0.mk (below_step (by repeat (first | (with_reducible first | exact HB.out | apply below_alloc | apply pw_below_drewN | apply below_drew1) | exact HB.out)) hb); clear HO107; clear HB; have HO107 := n0_; have HB := n1_; clear n0_ n1_; (try clear hb); (try clear hb2); (try clear hk); (try clear hi)) | (go_at_call 16; (with_reducible refine (hexa_Text.calls _ _ l0 t110 _ ?side1 ?side2 A11.out).mono ?_); (case side1 => repeat (first | exact (Kd.C_below HR0.out HB.out) | (with_reducible refine Kd.C_alloc ?_ _) | (with_reducible refine Kd.C_drewN ?_ _) | (with_reducible refine Kd.C_drew ?_))); (case side2 => exact HC0.out); rintro e w21 ⟨rfl, hb⟩; have n0_ := Aside0.mk (Kd.R_below (by (with_reducible repeat (first | apply Kd.R_alloc | apply Kd.R_drewN | apply Kd.R_drew)); exact HO107.out) hb); have n1_ := Aside0.mk (below_step (by repeat (first | (with_reducible first | exact HB.out | apply below_alloc | apply pw_below_drewN | apply below_drew1) | exact HB.out)) hb); clear HO107; clear HB; have HO107 := n0_; have HB := n1_; clear n0_ n1_; (try clear hb); (try clear hb2); (try clear hk); (try clear hi)) | (go_at_call 16; (with_reducible refine (hexa_Text.calls _ _ l1 t111 _ ?side1 ?side2 A12.out).mono ?_); (case side1 => repeat (first | exact (Kd.C_below HR1.out HB.out) | (with_reducible refine Kd.C_alloc ?_ _) | (with_reducible refine Kd.C_drewN ?_ _) | (with_reducible refine Kd.C_drew ?_))); (case side2 => exact HC1.out); rintro e w22 ⟨rfl, hb⟩; have n0_ := Aside0.mk (Kd.R_below (by (with_reducible repeat (first | apply Kd.R_alloc | apply Kd.R_drewN | apply Kd.R_drew)); exact HO107.out) hb); have n1_ := Aside0.mk (below_step (by repeat (first | (with_reducible first | exact HB.out | apply below_alloc | apply pw_below_drewN | apply below_drew1) | exact HB.out)) hb); clear HO107; clear HB; have HO107 := n0_; have HB := n1_; clear n0_ n1_; (try clear hb); (try clear hb2); (try clear hk); (try clear hi)) | (go_at_call 16; (refine (hexa_Text.calls _ _ ([] : List Int) t112 _ ?side1 ?side2 A15.out).mono ?_); (case side1 => exact Kd.C_nil _ _); (case side2 => exact Nat.le_refl _); rintro e w23 ⟨rfl, hb⟩; have n0_ := Aside0.mk (Kd.R_below (by (with_reducible repeat (first | apply Kd.R_alloc | apply Kd.R_drewN | apply Kd.R_drew)); exact HO107.out) hb); have n1_ := Aside0.mk (below_step (by repeat (first | (with_reducible first | exact HB.out | apply below_alloc | apply pw_below_drewN | apply below_drew1) | exact HB.out)) hb); clear HO107; clear HB; have HO107 := n0_; have HB := n1_; clear n0_ n1_; (try clear hb); (try clear hb2); (try clear hk); (try clear hi)))
              go_ret
              exact ⟨by first | rfl | (simp [errW_none, errW_some] <;> rfl) | (simp [*, errW_none, errW_some] <;> rfl), by repeat (first | (with_reducible first | exact HB.out | apply below_alloc | apply pw_below_drewN | apply below_drew1) | exact HB.out)⟩
            · rw [if_neg c14] at H
              exact absurd H (by simp)
          · rw [if_neg c13] at H
            exact absurd H (by simp)
        · replace c9 := Bool.eq_false_iff.mpr c9
          subst c9
          have H1 : (none) = some r := by rw [if_neg (show ¬ (false = true) by decide)] at H; exact H
          clear H
          have H := H1
          clear H1
          exact absurd H (by simp)
      · rw [if_neg c7] at H
        exact absurd H (by simp)
    · rw [if_neg c6] at H
      exact absurd H (by simp)

/-- THE ONE PURE STATEMENT of wicketmanlaw05_HexaJoin: yours. -/
def wicketmanlaw05_HexaJoin.Pure : Prop := ∀ (l0 : List Int) (l1 : List Int), l0.length ≤ maxLen → l0.length * 1 ≤ 140737488351232 → (∀ x ∈ l0, (Lit.int .u8 x).wf = true) → l1.length ≤ maxLen → l1.length * 1 ≤ 140737488351232 → (∀ x ∈ l1, (Lit.int .u8 x).wf = true) → wicketmanlaw05_HexaJoin.f l0 l1 = some true
theorem wicketmanlaw05_HexaJoin.walk (P : wicketmanlaw05_HexaJoin.Pure) (a0 : Option Addr) (len0 cap0 : Nat) (z0 : List Int) (a1 : Option Addr) (len1 cap1 : Nat) (z1 : List Int) (w : World) (w0 : (a0 = none ∧ len0 = 0 ∧ cap0 = 0 ∧ z0 = []) ∨ ∃ x, a0 = some x ∧ len0 ≤ cap0 ∧ cap0 ≤ maxLen ∧ z0.length = cap0 ∧ (∀ i, i < z0.length → w.cell? (x.add i) = some (.int .u8 (z0.getD i 0))) ∧ ∀ n ∈ z0, (Lit.int .u8 n).wf = true) (y0 : len0 * 1 ≤ 140737488351232) (w1 : (a1 = none ∧ len1 = 0 ∧ cap1 = 0 ∧ z1 = []) ∨ ∃ x, a1 = some x ∧ len1 ≤ cap1 ∧ cap1 ≤ maxLen ∧ z1.length = cap1 ∧ (∀ i, i < z1.length → w.cell? (x.add i) = some (.int .u8 (z1.getD i 0))) ∧ ∀ n ∈ z1, (Lit.int .u8 n).wf = true) (y1 : len1 * 1 ≤ 140737488351232) :
    Calls Try.prog 4 #[.slice a0 len0 cap0, .slice a1 len1 cap1] w fun e w' => e = .returned (.bool true) ∧ Below w.heap.size w w' := by
  obtain ⟨l0, rfl, hr0, hm0, hw0, hc0⟩ := ReadsInt.ofRowC w0
  obtain ⟨l1, rfl, hr1, hm1, hw1, hc1⟩ := ReadsInt.ofRowC w1
  have h := P l0 l1 hm0 y0 hw0 hm1 y1 hw1
  refine (wicketmanlaw05_HexaJoin.calls _ _ l0 _ _ l1 true w (Kd.C_of_reads (d := (0 : Int)) (h1 := fun _ => rfl) hr0) hc0 (Kd.C_of_reads (d := (0 : Int)) (h1 := fun _ => rfl) hr1) hc1 h).mono ?_
  rintro e w' ⟨rfl, hd⟩
  exact ⟨rfl, hd⟩

end Go.Proofs.Ytmepclalglmleaa.Pr
