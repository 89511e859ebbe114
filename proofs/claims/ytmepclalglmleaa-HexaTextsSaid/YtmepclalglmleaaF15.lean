-- Written for this claim by wip/myprint.py, this session's driver over the kit's print.py. Not trusted: Lean checks it.
import Derived.Test.YtmepclalglmleaaF
import Derived.Test.YtmepclalglmleaaE1
import Derived.Test.YtmepclalglmleaaF22
namespace Go.Proofs.Ytmepclalglmleaa.Pr
open Go.RowKit Go.Proofs.YtmepclalglmleaaW.PrintWords Go.Proofs.YtmepclalglmleaaW.PrintLast Go.Proofs.YtmepclalglmleaaW.PrintMore Go.Proofs.Ytmepclalglmleaa.E
attribute [local go_sem] max2_int min2_int max_two min_two max_three min_three max_four min_four   -- for this text's walks alone
set_option linter.unusedVariables false
set_option linter.unusedSimpArgs false

/-! ### wicketmanlaw05_known: function 15 -/
def wicketmanlaw05_known.f  : Option (Bool) := (hexa_Bytes.f (⟨#[48, 102, 97, 48]⟩ : ByteArray)).bind fun bt101 => ((hexa_Text.f (([15, 160] : List Int))).bind fun t108 => (if t108.toList = ([48, 102, 97, 48] : List UInt8) then (if bt101.2 = true then (if (bt101.1.length : Int) = 2 then (if 1 < (bt101.1.length : Int) then (if (rd bt101.1 1) = 160 then ((hexa_ID.f (⟨#[48, 102, 97, 48]⟩ : ByteArray)).bind fun t110 => (some (!t110))) else (none)) else (none)) else (none)) else (none)) else (none)))
set_option maxHeartbeats 8000000 in
set_option maxRecDepth 1000000 in
theorem wicketmanlaw05_known.calls  (r : Bool) (w : World) (h : wicketmanlaw05_known.f  = some r) :
    Calls Try.prog 15 #[] w fun e w' => e = .returned (.bool r) ∧ Below w.heap.size w w' := by
  have HB := Aside0.mk (Below.refl w.heap.size w)
  have H : ((hexa_Bytes.f (⟨#[48, 102, 97, 48]⟩ : ByteArray)).bind fun bt101 => ((hexa_Text.f (([15, 160] : List Int))).bind fun t108 => (if t108.toList = ([48, 102, 97, 48] : List UInt8) then (if bt101.2 = true then (if (bt101.1.length : Int) = 2 then (if 1 < (bt101.1.length : Int) then (if (rd bt101.1 1) = 160 then ((hexa_ID.f (⟨#[48, 102, 97, 48]⟩ : ByteArray)).bind fun t110 => (some (!t110))) else (none)) else (none)) else (none)) else (none)) else (none)))) = some r := h
  clear h
  replace H := Option.bind_eq_some_iff.mp H
  obtain ⟨⟨t101, t102⟩, A10, H⟩ := H
  replace H : ((hexa_Text.f (([15, 160] : List Int))).bind fun t108 => (if t108.toList = ([48, 102, 97, 48] : List UInt8) then (if t102 = true then (if (t101.length : Int) = 2 then (if 1 < (t101.length : Int) then (if (rd t101 1) = 160 then ((hexa_ID.f (⟨#[48, 102, 97, 48]⟩ : ByteArray)).bind fun t110 => (some (!t110))) else (none)) else (none)) else (none)) else (none)) else (none))) = some r := H
  have A1 := Aside0.mk A10
  clear A10
  obtain ⟨y105, hy105⟩ : ∃ y_ : List Int, y_ = (([15, 160] : List Int)) := ⟨_, rfl⟩
  replace H : ((hexa_Text.f y105).bind fun t108 => (if t108.toList = ([48, 102, 97, 48] : List UInt8) then (if t102 = true then (if (t101.length : Int) = 2 then (if 1 < (t101.length : Int) then (if (rd t101 1) = 160 then ((hexa_ID.f (⟨#[48, 102, 97, 48]⟩ : ByteArray)).bind fun t110 => (some (!t110))) else (none)) else (none)) else (none)) else (none)) else (none))) = some r := by first | (rw [hy105]; with_reducible exact H) | (have H2_ := (Option.bind_some _ _).symm.trans H; rw [hy105]; with_reducible exact H2_) | (have H2_ := (Option.bind_some _ _).symm.trans H; with_reducible exact H2_) | with_reducible exact H | (rw [hy105]; exact H) | exact H
  have Ny105 := Aside0.mk hy105
  clear hy105
  replace H := Option.bind_eq_some_iff.mp H
  obtain ⟨t108, A20, H⟩ := H
  replace H : (if t108.toList = ([48, 102, 97, 48] : List UInt8) then (if t102 = true then (if (t101.length : Int) = 2 then (if 1 < (t101.length : Int) then (if (rd t101 1) = 160 then ((hexa_ID.f (⟨#[48, 102, 97, 48]⟩ : ByteArray)).bind fun t110 => (some (!t110))) else (none)) else (none)) else (none)) else (none)) else (none)) = some r := H
  have A2 := Aside0.mk A20
  clear A20
  by_cases c3 : t108.toList = ([48, 102, 97, 48] : List UInt8)
  · rw [if_pos c3] at H
    have c3b0 : (t108.toList == ([48, 102, 97, 48] : List UInt8)) = true := beq_iff_eq.mpr c3
    have c3b1 : (t108.toList != ([48, 102, 97, 48] : List UInt8)) = false := bne_eq_false_iff_eq.mpr c3
    clear c3
    by_cases c4 : t102 = true
    · subst c4
      have H1 : (if (t101.length : Int) = 2 then (if 1 < (t101.length : Int) then (if (rd t101 1) = 160 then ((hexa_ID.f (⟨#[48, 102, 97, 48]⟩ : ByteArray)).bind fun t110 => (some (!t110))) else (none)) else (none)) else (none)) = some r := by rw [if_pos rfl] at H; exact H
      clear H
      have H := H1
      clear H1
      by_cases c5 : (t101.length : Int) = 2
      · rw [if_pos c5] at H
        have c5b0 : ((t101.length : Int) == 2) = true := beq_iff_eq.mpr c5
        have c5b1 : ((t101.length : Int) != 2) = false := bne_eq_false_iff_eq.mpr c5
        clear c5
        by_cases c6 : 1 < (t101.length : Int)
        · rw [if_pos c6] at H
          have c6b0 : decide (1 < (t101.length : Int)) = true := decide_eq_true c6
          have c6b1 : decide (1 < t101.length) = true := decide_eq_true (by omega)
          clear c6
          by_cases c7 : (rd t101 1) = 160
          · rw [if_pos c7] at H
            have c7b0 : ((rd t101 1) == 160) = true := beq_iff_eq.mpr c7
            have c7b1 : ((rd t101 1) != 160) = false := bne_eq_false_iff_eq.mpr c7
            clear c7
            replace H := Option.bind_eq_some_iff.mp H
            obtain ⟨t110, A80, H⟩ := H
            replace H : (some (!t110)) = some r := H
            have A8 := Aside0.mk A80
            clear A80
            obtain rfl := Option.some.inj H
            go_enter Try.func15, Try.ntmps15
            go_wp2_with (first | ((with_reducible refine gate_callee (f := 17) rfl ?_); refine goesL_ (some 4) rfl rfl Try.func17 (by kernel_rfl) rfl #[.string (⟨#[48, 102, 97, 48]⟩ : ByteArray)] rfl (by (try simp only [List.map_toArray, List.map_cons, List.map_nil]); first | done | rfl | (simp only [List.length_drop, List.length_take]; rfl)) ?_; (with_reducible refine (hexa_Bytes.calls (⟨#[48, 102, 97, 48]⟩ : ByteArray) t101 true _ A1.out).mono ?_); rintro e w9 ⟨v103, rfl, ho0, hb⟩; refine ⟨_, rfl, ?_⟩; have n0_ := Aside0.mk (Kd.R_lower ho0 (below_size (by repeat (first | (with_reducible first | exact HB.out | apply below_alloc | apply pw_below_drewN | apply below_drew1) | exact HB.out)))); have n1_ := Aside0.mk (below_step (by repeat (first | (with_reducible first | exact HB.out | apply below_alloc | apply pw_below_drewN | apply below_drew1) | exact HB.out)) hb); clear HB; have HO104 := n0_; have HB := n1_; clear n0_ n1_; (try clear hb); (try clear hb2); (try clear hk); (try clear hi); (try clear ho0)) | ((with_reducible refine gate_dst (N := 7) rfl ?_); (try (refine gate_guard (by rfl) ?_; dsimp only)); refine Kd.R_lit (Kd.int .u8) _ 5 ?hg (N := 7) ?hd (xs := ([15, 160] : List Int)) (inner := [.int .u8 15, .int .u8 160]) (ok := fun _ => True) (okp := fun _ => True) ?hr ?hp (fun _ hk => hk) trivial (Below.refl _ _) (Nat.le_refl _) (by simp) ?_; (case hd => rfl); (case hg => rfl); (case hr => first | (go_simp; done) | (go_simp; rfl)); (case hp => exact (Reps.one (show Kd.M (Kd.int .u8) _ _ _ 15 [.int .u8 15] from rfl) (Reps.one (show Kd.M (Kd.int .u8) _ _ _ 160 [.int .u8 160] from rfl) (Reps.none _ _)))); intro v106 w10 ho11 hb hg_ hnew_; clear hg_ hnew_; (first | rw [← Ny105.out] at ho11 | (simp only [Int.reduceToNat] at ho11; rw [← Ny105.out] at ho11)); have n0_ := Aside0.mk (Kd.R_elder' (by (with_reducible repeat (first | apply Kd.R_alloc | apply Kd.R_drewN | apply Kd.R_drew)); exact HO104.out) (Kd.R_base ho11) hb); have n1_ := Aside0.mk (Kd.R_lower (Kd.R_new' ho11 (Kd.R_lt (by (with_reducible repeat (first | apply Kd.R_alloc | apply Kd.R_drewN | apply Kd.R_drew)); exact HO104.out))) (below_size (by repeat (first | (with_reducible first | exact HB.out | apply below_alloc | apply pw_below_drewN | apply below_drew1) | exact HB.out)))); have n2_ := Aside0.mk (below_step (by repeat (first | (with_reducible first | exact HB.out | apply below_alloc | apply pw_below_drewN | apply below_drew1) | exact HB.out)) hb); clear HO104; clear HB; have HO104 := n0_; have HO107 := n1_; have HB := n2_; clear n0_ n1_ n2_; clear hb ho11; obtain ⟨Ao12, co12, eo12⟩ := Kd.R_slice HO107.out; subst eo12) | ((with_reducible refine gate_callee (f := 16) rfl ?_); refine goesL_ (some 8) rfl rfl Try.func16 (by kernel_rfl) rfl #[.slice Ao12 y105.length co12] rfl (by (try simp only [List.map_toArray, List.map_cons, List.map_nil]); first | done | rfl | (simp only [List.length_drop, List.length_take]; rfl)) ?_; (with_reducible refine (hexa_Text.calls _ _ y105 t108 _ ?side1 ?side2 A2.out).mono ?_); (case side1 => repeat (first | exact (Kd.R_reads' HO107.out).2.2 | (with_reducible refine Kd.C_alloc ?_ _) | (with_reducible refine Kd.C_drewN ?_ _) | (with_reducible refine Kd.C_drew ?_))); (case side2 => exact (Kd.R_reads' HO107.out).2.1); rintro e w13 ⟨rfl, hb⟩; refine ⟨_, rfl, ?_⟩; have n0_ := Aside0.mk (Kd.R_below (by (with_reducible repeat (first | apply Kd.R_alloc | apply Kd.R_drewN | apply Kd.R_drew)); exact HO104.out) hb); have n1_ := Aside0.mk (Kd.R_below (by (with_reducible repeat (first | apply Kd.R_alloc | apply Kd.R_drewN | apply Kd.R_drew)); exact HO107.out) hb); have n2_ := Aside0.mk (below_step (by repeat (first | (with_reducible first | exact HB.out | apply below_alloc | apply pw_below_drewN | apply below_drew1) | exact HB.out)) hb); clear HO104; clear HO107; clear HB; have HO104 := n0_; have HO107 := n1_; have HB := n2_; clear n0_ n1_ n2_; (try clear hb); (try clear hb2); (try clear hk); (try clear hi); obtain ⟨Ao14, co14, eo14⟩ := Kd.R_slice HO104.out; subst eo14; have p109 : 0 ≤ (1 : Int) := (by omega); have q109 : 1 < (t101.length : Int) := of_decide_eq_true (by first | (with_reducible assumption) | assumption); obtain ⟨ad109, e109, hx109_0⟩ := Kd.at_int (Kd.R_reads' HO104.out).2.2 1 p109 q109; cases e109; (try simp only [show (1 : Int).toNat = 1 from rfl, Nat.reduceMul, Nat.reduceEqDiff, Go.Addr.add, ↓reduceIte] at hx109_0); have qi109 : (1 < t101.length) = True := eq_true (by omega); (try rw [show ((1 : Int)).toNat = 1 from rfl] at hx109_0); replace p109 := eq_true p109; replace q109 := eq_true q109) | (go_at_call 22; (with_reducible refine (hexa_ID.calls (⟨#[48, 102, 97, 48]⟩ : ByteArray) t110 _ A8.out).mono ?_); rintro e w15 ⟨rfl, hb⟩; have n0_ := Aside0.mk (Kd.R_below (by (with_reducible repeat (first | apply Kd.R_alloc | apply Kd.R_drewN | apply Kd.R_drew)); exact HO104.out) hb); have n1_ := Aside0.mk (Kd.R_below (by (with_reducible repeat (first | apply Kd.R_alloc | apply Kd.R_drewN | apply Kd.R_drew)); exact HO107.out) hb); have n2_ := Aside0.mk (below_step (by repeat (first | (with_reducible first | exact HB.out | apply below_alloc | apply pw_below_drewN | apply below_drew1) | exact HB.out)) hb); clear HO104; clear HO107; clear HB; have HO104 := n0_; have HO107 := n1_; have HB := n2_; clear n0_ n1_ n2_; (try clear hb); (try clear hb2); (try clear hk); (try clear hi)))
            go_ret
            exact ⟨by first | rfl | (simp [errW_none, errW_some] <;> rfl) | (simp [*, errW_none, errW_some] <;> rfl), by repeat (first | (with_reducible first | exact HB.out | apply below_alloc | apply pw_below_drewN | apply below_drew1) | exact HB.out)⟩
          · rw [if_neg c7] at H
            exact absurd H (by simp)
        · rw [if_neg c6] at H
          exact absurd H (by simp)
      · rw [if_neg c5] at H
        exact absurd H (by simp)
    · replace c4 := Bool.eq_false_iff.mpr c4
      subst c4
      have H1 : (none) = some r := by rw [if_neg (show ¬ (false = true) by decide)] at H; exact H
      clear H
      have H := H1
      clear H1
      exact absurd H (by simp)
  · rw [if_neg c3] at H
    exact absurd H (by simp)

end Go.Proofs.Ytmepclalglmleaa.Pr
