import Derived.Test.YtnlhomgclplnhaaDoorPk2
import Derived.Test.YtnlhomgclplnhaaDoorPk1
import Derived.Test.YtnlhomgclplnhaaDoorPk4
/- code.Op, in the print's form. -/
namespace Go.Proofs.YtnlhomgclplnhaaDoor.E
open Go.RowKit Go.Proofs.YtnlhomgclplnhaaDoorW.PrintWords Go.Proofs.YtnlhomgclplnhaaDoorW.PrintLast Go.Proofs.YtnlhomgclplnhaaDoorW.PrintMore Go.Proofs.YtnlhomgclplnhaaDoor.Pr
set_option linter.unusedVariables false
set_option linter.unusedSimpArgs false
attribute [local go_sem] opVal opUpon
/-- A change as bytes, and the error. -/
def opR (kind : Int) (s1 s2 s3 : ByteArray) (r4 r5 : List Int) (s6 : ByteArray) : List Int × Int :=
  if rightOpL kind s1 s2 s3 r4.length r5.length s6 = true then (opB kind.toNat s1 s2 s3 r4 r5 s6, 0) else ([], 1)
def code_Op.f (kind : Int) (s1 s2 s3 : ByteArray) (r4 r5 : List Int) (s6 : ByteArray) : Option (List Int × Int) :=
  if (s1.size + s2.size + s3.size + r4.length + r5.length + s6.size ≤ 800000 ∧ (∀ x ∈ r4, 0 ≤ x ∧ x ≤ 255)) ∧ ∀ x ∈ r5, 0 ≤ x ∧ x ≤ 255 then some (opR kind s1 s2 s3 r4 r5 s6) else none
set_option maxHeartbeats 8000000 in
set_option maxRecDepth 100000 in
theorem code_Op.calls (a0 : Int) (a1 a2 a3 : ByteArray) (A4 : Option Addr) (c4 : Nat) (l4 : List Int) (A5 : Option Addr) (c5 : Nat) (l5 : List Int) (a6 : ByteArray) (r1 : List Int) (r2 : Int) (w : World)
    (hr4 : Kd.C (Kd.int .u8) w A4 l4.length l4) (hc4 : l4.length ≤ c4) (hr5 : Kd.C (Kd.int .u8) w A5 l5.length l5) (hc5 : l5.length ≤ c5) (h : code_Op.f a0 a1 a2 a3 l4 l5 a6 = some (r1, r2)) (hG : RootsIn w) :
    Calls Tryd.prog 20 #[.agg #[.int .i64 a0, .string a1, .string a2, .string a3, .slice A4 l4.length c4, .slice A5 l5.length c5, .string a6]] w fun e w' => ∃ v0_ : Value, e = .returned (.tuple #[v0_, .int .u16 r2]) ∧ Kd.R (Kd.int .u8) 5 w' w.heap.size (fun _ => True) v0_ r1 ∧ Below w.heap.size w w' := by
  unfold code_Op.f at h
  split at h
  case isFalse => cases h
  case isTrue hh =>
    obtain ⟨⟨hsz, hb4⟩, hb5⟩ := hh
    have h := Option.some.inj h
    obtain ⟨n4, hn4⟩ : ∃ n, n = l4.length := ⟨_, rfl⟩
    obtain ⟨n5, hn5⟩ : ∃ n, n = l5.length := ⟨_, rfl⟩
    have hbox := heap_alloc_new w (.cells #[.int .i64 a0, .string a1, .string a2, .string a3, .slice A4 n4 c4, .slice A5 n5 c5, .string a6] 45)
    have hba := below_alloc (Below.refl w.heap.size w) (.cells #[.int .i64 a0, .string a1, .string a2, .string a3, .slice A4 n4 c4, .slice A5 n5 c5, .string a6] 45)
    have hrt := rightop_any a0 a1 a2 a3 A4 n4 c4 A5 n5 c5 a6 (w.alloc (.cells #[.int .i64 a0, .string a1, .string a2, .string a3, .slice A4 n4 c4, .slice A5 n5 c5, .string a6] 45)) (by omega) (by omega) (by omega) (by omega) (by omega) (by omega) (hG.below rfl hba)
    have hu := Tryd.underlying45
    rw [← hn4] at hr4
    rw [← hn5] at hr5
    rw [← hn4, ← hn5]
    have HR4 := Aside0.mk hr4
    have HR5 := Aside0.mk hr5
    have HB := Aside0.mk (And.intro hb4 hb5)
    have HS := Aside0.mk hsz
    have HN := Aside0.mk (And.intro hn4 hn5)
    have HBX := Aside0.mk hbox
    have HBA := Aside0.mk hba
    cases hq : rightOpL a0 a1 a2 a3 n4 n5 a6 with
    | false =>
      rw [hq] at hrt
      have HRT := Aside0.mk hrt
      have H := Aside0.mk h
      have HQ := Aside0.mk hq
      clear hrt h hq hr4 hr5 hb4 hb5 hsz hn4 hn5 hbox hba hc4 hc5 hG
      go_enter Tryd.func20, Tryd.ntmps20
      go_wp2_with (go_at_call 42; ((with_reducible refine (HRT.out).mono ?_)))
      rintro e w1 ⟨rfl, hb⟩
      have HB1 := Aside0.mk (below_step HBA.out hb)
      clear hb
      go_wp2
      have hv := H.out
      rw [opR, ← HN.out.1, ← HN.out.2, HQ.out] at hv
      injection hv with h1 h2
      subst h1 h2
      go_ret2
      exact ⟨_, rfl, Kd.R_nil _ _ _ _ _, HB1.out⟩
    | true =>
      have hk : 1 ≤ a0 ∧ a0 ≤ 8 := by
        unfold rightOpL at hq
        simp only [Bool.and_eq_true, decide_eq_true_eq] at hq
        exact ⟨hq.1, hq.2.1⟩
      obtain ⟨kd, rfl⟩ : ∃ k : Nat, a0 = (k : Int) := ⟨a0.toNat, by omega⟩
      rw [hq] at hrt
      have HRT := Aside0.mk hrt
      have H := Aside0.mk h
      have HQ := Aside0.mk hq
      have HK := Aside0.mk hk
      clear hrt h hq hr4 hr5 hb4 hb5 hsz hn4 hn5 hbox hba hc4 hc5 hG hk
      go_enter Tryd.func20, Tryd.ntmps20
      go_wp2_with (go_at_call 42; ((with_reducible refine (HRT.out).mono ?_)))
      rintro e w1 ⟨rfl, hb⟩
      have hW1 := below_step HBA.out hb
      have hbx1 := (hb.block w.heap.size (Array.getElem?_eq_some_iff.1 HBX.out).1).trans HBX.out
      have hba2 := below_alloc (Below.refl w1.heap.size w1) (.cells #[.slice none 0 0] 62)
      have hbx2 := (hba2.block w.heap.size (Array.getElem?_eq_some_iff.1 hbx1).1).trans hbx1
      have hwr : WrAt w.heap.size w1.heap.size [] (w1.alloc (.cells #[.slice none 0 0] 62)) := ⟨hW1.size, _, heap_alloc_new w1 _, Kd.R_nil _ _ _ _ _⟩
      have hW2 := below_step hW1 hba2
      have hop := wop_any w.heap.size w1.heap.size w.heap.size kd a1 a2 a3 A4 n4 c4 l4 A5 n5 c5 l5 a6 _ hwr hbx2 (Nat.ne_of_lt (Array.getElem?_eq_some_iff.1 hbx1).1) (Nat.le_refl _)
        (fun Y hY => Kd.C_below HR4.out (hW2.trans hY)) HB.out.1 (fun Y hY => Kd.C_below HR5.out (hW2.trans hY)) HB.out.2 (by have := HK.out; omega) (by have := HS.out; have := HN.out; omega)
      have HOP := Aside0.mk hop
      have HW2 := Aside0.mk hW2
      clear hb hW1 hbx1 hba2 hbx2 hwr hW2 hop
      go_wp2_with (go_at_call 43; ((with_reducible refine (HOP.out).mono ?_)))
      rintro e w3 ⟨rfl, ⟨-, v, hg, hR⟩, hb3⟩
      have c3 : w3.cell? ⟨w1.heap.size, 0, none⟩ = some v := blk_cell hg 0
      have HR := Aside0.mk hR
      have HB3 := Aside0.mk (HW2.out.trans hb3)
      clear hg hR hb3
      go_wp2
      have hv := H.out
      rw [opR, ← HN.out.1, ← HN.out.2, HQ.out, if_pos rfl, Int.toNat_natCast] at hv
      injection hv with h1 h2
      subst h1 h2
      go_ret2
      exact ⟨_, rfl, HR.out, HB3.out⟩
end Go.Proofs.YtnlhomgclplnhaaDoor.E


-- Written for this claim by wip/myprint.py, this session's driver over the kit's print.py. Not trusted: Lean checks it.
namespace Go.Proofs.YtnlhomgclplnhaaDoor.Pr
open Go.RowKit Go.Proofs.YtnlhomgclplnhaaDoorW.PrintWords Go.Proofs.YtnlhomgclplnhaaDoorW.PrintLast Go.Proofs.YtnlhomgclplnhaaDoorW.PrintMore Go.Proofs.YtnlhomgclplnhaaDoor.E
attribute [local go_sem] max2_int min2_int max_two min_two max_three min_three max_four min_four   -- for this text's walks alone
set_option linter.unusedVariables false
set_option linter.unusedSimpArgs false

/-! ### wicketmanlaw16_known: function 9 -/
def wicketmanlaw16_known.f  : Option (Bool) := (code_Op.f 1 (⟨#[]⟩ : ByteArray) (⟨#[]⟩ : ByteArray) (⟨#[]⟩ : ByteArray) ([] : List Int) ([] : List Int) (⟨#[]⟩ : ByteArray)).bind fun bt101 => ((code_State.f 5 ([] : List (S33)) ([] : List (S31))).bind fun bt105 => (if bt101.2 = 0 then (if (bt101.1.length : Int) = 13 then (if 0 < (bt101.1.length : Int) then (if (rd bt101.1 0) = 1 then (if bt105.2 = 0 then (if (bt105.1.length : Int) = 12 then (if 7 < (bt105.1.length : Int) then (if (rd bt105.1 7) = 5 then ((code_Right.f 0 ([] : List (S33)) ([] : List (S31))).bind fun t111 => (some t111)) else (some false)) else (none)) else (some false)) else (some false)) else (some false)) else (none)) else (some false)) else (some false)))
set_option maxHeartbeats 8000000 in
set_option maxRecDepth 1000000 in
theorem wicketmanlaw16_known.calls  (r : Bool) (w : World) (h : wicketmanlaw16_known.f  = some r) (hG_ : RootsIn w) :
  Calls Tryd.prog 9 #[] w fun e w' => e = .returned (.bool r) ∧ Below w.heap.size w w' := by
 have hu45 := Tryd.underlying45
 have hu27 := Tryd.underlying27
 have HB := Aside0.mk (Below.refl w.heap.size w)
 have HGR := Aside0.mk hG_
 clear hG_
 have H : ((code_Op.f 1 (⟨#[]⟩ : ByteArray) (⟨#[]⟩ : ByteArray) (⟨#[]⟩ : ByteArray) ([] : List Int) ([] : List Int) (⟨#[]⟩ : ByteArray)).bind fun bt101 => ((code_State.f 5 ([] : List (S33)) ([] : List (S31))).bind fun bt105 => (if bt101.2 = 0 then (if (bt101.1.length : Int) = 13 then (if 0 < (bt101.1.length : Int) then (if (rd bt101.1 0) = 1 then (if bt105.2 = 0 then (if (bt105.1.length : Int) = 12 then (if 7 < (bt105.1.length : Int) then (if (rd bt105.1 7) = 5 then ((code_Right.f 0 ([] : List (S33)) ([] : List (S31))).bind fun t111 => (some t111)) else (some false)) else (none)) else (some false)) else (some false)) else (some false)) else (none)) else (some false)) else (some false)))) = some r := h
 clear h
 replace H := Option.bind_eq_some_iff.mp H
 obtain ⟨⟨t101, t104⟩, A10, H⟩ := H
 replace H : ((code_State.f 5 ([] : List (S33)) ([] : List (S31))).bind fun bt105 => (if t104 = 0 then (if (t101.length : Int) = 13 then (if 0 < (t101.length : Int) then (if (rd t101 0) = 1 then (if bt105.2 = 0 then (if (bt105.1.length : Int) = 12 then (if 7 < (bt105.1.length : Int) then (if (rd bt105.1 7) = 5 then ((code_Right.f 0 ([] : List (S33)) ([] : List (S31))).bind fun t111 => (some t111)) else (some false)) else (none)) else (some false)) else (some false)) else (some false)) else (none)) else (some false)) else (some false))) = some r := H
 have A1 := Aside0.mk A10
 clear A10
 replace H := Option.bind_eq_some_iff.mp H
 obtain ⟨⟨t105, t108⟩, A20, H⟩ := H
 replace H : (if t104 = 0 then (if (t101.length : Int) = 13 then (if 0 < (t101.length : Int) then (if (rd t101 0) = 1 then (if t108 = 0 then (if (t105.length : Int) = 12 then (if 7 < (t105.length : Int) then (if (rd t105 7) = 5 then ((code_Right.f 0 ([] : List (S33)) ([] : List (S31))).bind fun t111 => (some t111)) else (some false)) else (none)) else (some false)) else (some false)) else (some false)) else (none)) else (some false)) else (some false)) = some r := H
 have A2 := Aside0.mk A20
 clear A20
 by_cases c3 : t104 = 0
 ·rw [if_pos c3] at H
  have c3b0 : (t104 == 0) = true := beq_iff_eq.mpr c3
  have c3b1 : (t104 != 0) = false := bne_eq_false_iff_eq.mpr c3
  clear c3
  by_cases c4 : (t101.length : Int) = 13
  ·rw [if_pos c4] at H
   have c4b0 : ((t101.length : Int) == 13) = true := beq_iff_eq.mpr c4
   have c4b1 : ((t101.length : Int) != 13) = false := bne_eq_false_iff_eq.mpr c4
   clear c4
   by_cases c5 : 0 < (t101.length : Int)
   ·rw [if_pos c5] at H
    have c5b0 : decide (0 < (t101.length : Int)) = true := decide_eq_true c5
    have c5b1 : decide (0 < t101.length) = true := decide_eq_true (by omega)
    clear c5
    by_cases c6 : (rd t101 0) = 1
    ·rw [if_pos c6] at H
     have c6b0 : ((rd t101 0) == 1) = true := beq_iff_eq.mpr c6
     have c6b1 : ((rd t101 0) != 1) = false := bne_eq_false_iff_eq.mpr c6
     clear c6
     by_cases c7 : t108 = 0
     ·rw [if_pos c7] at H
      have c7b0 : (t108 == 0) = true := beq_iff_eq.mpr c7
      have c7b1 : (t108 != 0) = false := bne_eq_false_iff_eq.mpr c7
      clear c7
      by_cases c8 : (t105.length : Int) = 12
      ·rw [if_pos c8] at H
       have c8b0 : ((t105.length : Int) == 12) = true := beq_iff_eq.mpr c8
       have c8b1 : ((t105.length : Int) != 12) = false := bne_eq_false_iff_eq.mpr c8
       clear c8
       by_cases c9 : 7 < (t105.length : Int)
       ·rw [if_pos c9] at H
        have c9b0 : decide (7 < (t105.length : Int)) = true := decide_eq_true c9
        have c9b1 : decide (7 < t105.length) = true := decide_eq_true (by omega)
        clear c9
        by_cases c10 : (rd t105 7) = 5
        ·rw [if_pos c10] at H
         have c10b0 : ((rd t105 7) == 5) = true := beq_iff_eq.mpr c10
         have c10b1 : ((rd t105 7) != 5) = false := bne_eq_false_iff_eq.mpr c10
         clear c10
         replace H := Option.bind_eq_some_iff.mp H
         obtain ⟨t111, A110, H⟩ := H
         replace H : (some t111) = some r := H
         have A11 := Aside0.mk A110
         clear A110
         obtain rfl := Option.some.inj H
         go_enter Tryd.func9, Tryd.ntmps9
         go_wp2_with (first | ((with_reducible refine gate_callee (f := 20) rfl ?_); refine goesL_ (some 7) rfl rfl Tryd.func20 (by kernel_rfl) rfl #[.agg #[.int .i64 1, .string (⟨#[]⟩ : ByteArray), .string (⟨#[]⟩ : ByteArray), .string (⟨#[]⟩ : ByteArray), .slice none 0 0, .slice none 0 0, .string (⟨#[]⟩ : ByteArray)]] rfl (by (try simp only [List.map_toArray, List.map_cons, List.map_nil]); first | done | rfl | (simp only [List.length_drop, List.length_take]; rfl)) ?_; (refine (code_Op.calls 1 (⟨#[]⟩ : ByteArray) (⟨#[]⟩ : ByteArray) (⟨#[]⟩ : ByteArray) _ _ ([] : List Int) _ _ ([] : List Int) (⟨#[]⟩ : ByteArray) t101 t104 _ ?side1 ?side2 ?side3 ?side4 A1.out (HGR.out.below rfl (by repeat (first | (with_reducible first | exact HB.out | apply below_alloc | apply pw_below_drewN | apply below_drew1) | exact HB.out)))).mono ?_); (case side1 => exact Kd.C_nil _ _); (case side2 => exact Nat.le_refl _); (case side3 => exact Kd.C_nil _ _); (case side4 => exact Nat.le_refl _); rintro e w12 ⟨v102, rfl, ho0, hb⟩; refine ⟨_, rfl, ?_⟩; have n0_ := Aside0.mk (Kd.R_lower ho0 (below_size (by repeat (first | (with_reducible first | exact HB.out | apply below_alloc | apply pw_below_drewN | apply below_drew1) | exact HB.out)))); have n1_ := Aside0.mk (below_step (by repeat (first | (with_reducible first | exact HB.out | apply below_alloc | apply pw_below_drewN | apply below_drew1) | exact HB.out)) hb); clear HB; have HO103 := n0_; have HB := n1_; clear n0_ n1_; (try clear hb); (try clear hb2); (try clear hk); (try clear hi); (try clear ho0)) | ((with_reducible refine gate_callee (f := 10) rfl ?_); refine goesL_ (some 12) rfl rfl Tryd.func10 (by kernel_rfl) rfl #[.agg #[.int .u64 5, .slice none 0 0, .slice none 0 0]] rfl (by (try simp only [List.map_toArray, List.map_cons, List.map_nil]); first | done | rfl | (simp only [List.length_drop, List.length_take]; rfl)) ?_; (refine (code_State.calls 5 _ _ ([] : List (S33)) _ _ ([] : List (S31)) t105 t108 _ ?side1 ?side2 ?side3 ?side4 A2.out (HGR.out.below rfl (by repeat (first | (with_reducible first | exact HB.out | apply below_alloc | apply pw_below_drewN | apply below_drew1) | exact HB.out)))).mono ?_); (case side1 => exact Kd.C_nil _ _); (case side2 => exact Nat.le_refl _); (case side3 => exact Kd.C_nil _ _); (case side4 => exact Nat.le_refl _); rintro e w13 ⟨v106, rfl, ho0, hb⟩; refine ⟨_, rfl, ?_⟩; have n0_ := Aside0.mk (Kd.R_elder' (by (with_reducible repeat (first | apply Kd.R_alloc | apply Kd.R_drewN | apply Kd.R_drew)); exact HO103.out) (Kd.R_base ho0) hb); have n1_ := Aside0.mk (Kd.R_lower (Kd.R_new' ho0 (Kd.R_lt (by (with_reducible repeat (first | apply Kd.R_alloc | apply Kd.R_drewN | apply Kd.R_drew)); exact HO103.out))) (below_size (by repeat (first | (with_reducible first | exact HB.out | apply below_alloc | apply pw_below_drewN | apply below_drew1) | exact HB.out)))); have n2_ := Aside0.mk (below_step (by repeat (first | (with_reducible first | exact HB.out | apply below_alloc | apply pw_below_drewN | apply below_drew1) | exact HB.out)) hb); clear HO103; clear HB; have HO103 := n0_; have HO107 := n1_; have HB := n2_; clear n0_ n1_ n2_; (try clear hb); (try clear hb2); (try clear hk); (try clear hi); (try clear ho0); obtain ⟨Ao14, co14, eo14⟩ := Kd.R_slice HO103.out; subst eo14; have p109 : 0 ≤ (0 : Int) := (by omega); have q109 : 0 < (t101.length : Int) := of_decide_eq_true (by first | (with_reducible assumption) | assumption); obtain ⟨ad109, e109, hx109_0⟩ := Kd.at_int (Kd.R_reads' HO103.out).2.2 0 p109 q109; cases e109; have qi109 : (0 < t101.length) = True := eq_true (by omega); (try rw [show ((0 : Int)).toNat = 0 from rfl] at hx109_0); (try rw [Addr.add_zero'] at hx109_0); replace p109 := eq_true p109; replace q109 := eq_true q109; obtain ⟨Ao15, co15, eo15⟩ := Kd.R_slice HO107.out; subst eo15; have p110 : 0 ≤ (7 : Int) := (by omega); have q110 : 7 < (t105.length : Int) := of_decide_eq_true (by first | (with_reducible assumption) | assumption); obtain ⟨ad110, e110, hx110_0⟩ := Kd.at_int (Kd.R_reads' HO107.out).2.2 7 p110 q110; cases e110; (try simp only [show (7 : Int).toNat = 7 from rfl, Nat.reduceMul, Nat.reduceEqDiff, Go.Addr.add, ↓reduceIte] at hx110_0); have qi110 : (7 < t105.length) = True := eq_true (by omega); (try rw [show ((7 : Int)).toNat = 7 from rfl] at hx110_0); replace p110 := eq_true p110; replace q110 := eq_true q110) | (go_at_call 11; (refine (code_Right.calls 0 _ _ ([] : List (S33)) _ _ ([] : List (S31)) t111 _ ?side1 ?side2 ?side3 ?side4 A11.out (HGR.out.below rfl (by repeat (first | (with_reducible first | exact HB.out | apply below_alloc | apply pw_below_drewN | apply below_drew1) | exact HB.out)))).mono ?_); (case side1 => exact Kd.C_nil _ _); (case side2 => exact Nat.le_refl _); (case side3 => exact Kd.C_nil _ _); (case side4 => exact Nat.le_refl _); rintro e w16 ⟨rfl, hb⟩; have n0_ := Aside0.mk (Kd.R_below (by (with_reducible repeat (first | apply Kd.R_alloc | apply Kd.R_drewN | apply Kd.R_drew)); exact HO103.out) hb); have n1_ := Aside0.mk (Kd.R_below (by (with_reducible repeat (first | apply Kd.R_alloc | apply Kd.R_drewN | apply Kd.R_drew)); exact HO107.out) hb); have n2_ := Aside0.mk (below_step (by repeat (first | (with_reducible first | exact HB.out | apply below_alloc | apply pw_below_drewN | apply below_drew1) | exact HB.out)) hb); clear HO103; clear HO107; clear HB; have HO103 := n0_; have HO107 := n1_; have HB := n2_; clear n0_ n1_ n2_; (try clear hb); (try clear hb2); (try clear hk); (try clear hi)))
         go_ret
         exact ⟨by first | rfl | (simp [errW_none, errW_some] <;> rfl) | (simp [*, errW_none, errW_some] <;> rfl), by repeat (first | (with_reducible first | exact HB.out | apply below_alloc | apply pw_below_drewN | apply below_drew1) | exact HB.out)⟩
        ·rw [if_neg c10] at H
         have c10b0 : ((rd t105 7) == 5) = false := beq_eq_false_iff_ne.mpr c10
         have c10b1 : ((rd t105 7) != 5) = true := bne_iff_ne.mpr c10
         obtain rfl := Option.some.inj H
         go_enter Tryd.func9, Tryd.ntmps9
         go_wp2_with (first | ((with_reducible refine gate_callee (f := 20) rfl ?_); refine goesL_ (some 7) rfl rfl Tryd.func20 (by kernel_rfl) rfl #[.agg #[.int .i64 1, .string (⟨#[]⟩ : ByteArray), .string (⟨#[]⟩ : ByteArray), .string (⟨#[]⟩ : ByteArray), .slice none 0 0, .slice none 0 0, .string (⟨#[]⟩ : ByteArray)]] rfl (by (try simp only [List.map_toArray, List.map_cons, List.map_nil]); first | done | rfl | (simp only [List.length_drop, List.length_take]; rfl)) ?_; (refine (code_Op.calls 1 (⟨#[]⟩ : ByteArray) (⟨#[]⟩ : ByteArray) (⟨#[]⟩ : ByteArray) _ _ ([] : List Int) _ _ ([] : List Int) (⟨#[]⟩ : ByteArray) t101 t104 _ ?side1 ?side2 ?side3 ?side4 A1.out (HGR.out.below rfl (by repeat (first | (with_reducible first | exact HB.out | apply below_alloc | apply pw_below_drewN | apply below_drew1) | exact HB.out)))).mono ?_); (case side1 => exact Kd.C_nil _ _); (case side2 => exact Nat.le_refl _); (case side3 => exact Kd.C_nil _ _); (case side4 => exact Nat.le_refl _); rintro e w17 ⟨v102, rfl, ho0, hb⟩; refine ⟨_, rfl, ?_⟩; have n0_ := Aside0.mk (Kd.R_lower ho0 (below_size (by repeat (first | (with_reducible first | exact HB.out | apply below_alloc | apply pw_below_drewN | apply below_drew1) | exact HB.out)))); have n1_ := Aside0.mk (below_step (by repeat (first | (with_reducible first | exact HB.out | apply below_alloc | apply pw_below_drewN | apply below_drew1) | exact HB.out)) hb); clear HB; have HO103 := n0_; have HB := n1_; clear n0_ n1_; (try clear hb); (try clear hb2); (try clear hk); (try clear hi); (try clear ho0)) | ((with_reducible refine gate_callee (f := 10) rfl ?_); refine goesL_ (some 12) rfl rfl Tryd.func10 (by kernel_rfl) rfl #[.agg #[.int .u64 5, .slice none 0 0, .slice none 0 0]] rfl (by (try simp only [List.map_toArray, List.map_cons, List.map_nil]); first | done | rfl | (simp only [List.length_drop, List.length_take]; rfl)) ?_; (refine (code_State.calls 5 _ _ ([] : List (S33)) _ _ ([] : List (S31)) t105 t108 _ ?side1 ?side2 ?side3 ?side4 A2.out (HGR.out.below rfl (by repeat (first | (with_reducible first | exact HB.out | apply below_alloc | apply pw_below_drewN | apply below_drew1) | exact HB.out)))).mono ?_); (case side1 => exact Kd.C_nil _ _); (case side2 => exact Nat.le_refl _); (case side3 => exact Kd.C_nil _ _); (case side4 => exact Nat.le_refl _); rintro e w18 ⟨v106, rfl, ho0, hb⟩; refine ⟨_, rfl, ?_⟩; have n0_ := Aside0.mk (Kd.R_elder' (by (with_reducible repeat (first | apply Kd.R_alloc | apply Kd.R_drewN | apply Kd.R_drew)); exact HO103.out) (Kd.R_base ho0) hb); have n1_ := Aside0.mk (Kd.R_lower (Kd.R_new' ho0 (Kd.R_lt (by (with_reducible repeat (first | apply Kd.R_alloc | apply Kd.R_drewN | apply Kd.R_drew)); exact HO103.out))) (below_size (by repeat (first | (with_reducible first | exact HB.out | apply below_alloc | apply pw_below_drewN | apply below_drew1) | exact HB.out)))); have n2_ := Aside0.mk (below_step (by repeat (first | (with_reducible first | exact HB.out | apply below_alloc | apply pw_below_drewN | apply below_drew1) | exact HB.out)) hb); clear HO103; clear HB; have HO103 := n0_; have HO107 := n1_; have HB := n2_; clear n0_ n1_ n2_; (try clear hb); (try clear hb2); (try clear hk); (try clear hi); (try clear ho0); obtain ⟨Ao19, co19, eo19⟩ := Kd.R_slice HO103.out; subst eo19; have p109 : 0 ≤ (0 : Int) := (by omega); have q109 : 0 < (t101.length : Int) := of_decide_eq_true (by first | (with_reducible assumption) | assumption); obtain ⟨ad109, e109, hx109_0⟩ := Kd.at_int (Kd.R_reads' HO103.out).2.2 0 p109 q109; cases e109; have qi109 : (0 < t101.length) = True := eq_true (by omega); (try rw [show ((0 : Int)).toNat = 0 from rfl] at hx109_0); (try rw [Addr.add_zero'] at hx109_0); replace p109 := eq_true p109; replace q109 := eq_true q109; obtain ⟨Ao20, co20, eo20⟩ := Kd.R_slice HO107.out; subst eo20; have p110 : 0 ≤ (7 : Int) := (by omega); have q110 : 7 < (t105.length : Int) := of_decide_eq_true (by first | (with_reducible assumption) | assumption); obtain ⟨ad110, e110, hx110_0⟩ := Kd.at_int (Kd.R_reads' HO107.out).2.2 7 p110 q110; cases e110; (try simp only [show (7 : Int).toNat = 7 from rfl, Nat.reduceMul, Nat.reduceEqDiff, Go.Addr.add, ↓reduceIte] at hx110_0); have qi110 : (7 < t105.length) = True := eq_true (by omega); (try rw [show ((7 : Int)).toNat = 7 from rfl] at hx110_0); replace p110 := eq_true p110; replace q110 := eq_true q110))
         go_ret
         exact ⟨by first | rfl | (simp [errW_none, errW_some] <;> rfl) | (simp [*, errW_none, errW_some] <;> rfl), by repeat (first | (with_reducible first | exact HB.out | apply below_alloc | apply pw_below_drewN | apply below_drew1) | exact HB.out)⟩
       ·rw [if_neg c9] at H
        exact absurd H (by simp)
      ·rw [if_neg c8] at H
       have c8b0 : ((t105.length : Int) == 12) = false := beq_eq_false_iff_ne.mpr c8
       have c8b1 : ((t105.length : Int) != 12) = true := bne_iff_ne.mpr c8
       obtain rfl := Option.some.inj H
       go_enter Tryd.func9, Tryd.ntmps9
       go_wp2_with (first | ((with_reducible refine gate_callee (f := 20) rfl ?_); refine goesL_ (some 7) rfl rfl Tryd.func20 (by kernel_rfl) rfl #[.agg #[.int .i64 1, .string (⟨#[]⟩ : ByteArray), .string (⟨#[]⟩ : ByteArray), .string (⟨#[]⟩ : ByteArray), .slice none 0 0, .slice none 0 0, .string (⟨#[]⟩ : ByteArray)]] rfl (by (try simp only [List.map_toArray, List.map_cons, List.map_nil]); first | done | rfl | (simp only [List.length_drop, List.length_take]; rfl)) ?_; (refine (code_Op.calls 1 (⟨#[]⟩ : ByteArray) (⟨#[]⟩ : ByteArray) (⟨#[]⟩ : ByteArray) _ _ ([] : List Int) _ _ ([] : List Int) (⟨#[]⟩ : ByteArray) t101 t104 _ ?side1 ?side2 ?side3 ?side4 A1.out (HGR.out.below rfl (by repeat (first | (with_reducible first | exact HB.out | apply below_alloc | apply pw_below_drewN | apply below_drew1) | exact HB.out)))).mono ?_); (case side1 => exact Kd.C_nil _ _); (case side2 => exact Nat.le_refl _); (case side3 => exact Kd.C_nil _ _); (case side4 => exact Nat.le_refl _); rintro e w21 ⟨v102, rfl, ho0, hb⟩; refine ⟨_, rfl, ?_⟩; have n0_ := Aside0.mk (Kd.R_lower ho0 (below_size (by repeat (first | (with_reducible first | exact HB.out | apply below_alloc | apply pw_below_drewN | apply below_drew1) | exact HB.out)))); have n1_ := Aside0.mk (below_step (by repeat (first | (with_reducible first | exact HB.out | apply below_alloc | apply pw_below_drewN | apply below_drew1) | exact HB.out)) hb); clear HB; have HO103 := n0_; have HB := n1_; clear n0_ n1_; (try clear hb); (try clear hb2); (try clear hk); (try clear hi); (try clear ho0)) | ((with_reducible refine gate_callee (f := 10) rfl ?_); refine goesL_ (some 12) rfl rfl Tryd.func10 (by kernel_rfl) rfl #[.agg #[.int .u64 5, .slice none 0 0, .slice none 0 0]] rfl (by (try simp only [List.map_toArray, List.map_cons, List.map_nil]); first | done | rfl | (simp only [List.length_drop, List.length_take]; rfl)) ?_; (refine (code_State.calls 5 _ _ ([] : List (S33)) _ _ ([] : List (S31)) t105 t108 _ ?side1 ?side2 ?side3 ?side4 A2.out (HGR.out.below rfl (by repeat (first | (with_reducible first | exact HB.out | apply below_alloc | apply pw_below_drewN | apply below_drew1) | exact HB.out)))).mono ?_); (case side1 => exact Kd.C_nil _ _); (case side2 => exact Nat.le_refl _); (case side3 => exact Kd.C_nil _ _); (case side4 => exact Nat.le_refl _); rintro e w22 ⟨v106, rfl, ho0, hb⟩; refine ⟨_, rfl, ?_⟩; have n0_ := Aside0.mk (Kd.R_elder' (by (with_reducible repeat (first | apply Kd.R_alloc | apply Kd.R_drewN | apply Kd.R_drew)); exact HO103.out) (Kd.R_base ho0) hb); have n1_ := Aside0.mk (Kd.R_lower (Kd.R_new' ho0 (Kd.R_lt (by (with_reducible repeat (first | apply Kd.R_alloc | apply Kd.R_drewN | apply Kd.R_drew)); exact HO103.out))) (below_size (by repeat (first | (with_reducible first | exact HB.out | apply below_alloc | apply pw_below_drewN | apply below_drew1) | exact HB.out)))); have n2_ := Aside0.mk (below_step (by repeat (first | (with_reducible first | exact HB.out | apply below_alloc | apply pw_below_drewN | apply below_drew1) | exact HB.out)) hb); clear HO103; clear HB; have HO103 := n0_; have HO107 := n1_; have HB := n2_; clear n0_ n1_ n2_; (try clear hb); (try clear hb2); (try clear hk); (try clear hi); (try clear ho0); obtain ⟨Ao23, co23, eo23⟩ := Kd.R_slice HO103.out; subst eo23; have p109 : 0 ≤ (0 : Int) := (by omega); have q109 : 0 < (t101.length : Int) := of_decide_eq_true (by first | (with_reducible assumption) | assumption); obtain ⟨ad109, e109, hx109_0⟩ := Kd.at_int (Kd.R_reads' HO103.out).2.2 0 p109 q109; cases e109; have qi109 : (0 < t101.length) = True := eq_true (by omega); (try rw [show ((0 : Int)).toNat = 0 from rfl] at hx109_0); (try rw [Addr.add_zero'] at hx109_0); replace p109 := eq_true p109; replace q109 := eq_true q109; obtain ⟨Ao24, co24, eo24⟩ := Kd.R_slice HO107.out; subst eo24))
       go_ret
       exact ⟨by first | rfl | (simp [errW_none, errW_some] <;> rfl) | (simp [*, errW_none, errW_some] <;> rfl), by repeat (first | (with_reducible first | exact HB.out | apply below_alloc | apply pw_below_drewN | apply below_drew1) | exact HB.out)⟩
     ·rw [if_neg c7] at H
      have c7b0 : (t108 == 0) = false := beq_eq_false_iff_ne.mpr c7
      have c7b1 : (t108 != 0) = true := bne_iff_ne.mpr c7
      obtain rfl := Option.some.inj H
      go_enter Tryd.func9, Tryd.ntmps9
      go_wp2_with (first | ((with_reducible refine gate_callee (f := 20) rfl ?_); refine goesL_ (some 7) rfl rfl Tryd.func20 (by kernel_rfl) rfl #[.agg #[.int .i64 1, .string (⟨#[]⟩ : ByteArray), .string (⟨#[]⟩ : ByteArray), .string (⟨#[]⟩ : ByteArray), .slice none 0 0, .slice none 0 0, .string (⟨#[]⟩ : ByteArray)]] rfl (by (try simp only [List.map_toArray, List.map_cons, List.map_nil]); first | done | rfl | (simp only [List.length_drop, List.length_take]; rfl)) ?_; (refine (code_Op.calls 1 (⟨#[]⟩ : ByteArray) (⟨#[]⟩ : ByteArray) (⟨#[]⟩ : ByteArray) _ _ ([] : List Int) _ _ ([] : List Int) (⟨#[]⟩ : ByteArray) t101 t104 _ ?side1 ?side2 ?side3 ?side4 A1.out (HGR.out.below rfl (by repeat (first | (with_reducible first | exact HB.out | apply below_alloc | apply pw_below_drewN | apply below_drew1) | exact HB.out)))).mono ?_); (case side1 => exact Kd.C_nil _ _); (case side2 => exact Nat.le_refl _); (case side3 => exact Kd.C_nil _ _); (case side4 => exact Nat.le_refl _); rintro e w25 ⟨v102, rfl, ho0, hb⟩; refine ⟨_, rfl, ?_⟩; have n0_ := Aside0.mk (Kd.R_lower ho0 (below_size (by repeat (first | (with_reducible first | exact HB.out | apply below_alloc | apply pw_below_drewN | apply below_drew1) | exact HB.out)))); have n1_ := Aside0.mk (below_step (by repeat (first | (with_reducible first | exact HB.out | apply below_alloc | apply pw_below_drewN | apply below_drew1) | exact HB.out)) hb); clear HB; have HO103 := n0_; have HB := n1_; clear n0_ n1_; (try clear hb); (try clear hb2); (try clear hk); (try clear hi); (try clear ho0)) | ((with_reducible refine gate_callee (f := 10) rfl ?_); refine goesL_ (some 12) rfl rfl Tryd.func10 (by kernel_rfl) rfl #[.agg #[.int .u64 5, .slice none 0 0, .slice none 0 0]] rfl (by (try simp only [List.map_toArray, List.map_cons, List.map_nil]); first | done | rfl | (simp only [List.length_drop, List.length_take]; rfl)) ?_; (refine (code_State.calls 5 _ _ ([] : List (S33)) _ _ ([] : List (S31)) t105 t108 _ ?side1 ?side2 ?side3 ?side4 A2.out (HGR.out.below rfl (by repeat (first | (with_reducible first | exact HB.out | apply below_alloc | apply pw_below_drewN | apply below_drew1) | exact HB.out)))).mono ?_); (case side1 => exact Kd.C_nil _ _); (case side2 => exact Nat.le_refl _); (case side3 => exact Kd.C_nil _ _); (case side4 => exact Nat.le_refl _); rintro e w26 ⟨v106, rfl, ho0, hb⟩; refine ⟨_, rfl, ?_⟩; have n0_ := Aside0.mk (Kd.R_elder' (by (with_reducible repeat (first | apply Kd.R_alloc | apply Kd.R_drewN | apply Kd.R_drew)); exact HO103.out) (Kd.R_base ho0) hb); have n1_ := Aside0.mk (Kd.R_lower (Kd.R_new' ho0 (Kd.R_lt (by (with_reducible repeat (first | apply Kd.R_alloc | apply Kd.R_drewN | apply Kd.R_drew)); exact HO103.out))) (below_size (by repeat (first | (with_reducible first | exact HB.out | apply below_alloc | apply pw_below_drewN | apply below_drew1) | exact HB.out)))); have n2_ := Aside0.mk (below_step (by repeat (first | (with_reducible first | exact HB.out | apply below_alloc | apply pw_below_drewN | apply below_drew1) | exact HB.out)) hb); clear HO103; clear HB; have HO103 := n0_; have HO107 := n1_; have HB := n2_; clear n0_ n1_ n2_; (try clear hb); (try clear hb2); (try clear hk); (try clear hi); (try clear ho0); obtain ⟨Ao27, co27, eo27⟩ := Kd.R_slice HO103.out; subst eo27; have p109 : 0 ≤ (0 : Int) := (by omega); have q109 : 0 < (t101.length : Int) := of_decide_eq_true (by first | (with_reducible assumption) | assumption); obtain ⟨ad109, e109, hx109_0⟩ := Kd.at_int (Kd.R_reads' HO103.out).2.2 0 p109 q109; cases e109; have qi109 : (0 < t101.length) = True := eq_true (by omega); (try rw [show ((0 : Int)).toNat = 0 from rfl] at hx109_0); (try rw [Addr.add_zero'] at hx109_0); replace p109 := eq_true p109; replace q109 := eq_true q109))
      go_ret
      exact ⟨by first | rfl | (simp [errW_none, errW_some] <;> rfl) | (simp [*, errW_none, errW_some] <;> rfl), by repeat (first | (with_reducible first | exact HB.out | apply below_alloc | apply pw_below_drewN | apply below_drew1) | exact HB.out)⟩
    ·rw [if_neg c6] at H
     have c6b0 : ((rd t101 0) == 1) = false := beq_eq_false_iff_ne.mpr c6
     have c6b1 : ((rd t101 0) != 1) = true := bne_iff_ne.mpr c6
     obtain rfl := Option.some.inj H
     go_enter Tryd.func9, Tryd.ntmps9
     go_wp2_with (first | ((with_reducible refine gate_callee (f := 20) rfl ?_); refine goesL_ (some 7) rfl rfl Tryd.func20 (by kernel_rfl) rfl #[.agg #[.int .i64 1, .string (⟨#[]⟩ : ByteArray), .string (⟨#[]⟩ : ByteArray), .string (⟨#[]⟩ : ByteArray), .slice none 0 0, .slice none 0 0, .string (⟨#[]⟩ : ByteArray)]] rfl (by (try simp only [List.map_toArray, List.map_cons, List.map_nil]); first | done | rfl | (simp only [List.length_drop, List.length_take]; rfl)) ?_; (refine (code_Op.calls 1 (⟨#[]⟩ : ByteArray) (⟨#[]⟩ : ByteArray) (⟨#[]⟩ : ByteArray) _ _ ([] : List Int) _ _ ([] : List Int) (⟨#[]⟩ : ByteArray) t101 t104 _ ?side1 ?side2 ?side3 ?side4 A1.out (HGR.out.below rfl (by repeat (first | (with_reducible first | exact HB.out | apply below_alloc | apply pw_below_drewN | apply below_drew1) | exact HB.out)))).mono ?_); (case side1 => exact Kd.C_nil _ _); (case side2 => exact Nat.le_refl _); (case side3 => exact Kd.C_nil _ _); (case side4 => exact Nat.le_refl _); rintro e w28 ⟨v102, rfl, ho0, hb⟩; refine ⟨_, rfl, ?_⟩; have n0_ := Aside0.mk (Kd.R_lower ho0 (below_size (by repeat (first | (with_reducible first | exact HB.out | apply below_alloc | apply pw_below_drewN | apply below_drew1) | exact HB.out)))); have n1_ := Aside0.mk (below_step (by repeat (first | (with_reducible first | exact HB.out | apply below_alloc | apply pw_below_drewN | apply below_drew1) | exact HB.out)) hb); clear HB; have HO103 := n0_; have HB := n1_; clear n0_ n1_; (try clear hb); (try clear hb2); (try clear hk); (try clear hi); (try clear ho0)) | ((with_reducible refine gate_callee (f := 10) rfl ?_); refine goesL_ (some 12) rfl rfl Tryd.func10 (by kernel_rfl) rfl #[.agg #[.int .u64 5, .slice none 0 0, .slice none 0 0]] rfl (by (try simp only [List.map_toArray, List.map_cons, List.map_nil]); first | done | rfl | (simp only [List.length_drop, List.length_take]; rfl)) ?_; (refine (code_State.calls 5 _ _ ([] : List (S33)) _ _ ([] : List (S31)) t105 t108 _ ?side1 ?side2 ?side3 ?side4 A2.out (HGR.out.below rfl (by repeat (first | (with_reducible first | exact HB.out | apply below_alloc | apply pw_below_drewN | apply below_drew1) | exact HB.out)))).mono ?_); (case side1 => exact Kd.C_nil _ _); (case side2 => exact Nat.le_refl _); (case side3 => exact Kd.C_nil _ _); (case side4 => exact Nat.le_refl _); rintro e w29 ⟨v106, rfl, ho0, hb⟩; refine ⟨_, rfl, ?_⟩; have n0_ := Aside0.mk (Kd.R_elder' (by (with_reducible repeat (first | apply Kd.R_alloc | apply Kd.R_drewN | apply Kd.R_drew)); exact HO103.out) (Kd.R_base ho0) hb); have n1_ := Aside0.mk (Kd.R_lower (Kd.R_new' ho0 (Kd.R_lt (by (with_reducible repeat (first | apply Kd.R_alloc | apply Kd.R_drewN | apply Kd.R_drew)); exact HO103.out))) (below_size (by repeat (first | (with_reducible first | exact HB.out | apply below_alloc | apply pw_below_drewN | apply below_drew1) | exact HB.out)))); have n2_ := Aside0.mk (below_step (by repeat (first | (with_reducible first | exact HB.out | apply below_alloc | apply pw_below_drewN | apply below_drew1) | exact HB.out)) hb); clear HO103; clear HB; have HO103 := n0_; have HO107 := n1_; have HB := n2_; clear n0_ n1_ n2_; (try clear hb); (try clear hb2); (try clear hk); (try clear hi); (try clear ho0); obtain ⟨Ao30, co30, eo30⟩ := Kd.R_slice HO103.out; subst eo30; have p109 : 0 ≤ (0 : Int) := (by omega); have q109 : 0 < (t101.length : Int) := of_decide_eq_true (by first | (with_reducible assumption) | assumption); obtain ⟨ad109, e109, hx109_0⟩ := Kd.at_int (Kd.R_reads' HO103.out).2.2 0 p109 q109; cases e109; have qi109 : (0 < t101.length) = True := eq_true (by omega); (try rw [show ((0 : Int)).toNat = 0 from rfl] at hx109_0); (try rw [Addr.add_zero'] at hx109_0); replace p109 := eq_true p109; replace q109 := eq_true q109))
     go_ret
     exact ⟨by first | rfl | (simp [errW_none, errW_some] <;> rfl) | (simp [*, errW_none, errW_some] <;> rfl), by repeat (first | (with_reducible first | exact HB.out | apply below_alloc | apply pw_below_drewN | apply below_drew1) | exact HB.out)⟩
   ·rw [if_neg c5] at H
    exact absurd H (by simp)
  ·rw [if_neg c4] at H
   have c4b0 : ((t101.length : Int) == 13) = false := beq_eq_false_iff_ne.mpr c4
   have c4b1 : ((t101.length : Int) != 13) = true := bne_iff_ne.mpr c4
   obtain rfl := Option.some.inj H
   go_enter Tryd.func9, Tryd.ntmps9
   go_wp2_with (first | ((with_reducible refine gate_callee (f := 20) rfl ?_); refine goesL_ (some 7) rfl rfl Tryd.func20 (by kernel_rfl) rfl #[.agg #[.int .i64 1, .string (⟨#[]⟩ : ByteArray), .string (⟨#[]⟩ : ByteArray), .string (⟨#[]⟩ : ByteArray), .slice none 0 0, .slice none 0 0, .string (⟨#[]⟩ : ByteArray)]] rfl (by (try simp only [List.map_toArray, List.map_cons, List.map_nil]); first | done | rfl | (simp only [List.length_drop, List.length_take]; rfl)) ?_; (refine (code_Op.calls 1 (⟨#[]⟩ : ByteArray) (⟨#[]⟩ : ByteArray) (⟨#[]⟩ : ByteArray) _ _ ([] : List Int) _ _ ([] : List Int) (⟨#[]⟩ : ByteArray) t101 t104 _ ?side1 ?side2 ?side3 ?side4 A1.out (HGR.out.below rfl (by repeat (first | (with_reducible first | exact HB.out | apply below_alloc | apply pw_below_drewN | apply below_drew1) | exact HB.out)))).mono ?_); (case side1 => exact Kd.C_nil _ _); (case side2 => exact Nat.le_refl _); (case side3 => exact Kd.C_nil _ _); (case side4 => exact Nat.le_refl _); rintro e w31 ⟨v102, rfl, ho0, hb⟩; refine ⟨_, rfl, ?_⟩; have n0_ := Aside0.mk (Kd.R_lower ho0 (below_size (by repeat (first | (with_reducible first | exact HB.out | apply below_alloc | apply pw_below_drewN | apply below_drew1) | exact HB.out)))); have n1_ := Aside0.mk (below_step (by repeat (first | (with_reducible first | exact HB.out | apply below_alloc | apply pw_below_drewN | apply below_drew1) | exact HB.out)) hb); clear HB; have HO103 := n0_; have HB := n1_; clear n0_ n1_; (try clear hb); (try clear hb2); (try clear hk); (try clear hi); (try clear ho0)) | ((with_reducible refine gate_callee (f := 10) rfl ?_); refine goesL_ (some 12) rfl rfl Tryd.func10 (by kernel_rfl) rfl #[.agg #[.int .u64 5, .slice none 0 0, .slice none 0 0]] rfl (by (try simp only [List.map_toArray, List.map_cons, List.map_nil]); first | done | rfl | (simp only [List.length_drop, List.length_take]; rfl)) ?_; (refine (code_State.calls 5 _ _ ([] : List (S33)) _ _ ([] : List (S31)) t105 t108 _ ?side1 ?side2 ?side3 ?side4 A2.out (HGR.out.below rfl (by repeat (first | (with_reducible first | exact HB.out | apply below_alloc | apply pw_below_drewN | apply below_drew1) | exact HB.out)))).mono ?_); (case side1 => exact Kd.C_nil _ _); (case side2 => exact Nat.le_refl _); (case side3 => exact Kd.C_nil _ _); (case side4 => exact Nat.le_refl _); rintro e w32 ⟨v106, rfl, ho0, hb⟩; refine ⟨_, rfl, ?_⟩; have n0_ := Aside0.mk (Kd.R_elder' (by (with_reducible repeat (first | apply Kd.R_alloc | apply Kd.R_drewN | apply Kd.R_drew)); exact HO103.out) (Kd.R_base ho0) hb); have n1_ := Aside0.mk (Kd.R_lower (Kd.R_new' ho0 (Kd.R_lt (by (with_reducible repeat (first | apply Kd.R_alloc | apply Kd.R_drewN | apply Kd.R_drew)); exact HO103.out))) (below_size (by repeat (first | (with_reducible first | exact HB.out | apply below_alloc | apply pw_below_drewN | apply below_drew1) | exact HB.out)))); have n2_ := Aside0.mk (below_step (by repeat (first | (with_reducible first | exact HB.out | apply below_alloc | apply pw_below_drewN | apply below_drew1) | exact HB.out)) hb); clear HO103; clear HB; have HO103 := n0_; have HO107 := n1_; have HB := n2_; clear n0_ n1_ n2_; (try clear hb); (try clear hb2); (try clear hk); (try clear hi); (try clear ho0); obtain ⟨Ao33, co33, eo33⟩ := Kd.R_slice HO103.out; subst eo33))
   go_ret
   exact ⟨by first | rfl | (simp [errW_none, errW_some] <;> rfl) | (simp [*, errW_none, errW_some] <;> rfl), by repeat (first | (with_reducible first | exact HB.out | apply below_alloc | apply pw_below_drewN | apply below_drew1) | exact HB.out)⟩
 ·rw [if_neg c3] at H
  have c3b0 : (t104 == 0) = false := beq_eq_false_iff_ne.mpr c3
  have c3b1 : (t104 != 0) = true := bne_iff_ne.mpr c3
  obtain rfl := Option.some.inj H
  go_enter Tryd.func9, Tryd.ntmps9
  go_wp2_with (first | ((with_reducible refine gate_callee (f := 20) rfl ?_); refine goesL_ (some 7) rfl rfl Tryd.func20 (by kernel_rfl) rfl #[.agg #[.int .i64 1, .string (⟨#[]⟩ : ByteArray), .string (⟨#[]⟩ : ByteArray), .string (⟨#[]⟩ : ByteArray), .slice none 0 0, .slice none 0 0, .string (⟨#[]⟩ : ByteArray)]] rfl (by (try simp only [List.map_toArray, List.map_cons, List.map_nil]); first | done | rfl | (simp only [List.length_drop, List.length_take]; rfl)) ?_; (refine (code_Op.calls 1 (⟨#[]⟩ : ByteArray) (⟨#[]⟩ : ByteArray) (⟨#[]⟩ : ByteArray) _ _ ([] : List Int) _ _ ([] : List Int) (⟨#[]⟩ : ByteArray) t101 t104 _ ?side1 ?side2 ?side3 ?side4 A1.out (HGR.out.below rfl (by repeat (first | (with_reducible first | exact HB.out | apply below_alloc | apply pw_below_drewN | apply below_drew1) | exact HB.out)))).mono ?_); (case side1 => exact Kd.C_nil _ _); (case side2 => exact Nat.le_refl _); (case side3 => exact Kd.C_nil _ _); (case side4 => exact Nat.le_refl _); rintro e w34 ⟨v102, rfl, ho0, hb⟩; refine ⟨_, rfl, ?_⟩; have n0_ := Aside0.mk (Kd.R_lower ho0 (below_size (by repeat (first | (with_reducible first | exact HB.out | apply below_alloc | apply pw_below_drewN | apply below_drew1) | exact HB.out)))); have n1_ := Aside0.mk (below_step (by repeat (first | (with_reducible first | exact HB.out | apply below_alloc | apply pw_below_drewN | apply below_drew1) | exact HB.out)) hb); clear HB; have HO103 := n0_; have HB := n1_; clear n0_ n1_; (try clear hb); (try clear hb2); (try clear hk); (try clear hi); (try clear ho0)) | ((with_reducible refine gate_callee (f := 10) rfl ?_); refine goesL_ (some 12) rfl rfl Tryd.func10 (by kernel_rfl) rfl #[.agg #[.int .u64 5, .slice none 0 0, .slice none 0 0]] rfl (by (try simp only [List.map_toArray, List.map_cons, List.map_nil]); first | done | rfl | (simp only [List.length_drop, List.length_take]; rfl)) ?_; (refine (code_State.calls 5 _ _ ([] : List (S33)) _ _ ([] : List (S31)) t105 t108 _ ?side1 ?side2 ?side3 ?side4 A2.out (HGR.out.below rfl (by repeat (first | (with_reducible first | exact HB.out | apply below_alloc | apply pw_below_drewN | apply below_drew1) | exact HB.out)))).mono ?_); (case side1 => exact Kd.C_nil _ _); (case side2 => exact Nat.le_refl _); (case side3 => exact Kd.C_nil _ _); (case side4 => exact Nat.le_refl _); rintro e w35 ⟨v106, rfl, ho0, hb⟩; refine ⟨_, rfl, ?_⟩; have n0_ := Aside0.mk (Kd.R_elder' (by (with_reducible repeat (first | apply Kd.R_alloc | apply Kd.R_drewN | apply Kd.R_drew)); exact HO103.out) (Kd.R_base ho0) hb); have n1_ := Aside0.mk (Kd.R_lower (Kd.R_new' ho0 (Kd.R_lt (by (with_reducible repeat (first | apply Kd.R_alloc | apply Kd.R_drewN | apply Kd.R_drew)); exact HO103.out))) (below_size (by repeat (first | (with_reducible first | exact HB.out | apply below_alloc | apply pw_below_drewN | apply below_drew1) | exact HB.out)))); have n2_ := Aside0.mk (below_step (by repeat (first | (with_reducible first | exact HB.out | apply below_alloc | apply pw_below_drewN | apply below_drew1) | exact HB.out)) hb); clear HO103; clear HB; have HO103 := n0_; have HO107 := n1_; have HB := n2_; clear n0_ n1_ n2_; (try clear hb); (try clear hb2); (try clear hk); (try clear hi); (try clear ho0)))
  go_ret
  exact ⟨by first | rfl | (simp [errW_none, errW_some] <;> rfl) | (simp [*, errW_none, errW_some] <;> rfl), by repeat (first | (with_reducible first | exact HB.out | apply below_alloc | apply pw_below_drewN | apply below_drew1) | exact HB.out)⟩

end Go.Proofs.YtnlhomgclplnhaaDoor.Pr
