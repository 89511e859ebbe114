import Derived.Test.YtnlhomgclplnhaaDoorPk1
import Derived.Test.YtnlhomgclplnhaaDoorPk4
-- Written for this claim by wip/myprint.py, this session's driver over the kit's print.py. Not trusted: Lean checks it.
namespace Go.Proofs.YtnlhomgclplnhaaDoor.Pr
open Go.RowKit Go.Proofs.YtnlhomgclplnhaaDoorW.PrintWords Go.Proofs.YtnlhomgclplnhaaDoorW.PrintLast Go.Proofs.YtnlhomgclplnhaaDoorW.PrintMore Go.Proofs.YtnlhomgclplnhaaDoor.E
attribute [local go_sem] max2_int min2_int max_two min_two max_three min_three max_four min_four   -- for this text's walks alone
set_option linter.unusedVariables false
set_option linter.unusedSimpArgs false

/-! ### wicketmanlaw16_State: function 8 -/
mutual
def wicketmanlaw16_State.l0 : Nat → List Int → List Int → Int → Int → List (S33) → Option (Int × (List (S33)) × (List (S31)))
 | 0, _, _, _, _, _ => none
 | k + 1, x0, x3, x5, x110000, x110001 => if x5 < 5 then (if 1 < (x3.length : Int) then (if 0 ≤ (IntKind.u64.wrap (x5)) then (if (Int.tmod (shr .u8 (rd x3 1) (IntKind.u64.wrap (x5))) 2) = 1 then ((wicketmanlaw16_Name.f ((x5) % 256)).bind fun t111 => (if 16 ≤ 281474976710656 then (if 32 ≤ 281474976710656 then ((some (List.replicate 32 0 : List Int)).bind fun y115 => (if 2 < (x3.length : Int) then (if 3 < (x3.length : Int) then (if 4 < (x3.length : Int) then (if 0 ≤ x5 then (if x5 < (y115.length : Int) then (if x110001.length < 1466015503701 then (wicketmanlaw16_State.l0 k x0 x3 (wrap64 (x5 + 1)) x110000 (x110001 ++ [(⟨t111, (List.replicate 16 0), (y115.set (x5 : Int).toNat (rd x3 4)), (⟨#[]⟩ : ByteArray), wrap64 (Int.tmod (rd x3 2) 9), IntKind.u64.wrap (rd x3 3)⟩ : S33)])) else (none)) else (none)) else (none)) else (none)) else (none)) else (none))) else (none)) else (none))) else (wicketmanlaw16_State.l0 k x0 x3 (wrap64 (x5 + 1)) x110000 x110001)) else (none)) else (none)) else (wicketmanlaw16_State.l1 k x0 0 x110000 x110001 ([] : List (S31)))
def wicketmanlaw16_State.l1 : Nat → List Int → Int → Int → List (S33) → List (S31) → Option (Int × (List (S33)) × (List (S31)))
 | 0, _, _, _, _, _ => none
 | k + 1, x0, x7, x110000, x110001, x110002 => if x7 < 16 then (if x7 < (x0.length : Int) then (if 0 ≤ x7 then (wicketmanlaw16_State.j2 k x0 x7 (wrap64 (rd x0 x7)) x110000 x110001 x110002) else (none)) else (wicketmanlaw16_State.j2 k x0 x7 0 x110000 x110001 x110002)) else (some (x110000, x110001, x110002))
def wicketmanlaw16_State.j2 : Nat → List Int → Int → Int → Int → List (S33) → List (S31) → Option (Int × (List (S33)) × (List (S31)))
 | 0, _, _, _, _, _, _ => none
 | k + 1, x0, x7, x8, x110000, x110001, x110002 => if (Int.tmod x8 3) = 0 then (wicketmanlaw16_State.l1 k x0 (wrap64 (x7 + 1)) x110000 x110001 x110002) else ((wicketmanlaw16_ID.f ((x7) % 256)).bind fun t127 => (if (x110001.length : Int) > 0 then (if (Int.tmod x8 4) > 0 then (if (x110001.length : Int) = 0 then (none) else (if 0 ≤ (Int.tmod x8 (x110001.length : Int)) then (if (Int.tmod x8 (x110001.length : Int)) < (x110001.length : Int) then (if x110002.length < 2513169434916 then (wicketmanlaw16_State.l1 k x0 (wrap64 (x7 + 1)) x110000 x110001 (x110002 ++ [(⟨t127, (rd_T33 x110001 (Int.tmod x8 (x110001.length : Int))).f0, IntKind.u64.wrap (Int.tmod x8 40), IntKind.u64.wrap (wrap64 ((Int.tmod x8 40) + (Int.tmod x8 7))), ((Int.tmod x8 5) == 4)⟩ : S31)])) else (none)) else (none)) else (none))) else (if x110002.length < 2513169434916 then (wicketmanlaw16_State.l1 k x0 (wrap64 (x7 + 1)) x110000 x110001 (x110002 ++ [(⟨t127, (⟨#[]⟩ : ByteArray), IntKind.u64.wrap (Int.tmod x8 40), IntKind.u64.wrap (wrap64 ((Int.tmod x8 40) + (Int.tmod x8 7))), ((Int.tmod x8 5) == 4)⟩ : S31)])) else (none))) else (if x110002.length < 2513169434916 then (wicketmanlaw16_State.l1 k x0 (wrap64 (x7 + 1)) x110000 x110001 (x110002 ++ [(⟨t127, (⟨#[]⟩ : ByteArray), IntKind.u64.wrap (Int.tmod x8 40), IntKind.u64.wrap (wrap64 ((Int.tmod x8 40) + (Int.tmod x8 7))), ((Int.tmod x8 5) == 4)⟩ : S31)])) else (none))))
end
def wicketmanlaw16_State.f (k : Nat) (l0 : List Int) : Option (Int × (List (S33)) × (List (S31))) := if 6 ≤ 281474976710656 then ((some (cpyL (List.replicate 6 0) l0 : List Int)).bind fun y105 => (if 0 < (y105.length : Int) then (wicketmanlaw16_State.l0 k l0 y105 0 (IntKind.u64.wrap (rd y105 0)) ([] : List (S33))) else (none))) else (none)
theorem wicketmanlaw16_State.mono_l : ∀ k, (∀ y0 y1 y2 y3 y4, LeO (wicketmanlaw16_State.l0 k y0 y1 y2 y3 y4) (wicketmanlaw16_State.l0 (k + 1) y0 y1 y2 y3 y4)) ∧ (∀ y0 y1 y2 y3 y4, LeO (wicketmanlaw16_State.l1 k y0 y1 y2 y3 y4) (wicketmanlaw16_State.l1 (k + 1) y0 y1 y2 y3 y4)) ∧ (∀ y0 y1 y2 y3 y4 y5, LeO (wicketmanlaw16_State.j2 k y0 y1 y2 y3 y4 y5) (wicketmanlaw16_State.j2 (k + 1) y0 y1 y2 y3 y4 y5))
 | 0 => ⟨fun _ _ _ _ _ r h => by simp [wicketmanlaw16_State.l0] at h, fun _ _ _ _ _ r h => by simp [wicketmanlaw16_State.l1] at h, fun _ _ _ _ _ _ r h => by simp [wicketmanlaw16_State.j2] at h⟩
 | k + 1 => by
  obtain ⟨ih0, ih1, ih2⟩ := wicketmanlaw16_State.mono_l k
  refine ⟨?_, ?_, ?_⟩
  ·intro y0 y1 y2 y3 y4
   unfold wicketmanlaw16_State.l0
   repeat' first
   | (with_reducible exact ih0 _ _ _ _ _)
   | (with_reducible exact ih1 _ _ _ _ _)
   | (with_reducible exact ih2 _ _ _ _ _ _)
   | (with_reducible exact LeO.refl _)
   | (with_reducible exact LeO.none _)
   | (with_reducible refine LeO.ite ?_ ?_)
   | (with_reducible refine LeO.bind ?_ (fun _ => ?_))
   | exact ih0 _ _ _ _ _
   | exact ih1 _ _ _ _ _
   | exact ih2 _ _ _ _ _ _
   | exact LeO.none _
   | refine LeO.ite ?_ ?_
   | refine LeO.bind ?_ (fun _ => ?_)
  ·intro y0 y1 y2 y3 y4
   unfold wicketmanlaw16_State.l1
   repeat' first
   | (with_reducible exact ih0 _ _ _ _ _)
   | (with_reducible exact ih1 _ _ _ _ _)
   | (with_reducible exact ih2 _ _ _ _ _ _)
   | (with_reducible exact LeO.refl _)
   | (with_reducible exact LeO.none _)
   | (with_reducible refine LeO.ite ?_ ?_)
   | (with_reducible refine LeO.bind ?_ (fun _ => ?_))
   | exact ih0 _ _ _ _ _
   | exact ih1 _ _ _ _ _
   | exact ih2 _ _ _ _ _ _
   | exact LeO.none _
   | refine LeO.ite ?_ ?_
   | refine LeO.bind ?_ (fun _ => ?_)
  ·intro y0 y1 y2 y3 y4 y5
   unfold wicketmanlaw16_State.j2
   repeat' first
   | (with_reducible exact ih0 _ _ _ _ _)
   | (with_reducible exact ih1 _ _ _ _ _)
   | (with_reducible exact ih2 _ _ _ _ _ _)
   | (with_reducible exact LeO.refl _)
   | (with_reducible exact LeO.none _)
   | (with_reducible refine LeO.ite ?_ ?_)
   | (with_reducible refine LeO.bind ?_ (fun _ => ?_))
   | exact ih0 _ _ _ _ _
   | exact ih1 _ _ _ _ _
   | exact ih2 _ _ _ _ _ _
   | exact LeO.none _
   | refine LeO.ite ?_ ?_
   | refine LeO.bind ?_ (fun _ => ?_)
theorem wicketmanlaw16_State.mono : ∀ a0 k, LeO (wicketmanlaw16_State.f k a0) (wicketmanlaw16_State.f (k + 1) a0) := by
 intro a0 k
 obtain ⟨ih0, ih1, ih2⟩ := wicketmanlaw16_State.mono_l k
 unfold wicketmanlaw16_State.f
 repeat' first
   | (with_reducible exact ih0 _ _ _ _ _)
   | (with_reducible exact ih1 _ _ _ _ _)
   | (with_reducible exact ih2 _ _ _ _ _ _)
   | (with_reducible exact LeO.refl _)
   | (with_reducible exact LeO.none _)
   | (with_reducible refine LeO.ite ?_ ?_)
   | (with_reducible refine LeO.bind ?_ (fun _ => ?_))
   | exact ih0 _ _ _ _ _
   | exact ih1 _ _ _ _ _
   | exact ih2 _ _ _ _ _ _
   | exact LeO.none _
   | refine LeO.ite ?_ ?_
   | refine LeO.bind ?_ (fun _ => ?_)
def wicketmanlaw16_State.T8 : Bool × List (List Nat × List Nat) := (true, [([], []), ([0], [0]), ([1], [1]), ([], []), ([], []), ([], []), ([5], [5]), ([6], [6]), ([7], [7]), ([8], [8]), ([], []), ([10], [10]), ([11], [11]), ([12], [12]), ([2, 3, 4, 9, 13], [2, 3, 4, 9, 13]), ([], []), ([15, 14, 2, 0, 1, 2, 3, 4, 5, 6, 7, 8, 9, 10, 11, 12, 13, 14, 15], [14, 15])])
def wicketmanlaw16_State.B8 : List Nat := [0, 1, 3, 0, 0, 0, 32, 96, 224, 480, 0, 1024, 3072, 7168, 16383, 0, 65535]
theorem wicketmanlaw16_State.tab8 : rtab .any (opsOf Tryd.f8 8) = wicketmanlaw16_State.T8 := by kernel_rfl
theorem wicketmanlaw16_State.bits8 : waitsOk wicketmanlaw16_State.T8.2 wicketmanlaw16_State.B8 = true := by kernel_rfl
def wicketmanlaw16_State.T9 : Bool × List (List Nat × List Nat) := (true, [([], []), ([0], [0]), ([], []), ([], []), ([3], [3]), ([4], [4]), ([1, 2, 0, 1, 2, 3, 4, 5], [1, 2]), ([6, 5, 0, 1, 2, 3, 4, 5], [5, 6])])
def wicketmanlaw16_State.B9 : List Nat := [0, 1, 0, 0, 8, 24, 63, 127]
theorem wicketmanlaw16_State.tab9 : rtab .any (opsOf Tryd.f8 9) = wicketmanlaw16_State.T9 := by kernel_rfl
theorem wicketmanlaw16_State.bits9 : waitsOk wicketmanlaw16_State.T9.2 wicketmanlaw16_State.B9 = true := by kernel_rfl
def wicketmanlaw16_State.T20 : Bool × List (List Nat × List Nat) := (true, [([], []), ([0], [0]), ([], []), ([], []), ([3], [3]), ([4], [4]), ([2, 5], [2, 5]), ([1, 6], [1, 6]), ([7], [7]), ([8], [8]), ([0, 1, 2, 3, 4, 5, 6, 7, 8, 9], []), ([10, 9, 0, 1, 2, 3, 4, 5, 6, 7, 8, 9], [9, 10])])
def wicketmanlaw16_State.B20 : List Nat := [0, 1, 0, 0, 8, 24, 60, 127, 255, 511, 1023, 2047]
theorem wicketmanlaw16_State.tab20 : rtab .any (opsOf Tryd.f8 20) = wicketmanlaw16_State.T20 := by kernel_rfl
theorem wicketmanlaw16_State.bits20 : waitsOk wicketmanlaw16_State.T20.2 wicketmanlaw16_State.B20 = true := by kernel_rfl
set_option maxHeartbeats 8000000 in
set_option maxRecDepth 1000000 in
theorem wicketmanlaw16_State.calls (k : Nat) (A0 : Option Addr) (c0 : Nat) (l0 : List Int) (r1 : Int) (r2 : List (S33)) (r3 : List (S31)) (w : World) (hr0 : Kd.C (Kd.int .u8) w A0 l0.length l0) (hc0 : l0.length ≤ c0) (h : wicketmanlaw16_State.f k l0 = some (r1, r2, r3)) :
  Calls Tryd.prog 8 #[.slice A0 l0.length c0] w fun e w' => ∃ v1_ v2_ : Value, e = .returned (.agg #[.int .u64 r1, v1_, v2_]) ∧ Kd.S k33 33 w' w.heap.size (fun _ => True) v1_ r2 ∧ Kd.R k31 31 w' w.heap.size (fun _ => True) v2_ r3 ∧ Below w.heap.size w w' := by
 have hu27 := Tryd.underlying27
 have hu33 := Tryd.underlying33
 have hu31 := Tryd.underlying31
 have HR0 := Aside0.mk hr0
 have HC0 := Aside0.mk hc0
 clear hr0 hc0
 have HB := Aside0.mk (Below.refl w.heap.size w)
 have H : (if 6 ≤ 281474976710656 then ((some (cpyL (List.replicate 6 0) l0 : List Int)).bind fun y105 => (if 0 < (y105.length : Int) then (wicketmanlaw16_State.l0 k l0 y105 0 (IntKind.u64.wrap (rd y105 0)) ([] : List (S33))) else (none))) else (none)) = some (r1, r2, r3) := h
 clear h
 by_cases c2 : 6 ≤ 281474976710656
 ·rw [if_pos c2] at H
  have c2b0 := eq_true c2
  have c2b1 : decide (6 ≤ 281474976710656) = true := decide_eq_true c2
  clear c2
  obtain ⟨y102, hy102⟩ : ∃ y_ : List Int, y_ = (List.replicate 6 0) := ⟨_, rfl⟩
  replace H : ((some (cpyL y102 l0 : List Int)).bind fun y105 => (if 0 < (y105.length : Int) then (wicketmanlaw16_State.l0 k l0 y105 0 (IntKind.u64.wrap (rd y105 0)) ([] : List (S33))) else (none))) = some (r1, r2, r3) := by first | (rw [hy102]; with_reducible exact H) | (have H2_ := (Option.bind_some _ _).symm.trans H; rw [hy102]; with_reducible exact H2_) | (have H2_ := (Option.bind_some _ _).symm.trans H; with_reducible exact H2_) | with_reducible exact H | (rw [hy102]; exact H) | exact H
  have Ny102 := Aside0.mk hy102
  clear hy102
  obtain ⟨y105, hy105⟩ : ∃ y_ : List Int, y_ = (cpyL y102 l0) := ⟨_, rfl⟩
  replace H : (if 0 < (y105.length : Int) then (wicketmanlaw16_State.l0 k l0 y105 0 (IntKind.u64.wrap (rd y105 0)) ([] : List (S33))) else (none)) = some (r1, r2, r3) := by first | (rw [hy105]; with_reducible exact H) | (have H2_ := (Option.bind_some _ _).symm.trans H; rw [hy105]; with_reducible exact H2_) | (have H2_ := (Option.bind_some _ _).symm.trans H; with_reducible exact H2_) | with_reducible exact H | (rw [hy105]; exact H) | exact H
  have Ny105 := Aside0.mk hy105
  clear hy105
  by_cases c3 : 0 < (y105.length : Int)
  ·rw [if_pos c3] at H
   have c3b0 : decide (0 < (y105.length : Int)) = true := decide_eq_true c3
   have c3b1 : decide (0 < y105.length) = true := decide_eq_true (by omega)
   clear c3
   have H' := Aside0.mk H
   clear H
   go_enter Tryd.func8, Tryd.ntmps8
   go_wp2_with (first | ((with_reducible refine gate_dst (N := 2) rfl ?_); refine box_event ?hg (N := 2) ?hd (cs := #[.int .u64 0, .slice none 0 0, .slice none 0 0]) (t := 27) ?hr ?_; (case hd => rfl); (case hg => rfl); (case hr => first | (go_simp; done) | (go_simp; rfl)); intro gb101 hg w4 hbox hb; have n0_ := Aside0.mk (below_step (by repeat (first | (with_reducible first | exact HB.out | apply below_alloc | apply pw_below_drewN | apply below_drew1) | exact HB.out)) hb); have n1_ := Aside0.mk (hbox); have n2_ := Aside0.mk ((by rw [hg]; exact (below_size (by repeat (first | (with_reducible first | exact HB.out | apply below_alloc | apply pw_below_drewN | apply below_drew1) | exact HB.out))) : w.heap.size ≤ gb101)); have n3_ := Aside0.mk ((by rw [hg]; exact (below_size (by repeat (first | (with_reducible first | exact HB.out | apply below_alloc | apply pw_below_drewN | apply below_drew1) | exact HB.out))) : w.heap.size ≤ gb101)); clear HB; have HB := n0_; have BK101 := n1_; have GW101 := n2_; have GE101 := n3_; clear n0_ n1_ n2_ n3_; clear hb hbox hg) | ((with_reducible refine gate_dst (N := 10) rfl ?_); refine Kd.R_make (Kd.int .u8) _ 5 rfl (N := 10) rfl 22 _ _ rfl 6 rfl rfl Tryd.underlying22 (.int .u8 0) 1 info5 rfl (by decide) (by omega) 0 (ok := fun _ => True) (okp := fun _ => True) rfl (fun _ hk => hk) trivial (by omega) (by omega) (Below.refl _ _) (Nat.le_refl _) ?_; intro v103 w5 ho6 hb hg_ hnew_; clear hg_ hnew_; (first | rw [← Ny102.out] at ho6 | (simp only [Int.reduceToNat] at ho6; rw [← Ny102.out] at ho6)); have n0_ := Aside0.mk (Kd.R_lower ho6 (below_size (by repeat (first | (with_reducible first | exact HB.out | apply below_alloc | apply pw_below_drewN | apply below_drew1 | refine below_set ?_ GE101.out) | exact HB.out)))); have n1_ := Aside0.mk (blk_below (g := gb101) (o := .cells #[.int .u64 0, .slice none 0 0, .slice none 0 0] 27 (0, 0)) (by (with_reducible repeat (first | refine blk_drewN ?_ _ | refine blk_drew ?_ | refine blk_alloc ?_ _)); exact BK101.out) hb); have n2_ := Aside0.mk (below_step (by repeat (first | (with_reducible first | exact HB.out | apply below_alloc | apply pw_below_drewN | apply below_drew1 | refine below_set ?_ GE101.out) | exact HB.out)) hb); clear BK101; clear HB; have HO104 := n0_; have BK101 := n1_; have HB := n2_; clear n0_ n1_ n2_; clear hb ho6) | ((with_reducible refine gate_builtin (b := .copy) (xs := #[.tmp 11, .tmp 12]) rfl ?_); skip; refine R_copy_u8 (w0 := w) w.heap.size rfl (.tmp 11) (.tmp 12) 22 5 rfl Tryd.underlying22 info5 v103 y102 l0 _ _ _ (fun _ => True) rfl rfl ?aO ?aR ?aB ?aS ?_; (case aR => repeat (first | exact (Kd.C_below HR0.out HB.out) | (with_reducible refine Kd.C_alloc ?_ _) | (with_reducible refine Kd.C_drewN ?_ _) | (with_reducible refine Kd.C_drew ?_))); (case aB => exact (by repeat (first | (with_reducible first | exact HB.out | apply below_alloc | apply pw_below_drewN | apply below_drew1 | refine below_set ?_ GE101.out) | exact HB.out))); (case aO => exact (by (with_reducible repeat (first | apply Kd.R_alloc | apply Kd.R_drewN | apply Kd.R_drew)); exact HO104.out)); (case aS => exact (below_size (by repeat (first | (with_reducible first | exact HB.out | apply below_alloc | apply pw_below_drewN | apply below_drew1 | refine below_set ?_ GE101.out) | exact HB.out)))); intro u_ w7 ho hb hg hat; rw [← Ny105.out] at ho; have n0_ := Aside0.mk (blk_grown (g := gb101) (o := .cells #[.int .u64 0, .slice none 0 0, .slice none 0 0] 27 (0, 0)) (by (with_reducible repeat (first | refine blk_drewN ?_ _ | refine blk_drew ?_ | refine blk_alloc ?_ _)); exact BK101.out) hg (Kd.R_ne HO104.out BK101.out (by decide))); have n1_ := Aside0.mk (hb); have n2_ := Aside0.mk (ho); clear BK101; clear HB; clear HO104; have BK101 := n0_; have HB := n1_; have HO107 := n2_; clear n0_ n1_ n2_; clear ho hb hg hat; obtain ⟨Ao8, co8, eo8⟩ := Kd.R_slice HO107.out; subst eo8; have p108 : 0 ≤ (0 : Int) := (by omega); have q108 : 0 < (y105.length : Int) := of_decide_eq_true (by first | (with_reducible assumption) | assumption); obtain ⟨ad108, e108, hx108_0⟩ := Kd.at_int (Kd.R_reads' HO107.out).2.2 0 p108 q108; cases e108; have qi108 : (0 < y105.length) = True := eq_true (by omega); (try rw [show ((0 : Int)).toNat = 0 from rfl] at hx108_0); (try rw [Addr.add_zero'] at hx108_0); replace p108 := eq_true p108; replace q108 := eq_true q108) | ((with_reducible refine gate_dst (N := 4) rfl ?_); refine box_event ?hg (N := 4) ?hd (cs := #[.int .u64 0, .slice none 0 0, .slice none 0 0]) (t := 27) ?hr ?_; (case hd => rfl); (case hg => rfl); (case hr => first | (go_simp; done) | (go_simp; rfl)); intro gb109 hg w9 hbox hb; have n0_ := Aside0.mk (Kd.R_below (by (with_reducible repeat (first | apply Kd.R_alloc | apply Kd.R_drewN | apply Kd.R_drew)); exact HO107.out) hb); have n1_ := Aside0.mk (blk_below (g := gb101) (o := .cells #[.int .u64 0, .slice none 0 0, .slice none 0 0] 27 (0, 0)) (by (with_reducible repeat (first | refine blk_drewN ?_ _ | refine blk_drew ?_ | refine blk_alloc ?_ _)); exact BK101.out) hb); have n2_ := Aside0.mk (below_step (by repeat (first | (with_reducible first | exact HB.out | apply below_alloc | apply pw_below_drewN | apply below_drew1 | refine below_set ?_ GE101.out) | exact HB.out)) hb); have n3_ := Aside0.mk (hbox); have n4_ := Aside0.mk ((by rw [hg]; exact (below_size (by repeat (first | (with_reducible first | exact HB.out | apply below_alloc | apply pw_below_drewN | apply below_drew1 | refine below_set ?_ GE101.out) | exact HB.out))) : w.heap.size ≤ gb109)); have n5_ := Aside0.mk ((by rw [hg]; exact (below_size (by repeat (first | (with_reducible first | exact HB.out | apply below_alloc | apply pw_below_drewN | apply below_drew1 | refine below_set ?_ GE101.out) | exact HB.out))) : w.heap.size ≤ gb109)); have n6_ := Aside0.mk ((by rw [hg]; exact Nat.ne_of_lt (blk_lt (g := gb101) (o := .cells #[.int .u64 0, .slice none 0 0, .slice none 0 0] 27 (0, 0)) (by (with_reducible repeat (first | refine blk_drewN ?_ _ | refine blk_drew ?_ | refine blk_alloc ?_ _)); exact BK101.out)) : gb101 ≠ gb109)); have n7_ := Aside0.mk ((by rw [hg]; exact Nat.ne_of_gt (blk_lt (g := gb101) (o := .cells #[.int .u64 0, .slice none 0 0, .slice none 0 0] 27 (0, 0)) (by (with_reducible repeat (first | refine blk_drewN ?_ _ | refine blk_drew ?_ | refine blk_alloc ?_ _)); exact BK101.out)) : gb109 ≠ gb101)); clear HO107; clear BK101; clear HB; have HO107 := n0_; have BK101 := n1_; have HB := n2_; have BK109 := n3_; have GW109 := n4_; have GE109 := n5_; have NB101_109 := n6_; have NB109_101 := n7_; clear n0_ n1_ n2_ n3_ n4_ n5_ n6_ n7_; clear hb hbox hg; have hnb10 := NB109_101.out; have hnc10 := NB101_109.out; have hcz11_0 : w9.cell? ⟨gb109, 0, none⟩ = some (.int .u64 0) := (blk_cell BK109.out 0).trans rfl; have hcz11_1 : w9.cell? ⟨gb109, 1, none⟩ = some (.slice none 0 0) := (blk_cell BK109.out 1).trans rfl; have hcz11_2 : w9.cell? ⟨gb109, 2, none⟩ = some (.slice none 0 0) := (blk_cell BK109.out 2).trans rfl; have hfz11_0 := blk_frozen BK109.out 0; have hfz11_1 := blk_frozen BK109.out 1; have hfz11_2 := blk_frozen BK109.out 2))
   go_loopg [5] k (fun kq v5 w' => ∃ (x3_1 : List Int) (x5_1 : Int) (x110001_1 : List (S33)) (u110001 : Value), v5 = .int .i64 x5_1 ∧ Aside0 (wicketmanlaw16_State.l0 kq l0 x3_1 x5_1 (IntKind.u64.wrap (rd y105 0)) x110001_1 = some (r1, r2, r3)) ∧ Aside0 (kq ≤ k) ∧ Aside0 (Kd.R (Kd.int .u8) 5 w' w.heap.size (fun _ => True) (.slice (some ad108) y105.length co8) x3_1) ∧ Aside0 (Kd.S k33 33 w' w.heap.size (fun k_ => some k_ ≠ ((.slice (some ad108) y105.length co8) : Value).ownBlock) u110001 x110001_1) ∧ Aside0 (w'.heap[gb101]? = some (.cells #[.int .u64 0, (.slice none 0 0), (.slice none 0 0)] 27 (0, 0))) ∧ Aside0 (w'.heap[gb109]? = some (.cells #[.int .u64 (IntKind.u64.wrap (rd y105 0)), u110001, (.slice none 0 0)] 27 (0, 0))) ∧ Aside0 (Below w.heap.size w w'))
   case atStart => exact ⟨(y105), (0), (([] : List (S33))), (.slice none 0 0), (by first | rfl | (simp; done) | (simp [*]; done)), H', ⟨Nat.le_refl _⟩, ⟨by (with_reducible repeat (first | apply Kd.R_alloc | apply Kd.R_drewN | apply Kd.R_drew)); exact Kd.R_mono (Kd.R_far (p := ⟨gb109, 2, none⟩) (Kd.R_far (p := ⟨gb109, 1, none⟩) (Kd.R_far (p := ⟨gb109, 0, none⟩) (Kd.R_types HO107.out BK109.out (by decide)) (fun _ hk => hk.2) (.int .u64 (IntKind.u64.wrap (rd y105 0)))) (fun _ hk => hk.2) (.slice none 0 0)) (fun _ hk => hk.2) (.slice none 0 0)) (fun _ hk => trivial)⟩, ⟨by first | exact Kd.S_nil _ _ _ _ _ | exact Kd.N_nil _ _ _ _ _ | exact Kd.V_nil _ _ _ _ _ | exact Kd.Q_nil _ _ _ _ _ | exact Kd.R_nil _ _ _ _ _⟩, ⟨by (with_reducible repeat (first | refine blk_drewN ?_ _ | refine blk_drew ?_ | refine blk_alloc ?_ _)); refine blk_far ?_ NB101_109.out _; (with_reducible repeat (first | refine blk_drewN ?_ _ | refine blk_drew ?_ | refine blk_alloc ?_ _)); refine blk_far ?_ NB101_109.out _; (with_reducible repeat (first | refine blk_drewN ?_ _ | refine blk_drew ?_ | refine blk_alloc ?_ _)); refine blk_far ?_ NB101_109.out _; (with_reducible repeat (first | refine blk_drewN ?_ _ | refine blk_drew ?_ | refine blk_alloc ?_ _)); exact BK101.out⟩, ⟨by (with_reducible repeat (first | refine blk_drewN ?_ _ | refine blk_drew ?_ | refine blk_alloc ?_ _)); refine blk_put (cs := #[.int .u64 (IntKind.u64.wrap (rd y105 0)), .slice none 0 0, .slice none 0 0]) ?_ 2 _ rfl; (with_reducible repeat (first | refine blk_drewN ?_ _ | refine blk_drew ?_ | refine blk_alloc ?_ _)); refine blk_put (cs := #[.int .u64 (IntKind.u64.wrap (rd y105 0)), .slice none 0 0, .slice none 0 0]) ?_ 1 _ rfl; (with_reducible repeat (first | refine blk_drewN ?_ _ | refine blk_drew ?_ | refine blk_alloc ?_ _)); refine blk_put (cs := #[.int .u64 0, .slice none 0 0, .slice none 0 0]) ?_ 0 _ rfl; (with_reducible repeat (first | refine blk_drewN ?_ _ | refine blk_drew ?_ | refine blk_alloc ?_ _)); exact BK109.out⟩, ⟨by repeat (first | (with_reducible first | exact HB.out | apply below_alloc | apply pw_below_drewN | apply below_drew1 | refine below_set ?_ GE101.out | refine below_set ?_ GE109.out) | exact HB.out)⟩⟩
   case round =>
    clear H'
    try clear c1
    try clear p1
    try clear q1
    try clear hx1
    try clear qi1
    try clear c2
    try clear c2b0
    try clear c2b1
    try clear p2
    try clear c3
    try clear c3b0
    try clear c3b1
    try clear c8
    try clear c10
    try clear p10
    try clear q10
    try clear hx10
    try clear qi10
    try clear hcz11_0
    try clear hcz11_1
    try clear hcz11_2
    try clear hfz11_0
    try clear hfz11_1
    try clear hfz11_2
    try clear hx108_0
    try clear p108
    try clear q108
    obtain ⟨x3_1, x5_1, x110001_1, u110001, rfl, HA, HK1, HO_3, HO_110001, BK101, BK109, HB⟩ := hrel
    have hl3_1 := (Kd.R_reads' HO_3.out).1
    rw [hl3_1] at HO_3
    (try simp only [hl3_1])
    (try simp only [hl3_1] at BK101)
    (try simp only [hl3_1] at BK109)
    (try simp only [hl3_1] at HO_110001)
    cases gk with
    | zero => exact absurd HA.out (by simp [wicketmanlaw16_State.l0])
    | succ k1 =>
     have H := HA.out
     clear HA
     simp only [wicketmanlaw16_State.l0] at H
     by_cases c12 : x5_1 < 5
     ·rw [if_pos c12] at H
      have c12b0 : decide (x5_1 < 5) = true := decide_eq_true c12
      clear c12
      by_cases c13 : 1 < (x3_1.length : Int)
      ·rw [if_pos c13] at H
       have c13b0 : decide (1 < (x3_1.length : Int)) = true := decide_eq_true c13
       have c13b1 : decide (1 < x3_1.length) = true := decide_eq_true (by omega)
       clear c13
       obtain ⟨ji14, hji14⟩ : ∃ j_ : Int, (IntKind.u64.wrap (x5_1)) = j_ := ⟨_, rfl⟩
       replace H : (if 0 ≤ (ji14) then (if (Int.tmod (shr .u8 (rd x3_1 1) (ji14)) 2) = 1 then ((wicketmanlaw16_Name.f ((x5_1) % 256)).bind fun t111 => (if 16 ≤ 281474976710656 then (if 32 ≤ 281474976710656 then ((some (List.replicate 32 0 : List Int)).bind fun y115 => (if 2 < (x3_1.length : Int) then (if 3 < (x3_1.length : Int) then (if 4 < (x3_1.length : Int) then (if 0 ≤ x5_1 then (if x5_1 < (y115.length : Int) then (if x110001_1.length < 1466015503701 then (wicketmanlaw16_State.l0 k1 l0 x3_1 (wrap64 (x5_1 + 1)) (IntKind.u64.wrap (rd y105 0)) (x110001_1 ++ [(⟨t111, (List.replicate 16 0), (y115.set (x5_1 : Int).toNat (rd x3_1 4)), (⟨#[]⟩ : ByteArray), wrap64 (Int.tmod (rd x3_1 2) 9), IntKind.u64.wrap (rd x3_1 3)⟩ : S33)])) else (none)) else (none)) else (none)) else (none)) else (none)) else (none))) else (none)) else (none))) else (wicketmanlaw16_State.l0 k1 l0 x3_1 (wrap64 (x5_1 + 1)) (IntKind.u64.wrap (rd y105 0)) x110001_1)) else (none)) = some (r1, r2, r3) := by first | (rw [hji14] at H; exact H) | (simp only [hji14] at H ⊢; exact H)
       by_cases c15 : 0 ≤ (ji14)
       ·rw [if_pos c15] at H
        have c15b0 := eq_true c15
        have c15b1 : decide (0 ≤ (ji14)) = true := decide_eq_true c15
        clear c15
        obtain ⟨ji16, hji16⟩ : ∃ j_ : Int, (shr .u8 (rd x3_1 1) (ji14)) = j_ := ⟨_, rfl⟩
        replace H : (if (Int.tmod (ji16) 2) = 1 then ((wicketmanlaw16_Name.f ((x5_1) % 256)).bind fun t111 => (if 16 ≤ 281474976710656 then (if 32 ≤ 281474976710656 then ((some (List.replicate 32 0 : List Int)).bind fun y115 => (if 2 < (x3_1.length : Int) then (if 3 < (x3_1.length : Int) then (if 4 < (x3_1.length : Int) then (if 0 ≤ x5_1 then (if x5_1 < (y115.length : Int) then (if x110001_1.length < 1466015503701 then (wicketmanlaw16_State.l0 k1 l0 x3_1 (wrap64 (x5_1 + 1)) (IntKind.u64.wrap (rd y105 0)) (x110001_1 ++ [(⟨t111, (List.replicate 16 0), (y115.set (x5_1 : Int).toNat (rd x3_1 4)), (⟨#[]⟩ : ByteArray), wrap64 (Int.tmod (rd x3_1 2) 9), IntKind.u64.wrap (rd x3_1 3)⟩ : S33)])) else (none)) else (none)) else (none)) else (none)) else (none)) else (none))) else (none)) else (none))) else (wicketmanlaw16_State.l0 k1 l0 x3_1 (wrap64 (x5_1 + 1)) (IntKind.u64.wrap (rd y105 0)) x110001_1)) = some (r1, r2, r3) := by first | (rw [hji16] at H; exact H) | (simp only [hji16] at H ⊢; exact H)
        have hji16_ : ((rd x3_1 1) / 2 ^ min (ji14).toNat 8) = ji16 := hji16
        have hji16z : (ji14) ≤ 8 → ((rd x3_1 1) / 2 ^ (ji14).toNat) = ji16 := shr_small hji16
        by_cases c17 : (Int.tmod (ji16) 2) = 1
        ·rw [if_pos c17] at H
         have c17b0 : ((Int.tmod (ji16) 2) == 1) = true := beq_iff_eq.mpr c17
         have c17b1 : ((Int.tmod (ji16) 2) != 1) = false := bne_eq_false_iff_eq.mpr c17
         clear c17
         replace H := Option.bind_eq_some_iff.mp H
         obtain ⟨t111, A180, H⟩ := H
         replace H : (if 16 ≤ 281474976710656 then (if 32 ≤ 281474976710656 then ((some (List.replicate 32 0 : List Int)).bind fun y115 => (if 2 < (x3_1.length : Int) then (if 3 < (x3_1.length : Int) then (if 4 < (x3_1.length : Int) then (if 0 ≤ x5_1 then (if x5_1 < (y115.length : Int) then (if x110001_1.length < 1466015503701 then (wicketmanlaw16_State.l0 k1 l0 x3_1 (wrap64 (x5_1 + 1)) (IntKind.u64.wrap (rd y105 0)) (x110001_1 ++ [(⟨t111, (List.replicate 16 0), (y115.set (x5_1 : Int).toNat (rd x3_1 4)), (⟨#[]⟩ : ByteArray), wrap64 (Int.tmod (rd x3_1 2) 9), IntKind.u64.wrap (rd x3_1 3)⟩ : S33)])) else (none)) else (none)) else (none)) else (none)) else (none)) else (none))) else (none)) else (none)) = some (r1, r2, r3) := H
         have A18 := Aside0.mk A180
         clear A180
         by_cases c19 : 16 ≤ 281474976710656
         ·rw [if_pos c19] at H
          have c19b0 := eq_true c19
          have c19b1 : decide (16 ≤ 281474976710656) = true := decide_eq_true c19
          clear c19
          obtain ⟨y112, hy112⟩ : ∃ y_ : List Int, y_ = (List.replicate 16 0) := ⟨_, rfl⟩
          replace H : (if 32 ≤ 281474976710656 then ((some (List.replicate 32 0 : List Int)).bind fun y115 => (if 2 < (x3_1.length : Int) then (if 3 < (x3_1.length : Int) then (if 4 < (x3_1.length : Int) then (if 0 ≤ x5_1 then (if x5_1 < (y115.length : Int) then (if x110001_1.length < 1466015503701 then (wicketmanlaw16_State.l0 k1 l0 x3_1 (wrap64 (x5_1 + 1)) (IntKind.u64.wrap (rd y105 0)) (x110001_1 ++ [(⟨t111, y112, (y115.set (x5_1 : Int).toNat (rd x3_1 4)), (⟨#[]⟩ : ByteArray), wrap64 (Int.tmod (rd x3_1 2) 9), IntKind.u64.wrap (rd x3_1 3)⟩ : S33)])) else (none)) else (none)) else (none)) else (none)) else (none)) else (none))) else (none)) = some (r1, r2, r3) := by first | (rw [hy112]; with_reducible exact H) | (have H2_ := (Option.bind_some _ _).symm.trans H; rw [hy112]; with_reducible exact H2_) | (have H2_ := (Option.bind_some _ _).symm.trans H; with_reducible exact H2_) | with_reducible exact H | (rw [hy112]; exact H) | exact H
          have Ny112 := Aside0.mk hy112
          clear hy112
          by_cases c20 : 32 ≤ 281474976710656
          ·rw [if_pos c20] at H
           have c20b0 := eq_true c20
           have c20b1 : decide (32 ≤ 281474976710656) = true := decide_eq_true c20
           clear c20
           obtain ⟨y115, hy115⟩ : ∃ y_ : List Int, y_ = (List.replicate 32 0) := ⟨_, rfl⟩
           replace H : (if 2 < (x3_1.length : Int) then (if 3 < (x3_1.length : Int) then (if 4 < (x3_1.length : Int) then (if 0 ≤ x5_1 then (if x5_1 < (y115.length : Int) then (if x110001_1.length < 1466015503701 then (wicketmanlaw16_State.l0 k1 l0 x3_1 (wrap64 (x5_1 + 1)) (IntKind.u64.wrap (rd y105 0)) (x110001_1 ++ [(⟨t111, y112, (y115.set (x5_1 : Int).toNat (rd x3_1 4)), (⟨#[]⟩ : ByteArray), wrap64 (Int.tmod (rd x3_1 2) 9), IntKind.u64.wrap (rd x3_1 3)⟩ : S33)])) else (none)) else (none)) else (none)) else (none)) else (none)) else (none)) = some (r1, r2, r3) := by first | (rw [hy115]; with_reducible exact H) | (have H2_ := (Option.bind_some _ _).symm.trans H; rw [hy115]; with_reducible exact H2_) | (have H2_ := (Option.bind_some _ _).symm.trans H; with_reducible exact H2_) | with_reducible exact H | (rw [hy115]; exact H) | exact H
           have Ny115 := Aside0.mk hy115
           clear hy115
           by_cases c21 : 2 < (x3_1.length : Int)
           ·rw [if_pos c21] at H
            have c21b0 : decide (2 < (x3_1.length : Int)) = true := decide_eq_true c21
            have c21b1 : decide (2 < x3_1.length) = true := decide_eq_true (by omega)
            clear c21
            by_cases c22 : 3 < (x3_1.length : Int)
            ·rw [if_pos c22] at H
             have c22b0 : decide (3 < (x3_1.length : Int)) = true := decide_eq_true c22
             have c22b1 : decide (3 < x3_1.length) = true := decide_eq_true (by omega)
             clear c22
             by_cases c23 : 4 < (x3_1.length : Int)
             ·rw [if_pos c23] at H
              have c23b0 : decide (4 < (x3_1.length : Int)) = true := decide_eq_true c23
              have c23b1 : decide (4 < x3_1.length) = true := decide_eq_true (by omega)
              clear c23
              by_cases c24 : 0 ≤ x5_1
              ·rw [if_pos c24] at H
               have c24b0 : decide (0 ≤ x5_1) = true := decide_eq_true c24
               clear c24
               by_cases c25 : x5_1 < (y115.length : Int)
               ·rw [if_pos c25] at H
                have c25b0 : decide (x5_1 < (y115.length : Int)) = true := decide_eq_true c25
                clear c25
                obtain ⟨y122, hy122⟩ : ∃ y_ : List Int, y_ = (y115.set (x5_1 : Int).toNat (rd x3_1 4)) := ⟨_, rfl⟩
                replace H : (if x110001_1.length < 1466015503701 then (wicketmanlaw16_State.l0 k1 l0 x3_1 (wrap64 (x5_1 + 1)) (IntKind.u64.wrap (rd y105 0)) (x110001_1 ++ [(⟨t111, y112, y122, (⟨#[]⟩ : ByteArray), wrap64 (Int.tmod (rd x3_1 2) 9), IntKind.u64.wrap (rd x3_1 3)⟩ : S33)])) else (none)) = some (r1, r2, r3) := by first | (rw [hy122]; with_reducible exact H) | (have H2_ := (Option.bind_some _ _).symm.trans H; rw [hy122]; with_reducible exact H2_) | (have H2_ := (Option.bind_some _ _).symm.trans H; with_reducible exact H2_) | with_reducible exact H | (rw [hy122]; exact H) | exact H
                have Ny122 := Aside0.mk hy122
                clear hy122
                by_cases c27 : x110001_1.length < 1466015503701
                ·rw [if_pos c27] at H
                 have LMc27 := Aside0.mk c27
                 clear c27
                 obtain ⟨y123, hy123⟩ : ∃ y_ : List (S33), y_ = (x110001_1 ++ [(⟨t111, y112, y122, (⟨#[]⟩ : ByteArray), wrap64 (Int.tmod (rd x3_1 2) 9), IntKind.u64.wrap (rd x3_1 3)⟩ : S33)]) := ⟨_, rfl⟩
                 replace H : (wicketmanlaw16_State.l0 k1 l0 x3_1 (wrap64 (x5_1 + 1)) (IntKind.u64.wrap (rd y105 0)) y123) = some (r1, r2, r3) := by first | (rw [hy123]; with_reducible exact H) | (have H2_ := (Option.bind_some _ _).symm.trans H; rw [hy123]; with_reducible exact H2_) | (have H2_ := (Option.bind_some _ _).symm.trans H; with_reducible exact H2_) | with_reducible exact H | (rw [hy123]; exact H) | exact H
                 have Ny123 := Aside0.mk hy123
                 clear hy123
                 have H' := Aside0.mk H
                 clear H
                 have p110 : 0 ≤ (1 : Int) := (by omega)
                 have q110 : 1 < (x3_1.length : Int) := of_decide_eq_true (by first | (with_reducible assumption) | assumption)
                 obtain ⟨ad110, e110, hx110_0⟩ := Kd.at_int (Kd.R_reads' HO_3.out).2.2 1 p110 q110
                 obtain rfl : ad108 = ad110 := (by injection e110)
                 (try simp only [show (1 : Int).toNat = 1 from rfl, Nat.reduceMul, Nat.reduceEqDiff, Go.Addr.add, ↓reduceIte] at hx110_0)
                 have qi110 : (1 < x3_1.length) = True := eq_true (by omega)
                 (try rw [show ((1 : Int)).toNat = 1 from rfl] at hx110_0)
                 replace p110 := eq_true p110
                 replace q110 := eq_true q110
                 try go_wp2
                 have n0_ := Aside0.mk (Kd.R_drew HO_3.out)
                 have n1_ := Aside0.mk (Kd.S_drew HO_110001.out)
                 have n2_ := Aside0.mk (blk_drew BK101.out)
                 have n3_ := Aside0.mk (blk_drew BK109.out)
                 have n4_ := Aside0.mk (below_drew1 HB.out)
                 clear HO_3
                 clear HO_110001
                 clear BK101
                 clear BK109
                 clear HB
                 have HO_3 := n0_
                 have HO_110001 := n1_
                 have BK101 := n2_
                 have BK109 := n3_
                 have HB := n4_
                 clear n0_ n1_ n2_ n3_ n4_
                 have p118 : 0 ≤ (2 : Int) := (by omega)
                 have q118 : 2 < (x3_1.length : Int) := of_decide_eq_true (by first | (with_reducible assumption) | assumption)
                 obtain ⟨ad118, e118, hx118_0⟩ := Kd.at_int (Kd.R_reads' HO_3.out).2.2 2 p118 q118
                 obtain rfl : ad108 = ad118 := (by injection e118)
                 (try simp only [show (2 : Int).toNat = 2 from rfl, Nat.reduceMul, Nat.reduceEqDiff, Go.Addr.add, ↓reduceIte] at hx118_0)
                 have qi118 : (2 < x3_1.length) = True := eq_true (by omega)
                 (try rw [show ((2 : Int)).toNat = 2 from rfl] at hx118_0)
                 replace p118 := eq_true p118
                 replace q118 := eq_true q118
                 have p119 : 0 ≤ (3 : Int) := (by omega)
                 have q119 : 3 < (x3_1.length : Int) := of_decide_eq_true (by first | (with_reducible assumption) | assumption)
                 obtain ⟨ad119, e119, hx119_0⟩ := Kd.at_int (Kd.R_reads' HO_3.out).2.2 3 p119 q119
                 obtain rfl : ad108 = ad119 := (by injection e119)
                 (try simp only [show (3 : Int).toNat = 3 from rfl, Nat.reduceMul, Nat.reduceEqDiff, Go.Addr.add, ↓reduceIte] at hx119_0)
                 have qi119 : (3 < x3_1.length) = True := eq_true (by omega)
                 (try rw [show ((3 : Int)).toNat = 3 from rfl] at hx119_0)
                 replace p119 := eq_true p119
                 replace q119 := eq_true q119
                 refine start_ (n := 17) (S := fun w' => True) (ds := []) #[false, false, false, false, false, false, false, false, false, false, false, false, false, false, false, false, false] (by kernel_rfl) rfl rfl trivial (fun hHeld => ?_); refine with_tabW wicketmanlaw16_State.tab8 wicketmanlaw16_State.bits8 (fun HT_ HW_ => ?_)
                 generalize wr.drew = w28 at HO_3 HO_110001 BK101 BK109 HB hx118_0 hx119_0 hHeld ⊢
                 refine pure_ (i := 0) (N := some 31) (v := ?_) (a' := ?_) #[true, false, false, false, false, false, false, false, false, false, false, false, false, false, false, false, false] rfl rfl (any_of HT_.out (by kernel_rfl)) (fun _ _ _ h => h) (Or.inl ⟨by rfl, ?_⟩) ?_ ?_
                 rotate_left
                 ·intro w'
                  go_simp
                  with_reducible rfl
                 rotate_left
                 ·simp only [Act.put, List.setIfInBounds_toArray, List.set_cons_zero, List.set_cons_succ, i64_w, i32_w]
                  rfl
                 refine pure_ (i := 5) (N := some 36) (v := ?_) (a' := ?_) #[true, false, false, false, false, true, false, false, false, false, false, false, false, false, false, false, false] rfl rfl (any_of HT_.out (by kernel_rfl)) (fun _ _ _ h => h) (Or.inl ⟨by rfl, ?_⟩) ?_ ?_
                 rotate_left
                 ·intro w'
                  go_simp
                  with_reducible rfl
                 rotate_left
                 ·simp only [Act.put, List.setIfInBounds_toArray, List.set_cons_zero, List.set_cons_succ, i64_w, i32_w]
                  rfl
                 refine pure_ (i := 10) (N := some 41) (v := ?_) (a' := ?_) #[true, false, false, false, false, true, false, false, false, false, true, false, false, false, false, false, false] rfl rfl (any_of HT_.out (by kernel_rfl)) (fun _ _ _ h => h) (Or.inl ⟨by rfl, ?_⟩) ?_ ?_
                 rotate_left
                 ·intro w'
                  go_simp
                  with_reducible rfl
                 rotate_left
                 ·simp only [Act.put, List.setIfInBounds_toArray, List.set_cons_zero, List.set_cons_succ, i64_w, i32_w]
                  rfl
                 obtain ⟨H0_, HSH_, HH0_⟩ := S_under HO_110001.out
                 refine inv_at [1, 2, 3, 4, 6, 7, 8, 9, 11, 12, 13, 14, 15, 16] (fun a0_ b a w' => ∃ (v113 : Value) (v116 : Value) (gb120 : Nat) (m14_ : Value) (m15_ : Value), a = putSel a0_ b [(1, 32, .int .u8 ((x5_1) % 256)), (2, 33, .string t111), (3, 34, v113), (4, 35, v116), (6, 37, .pointer (some (ad108.add 2))), (7, 38, .int .u8 (rd x3_1 2)), (8, 39, .int .u8 (Int.tmod (rd x3_1 2) 9)), (9, 40, .int .i64 (wrap64 (Int.tmod (rd x3_1 2) 9))), (11, 42, .pointer (some (ad108.add 3))), (12, 43, .int .u8 (rd x3_1 3)), (13, 44, .int .u64 (IntKind.u64.wrap (rd x3_1 3))), (14, 45, m14_), (15, 6, m15_)] ∧ (b 15 = false → Kd.S k33 33 w' w.heap.size (fun k_ => some k_ ≠ (.slice (some ad108) x3_1.length co8 : Value).ownBlock ∧ k_ < H0_) u110001 x110001_1) ∧ (Kd.R (Kd.int .u8) 5 w' w.heap.size (fun _ => True) (.slice (some ad108) x3_1.length co8) x3_1) ∧ (w'.heap[gb101]? = some (.cells #[.int .u64 0, .slice none 0 0, .slice none 0 0] 27 (0, 0))) ∧ (w'.heap[gb109]? = some (.cells #[.int .u64 (IntKind.u64.wrap (rd y105 0)), u110001, .slice none 0 0] 27 (0, 0))) ∧ (Below w.heap.size w w') ∧ (b 3 = true → Kd.R (Kd.int .u8) 5 w' w.heap.size (fun k_ => some k_ ≠ (.slice (some ad108) x3_1.length co8 : Value).ownBlock ∧ H0_ ≤ k_) v113 y112) ∧ (b 4 = true → Kd.R (Kd.int .u8) 5 w' w.heap.size (fun k_ => some k_ ≠ (.slice (some ad108) x3_1.length co8 : Value).ownBlock ∧ H0_ ≤ k_) v116 y115) ∧ (b 15 = true → Kd.S k33 33 w' w.heap.size (fun k_ => (some k_ ≠ (.slice (some ad108) x3_1.length co8 : Value).ownBlock ∧ k_ < H0_) ∧ k_ ≠ gb120) u110001 x110001_1) ∧ (b 15 = true → b 16 = false → w'.heap[gb120]? = some (.cells #[.string (⟨#[]⟩ : ByteArray), .slice none 0 0, .slice none 0 0, .string (⟨#[]⟩ : ByteArray), .int .i64 0, .int .u64 0] 33 (0, 0))) ∧ (b 15 = true → w.heap.size ≤ gb120) ∧ (b 15 = true → w.heap.size ≤ gb120) ∧ (b 15 = true → gb101 ≠ gb120) ∧ (b 15 = true → gb120 ≠ gb101) ∧ (b 15 = true → gb109 ≠ gb120) ∧ (b 15 = true → gb120 ≠ gb109) ∧ (b 16 = true → w'.heap[gb120]? = some (.cells #[.string t111, v113, v116, .string (⟨#[]⟩ : ByteArray), .int .i64 (wrap64 (Int.tmod (rd x3_1 2) 9)), .int .u64 (IntKind.u64.wrap (rd x3_1 3))] 33 (0, 0))) ∧ (b 14 = true → (m14_ : Value) = .agg #[.string t111, v113, v116, .string (⟨#[]⟩ : ByteArray), .int .i64 (wrap64 (Int.tmod (rd x3_1 2) 9)), .int .u64 (IntKind.u64.wrap (rd x3_1 3))]) ∧ (b 15 = true → (m15_ : Value) = .pointer (some ⟨gb120, 0, none⟩)) ∧ (b 3 = true → b 4 = true → ∀ k_ : Nat, (v113 : Value).ownBlock = some k_ → (v116 : Value).ownBlock ≠ some k_) ∧ H0_ ≤ w'.heap.size) HT_.out HW_.out (by kernel_rfl) (by kernel_rfl) ?_ ?_ ?_
                 ·exact ⟨.bool false, .bool false, 0, .bool false, .bool false, by simp only [putSel, Bool.false_eq_true, if_false], fun _ => HSH_, HO_3.out, BK101.out, BK109.out, HB.out, fun h_ => absurd h_ (by decide), fun h_ => absurd h_ (by decide), fun h_ => absurd h_ (by decide), fun h_ => absurd h_ (by decide), fun h_ => absurd h_ (by decide), fun h_ => absurd h_ (by decide), fun h_ => absurd h_ (by decide), fun h_ => absurd h_ (by decide), fun h_ => absurd h_ (by decide), fun h_ => absurd h_ (by decide), fun h_ => absurd h_ (by decide), fun h_ => absurd h_ (by decide), fun h_ => absurd h_ (by decide), fun h_ => absurd h_ (by decide), HH0_⟩
                 ·skip
                  clear BK101 BK109 HB HO_110001 HO_3
                  refine steps_cons ?_ ?_
                  ·rintro b a w' ⟨v113, v116, gb120, m14_, m15_, ha, Q_HO_110001, Q_HO_3, Q_BK101, Q_BK109, Q_HB, Q_HO114, Q_HO117, Q_HO_110001_e15, Q_BK120, Q_GW120, Q_GE120, Q_NB101_120, Q_NB120_101, Q_NB109_120, Q_NB120_109, Q_BK120_e16, Q_X14_, Q_X15_, Q_AP_, Q_HH_⟩ hb_ hon hoff
                   refine ⟨_, rfl, fun K hK => ?_⟩
                   have e31 : a.tmps[31]? = some (.int .i64 x5_1) := by rw [ha]; exact (putSel_off rfl).trans rfl
                   replace ha := Aside0.mk ha
                   have HO_3 := Aside0.mk Q_HO_3
                   have BK101 := Aside0.mk Q_BK101
                   have BK109 := Aside0.mk Q_BK109
                   have HB := Aside0.mk Q_HB
                   refine value_ (w1 := w') (v := .int .u8 ((x5_1) % 256)) (by rfl) rfl ?_ ?_
                   ·go_simp
                    (try simp only [i64_w])
                    try rfl
                   refine hK.out _ _ ⟨v113, v116, gb120, m14_, m15_, (by rw [ha.out]; exact putSel_upk 0 hb_ rfl rfl rfl), Q_HO_110001, Q_HO_3, Q_BK101, Q_BK109, Q_HB, Q_HO114, Q_HO117, Q_HO_110001_e15, Q_BK120, Q_GW120, Q_GE120, Q_NB101_120, Q_NB120_101, Q_NB109_120, Q_NB120_109, fun h0_ => absurd ((hoff 16 (by kernel_rfl)).symm.trans h0_) (by decide), fun h0_ => absurd ((hoff 14 (by kernel_rfl)).symm.trans h0_) (by decide), Q_X15_, Q_AP_, Q_HH_⟩
                  refine steps_cons ?_ ?_
                  ·rintro b a w' ⟨v113, v116, gb120, m14_, m15_, ha, Q_HO_110001, Q_HO_3, Q_BK101, Q_BK109, Q_HB, Q_HO114, Q_HO117, Q_HO_110001_e15, Q_BK120, Q_GW120, Q_GE120, Q_NB101_120, Q_NB120_101, Q_NB109_120, Q_NB120_109, Q_BK120_e16, Q_X14_, Q_X15_, Q_AP_, Q_HH_⟩ hb_ hon hoff
                   refine ⟨_, rfl, fun K hK => ?_⟩
                   have e32 : a.tmps[32]? = some (.int .u8 ((x5_1) % 256)) := by rw [ha]; exact putSel_on (e := (1, 32, .int .u8 ((x5_1) % 256))) 0 rfl rfl (hon 1 (by kernel_rfl)) rfl
                   replace ha := Aside0.mk ha
                   have HO_3 := Aside0.mk Q_HO_3
                   have BK101 := Aside0.mk Q_BK101
                   have BK109 := Aside0.mk Q_BK109
                   have HB := Aside0.mk Q_HB
                   refine goes_ Tryd.func27 (by kernel_rfl) rfl #[.int .u8 ((x5_1) % 256)] (by rfl) rfl rfl (by first | (simp only [List.map_toArray, List.map_cons, List.map_nil, Act.eval, Array.getD_eq_getD_getElem?, Option.getD_some, e32]; done) | (simp only [List.map_toArray, List.map_cons, List.map_nil, Act.eval, Array.getD_eq_getD_getElem?, Option.getD_some, e32]; rfl)) ?_
                   with_reducible refine (wicketmanlaw16_Name.calls ((x5_1) % 256) t111 _ A18.out).mono ?_
                   rintro e w29 ⟨rfl, hb⟩
                   have Q_HHn_ := Nat.le_trans Q_HH_ hb.size
                   refine ⟨_, rfl, ?_⟩
                   have n0_ := Aside0.mk (Kd.R_below (by (with_reducible repeat (first | apply Kd.R_alloc | apply Kd.R_drewN | apply Kd.R_drew)); exact HO_3.out) hb)
                   have n2_ := Aside0.mk (blk_below (g := gb101) (o := .cells #[.int .u64 0, .slice none 0 0, .slice none 0 0] 27 (0, 0)) (by (with_reducible repeat (first | refine blk_drewN ?_ _ | refine blk_drew ?_ | refine blk_alloc ?_ _)); exact BK101.out) hb)
                   have n3_ := Aside0.mk (blk_below (g := gb109) (o := .cells #[.int .u64 (IntKind.u64.wrap (rd y105 0)), u110001, .slice none 0 0] 27 (0, 0)) (by (with_reducible repeat (first | refine blk_drewN ?_ _ | refine blk_drew ?_ | refine blk_alloc ?_ _)); exact BK109.out) hb)
                   have n4_ := Aside0.mk (below_step (by repeat (first | (with_reducible first | exact HB.out | apply below_alloc | apply pw_below_drewN | apply below_drew1 | refine below_set ?_ GE101.out | refine below_set ?_ GE109.out) | exact HB.out)) hb)
                   have z_HO_110001 := fun (h0_ : b 15 = false) => (show Kd.S k33 33 w29 w.heap.size (fun k_ => some k_ ≠ (.slice (some ad108) x3_1.length co8 : Value).ownBlock ∧ k_ < H0_) u110001 x110001_1 from by first | exact (Kd.S_below (by (with_reducible repeat (first | apply Kd.S_alloc | apply Kd.S_drewN | apply Kd.S_drew)); exact (Q_HO_110001 h0_)) hb) | exact Kd.S_mono (Kd.S_below (by (with_reducible repeat (first | apply Kd.S_alloc | apply Kd.S_drewN | apply Kd.S_drew)); exact (Q_HO_110001 h0_)) hb) (fun _ h_ => by first | trivial | exact h_ | exact h_.1))
                   have z_HO114 := fun (h0_ : b 3 = true) => (show Kd.R (Kd.int .u8) 5 w29 w.heap.size (fun k_ => some k_ ≠ (.slice (some ad108) x3_1.length co8 : Value).ownBlock ∧ H0_ ≤ k_) v113 y112 from by first | exact (Kd.R_below (by (with_reducible repeat (first | apply Kd.R_alloc | apply Kd.R_drewN | apply Kd.R_drew)); exact (Q_HO114 h0_)) hb) | exact Kd.R_mono (Kd.R_below (by (with_reducible repeat (first | apply Kd.R_alloc | apply Kd.R_drewN | apply Kd.R_drew)); exact (Q_HO114 h0_)) hb) (fun _ h_ => by first | trivial | exact h_ | exact h_.1))
                   have z_HO117 := fun (h0_ : b 4 = true) => (show Kd.R (Kd.int .u8) 5 w29 w.heap.size (fun k_ => some k_ ≠ (.slice (some ad108) x3_1.length co8 : Value).ownBlock ∧ H0_ ≤ k_) v116 y115 from by first | exact (Kd.R_below (by (with_reducible repeat (first | apply Kd.R_alloc | apply Kd.R_drewN | apply Kd.R_drew)); exact (Q_HO117 h0_)) hb) | exact Kd.R_mono (Kd.R_below (by (with_reducible repeat (first | apply Kd.R_alloc | apply Kd.R_drewN | apply Kd.R_drew)); exact (Q_HO117 h0_)) hb) (fun _ h_ => by first | trivial | exact h_ | exact h_.1))
                   have z_HO_110001_e15 := fun (h0_ : b 15 = true) => (show Kd.S k33 33 w29 w.heap.size (fun k_ => (some k_ ≠ (.slice (some ad108) x3_1.length co8 : Value).ownBlock ∧ k_ < H0_) ∧ k_ ≠ gb120) u110001 x110001_1 from by first | exact (Kd.S_below (by (with_reducible repeat (first | apply Kd.S_alloc | apply Kd.S_drewN | apply Kd.S_drew)); exact (Q_HO_110001_e15 h0_)) hb) | exact Kd.S_mono (Kd.S_below (by (with_reducible repeat (first | apply Kd.S_alloc | apply Kd.S_drewN | apply Kd.S_drew)); exact (Q_HO_110001_e15 h0_)) hb) (fun _ h_ => by first | trivial | exact h_ | exact h_.1))
                   have z_BK120 := fun (h0_ : b 15 = true) (h1_ : b 16 = false) => (show w29.heap[gb120]? = some (.cells #[.string (⟨#[]⟩ : ByteArray), .slice none 0 0, .slice none 0 0, .string (⟨#[]⟩ : ByteArray), .int .i64 0, .int .u64 0] 33 (0, 0)) from by first | exact (blk_below (g := gb120) (o := .cells #[.string (⟨#[]⟩ : ByteArray), .slice none 0 0, .slice none 0 0, .string (⟨#[]⟩ : ByteArray), .int .i64 0, .int .u64 0] 33 (0, 0)) (by (with_reducible repeat (first | refine blk_drewN ?_ _ | refine blk_drew ?_ | refine blk_alloc ?_ _)); exact (Q_BK120 h0_ h1_)) hb))
                   clear HO_3
                   clear BK101
                   clear BK109
                   clear HB
                   have HO_3 := n0_
                   have BK101 := n2_
                   have BK109 := n3_
                   have HB := n4_
                   clear n0_ n2_ n3_ n4_
                   (try clear hb)
                   (try clear hb2)
                   (try clear hk)
                   (try clear hi)
                   refine hK.out _ _ ⟨v113, v116, gb120, m14_, m15_, (by rw [ha.out]; exact putSel_upk 1 hb_ rfl rfl rfl), z_HO_110001, (by (with_reducible repeat (first | apply Kd.R_alloc | apply Kd.R_drewN | apply Kd.R_drew)); exact HO_3.out), (by (with_reducible repeat (first | refine blk_drewN ?_ _ | refine blk_drew ?_ | refine blk_alloc ?_ _)); exact BK101.out), (by (with_reducible repeat (first | refine blk_drewN ?_ _ | refine blk_drew ?_ | refine blk_alloc ?_ _)); exact BK109.out), (by repeat (first | (with_reducible first | exact HB.out | apply below_alloc | apply pw_below_drewN | apply below_drew1 | refine below_set ?_ GE101.out | refine below_set ?_ GE109.out) | exact HB.out)), z_HO114, z_HO117, z_HO_110001_e15, z_BK120, Q_GW120, Q_GE120, Q_NB101_120, Q_NB120_101, Q_NB109_120, Q_NB120_109, fun h0_ => absurd ((hoff 16 (by kernel_rfl)).symm.trans h0_) (by decide), fun h0_ => absurd ((hoff 14 (by kernel_rfl)).symm.trans h0_) (by decide), Q_X15_, Q_AP_, Q_HHn_⟩
                  refine steps_cons ?_ ?_
                  ·rintro b a w' ⟨v113, v116, gb120, m14_, m15_, ha, Q_HO_110001, Q_HO_3, Q_BK101, Q_BK109, Q_HB, Q_HO114, Q_HO117, Q_HO_110001_e15, Q_BK120, Q_GW120, Q_GE120, Q_NB101_120, Q_NB120_101, Q_NB109_120, Q_NB120_109, Q_BK120_e16, Q_X14_, Q_X15_, Q_AP_, Q_HH_⟩ hb_ hon hoff
                   refine ⟨_, rfl, fun K hK => ?_⟩
                   replace ha := Aside0.mk ha
                   have HO_3 := Aside0.mk Q_HO_3
                   have BK101 := Aside0.mk Q_BK101
                   have BK109 := Aside0.mk Q_BK109
                   have HB := Aside0.mk Q_HB
                   refine Kd.R_make_step (Kd.int .u8) _ 5 (by rfl) (N := 34) rfl 22 _ _ rfl 16 rfl rfl Tryd.underlying22 (.int .u8 0) 1 info5 rfl (by decide) (by omega) 0 (ok := fun _ => True) (okp := fun _ => True) rfl (fun _ hk => hk) trivial (by omega) (by omega) (Below.refl _ _) (Nat.le_refl _) ?_
                   intro v113 w29 ho30 hb hg_ hnew_
                   have Q_HHn_ := Nat.le_trans Q_HH_ hb.size
                   have RB_ := Kd.R_base ho30
                   clear hg_ hnew_
                   (first | rw [← Ny112.out] at ho30 | (simp only [Int.reduceToNat] at ho30; rw [← Ny112.out] at ho30))
                   have n0_ := Aside0.mk (Kd.R_elder' (by (with_reducible repeat (first | apply Kd.R_alloc | apply Kd.R_drewN | apply Kd.R_drew)); exact HO_3.out) (Kd.R_base ho30) hb)
                   have n2_ := Aside0.mk (Kd.R_lower (Kd.R_bound (Kd.R_new' ho30 (Kd.R_lt (by (with_reducible repeat (first | apply Kd.R_alloc | apply Kd.R_drewN | apply Kd.R_drew)); exact HO_3.out)))) (below_size (by repeat (first | (with_reducible first | exact HB.out | apply below_alloc | apply pw_below_drewN | apply below_drew1 | refine below_set ?_ GE101.out | refine below_set ?_ GE109.out) | exact HB.out))))
                   have n3_ := Aside0.mk (blk_below (g := gb101) (o := .cells #[.int .u64 0, .slice none 0 0, .slice none 0 0] 27 (0, 0)) (by (with_reducible repeat (first | refine blk_drewN ?_ _ | refine blk_drew ?_ | refine blk_alloc ?_ _)); exact BK101.out) hb)
                   have n4_ := Aside0.mk (blk_below (g := gb109) (o := .cells #[.int .u64 (IntKind.u64.wrap (rd y105 0)), u110001, .slice none 0 0] 27 (0, 0)) (by (with_reducible repeat (first | refine blk_drewN ?_ _ | refine blk_drew ?_ | refine blk_alloc ?_ _)); exact BK109.out) hb)
                   have n5_ := Aside0.mk (below_step (by repeat (first | (with_reducible first | exact HB.out | apply below_alloc | apply pw_below_drewN | apply below_drew1 | refine below_set ?_ GE101.out | refine below_set ?_ GE109.out) | exact HB.out)) hb)
                   have z_HO_110001 := fun (h0_ : b 15 = false) => (show Kd.S k33 33 w29 w.heap.size (fun k_ => some k_ ≠ (.slice (some ad108) x3_1.length co8 : Value).ownBlock ∧ k_ < H0_) u110001 x110001_1 from by first | exact (Kd.S_elder' (by (with_reducible repeat (first | apply Kd.S_alloc | apply Kd.S_drewN | apply Kd.S_drew)); exact (Q_HO_110001 h0_)) (Kd.R_base ho30) hb) | exact Kd.S_mono (Kd.S_elder' (by (with_reducible repeat (first | apply Kd.S_alloc | apply Kd.S_drewN | apply Kd.S_drew)); exact (Q_HO_110001 h0_)) (Kd.R_base ho30) hb) (fun _ h_ => by first | trivial | exact h_ | exact h_.1))
                   have z_HO117 := fun (h0_ : b 4 = true) => (show Kd.R (Kd.int .u8) 5 w29 w.heap.size (fun k_ => some k_ ≠ (.slice (some ad108) x3_1.length co8 : Value).ownBlock ∧ H0_ ≤ k_) v116 y115 from by first | exact (Kd.R_elder' (by (with_reducible repeat (first | apply Kd.R_alloc | apply Kd.R_drewN | apply Kd.R_drew)); exact (Q_HO117 h0_)) (Kd.R_base ho30) hb) | exact Kd.R_mono (Kd.R_elder' (by (with_reducible repeat (first | apply Kd.R_alloc | apply Kd.R_drewN | apply Kd.R_drew)); exact (Q_HO117 h0_)) (Kd.R_base ho30) hb) (fun _ h_ => by first | trivial | exact h_ | exact h_.1))
                   have z_HO_110001_e15 := fun (h0_ : b 15 = true) => (show Kd.S k33 33 w29 w.heap.size (fun k_ => (some k_ ≠ (.slice (some ad108) x3_1.length co8 : Value).ownBlock ∧ k_ < H0_) ∧ k_ ≠ gb120) u110001 x110001_1 from by first | exact (Kd.S_elder' (by (with_reducible repeat (first | apply Kd.S_alloc | apply Kd.S_drewN | apply Kd.S_drew)); exact (Q_HO_110001_e15 h0_)) (Kd.R_base ho30) hb) | exact Kd.S_mono (Kd.S_elder' (by (with_reducible repeat (first | apply Kd.S_alloc | apply Kd.S_drewN | apply Kd.S_drew)); exact (Q_HO_110001_e15 h0_)) (Kd.R_base ho30) hb) (fun _ h_ => by first | trivial | exact h_ | exact h_.1))
                   have z_BK120 := fun (h0_ : b 15 = true) (h1_ : b 16 = false) => (show w29.heap[gb120]? = some (.cells #[.string (⟨#[]⟩ : ByteArray), .slice none 0 0, .slice none 0 0, .string (⟨#[]⟩ : ByteArray), .int .i64 0, .int .u64 0] 33 (0, 0)) from by first | exact (blk_below (g := gb120) (o := .cells #[.string (⟨#[]⟩ : ByteArray), .slice none 0 0, .slice none 0 0, .string (⟨#[]⟩ : ByteArray), .int .i64 0, .int .u64 0] 33 (0, 0)) (by (with_reducible repeat (first | refine blk_drewN ?_ _ | refine blk_drew ?_ | refine blk_alloc ?_ _)); exact (Q_BK120 h0_ h1_)) hb))
                   clear HO_3
                   clear BK101
                   clear BK109
                   clear HB
                   have HO_3 := n0_
                   have HO114 := n2_
                   have BK101 := n3_
                   have BK109 := n4_
                   have HB := n5_
                   clear n0_ n2_ n3_ n4_ n5_
                   clear hb ho30
                   refine hK.out _ _ ⟨v113, v116, gb120, m14_, m15_, (by rw [ha.out]; exact putSel_upk 2 hb_ rfl rfl rfl), z_HO_110001, (by (with_reducible repeat (first | apply Kd.R_alloc | apply Kd.R_drewN | apply Kd.R_drew)); exact Kd.R_mono HO_3.out (fun _ _ => trivial)), (by (with_reducible repeat (first | refine blk_drewN ?_ _ | refine blk_drew ?_ | refine blk_alloc ?_ _)); exact BK101.out), (by (with_reducible repeat (first | refine blk_drewN ?_ _ | refine blk_drew ?_ | refine blk_alloc ?_ _)); exact BK109.out), (by repeat (first | (with_reducible first | exact HB.out | apply below_alloc | apply pw_below_drewN | apply below_drew1 | refine below_set ?_ GE101.out | refine below_set ?_ GE109.out) | exact HB.out)), fun _ => (by (with_reducible repeat (first | apply Kd.R_alloc | apply Kd.R_drewN | apply Kd.R_drew)); exact Kd.R_mono HO114.out (fun _ hk => ⟨hk.1.2, Nat.le_trans Q_HH_ hk.2.1⟩)), z_HO117, z_HO_110001_e15, z_BK120, Q_GW120, Q_GE120, Q_NB101_120, Q_NB120_101, Q_NB109_120, Q_NB120_109, fun h0_ => absurd ((hoff 16 (by kernel_rfl)).symm.trans h0_) (by decide), fun h0_ => absurd ((hoff 14 (by kernel_rfl)).symm.trans h0_) (by decide), Q_X15_, fun _ h4_ k_ hk_ e_ => Nat.not_lt.2 (RB_ k_ hk_) (Kd.R_lt (Q_HO117 h4_) k_ e_), Q_HHn_⟩
                  refine steps_cons ?_ ?_
                  ·rintro b a w' ⟨v113, v116, gb120, m14_, m15_, ha, Q_HO_110001, Q_HO_3, Q_BK101, Q_BK109, Q_HB, Q_HO114, Q_HO117, Q_HO_110001_e15, Q_BK120, Q_GW120, Q_GE120, Q_NB101_120, Q_NB120_101, Q_NB109_120, Q_NB120_109, Q_BK120_e16, Q_X14_, Q_X15_, Q_AP_, Q_HH_⟩ hb_ hon hoff
                   refine ⟨_, rfl, fun K hK => ?_⟩
                   replace ha := Aside0.mk ha
                   have HO_3 := Aside0.mk Q_HO_3
                   have BK101 := Aside0.mk Q_BK101
                   have BK109 := Aside0.mk Q_BK109
                   have HB := Aside0.mk Q_HB
                   refine Kd.R_make_step (Kd.int .u8) _ 5 (by rfl) (N := 35) rfl 22 _ _ rfl 32 rfl rfl Tryd.underlying22 (.int .u8 0) 1 info5 rfl (by decide) (by omega) 0 (ok := fun _ => True) (okp := fun _ => True) rfl (fun _ hk => hk) trivial (by omega) (by omega) (Below.refl _ _) (Nat.le_refl _) ?_
                   intro v116 w29 ho30 hb hg_ hnew_
                   have Q_HHn_ := Nat.le_trans Q_HH_ hb.size
                   have RB_ := Kd.R_base ho30
                   clear hg_ hnew_
                   (first | rw [← Ny115.out] at ho30 | (simp only [Int.reduceToNat] at ho30; rw [← Ny115.out] at ho30))
                   have n0_ := Aside0.mk (Kd.R_elder' (by (with_reducible repeat (first | apply Kd.R_alloc | apply Kd.R_drewN | apply Kd.R_drew)); exact HO_3.out) (Kd.R_base ho30) hb)
                   have n2_ := Aside0.mk (Kd.R_lower (Kd.R_bound (Kd.R_new' ho30 (Kd.R_lt (by (with_reducible repeat (first | apply Kd.R_alloc | apply Kd.R_drewN | apply Kd.R_drew)); exact HO_3.out)))) (below_size (by repeat (first | (with_reducible first | exact HB.out | apply below_alloc | apply pw_below_drewN | apply below_drew1 | refine below_set ?_ GE101.out | refine below_set ?_ GE109.out) | exact HB.out))))
                   have n3_ := Aside0.mk (blk_below (g := gb101) (o := .cells #[.int .u64 0, .slice none 0 0, .slice none 0 0] 27 (0, 0)) (by (with_reducible repeat (first | refine blk_drewN ?_ _ | refine blk_drew ?_ | refine blk_alloc ?_ _)); exact BK101.out) hb)
                   have n4_ := Aside0.mk (blk_below (g := gb109) (o := .cells #[.int .u64 (IntKind.u64.wrap (rd y105 0)), u110001, .slice none 0 0] 27 (0, 0)) (by (with_reducible repeat (first | refine blk_drewN ?_ _ | refine blk_drew ?_ | refine blk_alloc ?_ _)); exact BK109.out) hb)
                   have n5_ := Aside0.mk (below_step (by repeat (first | (with_reducible first | exact HB.out | apply below_alloc | apply pw_below_drewN | apply below_drew1 | refine below_set ?_ GE101.out | refine below_set ?_ GE109.out) | exact HB.out)) hb)
                   have z_HO_110001 := fun (h0_ : b 15 = false) => (show Kd.S k33 33 w29 w.heap.size (fun k_ => some k_ ≠ (.slice (some ad108) x3_1.length co8 : Value).ownBlock ∧ k_ < H0_) u110001 x110001_1 from by first | exact (Kd.S_elder' (by (with_reducible repeat (first | apply Kd.S_alloc | apply Kd.S_drewN | apply Kd.S_drew)); exact (Q_HO_110001 h0_)) (Kd.R_base ho30) hb) | exact Kd.S_mono (Kd.S_elder' (by (with_reducible repeat (first | apply Kd.S_alloc | apply Kd.S_drewN | apply Kd.S_drew)); exact (Q_HO_110001 h0_)) (Kd.R_base ho30) hb) (fun _ h_ => by first | trivial | exact h_ | exact h_.1))
                   have z_HO114 := fun (h0_ : b 3 = true) => (show Kd.R (Kd.int .u8) 5 w29 w.heap.size (fun k_ => some k_ ≠ (.slice (some ad108) x3_1.length co8 : Value).ownBlock ∧ H0_ ≤ k_) v113 y112 from by first | exact (Kd.R_elder' (by (with_reducible repeat (first | apply Kd.R_alloc | apply Kd.R_drewN | apply Kd.R_drew)); exact (Q_HO114 h0_)) (Kd.R_base ho30) hb) | exact Kd.R_mono (Kd.R_elder' (by (with_reducible repeat (first | apply Kd.R_alloc | apply Kd.R_drewN | apply Kd.R_drew)); exact (Q_HO114 h0_)) (Kd.R_base ho30) hb) (fun _ h_ => by first | trivial | exact h_ | exact h_.1))
                   have z_HO_110001_e15 := fun (h0_ : b 15 = true) => (show Kd.S k33 33 w29 w.heap.size (fun k_ => (some k_ ≠ (.slice (some ad108) x3_1.length co8 : Value).ownBlock ∧ k_ < H0_) ∧ k_ ≠ gb120) u110001 x110001_1 from by first | exact (Kd.S_elder' (by (with_reducible repeat (first | apply Kd.S_alloc | apply Kd.S_drewN | apply Kd.S_drew)); exact (Q_HO_110001_e15 h0_)) (Kd.R_base ho30) hb) | exact Kd.S_mono (Kd.S_elder' (by (with_reducible repeat (first | apply Kd.S_alloc | apply Kd.S_drewN | apply Kd.S_drew)); exact (Q_HO_110001_e15 h0_)) (Kd.R_base ho30) hb) (fun _ h_ => by first | trivial | exact h_ | exact h_.1))
                   have z_BK120 := fun (h0_ : b 15 = true) (h1_ : b 16 = false) => (show w29.heap[gb120]? = some (.cells #[.string (⟨#[]⟩ : ByteArray), .slice none 0 0, .slice none 0 0, .string (⟨#[]⟩ : ByteArray), .int .i64 0, .int .u64 0] 33 (0, 0)) from by first | exact (blk_below (g := gb120) (o := .cells #[.string (⟨#[]⟩ : ByteArray), .slice none 0 0, .slice none 0 0, .string (⟨#[]⟩ : ByteArray), .int .i64 0, .int .u64 0] 33 (0, 0)) (by (with_reducible repeat (first | refine blk_drewN ?_ _ | refine blk_drew ?_ | refine blk_alloc ?_ _)); exact (Q_BK120 h0_ h1_)) hb))
                   clear HO_3
                   clear BK101
                   clear BK109
                   clear HB
                   have HO_3 := n0_
                   have HO117 := n2_
                   have BK101 := n3_
                   have BK109 := n4_
                   have HB := n5_
                   clear n0_ n2_ n3_ n4_ n5_
                   clear hb ho30
                   refine hK.out _ _ ⟨v113, v116, gb120, m14_, m15_, (by rw [ha.out]; exact putSel_upk 3 hb_ rfl rfl rfl), z_HO_110001, (by (with_reducible repeat (first | apply Kd.R_alloc | apply Kd.R_drewN | apply Kd.R_drew)); exact Kd.R_mono HO_3.out (fun _ _ => trivial)), (by (with_reducible repeat (first | refine blk_drewN ?_ _ | refine blk_drew ?_ | refine blk_alloc ?_ _)); exact BK101.out), (by (with_reducible repeat (first | refine blk_drewN ?_ _ | refine blk_drew ?_ | refine blk_alloc ?_ _)); exact BK109.out), (by repeat (first | (with_reducible first | exact HB.out | apply below_alloc | apply pw_below_drewN | apply below_drew1 | refine below_set ?_ GE101.out | refine below_set ?_ GE109.out) | exact HB.out)), z_HO114, fun _ => (by (with_reducible repeat (first | apply Kd.R_alloc | apply Kd.R_drewN | apply Kd.R_drew)); exact Kd.R_mono HO117.out (fun _ hk => ⟨hk.1.2, Nat.le_trans Q_HH_ hk.2.1⟩)), z_HO_110001_e15, z_BK120, Q_GW120, Q_GE120, Q_NB101_120, Q_NB120_101, Q_NB109_120, Q_NB120_109, fun h0_ => absurd ((hoff 16 (by kernel_rfl)).symm.trans h0_) (by decide), fun h0_ => absurd ((hoff 14 (by kernel_rfl)).symm.trans h0_) (by decide), Q_X15_, fun h3_ _ k_ hk_ e_ => Nat.not_lt.2 (RB_ k_ e_) (Kd.R_lt (Q_HO114 h3_) k_ hk_), Q_HHn_⟩
                  refine steps_cons ?_ ?_
                  ·rintro b a w' ⟨v113, v116, gb120, m14_, m15_, ha, Q_HO_110001, Q_HO_3, Q_BK101, Q_BK109, Q_HB, Q_HO114, Q_HO117, Q_HO_110001_e15, Q_BK120, Q_GW120, Q_GE120, Q_NB101_120, Q_NB120_101, Q_NB109_120, Q_NB120_109, Q_BK120_e16, Q_X14_, Q_X15_, Q_AP_, Q_HH_⟩ hb_ hon hoff
                   refine ⟨_, rfl, fun K hK => ?_⟩
                   have e36 : a.tmps[36]? = some (.slice (some ad108) x3_1.length co8) := by rw [ha]; exact (putSel_off rfl).trans rfl
                   replace ha := Aside0.mk ha
                   have HO_3 := Aside0.mk Q_HO_3
                   have BK101 := Aside0.mk Q_BK101
                   have BK109 := Aside0.mk Q_BK109
                   have HB := Aside0.mk Q_HB
                   refine value_ (w1 := w') (v := .pointer (some (ad108.add 2))) (by rfl) rfl ?_ ?_
                   ·go_simp
                    (try simp only [i64_w])
                    try rfl
                   refine hK.out _ _ ⟨v113, v116, gb120, m14_, m15_, (by rw [ha.out]; exact putSel_upk 4 hb_ rfl rfl rfl), Q_HO_110001, Q_HO_3, Q_BK101, Q_BK109, Q_HB, Q_HO114, Q_HO117, Q_HO_110001_e15, Q_BK120, Q_GW120, Q_GE120, Q_NB101_120, Q_NB120_101, Q_NB109_120, Q_NB120_109, fun h0_ => absurd ((hoff 16 (by kernel_rfl)).symm.trans h0_) (by decide), fun h0_ => absurd ((hoff 14 (by kernel_rfl)).symm.trans h0_) (by decide), Q_X15_, Q_AP_, Q_HH_⟩
                  refine steps_cons ?_ ?_
                  ·rintro b a w' ⟨v113, v116, gb120, m14_, m15_, ha, Q_HO_110001, Q_HO_3, Q_BK101, Q_BK109, Q_HB, Q_HO114, Q_HO117, Q_HO_110001_e15, Q_BK120, Q_GW120, Q_GE120, Q_NB101_120, Q_NB120_101, Q_NB109_120, Q_NB120_109, Q_BK120_e16, Q_X14_, Q_X15_, Q_AP_, Q_HH_⟩ hb_ hon hoff
                   refine ⟨_, rfl, fun K hK => ?_⟩
                   have e37 : a.tmps[37]? = some (.pointer (some (ad108.add 2))) := by rw [ha]; exact putSel_on (e := (6, 37, .pointer (some (ad108.add 2)))) 4 rfl rfl (hon 6 (by kernel_rfl)) rfl
                   replace ha := Aside0.mk ha
                   have HO_3 := Aside0.mk Q_HO_3
                   have BK101 := Aside0.mk Q_BK101
                   have BK109 := Aside0.mk Q_BK109
                   have HB := Aside0.mk Q_HB
                   obtain ⟨ad118_z, e118_z, hx118_0_z⟩ := Kd.at_int (Kd.R_reads' HO_3.out).2.2 2 (of_eq_true p118) (of_eq_true q118)
                   cases e118_z
                   have hs0_ : w'.cell? ⟨ad108.block, ad108.off + 2, none⟩ = some (.int .u8 (rd x3_1 2)) := (by first | exact hx118_0_z | (have h_ := hx118_0_z; (try simp only [Int.reduceToNat, Nat.zero_mul, Nat.reduceMul, Nat.reduceEqDiff, Go.Addr.add, ↓reduceIte, Addr.add_zero'] at h_); exact h_))
                   refine value_ (w1 := w') (v := .int .u8 (rd x3_1 2)) (by rfl) rfl ?_ ?_
                   ·go_simp
                    (try simp only [i64_w])
                    try rfl
                   refine hK.out _ _ ⟨v113, v116, gb120, m14_, m15_, (by rw [ha.out]; exact putSel_upk 5 hb_ rfl rfl rfl), Q_HO_110001, Q_HO_3, Q_BK101, Q_BK109, Q_HB, Q_HO114, Q_HO117, Q_HO_110001_e15, Q_BK120, Q_GW120, Q_GE120, Q_NB101_120, Q_NB120_101, Q_NB109_120, Q_NB120_109, fun h0_ => absurd ((hoff 16 (by kernel_rfl)).symm.trans h0_) (by decide), fun h0_ => absurd ((hoff 14 (by kernel_rfl)).symm.trans h0_) (by decide), Q_X15_, Q_AP_, Q_HH_⟩
                  refine steps_cons ?_ ?_
                  ·rintro b a w' ⟨v113, v116, gb120, m14_, m15_, ha, Q_HO_110001, Q_HO_3, Q_BK101, Q_BK109, Q_HB, Q_HO114, Q_HO117, Q_HO_110001_e15, Q_BK120, Q_GW120, Q_GE120, Q_NB101_120, Q_NB120_101, Q_NB109_120, Q_NB120_109, Q_BK120_e16, Q_X14_, Q_X15_, Q_AP_, Q_HH_⟩ hb_ hon hoff
                   refine ⟨_, rfl, fun K hK => ?_⟩
                   have e38 : a.tmps[38]? = some (.int .u8 (rd x3_1 2)) := by rw [ha]; exact putSel_on (e := (7, 38, .int .u8 (rd x3_1 2))) 5 rfl rfl (hon 7 (by kernel_rfl)) rfl
                   replace ha := Aside0.mk ha
                   have HO_3 := Aside0.mk Q_HO_3
                   have BK101 := Aside0.mk Q_BK101
                   have BK109 := Aside0.mk Q_BK109
                   have HB := Aside0.mk Q_HB
                   refine value_ (w1 := w') (v := .int .u8 (Int.tmod (rd x3_1 2) 9)) (by rfl) rfl ?_ ?_
                   ·go_simp
                    (try simp only [i64_w])
                    try rfl
                   refine hK.out _ _ ⟨v113, v116, gb120, m14_, m15_, (by rw [ha.out]; exact putSel_upk 6 hb_ rfl rfl rfl), Q_HO_110001, Q_HO_3, Q_BK101, Q_BK109, Q_HB, Q_HO114, Q_HO117, Q_HO_110001_e15, Q_BK120, Q_GW120, Q_GE120, Q_NB101_120, Q_NB120_101, Q_NB109_120, Q_NB120_109, fun h0_ => absurd ((hoff 16 (by kernel_rfl)).symm.trans h0_) (by decide), fun h0_ => absurd ((hoff 14 (by kernel_rfl)).symm.trans h0_) (by decide), Q_X15_, Q_AP_, Q_HH_⟩
                  refine steps_cons ?_ ?_
                  ·rintro b a w' ⟨v113, v116, gb120, m14_, m15_, ha, Q_HO_110001, Q_HO_3, Q_BK101, Q_BK109, Q_HB, Q_HO114, Q_HO117, Q_HO_110001_e15, Q_BK120, Q_GW120, Q_GE120, Q_NB101_120, Q_NB120_101, Q_NB109_120, Q_NB120_109, Q_BK120_e16, Q_X14_, Q_X15_, Q_AP_, Q_HH_⟩ hb_ hon hoff
                   refine ⟨_, rfl, fun K hK => ?_⟩
                   have e39 : a.tmps[39]? = some (.int .u8 (Int.tmod (rd x3_1 2) 9)) := by rw [ha]; exact putSel_on (e := (8, 39, .int .u8 (Int.tmod (rd x3_1 2) 9))) 6 rfl rfl (hon 8 (by kernel_rfl)) rfl
                   replace ha := Aside0.mk ha
                   have HO_3 := Aside0.mk Q_HO_3
                   have BK101 := Aside0.mk Q_BK101
                   have BK109 := Aside0.mk Q_BK109
                   have HB := Aside0.mk Q_HB
                   refine value_ (w1 := w') (v := .int .i64 (wrap64 (Int.tmod (rd x3_1 2) 9))) (by rfl) rfl ?_ ?_
                   ·go_simp
                    (try simp only [i64_w])
                    try rfl
                   refine hK.out _ _ ⟨v113, v116, gb120, m14_, m15_, (by rw [ha.out]; exact putSel_upk 7 hb_ rfl rfl rfl), Q_HO_110001, Q_HO_3, Q_BK101, Q_BK109, Q_HB, Q_HO114, Q_HO117, Q_HO_110001_e15, Q_BK120, Q_GW120, Q_GE120, Q_NB101_120, Q_NB120_101, Q_NB109_120, Q_NB120_109, fun h0_ => absurd ((hoff 16 (by kernel_rfl)).symm.trans h0_) (by decide), fun h0_ => absurd ((hoff 14 (by kernel_rfl)).symm.trans h0_) (by decide), Q_X15_, Q_AP_, Q_HH_⟩
                  refine steps_cons ?_ ?_
                  ·rintro b a w' ⟨v113, v116, gb120, m14_, m15_, ha, Q_HO_110001, Q_HO_3, Q_BK101, Q_BK109, Q_HB, Q_HO114, Q_HO117, Q_HO_110001_e15, Q_BK120, Q_GW120, Q_GE120, Q_NB101_120, Q_NB120_101, Q_NB109_120, Q_NB120_109, Q_BK120_e16, Q_X14_, Q_X15_, Q_AP_, Q_HH_⟩ hb_ hon hoff
                   refine ⟨_, rfl, fun K hK => ?_⟩
                   have e41 : a.tmps[41]? = some (.slice (some ad108) x3_1.length co8) := by rw [ha]; exact (putSel_off rfl).trans rfl
                   replace ha := Aside0.mk ha
                   have HO_3 := Aside0.mk Q_HO_3
                   have BK101 := Aside0.mk Q_BK101
                   have BK109 := Aside0.mk Q_BK109
                   have HB := Aside0.mk Q_HB
                   refine value_ (w1 := w') (v := .pointer (some (ad108.add 3))) (by rfl) rfl ?_ ?_
                   ·go_simp
                    (try simp only [i64_w])
                    try rfl
                   refine hK.out _ _ ⟨v113, v116, gb120, m14_, m15_, (by rw [ha.out]; exact putSel_upk 8 hb_ rfl rfl rfl), Q_HO_110001, Q_HO_3, Q_BK101, Q_BK109, Q_HB, Q_HO114, Q_HO117, Q_HO_110001_e15, Q_BK120, Q_GW120, Q_GE120, Q_NB101_120, Q_NB120_101, Q_NB109_120, Q_NB120_109, fun h0_ => absurd ((hoff 16 (by kernel_rfl)).symm.trans h0_) (by decide), fun h0_ => absurd ((hoff 14 (by kernel_rfl)).symm.trans h0_) (by decide), Q_X15_, Q_AP_, Q_HH_⟩
                  refine steps_cons ?_ ?_
                  ·rintro b a w' ⟨v113, v116, gb120, m14_, m15_, ha, Q_HO_110001, Q_HO_3, Q_BK101, Q_BK109, Q_HB, Q_HO114, Q_HO117, Q_HO_110001_e15, Q_BK120, Q_GW120, Q_GE120, Q_NB101_120, Q_NB120_101, Q_NB109_120, Q_NB120_109, Q_BK120_e16, Q_X14_, Q_X15_, Q_AP_, Q_HH_⟩ hb_ hon hoff
                   refine ⟨_, rfl, fun K hK => ?_⟩
                   have e42 : a.tmps[42]? = some (.pointer (some (ad108.add 3))) := by rw [ha]; exact putSel_on (e := (11, 42, .pointer (some (ad108.add 3)))) 8 rfl rfl (hon 11 (by kernel_rfl)) rfl
                   replace ha := Aside0.mk ha
                   have HO_3 := Aside0.mk Q_HO_3
                   have BK101 := Aside0.mk Q_BK101
                   have BK109 := Aside0.mk Q_BK109
                   have HB := Aside0.mk Q_HB
                   obtain ⟨ad119_z, e119_z, hx119_0_z⟩ := Kd.at_int (Kd.R_reads' HO_3.out).2.2 3 (of_eq_true p119) (of_eq_true q119)
                   cases e119_z
                   have hs1_ : w'.cell? ⟨ad108.block, ad108.off + 3, none⟩ = some (.int .u8 (rd x3_1 3)) := (by first | exact hx119_0_z | (have h_ := hx119_0_z; (try simp only [Int.reduceToNat, Nat.zero_mul, Nat.reduceMul, Nat.reduceEqDiff, Go.Addr.add, ↓reduceIte, Addr.add_zero'] at h_); exact h_))
                   refine value_ (w1 := w') (v := .int .u8 (rd x3_1 3)) (by rfl) rfl ?_ ?_
                   ·go_simp
                    (try simp only [i64_w])
                    try rfl
                   refine hK.out _ _ ⟨v113, v116, gb120, m14_, m15_, (by rw [ha.out]; exact putSel_upk 9 hb_ rfl rfl rfl), Q_HO_110001, Q_HO_3, Q_BK101, Q_BK109, Q_HB, Q_HO114, Q_HO117, Q_HO_110001_e15, Q_BK120, Q_GW120, Q_GE120, Q_NB101_120, Q_NB120_101, Q_NB109_120, Q_NB120_109, fun h0_ => absurd ((hoff 16 (by kernel_rfl)).symm.trans h0_) (by decide), fun h0_ => absurd ((hoff 14 (by kernel_rfl)).symm.trans h0_) (by decide), Q_X15_, Q_AP_, Q_HH_⟩
                  refine steps_cons ?_ ?_
                  ·rintro b a w' ⟨v113, v116, gb120, m14_, m15_, ha, Q_HO_110001, Q_HO_3, Q_BK101, Q_BK109, Q_HB, Q_HO114, Q_HO117, Q_HO_110001_e15, Q_BK120, Q_GW120, Q_GE120, Q_NB101_120, Q_NB120_101, Q_NB109_120, Q_NB120_109, Q_BK120_e16, Q_X14_, Q_X15_, Q_AP_, Q_HH_⟩ hb_ hon hoff
                   refine ⟨_, rfl, fun K hK => ?_⟩
                   have e43 : a.tmps[43]? = some (.int .u8 (rd x3_1 3)) := by rw [ha]; exact putSel_on (e := (12, 43, .int .u8 (rd x3_1 3))) 9 rfl rfl (hon 12 (by kernel_rfl)) rfl
                   replace ha := Aside0.mk ha
                   have HO_3 := Aside0.mk Q_HO_3
                   have BK101 := Aside0.mk Q_BK101
                   have BK109 := Aside0.mk Q_BK109
                   have HB := Aside0.mk Q_HB
                   refine value_ (w1 := w') (v := .int .u64 (IntKind.u64.wrap (rd x3_1 3))) (by rfl) rfl ?_ ?_
                   ·go_simp
                    (try simp only [i64_w])
                    try rfl
                   refine hK.out _ _ ⟨v113, v116, gb120, m14_, m15_, (by rw [ha.out]; exact putSel_upk 10 hb_ rfl rfl rfl), Q_HO_110001, Q_HO_3, Q_BK101, Q_BK109, Q_HB, Q_HO114, Q_HO117, Q_HO_110001_e15, Q_BK120, Q_GW120, Q_GE120, Q_NB101_120, Q_NB120_101, Q_NB109_120, Q_NB120_109, fun h0_ => absurd ((hoff 16 (by kernel_rfl)).symm.trans h0_) (by decide), fun h0_ => absurd ((hoff 14 (by kernel_rfl)).symm.trans h0_) (by decide), Q_X15_, Q_AP_, Q_HH_⟩
                  refine steps_cons ?_ ?_
                  ·rintro b a w' ⟨v113, v116, gb120, m14_, m15_, ha, Q_HO_110001, Q_HO_3, Q_BK101, Q_BK109, Q_HB, Q_HO114, Q_HO117, Q_HO_110001_e15, Q_BK120, Q_GW120, Q_GE120, Q_NB101_120, Q_NB120_101, Q_NB109_120, Q_NB120_109, Q_BK120_e16, Q_X14_, Q_X15_, Q_AP_, Q_HH_⟩ hb_ hon hoff
                   refine ⟨_, rfl, fun K hK => ?_⟩
                   have e33 : a.tmps[33]? = some (.string t111) := by rw [ha]; exact putSel_on (e := (2, 33, .string t111)) 1 rfl rfl (hon 2 (by kernel_rfl)) rfl
                   have e34 : a.tmps[34]? = some (v113) := by rw [ha]; exact putSel_on (e := (3, 34, v113)) 2 rfl rfl (hon 3 (by kernel_rfl)) rfl
                   have e35 : a.tmps[35]? = some (v116) := by rw [ha]; exact putSel_on (e := (4, 35, v116)) 3 rfl rfl (hon 4 (by kernel_rfl)) rfl
                   have e40 : a.tmps[40]? = some (.int .i64 (wrap64 (Int.tmod (rd x3_1 2) 9))) := by rw [ha]; exact putSel_on (e := (9, 40, .int .i64 (wrap64 (Int.tmod (rd x3_1 2) 9)))) 7 rfl rfl (hon 9 (by kernel_rfl)) rfl
                   have e44 : a.tmps[44]? = some (.int .u64 (IntKind.u64.wrap (rd x3_1 3))) := by rw [ha]; exact putSel_on (e := (13, 44, .int .u64 (IntKind.u64.wrap (rd x3_1 3)))) 10 rfl rfl (hon 13 (by kernel_rfl)) rfl
                   replace ha := Aside0.mk ha
                   have HO_3 := Aside0.mk Q_HO_3
                   have BK101 := Aside0.mk Q_BK101
                   have BK109 := Aside0.mk Q_BK109
                   have HB := Aside0.mk Q_HB
                   have HO114 := Aside0.mk (Q_HO114 (hon 3 (by kernel_rfl)))
                   have HO117 := Aside0.mk (Q_HO117 (hon 4 (by kernel_rfl)))
                   obtain ⟨Ao14_0, co14_0, eo_⟩ := Kd.R_slice HO114.out
                   subst eo_
                   obtain ⟨Ao14_1, co14_1, eo_⟩ := Kd.R_slice HO117.out
                   subst eo_
                   refine value_ (w1 := w') (v := .agg #[.string t111, .slice Ao14_0 y112.length co14_0, .slice Ao14_1 y115.length co14_1, .string (⟨#[]⟩ : ByteArray), .int .i64 (wrap64 (Int.tmod (rd x3_1 2) 9)), .int .u64 (IntKind.u64.wrap (rd x3_1 3))]) (by rfl) rfl ?_ ?_
                   ·go_simp
                    (try simp only [i64_w])
                    try rfl
                   refine hK.out _ _ ⟨.slice Ao14_0 y112.length co14_0, .slice Ao14_1 y115.length co14_1, gb120, (.agg #[.string t111, .slice Ao14_0 y112.length co14_0, .slice Ao14_1 y115.length co14_1, .string (⟨#[]⟩ : ByteArray), .int .i64 (wrap64 (Int.tmod (rd x3_1 2) 9)), .int .u64 (IntKind.u64.wrap (rd x3_1 3))]), m15_, (by rw [ha.out]; exact putSel_upk 11 hb_ rfl rfl rfl), Q_HO_110001, Q_HO_3, Q_BK101, Q_BK109, Q_HB, Q_HO114, Q_HO117, Q_HO_110001_e15, Q_BK120, Q_GW120, Q_GE120, Q_NB101_120, Q_NB120_101, Q_NB109_120, Q_NB120_109, fun h0_ => absurd ((hoff 16 (by kernel_rfl)).symm.trans h0_) (by decide), fun _ => rfl, Q_X15_, Q_AP_, Q_HH_⟩
                  refine steps_cons ?_ ?_
                  ·rintro b a w' ⟨v113, v116, gb120, m14_, m15_, ha, Q_HO_110001, Q_HO_3, Q_BK101, Q_BK109, Q_HB, Q_HO114, Q_HO117, Q_HO_110001_e15, Q_BK120, Q_GW120, Q_GE120, Q_NB101_120, Q_NB120_101, Q_NB109_120, Q_NB120_109, Q_BK120_e16, Q_X14_, Q_X15_, Q_AP_, Q_HH_⟩ hb_ hon hoff
                   refine ⟨_, rfl, fun K hK => ?_⟩
                   replace ha := Aside0.mk ha
                   have HO_110001 := Aside0.mk (Q_HO_110001 hb_)
                   have HO_3 := Aside0.mk Q_HO_3
                   have BK101 := Aside0.mk Q_BK101
                   have BK109 := Aside0.mk Q_BK109
                   have HB := Aside0.mk Q_HB
                   refine box_step ?hg (N := 6) ?hd (cs := #[.string (⟨#[]⟩ : ByteArray), .slice none 0 0, .slice none 0 0, .string (⟨#[]⟩ : ByteArray), .int .i64 0, .int .u64 0]) (t := 33) ?hr ?_; (case hd => rfl); (case hg => rfl); (case hr => first | (go_simp; done) | (go_simp; rfl))
                   intro gb120 hg w29 hbox hb
                   have Q_HHn_ := Nat.le_trans Q_HH_ hb.size
                   have n0_ := Aside0.mk (Kd.R_below (by (with_reducible repeat (first | apply Kd.R_alloc | apply Kd.R_drewN | apply Kd.R_drew)); exact HO_3.out) hb)
                   have n1_ := Aside0.mk (Kd.S_below (Kd.S_elderB (by (with_reducible repeat (first | apply Kd.S_alloc | apply Kd.S_drewN | apply Kd.S_drew)); exact HO_110001.out) gb120 (Nat.le_of_eq hg.symm)) hb)
                   have n2_ := Aside0.mk (blk_below (g := gb101) (o := .cells #[.int .u64 0, .slice none 0 0, .slice none 0 0] 27 (0, 0)) (by (with_reducible repeat (first | refine blk_drewN ?_ _ | refine blk_drew ?_ | refine blk_alloc ?_ _)); exact BK101.out) hb)
                   have n3_ := Aside0.mk (blk_below (g := gb109) (o := .cells #[.int .u64 (IntKind.u64.wrap (rd y105 0)), u110001, .slice none 0 0] 27 (0, 0)) (by (with_reducible repeat (first | refine blk_drewN ?_ _ | refine blk_drew ?_ | refine blk_alloc ?_ _)); exact BK109.out) hb)
                   have n4_ := Aside0.mk (below_step (by repeat (first | (with_reducible first | exact HB.out | apply below_alloc | apply pw_below_drewN | apply below_drew1 | refine below_set ?_ GE101.out | refine below_set ?_ GE109.out) | exact HB.out)) hb)
                   have n5_ := Aside0.mk (hbox)
                   have n6_ := Aside0.mk ((by rw [hg]; exact (below_size (by repeat (first | (with_reducible first | exact HB.out | apply below_alloc | apply pw_below_drewN | apply below_drew1 | refine below_set ?_ GE101.out | refine below_set ?_ GE109.out) | exact HB.out))) : w.heap.size ≤ gb120))
                   have n7_ := Aside0.mk ((by rw [hg]; exact (below_size (by repeat (first | (with_reducible first | exact HB.out | apply below_alloc | apply pw_below_drewN | apply below_drew1 | refine below_set ?_ GE101.out | refine below_set ?_ GE109.out) | exact HB.out))) : w.heap.size ≤ gb120))
                   have n8_ := Aside0.mk ((by rw [hg]; exact Nat.ne_of_lt (blk_lt (g := gb101) (o := .cells #[.int .u64 0, .slice none 0 0, .slice none 0 0] 27 (0, 0)) (by (with_reducible repeat (first | refine blk_drewN ?_ _ | refine blk_drew ?_ | refine blk_alloc ?_ _)); exact BK101.out)) : gb101 ≠ gb120))
                   have n9_ := Aside0.mk ((by rw [hg]; exact Nat.ne_of_gt (blk_lt (g := gb101) (o := .cells #[.int .u64 0, .slice none 0 0, .slice none 0 0] 27 (0, 0)) (by (with_reducible repeat (first | refine blk_drewN ?_ _ | refine blk_drew ?_ | refine blk_alloc ?_ _)); exact BK101.out)) : gb120 ≠ gb101))
                   have n10_ := Aside0.mk ((by rw [hg]; exact Nat.ne_of_lt (blk_lt (g := gb109) (o := .cells #[.int .u64 (IntKind.u64.wrap (rd y105 0)), u110001, .slice none 0 0] 27 (0, 0)) (by (with_reducible repeat (first | refine blk_drewN ?_ _ | refine blk_drew ?_ | refine blk_alloc ?_ _)); exact BK109.out)) : gb109 ≠ gb120))
                   have n11_ := Aside0.mk ((by rw [hg]; exact Nat.ne_of_gt (blk_lt (g := gb109) (o := .cells #[.int .u64 (IntKind.u64.wrap (rd y105 0)), u110001, .slice none 0 0] 27 (0, 0)) (by (with_reducible repeat (first | refine blk_drewN ?_ _ | refine blk_drew ?_ | refine blk_alloc ?_ _)); exact BK109.out)) : gb120 ≠ gb109))
                   have z_HO114 := fun (h0_ : b 3 = true) => (show Kd.R (Kd.int .u8) 5 w29 w.heap.size (fun k_ => some k_ ≠ (.slice (some ad108) x3_1.length co8 : Value).ownBlock ∧ H0_ ≤ k_) v113 y112 from by first | exact (Kd.R_below (by (with_reducible repeat (first | apply Kd.R_alloc | apply Kd.R_drewN | apply Kd.R_drew)); exact (Q_HO114 h0_)) hb) | exact Kd.R_mono (Kd.R_below (by (with_reducible repeat (first | apply Kd.R_alloc | apply Kd.R_drewN | apply Kd.R_drew)); exact (Q_HO114 h0_)) hb) (fun _ h_ => by first | trivial | exact h_ | exact h_.1))
                   have z_HO117 := fun (h0_ : b 4 = true) => (show Kd.R (Kd.int .u8) 5 w29 w.heap.size (fun k_ => some k_ ≠ (.slice (some ad108) x3_1.length co8 : Value).ownBlock ∧ H0_ ≤ k_) v116 y115 from by first | exact (Kd.R_below (by (with_reducible repeat (first | apply Kd.R_alloc | apply Kd.R_drewN | apply Kd.R_drew)); exact (Q_HO117 h0_)) hb) | exact Kd.R_mono (Kd.R_below (by (with_reducible repeat (first | apply Kd.R_alloc | apply Kd.R_drewN | apply Kd.R_drew)); exact (Q_HO117 h0_)) hb) (fun _ h_ => by first | trivial | exact h_ | exact h_.1))
                   clear HO_3
                   clear HO_110001
                   clear BK101
                   clear BK109
                   clear HB
                   have HO_3 := n0_
                   have HO_110001 := n1_
                   have BK101 := n2_
                   have BK109 := n3_
                   have HB := n4_
                   have BK120 := n5_
                   have GW120 := n6_
                   have GE120 := n7_
                   have NB101_120 := n8_
                   have NB120_101 := n9_
                   have NB109_120 := n10_
                   have NB120_109 := n11_
                   clear n0_ n1_ n2_ n3_ n4_ n5_ n6_ n7_ n8_ n9_ n10_ n11_
                   clear hb hbox hg
                   refine hK.out _ _ ⟨v113, v116, gb120, m14_, (.pointer (some ⟨gb120, 0, none⟩)), (by rw [ha.out]; exact putSel_upk 12 hb_ rfl rfl rfl), fun h0_ => absurd ((up_self b 15).symm.trans h0_) (by decide), (by (with_reducible repeat (first | apply Kd.R_alloc | apply Kd.R_drewN | apply Kd.R_drew)); exact HO_3.out), (by (with_reducible repeat (first | refine blk_drewN ?_ _ | refine blk_drew ?_ | refine blk_alloc ?_ _)); exact BK101.out), (by (with_reducible repeat (first | refine blk_drewN ?_ _ | refine blk_drew ?_ | refine blk_alloc ?_ _)); exact BK109.out), (by repeat (first | (with_reducible first | exact HB.out | apply below_alloc | apply pw_below_drewN | apply below_drew1 | refine below_set ?_ GE101.out | refine below_set ?_ GE109.out | refine below_set ?_ GE120.out) | exact HB.out)), z_HO114, z_HO117, fun _ => (by (with_reducible repeat (first | apply Kd.S_alloc | apply Kd.S_drewN | apply Kd.S_drew)); exact HO_110001.out), fun _ _ => (by (with_reducible repeat (first | refine blk_drewN ?_ _ | refine blk_drew ?_ | refine blk_alloc ?_ _)); exact BK120.out), fun _ => GW120.out, fun _ => GE120.out, fun _ => NB101_120.out, fun _ => NB120_101.out, fun _ => NB109_120.out, fun _ => NB120_109.out, fun h0_ => absurd ((hoff 16 (by kernel_rfl)).symm.trans h0_) (by decide), Q_X14_, fun _ => rfl, Q_AP_, Q_HHn_⟩
                  refine steps_cons ?_ ?_
                  ·rintro b a w' ⟨v113, v116, gb120, m14_, m15_, ha, Q_HO_110001, Q_HO_3, Q_BK101, Q_BK109, Q_HB, Q_HO114, Q_HO117, Q_HO_110001_e15, Q_BK120, Q_GW120, Q_GE120, Q_NB101_120, Q_NB120_101, Q_NB109_120, Q_NB120_109, Q_BK120_e16, Q_X14_, Q_X15_, Q_AP_, Q_HH_⟩ hb_ hon hoff
                   refine ⟨_, rfl, fun K hK => ?_⟩
                   have e6 : a.tmps[6]? = some (m15_) := by rw [ha]; exact putSel_on (e := (15, 6, m15_)) 12 rfl rfl (hon 15 (by kernel_rfl)) rfl
                   rw [Q_X15_ (hon 15 (by kernel_rfl))] at e6
                   have e45 : a.tmps[45]? = some (m14_) := by rw [ha]; exact putSel_on (e := (14, 45, m14_)) 11 rfl rfl (hon 14 (by kernel_rfl)) rfl
                   rw [Q_X14_ (hon 14 (by kernel_rfl))] at e45
                   replace ha := Aside0.mk ha
                   have HO_3 := Aside0.mk Q_HO_3
                   have BK101 := Aside0.mk Q_BK101
                   have BK109 := Aside0.mk Q_BK109
                   have HB := Aside0.mk Q_HB
                   have HO114 := Aside0.mk (Q_HO114 (hon 3 (by kernel_rfl)))
                   have HO117 := Aside0.mk (Q_HO117 (hon 4 (by kernel_rfl)))
                   have HO_110001 := Aside0.mk (Q_HO_110001_e15 (hon 15 (by kernel_rfl)))
                   have BK120 := Aside0.mk (Q_BK120 (hon 15 (by kernel_rfl)) hb_)
                   have GW120 := Aside0.mk (Q_GW120 (hon 15 (by kernel_rfl)))
                   have GE120 := Aside0.mk (Q_GE120 (hon 15 (by kernel_rfl)))
                   have NB101_120 := Aside0.mk (Q_NB101_120 (hon 15 (by kernel_rfl)))
                   have NB120_101 := Aside0.mk (Q_NB120_101 (hon 15 (by kernel_rfl)))
                   have NB109_120 := Aside0.mk (Q_NB109_120 (hon 15 (by kernel_rfl)))
                   have NB120_109 := Aside0.mk (Q_NB120_109 (hon 15 (by kernel_rfl)))
                   obtain ⟨Ao38, co38, eo38⟩ := Kd.R_slice HO117.out
                   (first | subst eo38 | (injection eo38 with f1_ f2_ f3_; have f4_ := f1_.symm; have f5_ := f3_.symm; clear f1_ f2_ f3_; subst f4_; subst f5_))
                   obtain ⟨Ao39, co39, eo39⟩ := Kd.R_slice HO114.out
                   (first | subst eo39 | (injection eo39 with f1_ f2_ f3_; have f4_ := f1_.symm; have f5_ := f3_.symm; clear f1_ f2_ f3_; subst f4_; subst f5_))
                   have hs40 : w'.cell? ⟨gb120, 0, none⟩ = some (.string (⟨#[]⟩ : ByteArray)) := (blk_cell BK120.out 0).trans rfl
                   have hfs40 := blk_frozen BK120.out 0
                   have hns40_0 := NB101_120.out
                   have hns40_1 := NB109_120.out
                   have hms40_0 := NB120_101.out
                   have hms40_1 := NB120_109.out
                   have hs41 : w'.cell? ⟨gb120, 1, none⟩ = some (.slice none 0 0) := (blk_cell BK120.out 1).trans rfl
                   have hfs41 := blk_frozen BK120.out 1
                   have hns41_0 := NB101_120.out
                   have hns41_1 := NB109_120.out
                   have hms41_0 := NB120_101.out
                   have hms41_1 := NB120_109.out
                   have hs42 : w'.cell? ⟨gb120, 2, none⟩ = some (.slice none 0 0) := (blk_cell BK120.out 2).trans rfl
                   have hfs42 := blk_frozen BK120.out 2
                   have hns42_0 := NB101_120.out
                   have hns42_1 := NB109_120.out
                   have hms42_0 := NB120_101.out
                   have hms42_1 := NB120_109.out
                   have hs43 : w'.cell? ⟨gb120, 3, none⟩ = some (.string (⟨#[]⟩ : ByteArray)) := (blk_cell BK120.out 3).trans rfl
                   have hfs43 := blk_frozen BK120.out 3
                   have hns43_0 := NB101_120.out
                   have hns43_1 := NB109_120.out
                   have hms43_0 := NB120_101.out
                   have hms43_1 := NB120_109.out
                   have hs44 : w'.cell? ⟨gb120, 4, none⟩ = some (.int .i64 0) := (blk_cell BK120.out 4).trans rfl
                   have hfs44 := blk_frozen BK120.out 4
                   have hns44_0 := NB101_120.out
                   have hns44_1 := NB109_120.out
                   have hms44_0 := NB120_101.out
                   have hms44_1 := NB120_109.out
                   have hs45 : w'.cell? ⟨gb120, 5, none⟩ = some (.int .u64 0) := (blk_cell BK120.out 5).trans rfl
                   have hfs45 := blk_frozen BK120.out 5
                   have hns45_0 := NB101_120.out
                   have hns45_1 := NB109_120.out
                   have hms45_0 := NB120_101.out
                   have hms45_1 := NB120_109.out
                   refine skip_ (w1 := ?_) (by rfl) rfl ?_ ?_
                   rotate_left
                   ·go_simp
                    rfl
                   refine hK.out _ _ ⟨.slice Ao39 y112.length co39, .slice Ao38 y115.length co38, gb120, m14_, m15_, (by rw [ha.out]; exact putSel_none (v := undef) rfl), fun h0_ => absurd ((hon 15 (by kernel_rfl)).symm.trans h0_) (by decide), (by (with_reducible repeat (first | apply Kd.R_alloc | apply Kd.R_drewN | apply Kd.R_drew)); exact Kd.R_mono (Kd.R_far (p := ⟨gb120, 5, none⟩) (Kd.R_far (p := ⟨gb120, 4, none⟩) (Kd.R_far (p := ⟨gb120, 3, none⟩) (Kd.R_far (p := ⟨gb120, 2, none⟩) (Kd.R_far (p := ⟨gb120, 1, none⟩) (Kd.R_far (p := ⟨gb120, 0, none⟩) (Kd.R_types HO_3.out BK120.out (by decide)) (fun _ hk => hk.2) (.string t111)) (fun _ hk => hk.2) (.slice Ao39 y112.length co39)) (fun _ hk => hk.2) (.slice Ao38 y115.length co38)) (fun _ hk => hk.2) (.string (⟨#[]⟩ : ByteArray))) (fun _ hk => hk.2) (.int .i64 (wrap64 (Int.tmod (rd x3_1 2) 9)))) (fun _ hk => hk.2) (.int .u64 (IntKind.u64.wrap (rd x3_1 3)))) (fun _ _ => trivial)), (by (with_reducible repeat (first | refine blk_drewN ?_ _ | refine blk_drew ?_ | refine blk_alloc ?_ _)); refine blk_far ?_ NB101_120.out _; (with_reducible repeat (first | refine blk_drewN ?_ _ | refine blk_drew ?_ | refine blk_alloc ?_ _)); refine blk_far ?_ NB101_120.out _; (with_reducible repeat (first | refine blk_drewN ?_ _ | refine blk_drew ?_ | refine blk_alloc ?_ _)); refine blk_far ?_ NB101_120.out _; (with_reducible repeat (first | refine blk_drewN ?_ _ | refine blk_drew ?_ | refine blk_alloc ?_ _)); refine blk_far ?_ NB101_120.out _; (with_reducible repeat (first | refine blk_drewN ?_ _ | refine blk_drew ?_ | refine blk_alloc ?_ _)); refine blk_far ?_ NB101_120.out _; (with_reducible repeat (first | refine blk_drewN ?_ _ | refine blk_drew ?_ | refine blk_alloc ?_ _)); refine blk_far ?_ NB101_120.out _; (with_reducible repeat (first | refine blk_drewN ?_ _ | refine blk_drew ?_ | refine blk_alloc ?_ _)); exact BK101.out), (by (with_reducible repeat (first | refine blk_drewN ?_ _ | refine blk_drew ?_ | refine blk_alloc ?_ _)); refine blk_far ?_ NB109_120.out _; (with_reducible repeat (first | refine blk_drewN ?_ _ | refine blk_drew ?_ | refine blk_alloc ?_ _)); refine blk_far ?_ NB109_120.out _; (with_reducible repeat (first | refine blk_drewN ?_ _ | refine blk_drew ?_ | refine blk_alloc ?_ _)); refine blk_far ?_ NB109_120.out _; (with_reducible repeat (first | refine blk_drewN ?_ _ | refine blk_drew ?_ | refine blk_alloc ?_ _)); refine blk_far ?_ NB109_120.out _; (with_reducible repeat (first | refine blk_drewN ?_ _ | refine blk_drew ?_ | refine blk_alloc ?_ _)); refine blk_far ?_ NB109_120.out _; (with_reducible repeat (first | refine blk_drewN ?_ _ | refine blk_drew ?_ | refine blk_alloc ?_ _)); refine blk_far ?_ NB109_120.out _; (with_reducible repeat (first | refine blk_drewN ?_ _ | refine blk_drew ?_ | refine blk_alloc ?_ _)); exact BK109.out), (by repeat (first | (with_reducible first | exact HB.out | apply below_alloc | apply pw_below_drewN | apply below_drew1 | refine below_set ?_ GE101.out | refine below_set ?_ GE109.out | refine below_set ?_ GE120.out) | exact HB.out)), fun _ => (by (with_reducible repeat (first | apply Kd.R_alloc | apply Kd.R_drewN | apply Kd.R_drew)); exact Kd.R_mono (Kd.R_far (p := ⟨gb120, 5, none⟩) (Kd.R_far (p := ⟨gb120, 4, none⟩) (Kd.R_far (p := ⟨gb120, 3, none⟩) (Kd.R_far (p := ⟨gb120, 2, none⟩) (Kd.R_far (p := ⟨gb120, 1, none⟩) (Kd.R_far (p := ⟨gb120, 0, none⟩) (Kd.R_types HO114.out BK120.out (by decide)) (fun _ hk => hk.2) (.string t111)) (fun _ hk => hk.2) (.slice Ao39 y112.length co39)) (fun _ hk => hk.2) (.slice Ao38 y115.length co38)) (fun _ hk => hk.2) (.string (⟨#[]⟩ : ByteArray))) (fun _ hk => hk.2) (.int .i64 (wrap64 (Int.tmod (rd x3_1 2) 9)))) (fun _ hk => hk.2) (.int .u64 (IntKind.u64.wrap (rd x3_1 3)))) (fun _ hk => hk.1)), fun _ => (by (with_reducible repeat (first | apply Kd.R_alloc | apply Kd.R_drewN | apply Kd.R_drew)); exact Kd.R_mono (Kd.R_far (p := ⟨gb120, 5, none⟩) (Kd.R_far (p := ⟨gb120, 4, none⟩) (Kd.R_far (p := ⟨gb120, 3, none⟩) (Kd.R_far (p := ⟨gb120, 2, none⟩) (Kd.R_far (p := ⟨gb120, 1, none⟩) (Kd.R_far (p := ⟨gb120, 0, none⟩) (Kd.R_types HO117.out BK120.out (by decide)) (fun _ hk => hk.2) (.string t111)) (fun _ hk => hk.2) (.slice Ao39 y112.length co39)) (fun _ hk => hk.2) (.slice Ao38 y115.length co38)) (fun _ hk => hk.2) (.string (⟨#[]⟩ : ByteArray))) (fun _ hk => hk.2) (.int .i64 (wrap64 (Int.tmod (rd x3_1 2) 9)))) (fun _ hk => hk.2) (.int .u64 (IntKind.u64.wrap (rd x3_1 3)))) (fun _ hk => hk.1)), fun _ => (by (with_reducible repeat (first | apply Kd.S_alloc | apply Kd.S_drewN | apply Kd.S_drew)); exact Kd.S_mono (Kd.S_far (p := ⟨gb120, 5, none⟩) (Kd.S_far (p := ⟨gb120, 4, none⟩) (Kd.S_far (p := ⟨gb120, 3, none⟩) (Kd.S_far (p := ⟨gb120, 2, none⟩) (Kd.S_far (p := ⟨gb120, 1, none⟩) (Kd.S_far (p := ⟨gb120, 0, none⟩) (Kd.S_mono HO_110001.out (fun k_ hk => (⟨hk, hk.2⟩ : _ ∧ k_ ≠ gb120))) (fun _ hk => hk.2) (.string t111)) (fun _ hk => hk.2) (.slice Ao39 y112.length co39)) (fun _ hk => hk.2) (.slice Ao38 y115.length co38)) (fun _ hk => hk.2) (.string (⟨#[]⟩ : ByteArray))) (fun _ hk => hk.2) (.int .i64 (wrap64 (Int.tmod (rd x3_1 2) 9)))) (fun _ hk => hk.2) (.int .u64 (IntKind.u64.wrap (rd x3_1 3)))) (fun _ hk => hk.1)), fun _ h1_ => absurd ((up_self b 16).symm.trans h1_) (by decide), fun _ => GW120.out, fun _ => GE120.out, fun _ => NB101_120.out, fun _ => NB120_101.out, fun _ => NB109_120.out, fun _ => NB120_109.out, fun _ => (by (with_reducible repeat (first | refine blk_drewN ?_ _ | refine blk_drew ?_ | refine blk_alloc ?_ _)); refine blk_put (cs := #[.string t111, .slice Ao39 y112.length co39, .slice Ao38 y115.length co38, .string (⟨#[]⟩ : ByteArray), .int .i64 (wrap64 (Int.tmod (rd x3_1 2) 9)), .int .u64 0]) ?_ 5 _ rfl; (with_reducible repeat (first | refine blk_drewN ?_ _ | refine blk_drew ?_ | refine blk_alloc ?_ _)); refine blk_put (cs := #[.string t111, .slice Ao39 y112.length co39, .slice Ao38 y115.length co38, .string (⟨#[]⟩ : ByteArray), .int .i64 0, .int .u64 0]) ?_ 4 _ rfl; (with_reducible repeat (first | refine blk_drewN ?_ _ | refine blk_drew ?_ | refine blk_alloc ?_ _)); refine blk_put (cs := #[.string t111, .slice Ao39 y112.length co39, .slice Ao38 y115.length co38, .string (⟨#[]⟩ : ByteArray), .int .i64 0, .int .u64 0]) ?_ 3 _ rfl; (with_reducible repeat (first | refine blk_drewN ?_ _ | refine blk_drew ?_ | refine blk_alloc ?_ _)); refine blk_put (cs := #[.string t111, .slice Ao39 y112.length co39, .slice none 0 0, .string (⟨#[]⟩ : ByteArray), .int .i64 0, .int .u64 0]) ?_ 2 _ rfl; (with_reducible repeat (first | refine blk_drewN ?_ _ | refine blk_drew ?_ | refine blk_alloc ?_ _)); refine blk_put (cs := #[.string t111, .slice none 0 0, .slice none 0 0, .string (⟨#[]⟩ : ByteArray), .int .i64 0, .int .u64 0]) ?_ 1 _ rfl; (with_reducible repeat (first | refine blk_drewN ?_ _ | refine blk_drew ?_ | refine blk_alloc ?_ _)); refine blk_put (cs := #[.string (⟨#[]⟩ : ByteArray), .slice none 0 0, .slice none 0 0, .string (⟨#[]⟩ : ByteArray), .int .i64 0, .int .u64 0]) ?_ 0 _ rfl; (with_reducible repeat (first | refine blk_drewN ?_ _ | refine blk_drew ?_ | refine blk_alloc ?_ _)); exact BK120.out), Q_X14_, Q_X15_, Q_AP_, (by simpa [World.setCell] using Q_HH_)⟩
                  exact steps_nil
                 rintro b a w43 hall ⟨v113, v116, gb120, m14_, m15_, ha, Q_HO_110001, Q_HO_3, Q_BK101, Q_BK109, Q_HB, Q_HO114, Q_HO117, Q_HO_110001_e15, Q_BK120, Q_GW120, Q_GE120, Q_NB101_120, Q_NB120_101, Q_NB109_120, Q_NB120_109, Q_BK120_e16, Q_X14_, Q_X15_, Q_AP_, Q_HH_⟩
                 clear BK101 BK109 HB HO_110001 HO_3
                 have hb1_ := hall 1 (by kernel_rfl)
                 have hb2_ := hall 2 (by kernel_rfl)
                 have hb3_ := hall 3 (by kernel_rfl)
                 have hb4_ := hall 4 (by kernel_rfl)
                 have hb6_ := hall 6 (by kernel_rfl)
                 have hb7_ := hall 7 (by kernel_rfl)
                 have hb8_ := hall 8 (by kernel_rfl)
                 have hb9_ := hall 9 (by kernel_rfl)
                 have hb11_ := hall 11 (by kernel_rfl)
                 have hb12_ := hall 12 (by kernel_rfl)
                 have hb13_ := hall 13 (by kernel_rfl)
                 have hb14_ := hall 14 (by kernel_rfl)
                 have hb15_ := hall 15 (by kernel_rfl)
                 have hb16_ := hall 16 (by kernel_rfl)
                 subst ha
                 obtain rfl := Q_X14_ hb14_
                 obtain rfl := Q_X15_ hb15_
                 simp only [putSel, hb1_, hb2_, hb3_, hb4_, hb6_, hb7_, hb8_, hb9_, hb11_, hb12_, hb13_, hb14_, hb15_, hb16_, if_true, Act.put, List.setIfInBounds_toArray, List.set_cons_zero, List.set_cons_succ]
                 clear Q_HO_110001
                 have HO_3 := Aside0.mk Q_HO_3
                 clear Q_HO_3
                 have BK101 := Aside0.mk Q_BK101
                 clear Q_BK101
                 have BK109 := Aside0.mk Q_BK109
                 clear Q_BK109
                 have HB := Aside0.mk Q_HB
                 clear Q_HB
                 have HO114 := Aside0.mk (Q_HO114 hb3_)
                 clear Q_HO114
                 have HO117 := Aside0.mk (Q_HO117 hb4_)
                 clear Q_HO117
                 have HO_110001 := Aside0.mk (Q_HO_110001_e15 hb15_)
                 clear Q_HO_110001_e15
                 clear Q_BK120
                 have GW120 := Aside0.mk (Q_GW120 hb15_)
                 clear Q_GW120
                 have GE120 := Aside0.mk (Q_GE120 hb15_)
                 clear Q_GE120
                 have NB101_120 := Aside0.mk (Q_NB101_120 hb15_)
                 clear Q_NB101_120
                 have NB120_101 := Aside0.mk (Q_NB120_101 hb15_)
                 clear Q_NB120_101
                 have NB109_120 := Aside0.mk (Q_NB109_120 hb15_)
                 clear Q_NB109_120
                 have NB120_109 := Aside0.mk (Q_NB120_109 hb15_)
                 clear Q_NB120_109
                 have BK120 := Aside0.mk (Q_BK120_e16 hb16_)
                 clear Q_BK120_e16
                 have AP_ := Q_AP_ hb3_ hb4_
                 have K3_ := (HO114.out).1
                 have K4_ := (HO117.out).1
                 have E1_ : Aside0 (Kd.S k33 33 _ w.heap.size (fun k_ => some k_ ≠ (v113 : Value).ownBlock ∧ some k_ ≠ (v116 : Value).ownBlock ∧ some k_ ≠ (.slice (some ad108) x3_1.length co8 : Value).ownBlock ∧ k_ ≠ gb120) u110001 x110001_1) := ⟨Kd.S_mono HO_110001.out (fun k_ hk => ⟨fun e_ => Nat.not_lt.2 (K3_ k_ e_.symm).2 hk.1.2, fun e_ => Nat.not_lt.2 (K4_ k_ e_.symm).2 hk.1.2, hk.1.1, hk.2⟩)⟩
                 have E2_ := Aside0.mk (Kd.R_reok (ok := fun k_ => some k_ ≠ (v113 : Value).ownBlock ∧ some k_ ≠ (v116 : Value).ownBlock) rfl HO_3.out (fun k_ hk => ⟨fun e_ => (K3_ k_ e_.symm).1 hk.symm, fun e_ => (K4_ k_ e_.symm).1 hk.symm⟩))
                 have E3_ := Aside0.mk (Kd.R_reok (ok := fun k_ => some k_ ≠ (v116 : Value).ownBlock ∧ some k_ ≠ (.slice (some ad108) x3_1.length co8 : Value).ownBlock) rfl HO114.out (fun k_ hk => ⟨fun e_ => AP_ k_ hk e_.symm, (K3_ k_ hk).1⟩))
                 have E4_ := Aside0.mk (Kd.R_reok (ok := fun k_ => some k_ ≠ (v113 : Value).ownBlock ∧ some k_ ≠ (.slice (some ad108) x3_1.length co8 : Value).ownBlock) rfl HO117.out (fun k_ hk => ⟨fun e_ => AP_ k_ e_.symm hk, (K4_ k_ hk).1⟩))
                 clear HO_110001 HO_3 HO114 HO117 AP_ K3_ K4_ Q_AP_ Q_HH_ HSH_ HH0_
                 have HO_110001 := E1_
                 have HO_3 := E2_
                 have HO114 := E3_
                 have HO117 := E4_
                 clear E1_ E2_ E3_ E4_
                 clear hall hb1_ hb2_ hb3_ hb4_ hb6_ hb7_ hb8_ hb9_ hb11_ hb12_ hb13_ hb14_ hb15_ hb16_
                 obtain ⟨Ao44, co44, eo44⟩ := Kd.R_slice HO117.out
                 (first | subst eo44 | (injection eo44 with f1_ f2_ f3_; have f4_ := f1_.symm; have f5_ := f3_.symm; clear f1_ f2_ f3_; subst f4_; subst f5_))
                 obtain ⟨Ao45, co45, eo45⟩ := Kd.R_slice HO114.out
                 (first | subst eo45 | (injection eo45 with f1_ f2_ f3_; have f4_ := f1_.symm; have f5_ := f3_.symm; clear f1_ f2_ f3_; subst f4_; subst f5_))
                 try go_wp2
                 have n0_ := Aside0.mk (Kd.R_drew HO_3.out)
                 have n1_ := Aside0.mk (Kd.S_drew HO_110001.out)
                 have n2_ := Aside0.mk (Kd.R_drew HO114.out)
                 have n3_ := Aside0.mk (Kd.R_drew HO117.out)
                 have n4_ := Aside0.mk (blk_drew BK101.out)
                 have n5_ := Aside0.mk (blk_drew BK109.out)
                 have n6_ := Aside0.mk (blk_drew BK120.out)
                 have n7_ := Aside0.mk (below_drew1 HB.out)
                 clear HO_3
                 clear HO_110001
                 clear HO114
                 clear HO117
                 clear BK101
                 clear BK109
                 clear BK120
                 clear HB
                 have HO_3 := n0_
                 have HO_110001 := n1_
                 have HO114 := n2_
                 have HO117 := n3_
                 have BK101 := n4_
                 have BK109 := n5_
                 have BK120 := n6_
                 have HB := n7_
                 clear n0_ n1_ n2_ n3_ n4_ n5_ n6_ n7_
                 have p121 : 0 ≤ (4 : Int) := (by omega)
                 have q121 : 4 < (x3_1.length : Int) := of_decide_eq_true (by first | (with_reducible assumption) | assumption)
                 obtain ⟨ad121, e121, hx121_0⟩ := Kd.at_int (Kd.R_reads' HO_3.out).2.2 4 p121 q121
                 obtain rfl : ad108 = ad121 := (by injection e121)
                 (try simp only [show (4 : Int).toNat = 4 from rfl, Nat.reduceMul, Nat.reduceEqDiff, Go.Addr.add, ↓reduceIte] at hx121_0)
                 have qi121 : (4 < x3_1.length) = True := eq_true (by omega)
                 (try rw [show ((4 : Int)).toNat = 4 from rfl] at hx121_0)
                 replace p121 := eq_true p121
                 replace q121 := eq_true q121
                 have p26 : 0 ≤ (x5_1 : Int) := of_decide_eq_true (by first | (with_reducible assumption) | assumption)
                 have q26 : (x5_1 : Int) < ((y115.length : Int) : Int) := of_decide_eq_true (by first | (with_reducible assumption) | assumption)
                 obtain ⟨go26, co26, eo26, gb26, gl26, cl26, HG26⟩ := Kd.R_form HO117.out (by omega)
                 (first | cases eo26 | (injection eo26 with ea_ en_ ec_; (first | subst ea_ | (injection ea_ with ea_; subst ea_)); subst ec_; clear en_))
                 have GB26 := Aside0.mk gb26
                 have GG26 := Aside0.mk HG26
                 clear gb26 gl26 HG26
                 obtain ⟨hx26_0, hf26_0⟩ := Kd.R_celln 0 HO117.out (x5_1 : Int) p26 q26
                 replace p26 := eq_true p26
                 replace q26 := eq_true q26
                 have HP47 := Kd.R_putn HO117.out (x5_1 : Int) (rd x3_1 4)
                 rw [← Ny122.out] at HP47
                 have HQ47 := Aside0.mk HP47
                 clear HP47
                 refine start_ (n := 8) (S := fun w' => w'.cell? ⟨gb120, 0, none⟩ = some (.string t111) ∧ w'.cell? ⟨gb120, 1, none⟩ = some (.slice Ao45 y112.length co45) ∧ w'.cell? ⟨gb120, 2, none⟩ = some (.slice (some ⟨go26, 0, none⟩) y115.length co44) ∧ w'.cell? ⟨gb120, 3, none⟩ = some (.string (⟨#[]⟩ : ByteArray)) ∧ w'.cell? ⟨gb120, 4, none⟩ = some (.int .i64 (wrap64 (Int.tmod (rd x3_1 2) 9))) ∧ w'.cell? ⟨gb120, 5, none⟩ = some (.int .u64 (IntKind.u64.wrap (rd x3_1 3))) ∧ w'.cell? ⟨ad108.block, ad108.off + 4, none⟩ = some (.int .u8 (rd x3_1 4))) (ds := [7]) #[false, false, false, false, false, false, false, false] (by kernel_rfl) rfl rfl ⟨(blk_cell BK120.out 0).trans rfl, (blk_cell BK120.out 1).trans rfl, (blk_cell BK120.out 2).trans rfl, (blk_cell BK120.out 3).trans rfl, (blk_cell BK120.out 4).trans rfl, (blk_cell BK120.out 5).trans rfl, hx121_0⟩ (fun hHeld => ?_); refine with_tabW wicketmanlaw16_State.tab9 wicketmanlaw16_State.bits9 (fun HT_ HW_ => ?_)
                 generalize w43.drew = w46 at HO_3 HO_110001 HO114 HO117 BK101 BK109 BK120 HB GG26 HQ47 hf26_0 hx121_0 hx26_0 hHeld ⊢
                 refine pure_ (i := 0) (N := some 46) (v := ?_) (a' := ?_) #[true, false, false, false, false, false, false, false] rfl rfl (any_of HT_.out (by kernel_rfl)) (fun _ _ _ h => h) (Or.inl ⟨by rfl, ?_⟩) ?_ ?_
                 rotate_left
                 ·intro w'
                  go_simp
                  with_reducible rfl
                 rotate_left
                 ·simp only [Act.put, List.setIfInBounds_toArray, List.set_cons_zero, List.set_cons_succ, i64_w, i32_w]
                  rfl
                 refine pure_ (i := 2) (N := some 48) (v := ?_) (a' := ?_) #[true, false, true, false, false, false, false, false] rfl rfl (any_of HT_.out (by kernel_rfl)) (fun _ _ _ h => h) (Or.inl ⟨by rfl, ?_⟩) ?_ ?_
                 rotate_left
                 ·intro w'
                  go_simp
                  with_reducible rfl
                 rotate_left
                 ·simp only [Act.put, List.setIfInBounds_toArray, List.set_cons_zero, List.set_cons_succ, i64_w, i32_w]
                  rfl
                 refine pure_ (i := 3) (N := some 49) (v := ?_) (a' := ?_) #[true, false, true, true, false, false, false, false] rfl rfl (any_of HT_.out (by kernel_rfl)) (fun _ _ _ h => h) (Or.inl ⟨by rfl, ?_⟩) ?_ ?_
                 rotate_left
                 ·intro w'
                  go_simp
                  with_reducible rfl
                 rotate_left
                 ·simp only [Act.put, List.setIfInBounds_toArray, List.set_cons_zero, List.set_cons_succ, i64_w, i32_w]
                  rfl
                 refine pure_ (i := 4) (N := some 50) (v := ?_) (a' := ?_) #[true, false, true, true, true, false, false, false] rfl rfl (any_of HT_.out (by kernel_rfl)) (fun _ _ _ h => h) (Or.inl ⟨by rfl, ?_⟩) ?_ ?_
                 rotate_left
                 ·intro w'
                  go_simp
                  with_reducible rfl
                 rotate_left
                 ·simp only [Act.put, List.setIfInBounds_toArray, List.set_cons_zero, List.set_cons_succ, i64_w, i32_w]
                  rfl
                 refine take_ (i := 1) (N := some 47) (v := ?_) (a' := ?_) #[true, true, true, true, true, false, false, false] rfl rfl (take_ofW HT_.out HW_.out (by kernel_rfl)) (fun _ _ _ h => h) (Or.inl ⟨by rfl, ?_⟩) hHeld ?_ ?_
                 rotate_left
                 ·rintro w' ⟨s0, s1, s2, s3, s4, s5, s6⟩
                  go_simp
                  with_reducible rfl
                 rotate_left
                 ·simp only [Act.put, List.setIfInBounds_toArray, List.set_cons_zero, List.set_cons_succ, i64_w, i32_w]
                  rfl
                 refine take_ (i := 5) (N := some 51) (v := ?_) (a' := ?_) #[true, true, true, true, true, true, false, false] rfl rfl (take_ofW HT_.out HW_.out (by kernel_rfl)) (fun _ _ _ h => h) (Or.inl ⟨by rfl, ?_⟩) hHeld ?_ ?_
                 rotate_left
                 ·rintro w' ⟨s0, s1, s2, s3, s4, s5, s6⟩
                  go_simp
                  with_reducible rfl
                 rotate_left
                 ·simp only [Act.put, List.setIfInBounds_toArray, List.set_cons_zero, List.set_cons_succ, i64_w, i32_w]
                  rfl
                 refine pure_ (i := 6) (N := some 52) (v := ?_) (a' := ?_) #[true, true, true, true, true, true, true, false] rfl rfl (any_of HT_.out (by kernel_rfl)) (fun _ _ _ h => h) (Or.inl ⟨by rfl, ?_⟩) ?_ ?_
                 rotate_left
                 ·intro w'
                  go_simp
                  with_reducible rfl
                 rotate_left
                 ·simp only [Act.put, List.setIfInBounds_toArray, List.set_cons_zero, List.set_cons_succ, i64_w, i32_w]
                  rfl
                 refine last_ (i := 7) (N := none) #[true, true, true, true, true, true, true, true] rfl rfl (one_of HT_.out (by kernel_rfl)) (by decide) (fun K hK => ?_)
                 refine skip_ (w1 := ?_) (by rfl) rfl ?_ ?_
                 rotate_left
                 ·go_simp
                  rfl
                 refine hK.out _ _ ?_
                 clear hK K
                 refine done_ (done_of HT_.out (by kernel_rfl)) ?_
                 have n0_ : Aside0 (Kd.R (Kd.int .u8) 5 (w46.setCell ⟨go26, (x5_1 : Int).toNat, none⟩ (.int .u8 (rd x3_1 4))) w.heap.size (fun k_ => some k_ ≠ (.slice Ao45 y112.length co45 : Value).ownBlock ∧ some k_ ≠ (.slice (some ⟨go26, 0, none⟩) y115.length co44 : Value).ownBlock) (.slice (some ad108) x3_1.length co8) x3_1) := ⟨by (with_reducible repeat (first | apply Kd.R_alloc | apply Kd.R_drewN | apply Kd.R_drew)); exact Kd.R_mono (Kd.R_far (p := ⟨go26, (x5_1 : Int).toNat, none⟩) (Kd.R_mono HO_3.out (fun k_ hk => (⟨hk, fun e_ => hk.2 (by rw [e_]; rfl)⟩ : _ ∧ k_ ≠ go26))) (fun _ hk => hk.2) (.int .u8 (rd x3_1 4))) (fun _ hk => ⟨hk.1.1, hk.1.2⟩)⟩
                 have n1_ : Aside0 (Kd.S k33 33 (w46.setCell ⟨go26, (x5_1 : Int).toNat, none⟩ (.int .u8 (rd x3_1 4))) w.heap.size (fun k_ => some k_ ≠ (.slice (some ad108) x3_1.length co8 : Value).ownBlock ∧ some k_ ≠ (.slice Ao45 y112.length co45 : Value).ownBlock ∧ some k_ ≠ (.slice (some ⟨go26, 0, none⟩) y115.length co44 : Value).ownBlock ∧ k_ ≠ gb120) u110001 x110001_1) := ⟨by (with_reducible repeat (first | apply Kd.S_alloc | apply Kd.S_drewN | apply Kd.S_drew)); exact Kd.S_mono (Kd.S_far (p := ⟨go26, (x5_1 : Int).toNat, none⟩) (Kd.S_mono HO_110001.out (fun k_ hk => (⟨hk, fun e_ => hk.2.1 (by rw [e_]; rfl)⟩ : _ ∧ k_ ≠ go26))) (fun _ hk => hk.2) (.int .u8 (rd x3_1 4))) (fun _ hk => ⟨hk.1.2.2.1, ⟨hk.1.1, ⟨hk.1.2.1, hk.1.2.2.2⟩⟩⟩)⟩
                 have n2_ : Aside0 (Kd.R (Kd.int .u8) 5 (w46.setCell ⟨go26, (x5_1 : Int).toNat, none⟩ (.int .u8 (rd x3_1 4))) w.heap.size (fun k_ => some k_ ≠ (.slice (some ad108) x3_1.length co8 : Value).ownBlock ∧ some k_ ≠ (.slice (some ⟨go26, 0, none⟩) y115.length co44 : Value).ownBlock) (.slice Ao45 y112.length co45) y112) := ⟨by (with_reducible repeat (first | apply Kd.R_alloc | apply Kd.R_drewN | apply Kd.R_drew)); exact Kd.R_mono (Kd.R_far (p := ⟨go26, (x5_1 : Int).toNat, none⟩) (Kd.R_mono HO114.out (fun k_ hk => (⟨hk, fun e_ => hk.1 (by rw [e_]; rfl)⟩ : _ ∧ k_ ≠ go26))) (fun _ hk => hk.2) (.int .u8 (rd x3_1 4))) (fun _ hk => ⟨hk.1.2, hk.1.1⟩)⟩
                 have n3_ : Aside0 (Kd.R (Kd.int .u8) 5 (w46.setCell ⟨go26, (x5_1 : Int).toNat, none⟩ (.int .u8 (rd x3_1 4))) w.heap.size (fun k_ => some k_ ≠ (.slice (some ad108) x3_1.length co8 : Value).ownBlock ∧ some k_ ≠ (.slice Ao45 y112.length co45 : Value).ownBlock) (.slice (some ⟨go26, 0, none⟩) y115.length co44) y122) := ⟨by (with_reducible repeat (first | apply Kd.R_alloc | apply Kd.R_drewN | apply Kd.R_drew)); exact Kd.R_mono HQ47.out (fun _ hk => ⟨hk.2, hk.1⟩)⟩
                 have n4_ : Aside0 ((w46.setCell ⟨go26, (x5_1 : Int).toNat, none⟩ (.int .u8 (rd x3_1 4))).heap[gb101]? = some (.cells #[.int .u64 0, .slice none 0 0, .slice none 0 0] 27 (0, 0))) := ⟨by (with_reducible repeat (first | refine blk_drewN ?_ _ | refine blk_drew ?_ | refine blk_alloc ?_ _)); refine blk_far ?_ (by have h_ := Kd.R_ne HO117.out BK101.out (by decide); intro e_; exact h_ (by rw [e_]; rfl)) _; (with_reducible repeat (first | refine blk_drewN ?_ _ | refine blk_drew ?_ | refine blk_alloc ?_ _)); exact BK101.out⟩
                 have n5_ : Aside0 ((w46.setCell ⟨go26, (x5_1 : Int).toNat, none⟩ (.int .u8 (rd x3_1 4))).heap[gb109]? = some (.cells #[.int .u64 (IntKind.u64.wrap (rd y105 0)), u110001, .slice none 0 0] 27 (0, 0))) := ⟨by (with_reducible repeat (first | refine blk_drewN ?_ _ | refine blk_drew ?_ | refine blk_alloc ?_ _)); refine blk_far ?_ (by have h_ := Kd.R_ne HO117.out BK109.out (by decide); intro e_; exact h_ (by rw [e_]; rfl)) _; (with_reducible repeat (first | refine blk_drewN ?_ _ | refine blk_drew ?_ | refine blk_alloc ?_ _)); exact BK109.out⟩
                 have n6_ : Aside0 ((w46.setCell ⟨go26, (x5_1 : Int).toNat, none⟩ (.int .u8 (rd x3_1 4))).heap[gb120]? = some (.cells #[.string t111, .slice Ao45 y112.length co45, .slice (some ⟨go26, 0, none⟩) y115.length co44, .string (⟨#[]⟩ : ByteArray), .int .i64 (wrap64 (Int.tmod (rd x3_1 2) 9)), .int .u64 (IntKind.u64.wrap (rd x3_1 3))] 33 (0, 0))) := ⟨by (with_reducible repeat (first | refine blk_drewN ?_ _ | refine blk_drew ?_ | refine blk_alloc ?_ _)); refine blk_far ?_ (by have h_ := Kd.R_ne HO117.out BK120.out (by decide); intro e_; exact h_ (by rw [e_]; rfl)) _; (with_reducible repeat (first | refine blk_drewN ?_ _ | refine blk_drew ?_ | refine blk_alloc ?_ _)); exact BK120.out⟩
                 have n7_ : Aside0 (Below w.heap.size w (w46.setCell ⟨go26, (x5_1 : Int).toNat, none⟩ (.int .u8 (rd x3_1 4)))) := ⟨by repeat (first | (with_reducible first | exact HB.out | apply below_alloc | apply pw_below_drewN | apply below_drew1 | refine below_set ?_ GB26.out | refine below_set ?_ GE101.out | refine below_set ?_ GE109.out | refine below_set ?_ GE120.out) | exact HB.out)⟩
                 (try clear HO_3)
                 (try clear HO_110001)
                 (try clear HO114)
                 (try clear HO117)
                 (try clear BK101)
                 (try clear BK109)
                 (try clear BK120)
                 (try clear HB)
                 generalize (w46.setCell ⟨go26, (x5_1 : Int).toNat, none⟩ (.int .u8 (rd x3_1 4))) = w48 at n0_ n1_ n2_ n3_ n4_ n5_ n6_ n7_ ⊢
                 have HO_3 := n0_
                 have HO_110001 := n1_
                 have HO114 := n2_
                 have HO117 := n3_
                 have BK101 := n4_
                 have BK109 := n5_
                 have BK120 := n6_
                 have HB := n7_
                 clear n0_ n1_ n2_ n3_ n4_ n5_ n6_ n7_
                 have hnb49 := NB109_101.out
                 have hnc49 := NB101_109.out
                 have hnb50 := NB109_120.out
                 have hnc50 := NB120_109.out
                 have hcz51_0 : w48.cell? ⟨gb109, 0, none⟩ = some (.int .u64 (IntKind.u64.wrap (rd y105 0))) := (blk_cell BK109.out 0).trans rfl
                 have hcz51_1 : w48.cell? ⟨gb109, 1, none⟩ = some (u110001) := (blk_cell BK109.out 1).trans rfl
                 have hcz51_2 : w48.cell? ⟨gb109, 2, none⟩ = some (.slice none 0 0) := (blk_cell BK109.out 2).trans rfl
                 have hfz51_0 := blk_frozen BK109.out 0
                 have hfz51_1 := blk_frozen BK109.out 1
                 have hfz51_2 := blk_frozen BK109.out 2
                 have hnb52 := NB120_101.out
                 have hnc52 := NB101_120.out
                 have hcz53_0 : w48.cell? ⟨gb120, 0, none⟩ = some (.string t111) := (blk_cell BK120.out 0).trans rfl
                 have hcz53_1 : w48.cell? ⟨gb120, 1, none⟩ = some (.slice Ao45 y112.length co45) := (blk_cell BK120.out 1).trans rfl
                 have hcz53_2 : w48.cell? ⟨gb120, 2, none⟩ = some (.slice (some ⟨go26, 0, none⟩) y115.length co44) := (blk_cell BK120.out 2).trans rfl
                 have hcz53_3 : w48.cell? ⟨gb120, 3, none⟩ = some (.string (⟨#[]⟩ : ByteArray)) := (blk_cell BK120.out 3).trans rfl
                 have hcz53_4 : w48.cell? ⟨gb120, 4, none⟩ = some (.int .i64 (wrap64 (Int.tmod (rd x3_1 2) 9))) := (blk_cell BK120.out 4).trans rfl
                 have hcz53_5 : w48.cell? ⟨gb120, 5, none⟩ = some (.int .u64 (IntKind.u64.wrap (rd x3_1 3))) := (blk_cell BK120.out 5).trans rfl
                 have hfz53_0 := blk_frozen BK120.out 0
                 have hfz53_1 := blk_frozen BK120.out 1
                 have hfz53_2 := blk_frozen BK120.out 2
                 have hfz53_3 := blk_frozen BK120.out 3
                 have hfz53_4 := blk_frozen BK120.out 4
                 have hfz53_5 := blk_frozen BK120.out 5
                 try go_wp2_with (first | ((with_reducible refine gate_builtin (b := .append) (xs := #[.tmp 54, .tmp 56]) rfl ?_); at_builtin; refine Kd.S_append k33 (w0 := w) w.heap.size rfl (.tmp 54) (.tmp 56) 24 33 (.agg #[(.string ⟨#[]⟩), (.slice none 0 0), (.slice none 0 0), (.string ⟨#[]⟩), (.int .i64 0), (.int .u64 0)]) 96 rfl Tryd.underlying24 info33 rfl (by decide) (by omega) u110001 x110001_1 (⟨t111, y112, y122, (⟨#[]⟩ : ByteArray), wrap64 (Int.tmod (rd x3_1 2) 9), IntKind.u64.wrap (rd x3_1 3)⟩ : S33) [.string t111, .slice Ao45 y112.length co45, .slice (some ⟨go26, 0, none⟩) y115.length co44, .string (⟨#[]⟩ : ByteArray), .int .i64 (wrap64 (Int.tmod (rd x3_1 2) 9)), .int .u64 (IntKind.u64.wrap (rd x3_1 3))] (fun k_ => some k_ ≠ (.slice (some ad108) x3_1.length co8 : Value).ownBlock ∧ k_ ≠ gb120) (fun k_ => some k_ = (.slice Ao45 y112.length co45 : Value).ownBlock ∨ some k_ = (.slice (some ⟨go26, 0, none⟩) y115.length co44 : Value).ownBlock) rfl rfl ?aP (fun k_ hk_ => hk_.elim (fun h_ => ((Kd.R_mono (ok' := fun k_ => ((fun k_ => some k_ ≠ (.slice (some ad108) x3_1.length co8 : Value).ownBlock ∧ k_ ≠ gb120)) k_ ∧ some k_ ≠ (u110001 : Value).ownBlock) (Kd.R_types (Kd.R_apart' (HO114.out) (Kd.S_typed HO_110001.out) (by decide)) BK120.out (by decide)) (fun k_ hk => ⟨⟨hk.1.1.1, hk.2⟩, hk.1.2⟩))).1 k_ h_.symm) (fun h_ => ((Kd.R_mono (ok' := fun k_ => ((fun k_ => some k_ ≠ (.slice (some ad108) x3_1.length co8 : Value).ownBlock ∧ k_ ≠ gb120)) k_ ∧ some k_ ≠ (u110001 : Value).ownBlock) (Kd.R_types (Kd.R_apart' (HO117.out) (Kd.S_typed HO_110001.out) (by decide)) BK120.out (by decide)) (fun k_ hk => ⟨⟨hk.1.1.1, hk.2⟩, hk.1.2⟩))).1 k_ h_.symm)) ?aF ?aO ?aB ?aS ?aL ?_; (case aP => exact k33_mkM _ _ _ (⟨t111, y112, y122, (⟨#[]⟩ : ByteArray), wrap64 (Int.tmod (rd x3_1 2) 9), IntKind.u64.wrap (rd x3_1 3)⟩ : S33) (Kd.R_mono (Kd.R_tight rfl (Kd.R_mono (ok' := fun k_ => ((fun k_ => some k_ ≠ (.slice (some ad108) x3_1.length co8 : Value).ownBlock ∧ k_ ≠ gb120)) k_ ∧ some k_ ≠ (u110001 : Value).ownBlock) (Kd.R_types (Kd.R_apart' (HO114.out) (Kd.S_typed HO_110001.out) (by decide)) BK120.out (by decide)) (fun k_ hk => ⟨⟨hk.1.1.1, hk.2⟩, hk.1.2⟩))) (fun _ h_ => Or.inl h_)) (Kd.R_mono (Kd.R_tight rfl (Kd.R_mono (ok' := fun k_ => ((fun k_ => some k_ ≠ (.slice (some ad108) x3_1.length co8 : Value).ownBlock ∧ k_ ≠ gb120)) k_ ∧ some k_ ≠ (u110001 : Value).ownBlock) (Kd.R_types (Kd.R_apart' (HO117.out) (Kd.S_typed HO_110001.out) (by decide)) BK120.out (by decide)) (fun k_ hk => ⟨⟨hk.1.1.1, hk.2⟩, hk.1.2⟩))) (fun _ h_ => Or.inr (h_)))); (case aB => exact (by repeat (first | (with_reducible first | exact HB.out | apply below_alloc | apply pw_below_drewN | apply below_drew1 | refine below_set ?_ GE101.out | refine below_set ?_ GE109.out | refine below_set ?_ GE120.out) | exact HB.out))); (case aF => exact (fun k_ hk => ⟨Kd.fresh' (Kd.R_lt (by (with_reducible repeat (first | apply Kd.R_alloc | apply Kd.R_drewN | apply Kd.R_drew)); exact HO_3.out)) k_ hk, Kd.freshB (g := gb120) (o := .cells #[.string t111, .slice Ao45 y112.length co45, .slice (some ⟨go26, 0, none⟩) y115.length co44, .string (⟨#[]⟩ : ByteArray), .int .i64 (wrap64 (Int.tmod (rd x3_1 2) 9)), .int .u64 (IntKind.u64.wrap (rd x3_1 3))] 33 (0, 0)) (by (with_reducible repeat (first | refine blk_drewN ?_ _ | refine blk_drew ?_ | refine blk_alloc ?_ _)); exact BK120.out) k_ hk⟩)); (case aO => exact (by (with_reducible repeat (first | apply Kd.S_alloc | apply Kd.S_drewN | apply Kd.S_drew)); exact Kd.S_mono HO_110001.out (fun k_ hk => ⟨⟨hk.1, hk.2.2.2⟩, fun e_ => e_.elim (fun h_ => hk.2.1 h_) (fun h_ => hk.2.2.1 h_)⟩))); (case aS => exact (below_size (by repeat (first | (with_reducible first | exact HB.out | apply below_alloc | apply pw_below_drewN | apply below_drew1 | refine below_set ?_ GE101.out | refine below_set ?_ GE109.out | refine below_set ?_ GE120.out) | exact HB.out)))); (case aL => have := LMc27.out; omega); intro v124 w54 ho hb hg hat; rw [← Ny123.out] at ho; have n0_ := Aside0.mk (Kd.R_over' (by (with_reducible repeat (first | apply Kd.R_alloc | apply Kd.R_drewN | apply Kd.R_drew)); exact HO_3.out) (Kd.S_typed (by (with_reducible repeat (first | apply Kd.S_alloc | apply Kd.S_drewN | apply Kd.S_drew)); exact HO_110001.out)) (by decide) hg); have n1_ := Aside0.mk (blk_grown (g := gb101) (o := .cells #[.int .u64 0, .slice none 0 0, .slice none 0 0] 27 (0, 0)) (by (with_reducible repeat (first | refine blk_drewN ?_ _ | refine blk_drew ?_ | refine blk_alloc ?_ _)); exact BK101.out) hg (Kd.S_ne HO_110001.out BK101.out (by decide))); have n2_ := Aside0.mk (blk_grown (g := gb109) (o := .cells #[.int .u64 (IntKind.u64.wrap (rd y105 0)), u110001, .slice none 0 0] 27 (0, 0)) (by (with_reducible repeat (first | refine blk_drewN ?_ _ | refine blk_drew ?_ | refine blk_alloc ?_ _)); exact BK109.out) hg (Kd.S_ne HO_110001.out BK109.out (by decide))); have n3_ := Aside0.mk (blk_grown (g := gb120) (o := .cells #[.string t111, .slice Ao45 y112.length co45, .slice (some ⟨go26, 0, none⟩) y115.length co44, .string (⟨#[]⟩ : ByteArray), .int .i64 (wrap64 (Int.tmod (rd x3_1 2) 9)), .int .u64 (IntKind.u64.wrap (rd x3_1 3))] 33 (0, 0)) (by (with_reducible repeat (first | refine blk_drewN ?_ _ | refine blk_drew ?_ | refine blk_alloc ?_ _)); exact BK120.out) hg (Kd.S_away HO_110001.out (fun _ hk => hk.2.2.2))); have n4_ := Aside0.mk (hb); have n5_ := Aside0.mk (ho); clear HO_3; clear BK101; clear BK109; clear BK120; clear HB; clear HO_110001; clear HO114; clear HO117; have HO_3 := n0_; have BK101 := n1_; have BK109 := n2_; have BK120 := n3_; have HB := n4_; have HO125 := n5_; clear n0_ n1_ n2_ n3_ n4_ n5_; clear ho hb hg hat; obtain ⟨Ao55, co55, eo55⟩ := Kd.S_slice HO125.out; subst eo55; have hcz56_0 : w54.cell? ⟨gb109, 0, none⟩ = some (.int .u64 (IntKind.u64.wrap (rd y105 0))) := (blk_cell BK109.out 0).trans rfl; have hcz56_1 : w54.cell? ⟨gb109, 1, none⟩ = some (u110001) := (blk_cell BK109.out 1).trans rfl; have hcz56_2 : w54.cell? ⟨gb109, 2, none⟩ = some (.slice none 0 0) := (blk_cell BK109.out 2).trans rfl; have hfz56_0 := blk_frozen BK109.out 0; have hfz56_1 := blk_frozen BK109.out 1; have hfz56_2 := blk_frozen BK109.out 2))
                 (try simp only [← hl3_1])
                 go_roundg k1
                 case measure => have := HK1.out; omega
                 case rel => exact ⟨(x3_1), (wrap64 (x5_1 + 1)), (y123), (.slice Ao55 y123.length co55), (by first | rfl | (simp; done) | (simp [*]; done)), H', ⟨by have := HK1.out; omega⟩, ⟨by (try simp only [hl3_1]); (with_reducible repeat (first | apply Kd.R_alloc | apply Kd.R_drewN | apply Kd.R_drew)); exact Kd.R_mono (Kd.R_far (p := ⟨gb109, 1, none⟩) (Kd.R_types HO_3.out BK109.out (by decide)) (fun _ hk => hk.2) (.slice Ao55 y123.length co55)) (fun _ hk => trivial)⟩, ⟨by (try simp only [hl3_1]); (with_reducible repeat (first | apply Kd.S_alloc | apply Kd.S_drewN | apply Kd.S_drew)); exact Kd.S_mono (Kd.S_far (p := ⟨gb109, 1, none⟩) (Kd.S_types HO125.out BK109.out (by decide)) (fun _ hk => hk.2) (.slice Ao55 y123.length co55)) (fun _ hk => hk.1.1)⟩, ⟨by (try simp only [hl3_1]); (with_reducible repeat (first | refine blk_drewN ?_ _ | refine blk_drew ?_ | refine blk_alloc ?_ _)); refine blk_far ?_ NB101_109.out _; (with_reducible repeat (first | refine blk_drewN ?_ _ | refine blk_drew ?_ | refine blk_alloc ?_ _)); exact BK101.out⟩, ⟨by (try simp only [hl3_1]); (with_reducible repeat (first | refine blk_drewN ?_ _ | refine blk_drew ?_ | refine blk_alloc ?_ _)); refine blk_put (cs := #[.int .u64 (IntKind.u64.wrap (rd y105 0)), u110001, .slice none 0 0]) ?_ 1 _ rfl; (with_reducible repeat (first | refine blk_drewN ?_ _ | refine blk_drew ?_ | refine blk_alloc ?_ _)); exact BK109.out⟩, ⟨by repeat (first | (with_reducible first | exact HB.out | apply below_alloc | apply pw_below_drewN | apply below_drew1 | refine below_set ?_ GE101.out | refine below_set ?_ GE109.out | refine below_set ?_ GE120.out) | exact HB.out)⟩⟩
                ·rw [if_neg c27] at H
                 exact absurd H (by simp)
               ·rw [if_neg c25] at H
                exact absurd H (by simp)
              ·rw [if_neg c24] at H
               exact absurd H (by simp)
             ·rw [if_neg c23] at H
              exact absurd H (by simp)
            ·rw [if_neg c22] at H
             exact absurd H (by simp)
           ·rw [if_neg c21] at H
            exact absurd H (by simp)
          ·rw [if_neg c20] at H
           exact absurd H (by simp)
         ·rw [if_neg c19] at H
          exact absurd H (by simp)
        ·rw [if_neg c17] at H
         have c17b0 : ((Int.tmod (ji16) 2) == 1) = false := beq_eq_false_iff_ne.mpr c17
         have c17b1 : ((Int.tmod (ji16) 2) != 1) = true := bne_iff_ne.mpr c17
         have H' := Aside0.mk H
         clear H
         have p110 : 0 ≤ (1 : Int) := (by omega)
         have q110 : 1 < (x3_1.length : Int) := of_decide_eq_true (by first | (with_reducible assumption) | assumption)
         obtain ⟨ad110, e110, hx110_0⟩ := Kd.at_int (Kd.R_reads' HO_3.out).2.2 1 p110 q110
         obtain rfl : ad108 = ad110 := (by injection e110)
         (try simp only [show (1 : Int).toNat = 1 from rfl, Nat.reduceMul, Nat.reduceEqDiff, Go.Addr.add, ↓reduceIte] at hx110_0)
         have qi110 : (1 < x3_1.length) = True := eq_true (by omega)
         (try rw [show ((1 : Int)).toNat = 1 from rfl] at hx110_0)
         replace p110 := eq_true p110
         replace q110 := eq_true q110
         go_wp2
         (try simp only [← hl3_1])
         go_roundg k1
         case measure => have := HK1.out; omega
         case rel => exact ⟨(x3_1), (wrap64 (x5_1 + 1)), (x110001_1), (u110001), (by first | rfl | (simp; done) | (simp [*]; done)), H', ⟨by have := HK1.out; omega⟩, ⟨by (try simp only [hl3_1]); (with_reducible repeat (first | apply Kd.R_alloc | apply Kd.R_drewN | apply Kd.R_drew)); exact HO_3.out⟩, ⟨by (try simp only [hl3_1]); (with_reducible repeat (first | apply Kd.S_alloc | apply Kd.S_drewN | apply Kd.S_drew)); exact HO_110001.out⟩, ⟨by (try simp only [hl3_1]); (with_reducible repeat (first | refine blk_drewN ?_ _ | refine blk_drew ?_ | refine blk_alloc ?_ _)); exact BK101.out⟩, ⟨by (try simp only [hl3_1]); (with_reducible repeat (first | refine blk_drewN ?_ _ | refine blk_drew ?_ | refine blk_alloc ?_ _)); exact BK109.out⟩, ⟨by repeat (first | (with_reducible first | exact HB.out | apply below_alloc | apply pw_below_drewN | apply below_drew1 | refine below_set ?_ GE101.out | refine below_set ?_ GE109.out) | exact HB.out)⟩⟩
       ·rw [if_neg c15] at H
        exact absurd H (by simp)
      ·rw [if_neg c13] at H
       exact absurd H (by simp)
     ·rw [if_neg c12] at H
      have c12b0 : decide (x5_1 < 5) = false := decide_eq_false c12
      clear c12
      have H' := Aside0.mk H
      clear H
      go_wp2
      go_loopg [7] k1 (fun kq v7 w' => ∃ (x7_2 : Int) (x110002_2 : List (S31)) (u110002 : Value), v7 = .int .i64 x7_2 ∧ Aside0 (wicketmanlaw16_State.l1 kq l0 x7_2 (IntKind.u64.wrap (rd y105 0)) x110001_1 x110002_2 = some (r1, r2, r3)) ∧ Aside0 (kq ≤ k1) ∧ Aside0 (Kd.S k33 33 w' w.heap.size (fun _ => True) u110001 x110001_1) ∧ Aside0 (Kd.R k31 31 w' w.heap.size (fun _ => True) u110002 x110002_2) ∧ Aside0 (w'.heap[gb101]? = some (.cells #[.int .u64 0, (.slice none 0 0), (.slice none 0 0)] 27 (0, 0))) ∧ Aside0 (w'.heap[gb109]? = some (.cells #[.int .u64 (IntKind.u64.wrap (rd y105 0)), u110001, u110002] 27 (0, 0))) ∧ Aside0 (Below w.heap.size w w'))
      case atStart => exact ⟨(0), (([] : List (S31))), (.slice none 0 0), (by first | rfl | (simp; done) | (simp [*]; done)), H', ⟨Nat.le_refl _⟩, ⟨by (try simp only [hl3_1]); (with_reducible repeat (first | apply Kd.S_alloc | apply Kd.S_drewN | apply Kd.S_drew)); exact Kd.S_mono HO_110001.out (fun _ hk => trivial)⟩, ⟨by (try simp only [hl3_1]); first | exact Kd.R_nil _ _ _ _ _ | exact Kd.N_nil _ _ _ _ _ | exact Kd.V_nil _ _ _ _ _ | exact Kd.Q_nil _ _ _ _ _ | exact Kd.S_nil _ _ _ _ _⟩, ⟨by (try simp only [hl3_1]); (with_reducible repeat (first | refine blk_drewN ?_ _ | refine blk_drew ?_ | refine blk_alloc ?_ _)); exact BK101.out⟩, ⟨by (try simp only [hl3_1]); (with_reducible repeat (first | refine blk_drewN ?_ _ | refine blk_drew ?_ | refine blk_alloc ?_ _)); exact BK109.out⟩, ⟨by repeat (first | (with_reducible first | exact HB.out | apply below_alloc | apply pw_below_drewN | apply below_drew1 | refine below_set ?_ GE101.out | refine below_set ?_ GE109.out) | exact HB.out)⟩⟩
      case round =>
       clear H'
       try clear c1
       try clear p1
       try clear q1
       try clear hx1
       try clear qi1
       try clear c2
       try clear p2
       try clear q2
       try clear hx2
       try clear hf2
       try clear c4
       try clear c5
       try clear p6
       try clear p11
       try clear q11
       try clear hx11
       try clear qi11
       try clear c12
       try clear c12b0
       try clear p12
       try clear q12
       try clear hx12
       try clear qi12
       try clear c13
       try clear c15
       try clear c17
       try clear c17b0
       try clear c17b1
       try clear c19
       try clear c20
       try clear c21
       try clear c22
       try clear c23
       try clear c24
       try clear c25
       try clear p26
       try clear q26
       try clear hx26
       try clear hf26
       try clear c27
       try clear c49
       try clear c50
       try clear c52
       try clear hcz51_0
       try clear hcz51_1
       try clear hcz51_2
       try clear hcz53_0
       try clear hcz53_1
       try clear hcz53_2
       try clear hcz53_3
       try clear hcz53_4
       try clear hcz53_5
       try clear hcz56_0
       try clear hcz56_1
       try clear hcz56_2
       try clear hfz51_0
       try clear hfz51_1
       try clear hfz51_2
       try clear hfz53_0
       try clear hfz53_1
       try clear hfz53_2
       try clear hfz53_3
       try clear hfz53_4
       try clear hfz53_5
       try clear hfz56_0
       try clear hfz56_1
       try clear hfz56_2
       try clear hx110_0
       try clear hx121_0
       try clear hx26_0
       try clear p110
       try clear p118
       try clear p119
       try clear p121
       try clear p26
       try clear q110
       try clear q118
       try clear q119
       try clear q121
       try clear q26
       obtain ⟨x7_2, x110002_2, u110002, rfl, HA, HK2, HO_110001, HO_110002, BK101, BK109, HB⟩ := hrel
       cases gk with
       | zero => exact absurd HA.out (by simp [wicketmanlaw16_State.l1])
       | succ k2 =>
        have H := HA.out
        clear HA
        simp only [wicketmanlaw16_State.l1] at H
        by_cases c57 : x7_2 < 16
        ·rw [if_pos c57] at H
         have c57b0 : decide (x7_2 < 16) = true := decide_eq_true c57
         clear c57
         have HC58 := Aside0.mk H
         clear H
         go_upto_if 66 with (fail)
         go_cut [8] (fun v8 wc => ∃ (kq : Nat) (x8_57 : Int), v8 = .int .i64 x8_57 ∧ Aside0 (wicketmanlaw16_State.j2 kq l0 x7_2 x8_57 (IntKind.u64.wrap (rd y105 0)) x110001_1 x110002_2 = some (r1, r2, r3)) ∧ Aside0 (kq ≤ k2) ∧ Aside0 (Kd.S k33 33 wc w.heap.size (fun _ => True) u110001 x110001_1) ∧ Aside0 (Kd.R k31 31 wc w.heap.size (fun _ => True) u110002 x110002_2) ∧ Aside0 (wc.heap[gb101]? = some (.cells #[.int .u64 0, (.slice none 0 0), (.slice none 0 0)] 27 (0, 0))) ∧ Aside0 (wc.heap[gb109]? = some (.cells #[.int .u64 (IntKind.u64.wrap (rd y105 0)), u110001, u110002] 27 (0, 0))) ∧ Aside0 (Below w.heap.size w wc))
         case first =>
          have H := HC58.out
          clear HC58
          by_cases c59 : x7_2 < (l0.length : Int)
          ·rw [if_pos c59] at H
           have c59b0 : decide (x7_2 < (l0.length : Int)) = true := decide_eq_true c59
           clear c59
           (first | rw [c59b0] | (simp only [i64_w, i32_w]; rw [c59b0]) | skip)
           by_cases c60 : 0 ≤ x7_2
           ·rw [if_pos c60] at H
            have c60b0 : decide (0 ≤ x7_2) = true := decide_eq_true c60
            clear c60
            have H' := Aside0.mk H
            clear H
            have p126 : 0 ≤ (x7_2 : Int) := of_decide_eq_true (by first | (with_reducible assumption) | assumption)
            have q126 : x7_2 < (l0.length : Int) := of_decide_eq_true (by first | (with_reducible assumption) | assumption)
            obtain ⟨ad126, e126, hx126_0⟩ := Kd.at_int HR0.out x7_2 p126 q126
            cases e126
            replace hx126_0 := (HB.out.cell (World.block_lt_of_cell? w _ hx126_0)).trans hx126_0
            replace p126 := eq_true p126
            replace q126 := eq_true q126
            go_wp2
            go_meet
            case rel => exact ⟨_, (wrap64 (rd l0 x7_2)), (by first | rfl | (simp; done) | (simp [*]; done)), H', ⟨by have := HK1.out; have := HK2.out; first | omega | exact Nat.le_refl _⟩, ⟨by (try simp only [hl3_1]); (with_reducible repeat (first | apply Kd.S_alloc | apply Kd.S_drewN | apply Kd.S_drew)); exact HO_110001.out⟩, ⟨by (try simp only [hl3_1]); (with_reducible repeat (first | apply Kd.R_alloc | apply Kd.R_drewN | apply Kd.R_drew)); exact HO_110002.out⟩, ⟨by (try simp only [hl3_1]); (with_reducible repeat (first | refine blk_drewN ?_ _ | refine blk_drew ?_ | refine blk_alloc ?_ _)); exact BK101.out⟩, ⟨by (try simp only [hl3_1]); (with_reducible repeat (first | refine blk_drewN ?_ _ | refine blk_drew ?_ | refine blk_alloc ?_ _)); exact BK109.out⟩, ⟨by repeat (first | (with_reducible first | exact HB.out | apply below_alloc | apply pw_below_drewN | apply below_drew1 | refine below_set ?_ GE101.out | refine below_set ?_ GE109.out) | exact HB.out)⟩⟩
           ·rw [if_neg c60] at H
            exact absurd H (by simp)
          ·rw [if_neg c59] at H
           have c59b0 : decide (x7_2 < (l0.length : Int)) = false := decide_eq_false c59
           clear c59
           (first | rw [c59b0] | (simp only [i64_w, i32_w]; rw [c59b0]) | skip)
           have H' := Aside0.mk H
           clear H
           go_wp2
           go_meet
           case rel => exact ⟨_, (0), (by first | rfl | (simp; done) | (simp [*]; done)), H', ⟨by have := HK1.out; have := HK2.out; first | omega | exact Nat.le_refl _⟩, ⟨by (try simp only [hl3_1]); (with_reducible repeat (first | apply Kd.S_alloc | apply Kd.S_drewN | apply Kd.S_drew)); exact HO_110001.out⟩, ⟨by (try simp only [hl3_1]); (with_reducible repeat (first | apply Kd.R_alloc | apply Kd.R_drewN | apply Kd.R_drew)); exact HO_110002.out⟩, ⟨by (try simp only [hl3_1]); (with_reducible repeat (first | refine blk_drewN ?_ _ | refine blk_drew ?_ | refine blk_alloc ?_ _)); exact BK101.out⟩, ⟨by (try simp only [hl3_1]); (with_reducible repeat (first | refine blk_drewN ?_ _ | refine blk_drew ?_ | refine blk_alloc ?_ _)); exact BK109.out⟩, ⟨by repeat (first | (with_reducible first | exact HB.out | apply below_alloc | apply pw_below_drewN | apply below_drew1 | refine below_set ?_ GE101.out | refine below_set ?_ GE109.out) | exact HB.out)⟩⟩
         case rest =>
          clear HC58
          try clear c1
          try clear p1
          try clear q1
          try clear hx1
          try clear qi1
          try clear c2
          try clear p2
          try clear q2
          try clear hx2
          try clear hf2
          try clear c4
          try clear c5
          try clear c6
          try clear p6
          try clear p11
          try clear q11
          try clear hx11
          try clear qi11
          try clear c12
          try clear c12b0
          try clear p12
          try clear q12
          try clear hx12
          try clear qi12
          try clear c13
          try clear c15
          try clear c17
          try clear c17b0
          try clear c17b1
          try clear c19
          try clear c20
          try clear c21
          try clear c22
          try clear c23
          try clear c24
          try clear c25
          try clear p26
          try clear q26
          try clear hx26
          try clear hf26
          try clear c27
          try clear c49
          try clear c50
          try clear c52
          try clear c57
          try clear c57b0
          try clear c59
          try clear c59b0
          try clear c60
          try clear c60b0
          try clear hcz51_0
          try clear hcz51_1
          try clear hcz51_2
          try clear hcz53_0
          try clear hcz53_1
          try clear hcz53_2
          try clear hcz53_3
          try clear hcz53_4
          try clear hcz53_5
          try clear hcz56_0
          try clear hcz56_1
          try clear hcz56_2
          try clear hfz51_0
          try clear hfz51_1
          try clear hfz51_2
          try clear hfz53_0
          try clear hfz53_1
          try clear hfz53_2
          try clear hfz53_3
          try clear hfz53_4
          try clear hfz53_5
          try clear hfz56_0
          try clear hfz56_1
          try clear hfz56_2
          try clear hx110_0
          try clear hx121_0
          try clear hx126_0
          try clear hx26_0
          try clear p1
          try clear p11
          try clear p110
          try clear p118
          try clear p119
          try clear p12
          try clear p121
          try clear p126
          try clear p2
          try clear p26
          try clear p6
          try clear q1
          try clear q11
          try clear q110
          try clear q118
          try clear q119
          try clear q12
          try clear q121
          try clear q126
          try clear q2
          try clear q26
          obtain ⟨kq, x8_57, rfl, HA, HJ57, HO_110001, HO_110002, BK101, BK109, HB⟩ := hcut
          cases kq with
          | zero => exact absurd HA.out (by simp [wicketmanlaw16_State.j2])
          | succ kj57 =>
           have H := HA.out
           clear HA
           simp only [wicketmanlaw16_State.j2] at H
           by_cases c61 : (Int.tmod x8_57 3) = 0
           ·rw [if_pos c61] at H
            have c61b0 : ((Int.tmod x8_57 3) == 0) = true := beq_iff_eq.mpr c61
            have c61b1 : ((Int.tmod x8_57 3) != 0) = false := bne_eq_false_iff_eq.mpr c61
            clear c61
            have H' := Aside0.mk H
            clear H
            go_wp2
            go_roundg kj57
            case measure => have := HK1.out; have := HK2.out; have := HJ57.out; omega
            case rel => exact ⟨(wrap64 (x7_2 + 1)), (x110002_2), (u110002), (by first | rfl | (simp; done) | (simp [*]; done)), H', ⟨by have := HK1.out; have := HK2.out; have := HJ57.out; omega⟩, ⟨by (try simp only [hl3_1]); (with_reducible repeat (first | apply Kd.S_alloc | apply Kd.S_drewN | apply Kd.S_drew)); exact HO_110001.out⟩, ⟨by (try simp only [hl3_1]); (with_reducible repeat (first | apply Kd.R_alloc | apply Kd.R_drewN | apply Kd.R_drew)); exact HO_110002.out⟩, ⟨by (try simp only [hl3_1]); (with_reducible repeat (first | refine blk_drewN ?_ _ | refine blk_drew ?_ | refine blk_alloc ?_ _)); exact BK101.out⟩, ⟨by (try simp only [hl3_1]); (with_reducible repeat (first | refine blk_drewN ?_ _ | refine blk_drew ?_ | refine blk_alloc ?_ _)); exact BK109.out⟩, ⟨by repeat (first | (with_reducible first | exact HB.out | apply below_alloc | apply pw_below_drewN | apply below_drew1 | refine below_set ?_ GE101.out | refine below_set ?_ GE109.out) | exact HB.out)⟩⟩
           ·rw [if_neg c61] at H
            have c61b0 : ((Int.tmod x8_57 3) == 0) = false := beq_eq_false_iff_ne.mpr c61
            have c61b1 : ((Int.tmod x8_57 3) != 0) = true := bne_iff_ne.mpr c61
            replace H := Option.bind_eq_some_iff.mp H
            obtain ⟨t127, A620, H⟩ := H
            replace H : (if (x110001_1.length : Int) > 0 then (if (Int.tmod x8_57 4) > 0 then (if (x110001_1.length : Int) = 0 then (none) else (if 0 ≤ (Int.tmod x8_57 (x110001_1.length : Int)) then (if (Int.tmod x8_57 (x110001_1.length : Int)) < (x110001_1.length : Int) then (if x110002_2.length < 2513169434916 then (wicketmanlaw16_State.l1 kj57 l0 (wrap64 (x7_2 + 1)) (IntKind.u64.wrap (rd y105 0)) x110001_1 (x110002_2 ++ [(⟨t127, (rd_T33 x110001_1 (Int.tmod x8_57 (x110001_1.length : Int))).f0, IntKind.u64.wrap (Int.tmod x8_57 40), IntKind.u64.wrap (wrap64 ((Int.tmod x8_57 40) + (Int.tmod x8_57 7))), ((Int.tmod x8_57 5) == 4)⟩ : S31)])) else (none)) else (none)) else (none))) else (if x110002_2.length < 2513169434916 then (wicketmanlaw16_State.l1 kj57 l0 (wrap64 (x7_2 + 1)) (IntKind.u64.wrap (rd y105 0)) x110001_1 (x110002_2 ++ [(⟨t127, (⟨#[]⟩ : ByteArray), IntKind.u64.wrap (Int.tmod x8_57 40), IntKind.u64.wrap (wrap64 ((Int.tmod x8_57 40) + (Int.tmod x8_57 7))), ((Int.tmod x8_57 5) == 4)⟩ : S31)])) else (none))) else (if x110002_2.length < 2513169434916 then (wicketmanlaw16_State.l1 kj57 l0 (wrap64 (x7_2 + 1)) (IntKind.u64.wrap (rd y105 0)) x110001_1 (x110002_2 ++ [(⟨t127, (⟨#[]⟩ : ByteArray), IntKind.u64.wrap (Int.tmod x8_57 40), IntKind.u64.wrap (wrap64 ((Int.tmod x8_57 40) + (Int.tmod x8_57 7))), ((Int.tmod x8_57 5) == 4)⟩ : S31)])) else (none))) = some (r1, r2, r3) := H
            have A62 := Aside0.mk A620
            clear A620
            by_cases c63 : (x110001_1.length : Int) > 0
            ·rw [if_pos c63] at H
             have c63b0 : decide (0 < (x110001_1.length : Int)) = true := decide_eq_true c63
             have c63b1 : decide (0 < x110001_1.length) = true := decide_eq_true (by omega)
             clear c63
             by_cases c64 : (Int.tmod x8_57 4) > 0
             ·rw [if_pos c64] at H
              have c64b0 : decide (0 < (Int.tmod x8_57 4)) = true := decide_eq_true c64
              clear c64
              by_cases c65 : (x110001_1.length : Int) = 0
              ·rw [if_pos c65] at H
               exact absurd H (by simp)
              ·rw [if_neg c65] at H
               have c65b0 : ((x110001_1.length : Int) == 0) = false := beq_eq_false_iff_ne.mpr c65
               have c65b1 : ((x110001_1.length : Int) != 0) = true := bne_iff_ne.mpr c65
               have c65b2 : ¬ (x110001_1 = []) := fun h_ => c65 (by rw [h_]; rfl)
               obtain ⟨ji66, hji66⟩ : ∃ j_ : Int, (Int.tmod x8_57 (x110001_1.length : Int)) = j_ := ⟨_, rfl⟩
               replace H : (if 0 ≤ (ji66) then (if (ji66) < (x110001_1.length : Int) then (if x110002_2.length < 2513169434916 then (wicketmanlaw16_State.l1 kj57 l0 (wrap64 (x7_2 + 1)) (IntKind.u64.wrap (rd y105 0)) x110001_1 (x110002_2 ++ [(⟨t127, (rd_T33 x110001_1 (ji66)).f0, IntKind.u64.wrap (Int.tmod x8_57 40), IntKind.u64.wrap (wrap64 ((Int.tmod x8_57 40) + (Int.tmod x8_57 7))), ((Int.tmod x8_57 5) == 4)⟩ : S31)])) else (none)) else (none)) else (none)) = some (r1, r2, r3) := by first | (rw [hji66] at H; exact H) | (simp only [hji66] at H ⊢; exact H)
               (try rw [hji66] at A62)
               by_cases c67 : 0 ≤ (ji66)
               ·rw [if_pos c67] at H
                have c67b0 : decide (0 ≤ (ji66)) = true := decide_eq_true c67
                clear c67
                by_cases c68 : (ji66) < (x110001_1.length : Int)
                ·rw [if_pos c68] at H
                 have c68b0 : decide ((ji66) < (x110001_1.length : Int)) = true := decide_eq_true c68
                 clear c68
                 by_cases c69 : x110002_2.length < 2513169434916
                 ·rw [if_pos c69] at H
                  have LMc69 := Aside0.mk c69
                  clear c69
                  obtain ⟨y130, hy130⟩ : ∃ y_ : List (S31), y_ = (x110002_2 ++ [(⟨t127, (rd_T33 x110001_1 (ji66)).f0, IntKind.u64.wrap (Int.tmod x8_57 40), IntKind.u64.wrap (wrap64 ((Int.tmod x8_57 40) + (Int.tmod x8_57 7))), ((Int.tmod x8_57 5) == 4)⟩ : S31)]) := ⟨_, rfl⟩
                  replace H : (wicketmanlaw16_State.l1 kj57 l0 (wrap64 (x7_2 + 1)) (IntKind.u64.wrap (rd y105 0)) x110001_1 y130) = some (r1, r2, r3) := by first | (rw [hy130]; with_reducible exact H) | (have H2_ := (Option.bind_some _ _).symm.trans H; rw [hy130]; with_reducible exact H2_) | (have H2_ := (Option.bind_some _ _).symm.trans H; with_reducible exact H2_) | with_reducible exact H | (rw [hy130]; exact H) | exact H
                  have Ny130 := Aside0.mk hy130
                  clear hy130
                  have H' := Aside0.mk H
                  clear H
                  try go_wp2_with (first | ((with_reducible refine gate_callee (f := 28) rfl ?_); refine goesL_ (some 77) rfl rfl Tryd.func28 (by kernel_rfl) rfl #[.int .u8 ((x7_2) % 256)] rfl (by (try simp only [List.map_toArray, List.map_cons, List.map_nil]); first | done | rfl | (simp only [List.length_drop, List.length_take]; rfl)) ?_; (with_reducible refine (wicketmanlaw16_ID.calls ((x7_2) % 256) t127 _ A62.out).mono ?_); rintro e w70 ⟨rfl, hb⟩; refine ⟨_, rfl, ?_⟩; have n0_ := Aside0.mk (Kd.S_below (by (with_reducible repeat (first | apply Kd.S_alloc | apply Kd.S_drewN | apply Kd.S_drew)); exact HO_110001.out) hb); have n1_ := Aside0.mk (Kd.R_below (by (with_reducible repeat (first | apply Kd.R_alloc | apply Kd.R_drewN | apply Kd.R_drew)); exact HO_110002.out) hb); have n2_ := Aside0.mk (blk_below (g := gb101) (o := .cells #[.int .u64 0, .slice none 0 0, .slice none 0 0] 27 (0, 0)) (by (with_reducible repeat (first | refine blk_drewN ?_ _ | refine blk_drew ?_ | refine blk_alloc ?_ _)); exact BK101.out) hb); have n3_ := Aside0.mk (blk_below (g := gb109) (o := .cells #[.int .u64 (IntKind.u64.wrap (rd y105 0)), u110001, u110002] 27 (0, 0)) (by (with_reducible repeat (first | refine blk_drewN ?_ _ | refine blk_drew ?_ | refine blk_alloc ?_ _)); exact BK109.out) hb); have n4_ := Aside0.mk (below_step (by repeat (first | (with_reducible first | exact HB.out | apply below_alloc | apply pw_below_drewN | apply below_drew1 | refine below_set ?_ GE101.out | refine below_set ?_ GE109.out) | exact HB.out)) hb); clear HO_110001; clear HO_110002; clear BK101; clear BK109; clear HB; have HO_110001 := n0_; have HO_110002 := n1_; have BK101 := n2_; have BK109 := n3_; have HB := n4_; clear n0_ n1_ n2_ n3_ n4_; (try clear hb); (try clear hb2); (try clear hk); (try clear hi)) | ((with_reducible refine gate_dst (N := 9) rfl ?_); refine box_event ?hg (N := 9) ?hd (cs := #[.string (⟨#[]⟩ : ByteArray), .string (⟨#[]⟩ : ByteArray), .int .u64 0, .int .u64 0, .bool false]) (t := 31) ?hr ?_; (case hd => rfl); (case hg => rfl); (case hr => first | (go_simp; done) | (go_simp; rfl)); intro gb128 hg w71 hbox hb; have n0_ := Aside0.mk (Kd.S_below (by (with_reducible repeat (first | apply Kd.S_alloc | apply Kd.S_drewN | apply Kd.S_drew)); exact HO_110001.out) hb); have n1_ := Aside0.mk (Kd.R_below (Kd.R_elderB (by (with_reducible repeat (first | apply Kd.R_alloc | apply Kd.R_drewN | apply Kd.R_drew)); exact HO_110002.out) gb128 (Nat.le_of_eq hg.symm)) hb); have n2_ := Aside0.mk (blk_below (g := gb101) (o := .cells #[.int .u64 0, .slice none 0 0, .slice none 0 0] 27 (0, 0)) (by (with_reducible repeat (first | refine blk_drewN ?_ _ | refine blk_drew ?_ | refine blk_alloc ?_ _)); exact BK101.out) hb); have n3_ := Aside0.mk (blk_below (g := gb109) (o := .cells #[.int .u64 (IntKind.u64.wrap (rd y105 0)), u110001, u110002] 27 (0, 0)) (by (with_reducible repeat (first | refine blk_drewN ?_ _ | refine blk_drew ?_ | refine blk_alloc ?_ _)); exact BK109.out) hb); have n4_ := Aside0.mk (below_step (by repeat (first | (with_reducible first | exact HB.out | apply below_alloc | apply pw_below_drewN | apply below_drew1 | refine below_set ?_ GE101.out | refine below_set ?_ GE109.out) | exact HB.out)) hb); have n5_ := Aside0.mk (hbox); have n6_ := Aside0.mk ((by rw [hg]; exact (below_size (by repeat (first | (with_reducible first | exact HB.out | apply below_alloc | apply pw_below_drewN | apply below_drew1 | refine below_set ?_ GE101.out | refine below_set ?_ GE109.out) | exact HB.out))) : w.heap.size ≤ gb128)); have n7_ := Aside0.mk ((by rw [hg]; exact (below_size (by repeat (first | (with_reducible first | exact HB.out | apply below_alloc | apply pw_below_drewN | apply below_drew1 | refine below_set ?_ GE101.out | refine below_set ?_ GE109.out) | exact HB.out))) : w.heap.size ≤ gb128)); have n8_ := Aside0.mk ((by rw [hg]; exact Nat.ne_of_lt (blk_lt (g := gb101) (o := .cells #[.int .u64 0, .slice none 0 0, .slice none 0 0] 27 (0, 0)) (by (with_reducible repeat (first | refine blk_drewN ?_ _ | refine blk_drew ?_ | refine blk_alloc ?_ _)); exact BK101.out)) : gb101 ≠ gb128)); have n9_ := Aside0.mk ((by rw [hg]; exact Nat.ne_of_gt (blk_lt (g := gb101) (o := .cells #[.int .u64 0, .slice none 0 0, .slice none 0 0] 27 (0, 0)) (by (with_reducible repeat (first | refine blk_drewN ?_ _ | refine blk_drew ?_ | refine blk_alloc ?_ _)); exact BK101.out)) : gb128 ≠ gb101)); have n10_ := Aside0.mk ((by rw [hg]; exact Nat.ne_of_lt (blk_lt (g := gb109) (o := .cells #[.int .u64 (IntKind.u64.wrap (rd y105 0)), u110001, u110002] 27 (0, 0)) (by (with_reducible repeat (first | refine blk_drewN ?_ _ | refine blk_drew ?_ | refine blk_alloc ?_ _)); exact BK109.out)) : gb109 ≠ gb128)); have n11_ := Aside0.mk ((by rw [hg]; exact Nat.ne_of_gt (blk_lt (g := gb109) (o := .cells #[.int .u64 (IntKind.u64.wrap (rd y105 0)), u110001, u110002] 27 (0, 0)) (by (with_reducible repeat (first | refine blk_drewN ?_ _ | refine blk_drew ?_ | refine blk_alloc ?_ _)); exact BK109.out)) : gb128 ≠ gb109)); clear HO_110001; clear HO_110002; clear BK101; clear BK109; clear HB; have HO_110001 := n0_; have HO_110002 := n1_; have BK101 := n2_; have BK109 := n3_; have HB := n4_; have BK128 := n5_; have GW128 := n6_; have GE128 := n7_; have NB101_128 := n8_; have NB128_101 := n9_; have NB109_128 := n10_; have NB128_109 := n11_; clear n0_ n1_ n2_ n3_ n4_ n5_ n6_ n7_ n8_ n9_ n10_ n11_; clear hb hbox hg; have hnb72 := NB128_101.out; have hnc72 := NB101_128.out; have hnb73 := NB128_109.out; have hnc73 := NB109_128.out; have hcz74_0 : w71.cell? ⟨gb128, 0, none⟩ = some (.string (⟨#[]⟩ : ByteArray)) := (blk_cell BK128.out 0).trans rfl; have hcz74_1 : w71.cell? ⟨gb128, 1, none⟩ = some (.string (⟨#[]⟩ : ByteArray)) := (blk_cell BK128.out 1).trans rfl; have hcz74_2 : w71.cell? ⟨gb128, 2, none⟩ = some (.int .u64 0) := (blk_cell BK128.out 2).trans rfl; have hcz74_3 : w71.cell? ⟨gb128, 3, none⟩ = some (.int .u64 0) := (blk_cell BK128.out 3).trans rfl; have hcz74_4 : w71.cell? ⟨gb128, 4, none⟩ = some (.bool false) := (blk_cell BK128.out 4).trans rfl; have hfz74_0 := blk_frozen BK128.out 0; have hfz74_1 := blk_frozen BK128.out 1; have hfz74_2 := blk_frozen BK128.out 2; have hfz74_3 := blk_frozen BK128.out 3; have hfz74_4 := blk_frozen BK128.out 4; have hnb75 := NB109_101.out; have hnc75 := NB101_109.out; have hcz76_0 : w71.cell? ⟨gb109, 0, none⟩ = some (.int .u64 (IntKind.u64.wrap (rd y105 0))) := (blk_cell BK109.out 0).trans rfl; have hcz76_1 : w71.cell? ⟨gb109, 1, none⟩ = some (u110001) := (blk_cell BK109.out 1).trans rfl; have hcz76_2 : w71.cell? ⟨gb109, 2, none⟩ = some (u110002) := (blk_cell BK109.out 2).trans rfl; have hfz76_0 := blk_frozen BK109.out 0; have hfz76_1 := blk_frozen BK109.out 1; have hfz76_2 := blk_frozen BK109.out 2; obtain ⟨Ao77, co77, eo77⟩ := Kd.S_slice HO_110001.out; subst eo77))
                  have n0_ : Aside0 (Kd.S k33 33 (((((w71.setCell ⟨gb128, 0, none⟩ (.string t127)).setCell ⟨gb128, 1, none⟩ (.string (⟨#[]⟩ : ByteArray))).setCell ⟨gb128, 2, none⟩ (.int .u64 (IntKind.u64.wrap (Int.tmod x8_57 40)))).setCell ⟨gb128, 3, none⟩ (.int .u64 (IntKind.u64.wrap (wrap64 ((Int.tmod x8_57 40) + (Int.tmod x8_57 7)))))).setCell ⟨gb128, 4, none⟩ (.bool ((Int.tmod x8_57 5) == 4))) w.heap.size (fun _ => True) (.slice Ao77 x110001_1.length co77) x110001_1) := ⟨by (with_reducible repeat (first | apply Kd.S_alloc | apply Kd.S_drewN | apply Kd.S_drew)); exact Kd.S_mono (Kd.S_far (p := ⟨gb128, 4, none⟩) (Kd.S_far (p := ⟨gb128, 3, none⟩) (Kd.S_far (p := ⟨gb128, 2, none⟩) (Kd.S_far (p := ⟨gb128, 1, none⟩) (Kd.S_far (p := ⟨gb128, 0, none⟩) (Kd.S_types HO_110001.out BK128.out (by decide)) (fun _ hk => hk.2) (.string t127)) (fun _ hk => hk.2) (.string (⟨#[]⟩ : ByteArray))) (fun _ hk => hk.2) (.int .u64 (IntKind.u64.wrap (Int.tmod x8_57 40)))) (fun _ hk => hk.2) (.int .u64 (IntKind.u64.wrap (wrap64 ((Int.tmod x8_57 40) + (Int.tmod x8_57 7)))))) (fun _ hk => hk.2) (.bool ((Int.tmod x8_57 5) == 4))) (fun _ hk => trivial)⟩
                  have n1_ : Aside0 (Kd.R k31 31 (((((w71.setCell ⟨gb128, 0, none⟩ (.string t127)).setCell ⟨gb128, 1, none⟩ (.string (⟨#[]⟩ : ByteArray))).setCell ⟨gb128, 2, none⟩ (.int .u64 (IntKind.u64.wrap (Int.tmod x8_57 40)))).setCell ⟨gb128, 3, none⟩ (.int .u64 (IntKind.u64.wrap (wrap64 ((Int.tmod x8_57 40) + (Int.tmod x8_57 7)))))).setCell ⟨gb128, 4, none⟩ (.bool ((Int.tmod x8_57 5) == 4))) w.heap.size (fun k_ => k_ ≠ gb128) u110002 x110002_2) := ⟨by (with_reducible repeat (first | apply Kd.R_alloc | apply Kd.R_drewN | apply Kd.R_drew)); exact Kd.R_mono (Kd.R_far (p := ⟨gb128, 4, none⟩) (Kd.R_far (p := ⟨gb128, 3, none⟩) (Kd.R_far (p := ⟨gb128, 2, none⟩) (Kd.R_far (p := ⟨gb128, 1, none⟩) (Kd.R_far (p := ⟨gb128, 0, none⟩) (Kd.R_mono HO_110002.out (fun k_ hk => (⟨hk, hk.2⟩ : _ ∧ k_ ≠ gb128))) (fun _ hk => hk.2) (.string t127)) (fun _ hk => hk.2) (.string (⟨#[]⟩ : ByteArray))) (fun _ hk => hk.2) (.int .u64 (IntKind.u64.wrap (Int.tmod x8_57 40)))) (fun _ hk => hk.2) (.int .u64 (IntKind.u64.wrap (wrap64 ((Int.tmod x8_57 40) + (Int.tmod x8_57 7)))))) (fun _ hk => hk.2) (.bool ((Int.tmod x8_57 5) == 4))) (fun _ hk => hk.1.2)⟩
                  have n2_ : Aside0 ((((((w71.setCell ⟨gb128, 0, none⟩ (.string t127)).setCell ⟨gb128, 1, none⟩ (.string (⟨#[]⟩ : ByteArray))).setCell ⟨gb128, 2, none⟩ (.int .u64 (IntKind.u64.wrap (Int.tmod x8_57 40)))).setCell ⟨gb128, 3, none⟩ (.int .u64 (IntKind.u64.wrap (wrap64 ((Int.tmod x8_57 40) + (Int.tmod x8_57 7)))))).setCell ⟨gb128, 4, none⟩ (.bool ((Int.tmod x8_57 5) == 4))).heap[gb101]? = some (.cells #[.int .u64 0, .slice none 0 0, .slice none 0 0] 27 (0, 0))) := ⟨by (with_reducible repeat (first | refine blk_drewN ?_ _ | refine blk_drew ?_ | refine blk_alloc ?_ _)); refine blk_far ?_ NB101_128.out _; (with_reducible repeat (first | refine blk_drewN ?_ _ | refine blk_drew ?_ | refine blk_alloc ?_ _)); refine blk_far ?_ NB101_128.out _; (with_reducible repeat (first | refine blk_drewN ?_ _ | refine blk_drew ?_ | refine blk_alloc ?_ _)); refine blk_far ?_ NB101_128.out _; (with_reducible repeat (first | refine blk_drewN ?_ _ | refine blk_drew ?_ | refine blk_alloc ?_ _)); refine blk_far ?_ NB101_128.out _; (with_reducible repeat (first | refine blk_drewN ?_ _ | refine blk_drew ?_ | refine blk_alloc ?_ _)); refine blk_far ?_ NB101_128.out _; (with_reducible repeat (first | refine blk_drewN ?_ _ | refine blk_drew ?_ | refine blk_alloc ?_ _)); exact BK101.out⟩
                  have n3_ : Aside0 ((((((w71.setCell ⟨gb128, 0, none⟩ (.string t127)).setCell ⟨gb128, 1, none⟩ (.string (⟨#[]⟩ : ByteArray))).setCell ⟨gb128, 2, none⟩ (.int .u64 (IntKind.u64.wrap (Int.tmod x8_57 40)))).setCell ⟨gb128, 3, none⟩ (.int .u64 (IntKind.u64.wrap (wrap64 ((Int.tmod x8_57 40) + (Int.tmod x8_57 7)))))).setCell ⟨gb128, 4, none⟩ (.bool ((Int.tmod x8_57 5) == 4))).heap[gb109]? = some (.cells #[.int .u64 (IntKind.u64.wrap (rd y105 0)), .slice Ao77 x110001_1.length co77, u110002] 27 (0, 0))) := ⟨by (with_reducible repeat (first | refine blk_drewN ?_ _ | refine blk_drew ?_ | refine blk_alloc ?_ _)); refine blk_far ?_ NB109_128.out _; (with_reducible repeat (first | refine blk_drewN ?_ _ | refine blk_drew ?_ | refine blk_alloc ?_ _)); refine blk_far ?_ NB109_128.out _; (with_reducible repeat (first | refine blk_drewN ?_ _ | refine blk_drew ?_ | refine blk_alloc ?_ _)); refine blk_far ?_ NB109_128.out _; (with_reducible repeat (first | refine blk_drewN ?_ _ | refine blk_drew ?_ | refine blk_alloc ?_ _)); refine blk_far ?_ NB109_128.out _; (with_reducible repeat (first | refine blk_drewN ?_ _ | refine blk_drew ?_ | refine blk_alloc ?_ _)); refine blk_far ?_ NB109_128.out _; (with_reducible repeat (first | refine blk_drewN ?_ _ | refine blk_drew ?_ | refine blk_alloc ?_ _)); exact BK109.out⟩
                  have n4_ : Aside0 ((((((w71.setCell ⟨gb128, 0, none⟩ (.string t127)).setCell ⟨gb128, 1, none⟩ (.string (⟨#[]⟩ : ByteArray))).setCell ⟨gb128, 2, none⟩ (.int .u64 (IntKind.u64.wrap (Int.tmod x8_57 40)))).setCell ⟨gb128, 3, none⟩ (.int .u64 (IntKind.u64.wrap (wrap64 ((Int.tmod x8_57 40) + (Int.tmod x8_57 7)))))).setCell ⟨gb128, 4, none⟩ (.bool ((Int.tmod x8_57 5) == 4))).heap[gb128]? = some (.cells #[.string t127, .string (⟨#[]⟩ : ByteArray), .int .u64 (IntKind.u64.wrap (Int.tmod x8_57 40)), .int .u64 (IntKind.u64.wrap (wrap64 ((Int.tmod x8_57 40) + (Int.tmod x8_57 7)))), .bool ((Int.tmod x8_57 5) == 4)] 31 (0, 0))) := ⟨by (with_reducible repeat (first | refine blk_drewN ?_ _ | refine blk_drew ?_ | refine blk_alloc ?_ _)); refine blk_put (cs := #[.string t127, .string (⟨#[]⟩ : ByteArray), .int .u64 (IntKind.u64.wrap (Int.tmod x8_57 40)), .int .u64 (IntKind.u64.wrap (wrap64 ((Int.tmod x8_57 40) + (Int.tmod x8_57 7)))), .bool false]) ?_ 4 _ rfl; (with_reducible repeat (first | refine blk_drewN ?_ _ | refine blk_drew ?_ | refine blk_alloc ?_ _)); refine blk_put (cs := #[.string t127, .string (⟨#[]⟩ : ByteArray), .int .u64 (IntKind.u64.wrap (Int.tmod x8_57 40)), .int .u64 0, .bool false]) ?_ 3 _ rfl; (with_reducible repeat (first | refine blk_drewN ?_ _ | refine blk_drew ?_ | refine blk_alloc ?_ _)); refine blk_put (cs := #[.string t127, .string (⟨#[]⟩ : ByteArray), .int .u64 0, .int .u64 0, .bool false]) ?_ 2 _ rfl; (with_reducible repeat (first | refine blk_drewN ?_ _ | refine blk_drew ?_ | refine blk_alloc ?_ _)); refine blk_put (cs := #[.string t127, .string (⟨#[]⟩ : ByteArray), .int .u64 0, .int .u64 0, .bool false]) ?_ 1 _ rfl; (with_reducible repeat (first | refine blk_drewN ?_ _ | refine blk_drew ?_ | refine blk_alloc ?_ _)); refine blk_put (cs := #[.string (⟨#[]⟩ : ByteArray), .string (⟨#[]⟩ : ByteArray), .int .u64 0, .int .u64 0, .bool false]) ?_ 0 _ rfl; (with_reducible repeat (first | refine blk_drewN ?_ _ | refine blk_drew ?_ | refine blk_alloc ?_ _)); exact BK128.out⟩
                  have n5_ : Aside0 (Below w.heap.size w (((((w71.setCell ⟨gb128, 0, none⟩ (.string t127)).setCell ⟨gb128, 1, none⟩ (.string (⟨#[]⟩ : ByteArray))).setCell ⟨gb128, 2, none⟩ (.int .u64 (IntKind.u64.wrap (Int.tmod x8_57 40)))).setCell ⟨gb128, 3, none⟩ (.int .u64 (IntKind.u64.wrap (wrap64 ((Int.tmod x8_57 40) + (Int.tmod x8_57 7)))))).setCell ⟨gb128, 4, none⟩ (.bool ((Int.tmod x8_57 5) == 4)))) := ⟨by repeat (first | (with_reducible first | exact HB.out | apply below_alloc | apply pw_below_drewN | apply below_drew1 | refine below_set ?_ GE101.out | refine below_set ?_ GE109.out | refine below_set ?_ GE128.out) | exact HB.out)⟩
                  (try clear HO_110001)
                  (try clear HO_110002)
                  (try clear BK101)
                  (try clear BK109)
                  (try clear BK128)
                  (try clear HB)
                  generalize (((((w71.setCell ⟨gb128, 0, none⟩ (.string t127)).setCell ⟨gb128, 1, none⟩ (.string (⟨#[]⟩ : ByteArray))).setCell ⟨gb128, 2, none⟩ (.int .u64 (IntKind.u64.wrap (Int.tmod x8_57 40)))).setCell ⟨gb128, 3, none⟩ (.int .u64 (IntKind.u64.wrap (wrap64 ((Int.tmod x8_57 40) + (Int.tmod x8_57 7)))))).setCell ⟨gb128, 4, none⟩ (.bool ((Int.tmod x8_57 5) == 4))) = w78 at n0_ n1_ n2_ n3_ n4_ n5_ ⊢
                  have HO_110001 := n0_
                  have HO_110002 := n1_
                  have BK101 := n2_
                  have BK109 := n3_
                  have BK128 := n4_
                  have HB := n5_
                  clear n0_ n1_ n2_ n3_ n4_ n5_
                  have n0_ := Aside0.mk (Kd.S_drew HO_110001.out)
                  have n1_ := Aside0.mk (Kd.R_drew HO_110002.out)
                  have n2_ := Aside0.mk (blk_drew BK101.out)
                  have n3_ := Aside0.mk (blk_drew BK109.out)
                  have n4_ := Aside0.mk (blk_drew BK128.out)
                  have n5_ := Aside0.mk (below_drew1 HB.out)
                  clear HO_110001
                  clear HO_110002
                  clear BK101
                  clear BK109
                  clear BK128
                  clear HB
                  have HO_110001 := n0_
                  have HO_110002 := n1_
                  have BK101 := n2_
                  have BK109 := n3_
                  have BK128 := n4_
                  have HB := n5_
                  clear n0_ n1_ n2_ n3_ n4_ n5_
                  have p129 : 0 ≤ ((ji66) : Int) := of_decide_eq_true (by first | (with_reducible assumption) | assumption)
                  have q129 : (ji66) < (x110001_1.length : Int) := of_decide_eq_true (by first | (with_reducible assumption) | assumption)
                  obtain ⟨ad129, A129_1, c129_1, A129_2, c129_2, e129, hx129_0, hx129_1, hx129_2, hx129_3, hx129_4, hx129_5, hl129_1, hi129_1, hl129_2, hi129_2⟩ := at_T33 (Kd.S_reads' HO_110001.out).2.2 (ji66) p129 q129
                  cases e129
                  obtain ⟨ce129, hce129, hMe129, hcc129⟩ := Kd.S_get HO_110001.out z33 (ji66) p129 (by first | exact q129 | exact of_decide_eq_true (by first | (with_reducible assumption) | assumption) | (have e_ := (Kd.S_reads' HO_110001.out).1; omega))
                  obtain ⟨ve129_1, ve129_2, rfl, ge129_1, ge129_2⟩ := k33_openM hMe129
                  have hv129_1 := hcc129 1 _ rfl
                  rw [add_field _ _ 1 (by omega)] at hv129_1
                  replace hv129_1 := Option.some.inj (hv129_1.symm.trans hx129_1)
                  rw [hv129_1] at ge129_1
                  have HL129_1 := Aside0.mk (show Kd.R (Kd.int .u8) 5 _ _ _ _ ((rd_T33 x110001_1 (ji66)).f1) from ge129_1)
                  clear hv129_1 ge129_1
                  have hv129_2 := hcc129 2 _ rfl
                  rw [add_field _ _ 2 (by omega)] at hv129_2
                  replace hv129_2 := Option.some.inj (hv129_2.symm.trans hx129_2)
                  rw [hv129_2] at ge129_2
                  have HL129_2 := Aside0.mk (show Kd.R (Kd.int .u8) 5 _ _ _ _ ((rd_T33 x110001_1 (ji66)).f2) from ge129_2)
                  clear hv129_2 ge129_2
                  clear hcc129 hce129
                  have HR129_1 := Aside0.mk hi129_1
                  have HC129_1 := Aside0.mk hl129_1
                  clear hi129_1 hl129_1
                  have HR129_2 := Aside0.mk hi129_2
                  have HC129_2 := Aside0.mk hl129_2
                  clear hi129_2 hl129_2
                  replace p129 := eq_true p129
                  replace q129 := eq_true q129
                  refine start_ (n := 12) (S := fun w' => w'.cell? ⟨gb109, 0, none⟩ = some (.int .u64 (IntKind.u64.wrap (rd y105 0))) ∧ w'.cell? ⟨gb109, 1, none⟩ = some (.slice (some ad129) x110001_1.length co77) ∧ w'.cell? ⟨gb109, 2, none⟩ = some (u110002) ∧ w'.cell? (ad129.add (((ji66)).toNat * 6)) = some (.string ((rd_T33 x110001_1 (ji66)).f0)) ∧ w'.cell? ⟨(ad129.add (((ji66)).toNat * 6)).block, (ad129.add (((ji66)).toNat * 6)).off + 1, none⟩ = some (.slice A129_1 ((rd_T33 x110001_1 (ji66)).f1).length c129_1) ∧ w'.cell? ⟨(ad129.add (((ji66)).toNat * 6)).block, (ad129.add (((ji66)).toNat * 6)).off + 2, none⟩ = some (.slice A129_2 ((rd_T33 x110001_1 (ji66)).f2).length c129_2) ∧ w'.cell? ⟨(ad129.add (((ji66)).toNat * 6)).block, (ad129.add (((ji66)).toNat * 6)).off + 3, none⟩ = some (.string ((rd_T33 x110001_1 (ji66)).f3)) ∧ w'.cell? ⟨(ad129.add (((ji66)).toNat * 6)).block, (ad129.add (((ji66)).toNat * 6)).off + 4, none⟩ = some (.int .i64 ((rd_T33 x110001_1 (ji66)).f4)) ∧ w'.cell? ⟨(ad129.add (((ji66)).toNat * 6)).block, (ad129.add (((ji66)).toNat * 6)).off + 5, none⟩ = some (.int .u64 ((rd_T33 x110001_1 (ji66)).f5))) (ds := []) #[false, false, false, false, false, false, false, false, false, false, false, false] (by kernel_rfl) rfl rfl ⟨(blk_cell BK109.out 0).trans rfl, (blk_cell BK109.out 1).trans rfl, (blk_cell BK109.out 2).trans rfl, hx129_0, hx129_1, hx129_2, hx129_3, hx129_4, hx129_5⟩ (fun hHeld => ?_); refine with_tabW wicketmanlaw16_State.tab20 wicketmanlaw16_State.bits20 (fun HT_ HW_ => ?_)
                  generalize w78.drew = w79 at HO_110001 HO_110002 BK101 BK109 BK128 HB HL129_1 HL129_2 HR129_1 HR129_2 hx129_0 hx129_1 hx129_2 hx129_3 hx129_4 hx129_5 hHeld ⊢
                  refine pure_ (i := 0) (N := some 100) (v := ?_) (a' := ?_) #[true, false, false, false, false, false, false, false, false, false, false, false] rfl rfl (any_of HT_.out (by kernel_rfl)) (fun _ _ _ h => h) (Or.inl ⟨by rfl, ?_⟩) ?_ ?_
                  rotate_left
                  ·intro w'
                   go_simp
                   with_reducible rfl
                  rotate_left
                  ·simp only [Act.put, List.setIfInBounds_toArray, List.set_cons_zero, List.set_cons_succ, i64_w, i32_w]
                   rfl
                  refine pure_ (i := 2) (N := some 102) (v := ?_) (a' := ?_) #[true, false, true, false, false, false, false, false, false, false, false, false] rfl rfl (any_of HT_.out (by kernel_rfl)) (fun _ _ _ h => h) (Or.inl ⟨by rfl, ?_⟩) ?_ ?_
                  rotate_left
                  ·intro w'
                   go_simp
                   with_reducible rfl
                  rotate_left
                  ·simp only [Act.put, List.setIfInBounds_toArray, List.set_cons_zero, List.set_cons_succ, i64_w, i32_w]
                   rfl
                  refine pure_ (i := 3) (N := some 103) (v := ?_) (a' := ?_) #[true, false, true, true, false, false, false, false, false, false, false, false] rfl rfl (any_of HT_.out (by kernel_rfl)) (fun _ _ _ h => h) (Or.inl ⟨by rfl, ?_⟩) ?_ ?_
                  rotate_left
                  ·intro w'
                   go_simp
                   with_reducible rfl
                  rotate_left
                  ·simp only [Act.put, List.setIfInBounds_toArray, List.set_cons_zero, List.set_cons_succ, i64_w, i32_w]
                   rfl
                  refine take_ (i := 1) (N := some 101) (v := ?_) (a' := ?_) #[true, true, true, true, false, false, false, false, false, false, false, false] rfl rfl (take_ofW HT_.out HW_.out (by kernel_rfl)) (fun _ _ _ h => h) (Or.inl ⟨by rfl, ?_⟩) hHeld ?_ ?_
                  rotate_left
                  ·rintro w' ⟨s0, s1, s2, s3, s4, s5, s6, s7, s8⟩
                   go_simp
                   with_reducible rfl
                  rotate_left
                  ·simp only [Act.put, List.setIfInBounds_toArray, List.set_cons_zero, List.set_cons_succ, i64_w, i32_w]
                   rfl
                  refine take_ (i := 4) (N := some 104) (v := ?_) (a' := ?_) #[true, true, true, true, true, false, false, false, false, false, false, false] rfl rfl (take_ofW HT_.out HW_.out (by kernel_rfl)) (fun _ _ _ h => h) (Or.inl ⟨by rfl, ?_⟩) hHeld ?_ ?_
                  rotate_left
                  ·rintro w' ⟨s0, s1, s2, s3, s4, s5, s6, s7, s8⟩
                   go_simp
                   with_reducible rfl
                  rotate_left
                  ·simp only [Act.put, List.setIfInBounds_toArray, List.set_cons_zero, List.set_cons_succ, i64_w, i32_w]
                   rfl
                  refine pure_ (i := 5) (N := some 105) (v := ?_) (a' := ?_) #[true, true, true, true, true, true, false, false, false, false, false, false] rfl rfl (any_of HT_.out (by kernel_rfl)) (fun _ _ _ h => h) (Or.inl ⟨by rfl, ?_⟩) ?_ ?_
                  rotate_left
                  ·intro w'
                   go_simp
                   with_reducible rfl
                  rotate_left
                  ·simp only [Act.put, List.setIfInBounds_toArray, List.set_cons_zero, List.set_cons_succ, i64_w, i32_w]
                   rfl
                  refine pure_ (i := 6) (N := some 106) (v := ?_) (a' := ?_) #[true, true, true, true, true, true, true, false, false, false, false, false] rfl rfl (any_of HT_.out (by kernel_rfl)) (fun _ _ _ h => h) (Or.inl ⟨by rfl, ?_⟩) ?_ ?_
                  rotate_left
                  ·intro w'
                   go_simp
                   with_reducible rfl
                  rotate_left
                  ·simp only [Act.put, List.setIfInBounds_toArray, List.set_cons_zero, List.set_cons_succ, i64_w, i32_w]
                   rfl
                  refine pure_ (i := 7) (N := some 107) (v := ?_) (a' := ?_) #[true, true, true, true, true, true, true, true, false, false, false, false] rfl rfl (any_of HT_.out (by kernel_rfl)) (fun _ _ _ h => h) (Or.inl ⟨by rfl, ?_⟩) ?_ ?_
                  rotate_left
                  ·intro w'
                   go_simp
                   with_reducible rfl
                  rotate_left
                  ·simp only [Act.put, List.setIfInBounds_toArray, List.set_cons_zero, List.set_cons_succ, i64_w, i32_w]
                   rfl
                  refine pure_ (i := 8) (N := some 108) (v := ?_) (a' := ?_) #[true, true, true, true, true, true, true, true, true, false, false, false] rfl rfl (any_of HT_.out (by kernel_rfl)) (fun _ _ _ h => h) (Or.inl ⟨by rfl, ?_⟩) ?_ ?_
                  rotate_left
                  ·intro w'
                   go_simp
                   with_reducible rfl
                  rotate_left
                  ·simp only [Act.put, List.setIfInBounds_toArray, List.set_cons_zero, List.set_cons_succ, i64_w, i32_w]
                   rfl
                  refine take_ (i := 9) (N := some 109) (v := ?_) (a' := ?_) #[true, true, true, true, true, true, true, true, true, true, false, false] rfl rfl (take_ofW HT_.out HW_.out (by kernel_rfl)) (fun _ _ _ h => h) (Or.inl ⟨by rfl, ?_⟩) hHeld ?_ ?_
                  rotate_left
                  ·rintro w' ⟨s0, s1, s2, s3, s4, s5, s6, s7, s8⟩
                   go_simp
                   with_reducible rfl
                  rotate_left
                  ·simp only [Act.put, List.setIfInBounds_toArray, List.set_cons_zero, List.set_cons_succ, i64_w, i32_w]
                   rfl
                  refine pure_ (i := 10) (N := some 110) (v := ?_) (a' := ?_) #[true, true, true, true, true, true, true, true, true, true, true, false] rfl rfl (any_of HT_.out (by kernel_rfl)) (fun _ _ _ h => h) (Or.inl ⟨by rfl, ?_⟩) ?_ ?_
                  rotate_left
                  ·intro w'
                   go_simp
                   with_reducible rfl
                  rotate_left
                  ·simp only [Act.put, List.setIfInBounds_toArray, List.set_cons_zero, List.set_cons_succ, i64_w, i32_w]
                   rfl
                  refine one_ (i := 11) (N := none) #[true, true, true, true, true, true, true, true, true, true, true, true] rfl rfl (one_of HT_.out (by kernel_rfl)) (by decide) (fun K hK => ?_)
                  have hs80 : w79.cell? ⟨gb128, 1, none⟩ = some (.string (⟨#[]⟩ : ByteArray)) := (blk_cell BK128.out 1).trans rfl
                  have hfs80 := blk_frozen BK128.out 1
                  have hns80_0 := NB101_128.out
                  have hns80_1 := NB109_128.out
                  have hms80_0 := NB128_101.out
                  have hms80_1 := NB128_109.out
                  refine skip_ (w1 := ?_) (by rfl) rfl ?_ ?_
                  rotate_left
                  ·go_simp
                   rfl
                  refine hK.out _ _ ⟨((cell_far (p := ⟨gb128, _, none⟩) NB109_128.out _).trans (hHeld.1)), ((cell_far (p := ⟨gb128, _, none⟩) NB109_128.out _).trans (hHeld.2.1)), ((cell_far (p := ⟨gb128, _, none⟩) NB109_128.out _).trans (hHeld.2.2.1)), ((cell_far (p := ⟨gb128, _, none⟩) (by first | exact Kd.own_blk (Kd.S_ne HO_110001.out BK128.out (by decide)) | (rw [add_block]; exact Kd.own_blk (Kd.S_ne HO_110001.out BK128.out (by decide))) | (show (Addr.add _ _).block ≠ _; rw [add_block]; exact Kd.own_blk (Kd.S_ne HO_110001.out BK128.out (by decide))) | (dsimp only; exact Kd.own_blk (Kd.S_ne HO_110001.out BK128.out (by decide)))) _).trans (hHeld.2.2.2.1)), ((cell_far (p := ⟨gb128, _, none⟩) (by first | exact Kd.own_blk (Kd.S_ne HO_110001.out BK128.out (by decide)) | (rw [add_block]; exact Kd.own_blk (Kd.S_ne HO_110001.out BK128.out (by decide))) | (show (Addr.add _ _).block ≠ _; rw [add_block]; exact Kd.own_blk (Kd.S_ne HO_110001.out BK128.out (by decide))) | (dsimp only; exact Kd.own_blk (Kd.S_ne HO_110001.out BK128.out (by decide)))) _).trans (hHeld.2.2.2.2.1)), ((cell_far (p := ⟨gb128, _, none⟩) (by first | exact Kd.own_blk (Kd.S_ne HO_110001.out BK128.out (by decide)) | (rw [add_block]; exact Kd.own_blk (Kd.S_ne HO_110001.out BK128.out (by decide))) | (show (Addr.add _ _).block ≠ _; rw [add_block]; exact Kd.own_blk (Kd.S_ne HO_110001.out BK128.out (by decide))) | (dsimp only; exact Kd.own_blk (Kd.S_ne HO_110001.out BK128.out (by decide)))) _).trans (hHeld.2.2.2.2.2.1)), ((cell_far (p := ⟨gb128, _, none⟩) (by first | exact Kd.own_blk (Kd.S_ne HO_110001.out BK128.out (by decide)) | (rw [add_block]; exact Kd.own_blk (Kd.S_ne HO_110001.out BK128.out (by decide))) | (show (Addr.add _ _).block ≠ _; rw [add_block]; exact Kd.own_blk (Kd.S_ne HO_110001.out BK128.out (by decide))) | (dsimp only; exact Kd.own_blk (Kd.S_ne HO_110001.out BK128.out (by decide)))) _).trans (hHeld.2.2.2.2.2.2.1)), ((cell_far (p := ⟨gb128, _, none⟩) (by first | exact Kd.own_blk (Kd.S_ne HO_110001.out BK128.out (by decide)) | (rw [add_block]; exact Kd.own_blk (Kd.S_ne HO_110001.out BK128.out (by decide))) | (show (Addr.add _ _).block ≠ _; rw [add_block]; exact Kd.own_blk (Kd.S_ne HO_110001.out BK128.out (by decide))) | (dsimp only; exact Kd.own_blk (Kd.S_ne HO_110001.out BK128.out (by decide)))) _).trans (hHeld.2.2.2.2.2.2.2.1)), ((cell_far (p := ⟨gb128, _, none⟩) (by first | exact Kd.own_blk (Kd.S_ne HO_110001.out BK128.out (by decide)) | (rw [add_block]; exact Kd.own_blk (Kd.S_ne HO_110001.out BK128.out (by decide))) | (show (Addr.add _ _).block ≠ _; rw [add_block]; exact Kd.own_blk (Kd.S_ne HO_110001.out BK128.out (by decide))) | (dsimp only; exact Kd.own_blk (Kd.S_ne HO_110001.out BK128.out (by decide)))) _).trans (hHeld.2.2.2.2.2.2.2.2))⟩ (fun hHeld => ?_)
                  clear hK K
                  refine done_ (done_of HT_.out (by kernel_rfl)) ?_
                  have hcz81_0 : w79.cell? ⟨gb109, 0, none⟩ = some (.int .u64 (IntKind.u64.wrap (rd y105 0))) := (blk_cell BK109.out 0).trans rfl
                  have hcz81_1 : w79.cell? ⟨gb109, 1, none⟩ = some (.slice (some ad129) x110001_1.length co77) := (blk_cell BK109.out 1).trans rfl
                  have hcz81_2 : w79.cell? ⟨gb109, 2, none⟩ = some (u110002) := (blk_cell BK109.out 2).trans rfl
                  have hfz81_0 := blk_frozen BK109.out 0
                  have hfz81_1 := blk_frozen BK109.out 1
                  have hfz81_2 := blk_frozen BK109.out 2
                  have hcz82_0 : w79.cell? ⟨gb128, 0, none⟩ = some (.string t127) := (blk_cell BK128.out 0).trans rfl
                  have hcz82_1 : w79.cell? ⟨gb128, 1, none⟩ = some (.string (⟨#[]⟩ : ByteArray)) := (blk_cell BK128.out 1).trans rfl
                  have hcz82_2 : w79.cell? ⟨gb128, 2, none⟩ = some (.int .u64 (IntKind.u64.wrap (Int.tmod x8_57 40))) := (blk_cell BK128.out 2).trans rfl
                  have hcz82_3 : w79.cell? ⟨gb128, 3, none⟩ = some (.int .u64 (IntKind.u64.wrap (wrap64 ((Int.tmod x8_57 40) + (Int.tmod x8_57 7))))) := (blk_cell BK128.out 3).trans rfl
                  have hcz82_4 : w79.cell? ⟨gb128, 4, none⟩ = some (.bool ((Int.tmod x8_57 5) == 4)) := (blk_cell BK128.out 4).trans rfl
                  have hfz82_0 := blk_frozen BK128.out 0
                  have hfz82_1 := blk_frozen BK128.out 1
                  have hfz82_2 := blk_frozen BK128.out 2
                  have hfz82_3 := blk_frozen BK128.out 3
                  have hfz82_4 := blk_frozen BK128.out 4
                  try go_wp2_with (first | ((with_reducible refine gate_builtin (b := .append) (xs := #[.tmp 112, .tmp 114]) rfl ?_); at_builtin; refine Kd.R_append k31 (w0 := w) w.heap.size rfl (.tmp 112) (.tmp 114) 25 31 (.agg #[(.string ⟨#[]⟩), (.string ⟨#[]⟩), (.int .u64 0), (.int .u64 0), (.bool false)]) 56 rfl Tryd.underlying25 info31 rfl (by decide) (by omega) u110002 x110002_2 (⟨t127, (rd_T33 x110001_1 (ji66)).f0, IntKind.u64.wrap (Int.tmod x8_57 40), IntKind.u64.wrap (wrap64 ((Int.tmod x8_57 40) + (Int.tmod x8_57 7))), ((Int.tmod x8_57 5) == 4)⟩ : S31) [.string t127, .string ((rd_T33 x110001_1 (ji66)).f0), .int .u64 (IntKind.u64.wrap (Int.tmod x8_57 40)), .int .u64 (IntKind.u64.wrap (wrap64 ((Int.tmod x8_57 40) + (Int.tmod x8_57 7)))), .bool ((Int.tmod x8_57 5) == 4)] (fun k_ => k_ ≠ gb128) (fun _ => False) rfl (by first | (go_simp; done) | (go_simp; rfl)) ?aP (fun _ hk => hk.elim) ?aF ?aO ?aB ?aS ?aL ?_; (case aP => exact k31_mkM _ _ _ (⟨t127, (rd_T33 x110001_1 (ji66)).f0, IntKind.u64.wrap (Int.tmod x8_57 40), IntKind.u64.wrap (wrap64 ((Int.tmod x8_57 40) + (Int.tmod x8_57 7))), ((Int.tmod x8_57 5) == 4)⟩ : S31)); (case aB => exact (by repeat (first | (with_reducible first | exact HB.out | apply below_alloc | apply pw_below_drewN | apply below_drew1 | refine below_set ?_ GE101.out | refine below_set ?_ GE109.out | refine below_set ?_ GE128.out) | exact HB.out))); (case aF => exact (fun k_ hk => Kd.freshB (g := gb128) (o := .cells #[.string t127, .string ((rd_T33 x110001_1 (ji66)).f0), .int .u64 (IntKind.u64.wrap (Int.tmod x8_57 40)), .int .u64 (IntKind.u64.wrap (wrap64 ((Int.tmod x8_57 40) + (Int.tmod x8_57 7)))), .bool ((Int.tmod x8_57 5) == 4)] 31 (0, 0)) (by (with_reducible repeat (first | refine blk_drewN ?_ _ | refine blk_drew ?_ | refine blk_alloc ?_ _)); refine blk_put (cs := #[.string t127, .string (⟨#[]⟩ : ByteArray), .int .u64 (IntKind.u64.wrap (Int.tmod x8_57 40)), .int .u64 (IntKind.u64.wrap (wrap64 ((Int.tmod x8_57 40) + (Int.tmod x8_57 7)))), .bool ((Int.tmod x8_57 5) == 4)]) ?_ 1 _ rfl; (with_reducible repeat (first | refine blk_drewN ?_ _ | refine blk_drew ?_ | refine blk_alloc ?_ _)); exact BK128.out) k_ hk)); (case aO => exact (by (with_reducible repeat (first | apply Kd.R_alloc | apply Kd.R_drewN | apply Kd.R_drew)); exact Kd.R_mono (Kd.R_far (p := ⟨gb128, 1, none⟩) (Kd.R_mono HO_110002.out (fun k_ hk => (⟨hk, hk⟩ : _ ∧ k_ ≠ gb128))) (fun _ hk => hk.2) (.string ((rd_T33 x110001_1 (ji66)).f0))) (fun _ hk => hk.1))); (case aS => exact (below_size (by repeat (first | (with_reducible first | exact HB.out | apply below_alloc | apply pw_below_drewN | apply below_drew1 | refine below_set ?_ GE101.out | refine below_set ?_ GE109.out | refine below_set ?_ GE128.out) | exact HB.out)))); (case aL => have := LMc69.out; omega); intro v131 w83 ho hb hg hat; rw [← Ny130.out] at ho; have n0_ := Aside0.mk (Kd.S_over' (by (with_reducible repeat (first | apply Kd.S_alloc | apply Kd.S_drewN | apply Kd.S_drew)); exact (Kd.S_mono (Kd.S_far (p := ⟨gb128, 1, none⟩) (Kd.S_types HO_110001.out BK128.out (by decide)) (fun _ hk => hk.2) (.string ((rd_T33 x110001_1 (ji66)).f0))) (fun _ h_ => h_.1))) (Kd.R_typed (by (with_reducible repeat (first | apply Kd.R_alloc | apply Kd.R_drewN | apply Kd.R_drew)); exact (Kd.R_mono (Kd.R_far (p := ⟨gb128, 1, none⟩) (Kd.R_mono HO_110002.out (fun k_ hk => (⟨hk, hk⟩ : _ ∧ k_ ≠ gb128))) (fun _ hk => hk.2) (.string ((rd_T33 x110001_1 (ji66)).f0))) (fun _ h_ => h_.1)))) (by decide) hg); have n1_ := Aside0.mk (blk_grown (g := gb101) (o := .cells #[.int .u64 0, .slice none 0 0, .slice none 0 0] 27 (0, 0)) (by (with_reducible repeat (first | refine blk_drewN ?_ _ | refine blk_drew ?_ | refine blk_alloc ?_ _)); refine blk_far ?_ NB101_128.out _; (with_reducible repeat (first | refine blk_drewN ?_ _ | refine blk_drew ?_ | refine blk_alloc ?_ _)); exact BK101.out) hg (Kd.R_ne HO_110002.out BK101.out (by decide))); have n2_ := Aside0.mk (blk_grown (g := gb109) (o := .cells #[.int .u64 (IntKind.u64.wrap (rd y105 0)), .slice (some ad129) x110001_1.length co77, u110002] 27 (0, 0)) (by (with_reducible repeat (first | refine blk_drewN ?_ _ | refine blk_drew ?_ | refine blk_alloc ?_ _)); refine blk_far ?_ NB109_128.out _; (with_reducible repeat (first | refine blk_drewN ?_ _ | refine blk_drew ?_ | refine blk_alloc ?_ _)); exact BK109.out) hg (Kd.R_ne HO_110002.out BK109.out (by decide))); have n3_ := Aside0.mk (blk_grown (g := gb128) (o := .cells #[.string t127, .string ((rd_T33 x110001_1 (ji66)).f0), .int .u64 (IntKind.u64.wrap (Int.tmod x8_57 40)), .int .u64 (IntKind.u64.wrap (wrap64 ((Int.tmod x8_57 40) + (Int.tmod x8_57 7)))), .bool ((Int.tmod x8_57 5) == 4)] 31 (0, 0)) (by (with_reducible repeat (first | refine blk_drewN ?_ _ | refine blk_drew ?_ | refine blk_alloc ?_ _)); refine blk_put (cs := #[.string t127, .string (⟨#[]⟩ : ByteArray), .int .u64 (IntKind.u64.wrap (Int.tmod x8_57 40)), .int .u64 (IntKind.u64.wrap (wrap64 ((Int.tmod x8_57 40) + (Int.tmod x8_57 7)))), .bool ((Int.tmod x8_57 5) == 4)]) ?_ 1 _ rfl; (with_reducible repeat (first | refine blk_drewN ?_ _ | refine blk_drew ?_ | refine blk_alloc ?_ _)); exact BK128.out) hg (Kd.R_away HO_110002.out (fun _ hk => hk))); have n4_ := Aside0.mk (Kd.R_over' (by (with_reducible repeat (first | apply Kd.R_alloc | apply Kd.R_drewN | apply Kd.R_drew)); exact (Kd.R_mono (Kd.R_far (p := ⟨gb128, 1, none⟩) (Kd.R_types HL129_1.out BK128.out (by decide)) (fun _ hk => hk.2) (.string ((rd_T33 x110001_1 (ji66)).f0))) (fun _ h_ => h_.1))) (Kd.R_typed (by (with_reducible repeat (first | apply Kd.R_alloc | apply Kd.R_drewN | apply Kd.R_drew)); exact (Kd.R_mono (Kd.R_far (p := ⟨gb128, 1, none⟩) (Kd.R_mono HO_110002.out (fun k_ hk => (⟨hk, hk⟩ : _ ∧ k_ ≠ gb128))) (fun _ hk => hk.2) (.string ((rd_T33 x110001_1 (ji66)).f0))) (fun _ h_ => h_.1)))) (by decide) hg); have n5_ := Aside0.mk (Kd.R_over' (by (with_reducible repeat (first | apply Kd.R_alloc | apply Kd.R_drewN | apply Kd.R_drew)); exact (Kd.R_mono (Kd.R_far (p := ⟨gb128, 1, none⟩) (Kd.R_types HL129_2.out BK128.out (by decide)) (fun _ hk => hk.2) (.string ((rd_T33 x110001_1 (ji66)).f0))) (fun _ h_ => h_.1))) (Kd.R_typed (by (with_reducible repeat (first | apply Kd.R_alloc | apply Kd.R_drewN | apply Kd.R_drew)); exact (Kd.R_mono (Kd.R_far (p := ⟨gb128, 1, none⟩) (Kd.R_mono HO_110002.out (fun k_ hk => (⟨hk, hk⟩ : _ ∧ k_ ≠ gb128))) (fun _ hk => hk.2) (.string ((rd_T33 x110001_1 (ji66)).f0))) (fun _ h_ => h_.1)))) (by decide) hg); have n6_ := Aside0.mk (hb); have n7_ := Aside0.mk (ho); clear HO_110001; clear BK101; clear BK109; clear BK128; clear HL129_1; clear HL129_2; clear HB; clear HO_110002; have HO_110001 := n0_; have BK101 := n1_; have BK109 := n2_; have BK128 := n3_; have HL129_1 := n4_; have HL129_2 := n5_; have HB := n6_; have HO132 := n7_; clear n0_ n1_ n2_ n3_ n4_ n5_ n6_ n7_; clear ho hb hg hat; obtain ⟨Ao84, co84, eo84⟩ := Kd.R_slice HO132.out; subst eo84; have hcz85_0 : w83.cell? ⟨gb109, 0, none⟩ = some (.int .u64 (IntKind.u64.wrap (rd y105 0))) := (blk_cell BK109.out 0).trans rfl; have hcz85_1 : w83.cell? ⟨gb109, 1, none⟩ = some (.slice (some ad129) x110001_1.length co77) := (blk_cell BK109.out 1).trans rfl; have hcz85_2 : w83.cell? ⟨gb109, 2, none⟩ = some (u110002) := (blk_cell BK109.out 2).trans rfl; have hfz85_0 := blk_frozen BK109.out 0; have hfz85_1 := blk_frozen BK109.out 1; have hfz85_2 := blk_frozen BK109.out 2))
                  go_roundg kj57
                  case measure => have := HK1.out; have := HK2.out; have := HJ57.out; omega
                  case rel => exact ⟨(wrap64 (x7_2 + 1)), (y130), (.slice Ao84 y130.length co84), (by first | rfl | (simp; done) | (simp [*]; done)), H', ⟨by have := HK1.out; have := HK2.out; have := HJ57.out; omega⟩, ⟨by (try simp only [hl3_1]); (with_reducible repeat (first | apply Kd.S_alloc | apply Kd.S_drewN | apply Kd.S_drew)); exact Kd.S_mono (Kd.S_far (p := ⟨gb109, 2, none⟩) (Kd.S_types HO_110001.out BK109.out (by decide)) (fun _ hk => hk.2) (.slice Ao84 y130.length co84)) (fun _ hk => trivial)⟩, ⟨by (try simp only [hl3_1]); (with_reducible repeat (first | apply Kd.R_alloc | apply Kd.R_drewN | apply Kd.R_drew)); exact Kd.R_mono (Kd.R_far (p := ⟨gb109, 2, none⟩) (Kd.R_types HO132.out BK109.out (by decide)) (fun _ hk => hk.2) (.slice Ao84 y130.length co84)) (fun _ hk => trivial)⟩, ⟨by (try simp only [hl3_1]); (with_reducible repeat (first | refine blk_drewN ?_ _ | refine blk_drew ?_ | refine blk_alloc ?_ _)); refine blk_far ?_ NB101_109.out _; (with_reducible repeat (first | refine blk_drewN ?_ _ | refine blk_drew ?_ | refine blk_alloc ?_ _)); exact BK101.out⟩, ⟨by (try simp only [hl3_1]); (with_reducible repeat (first | refine blk_drewN ?_ _ | refine blk_drew ?_ | refine blk_alloc ?_ _)); refine blk_put (cs := #[.int .u64 (IntKind.u64.wrap (rd y105 0)), .slice (some ad129) x110001_1.length co77, u110002]) ?_ 2 _ rfl; (with_reducible repeat (first | refine blk_drewN ?_ _ | refine blk_drew ?_ | refine blk_alloc ?_ _)); exact BK109.out⟩, ⟨by repeat (first | (with_reducible first | exact HB.out | apply below_alloc | apply pw_below_drewN | apply below_drew1 | refine below_set ?_ GE101.out | refine below_set ?_ GE109.out | refine below_set ?_ GE128.out) | exact HB.out)⟩⟩
                 ·rw [if_neg c69] at H
                  exact absurd H (by simp)
                ·rw [if_neg c68] at H
                 exact absurd H (by simp)
               ·rw [if_neg c67] at H
                exact absurd H (by simp)
             ·rw [if_neg c64] at H
              have c64b0 : decide (0 < (Int.tmod x8_57 4)) = false := decide_eq_false c64
              clear c64
              by_cases c86 : x110002_2.length < 2513169434916
              ·rw [if_pos c86] at H
               have LMc86 := Aside0.mk c86
               clear c86
               obtain ⟨y133, hy133⟩ : ∃ y_ : List (S31), y_ = (x110002_2 ++ [(⟨t127, (⟨#[]⟩ : ByteArray), IntKind.u64.wrap (Int.tmod x8_57 40), IntKind.u64.wrap (wrap64 ((Int.tmod x8_57 40) + (Int.tmod x8_57 7))), ((Int.tmod x8_57 5) == 4)⟩ : S31)]) := ⟨_, rfl⟩
               replace H : (wicketmanlaw16_State.l1 kj57 l0 (wrap64 (x7_2 + 1)) (IntKind.u64.wrap (rd y105 0)) x110001_1 y133) = some (r1, r2, r3) := by first | (rw [hy133]; with_reducible exact H) | (have H2_ := (Option.bind_some _ _).symm.trans H; rw [hy133]; with_reducible exact H2_) | (have H2_ := (Option.bind_some _ _).symm.trans H; with_reducible exact H2_) | with_reducible exact H | (rw [hy133]; exact H) | exact H
               have Ny133 := Aside0.mk hy133
               clear hy133
               have H' := Aside0.mk H
               clear H
               go_wp2_with (first | ((with_reducible refine gate_callee (f := 28) rfl ?_); refine goesL_ (some 77) rfl rfl Tryd.func28 (by kernel_rfl) rfl #[.int .u8 ((x7_2) % 256)] rfl (by (try simp only [List.map_toArray, List.map_cons, List.map_nil]); first | done | rfl | (simp only [List.length_drop, List.length_take]; rfl)) ?_; (with_reducible refine (wicketmanlaw16_ID.calls ((x7_2) % 256) t127 _ A62.out).mono ?_); rintro e w87 ⟨rfl, hb⟩; refine ⟨_, rfl, ?_⟩; have n0_ := Aside0.mk (Kd.S_below (by (with_reducible repeat (first | apply Kd.S_alloc | apply Kd.S_drewN | apply Kd.S_drew)); exact HO_110001.out) hb); have n1_ := Aside0.mk (Kd.R_below (by (with_reducible repeat (first | apply Kd.R_alloc | apply Kd.R_drewN | apply Kd.R_drew)); exact HO_110002.out) hb); have n2_ := Aside0.mk (blk_below (g := gb101) (o := .cells #[.int .u64 0, .slice none 0 0, .slice none 0 0] 27 (0, 0)) (by (with_reducible repeat (first | refine blk_drewN ?_ _ | refine blk_drew ?_ | refine blk_alloc ?_ _)); exact BK101.out) hb); have n3_ := Aside0.mk (blk_below (g := gb109) (o := .cells #[.int .u64 (IntKind.u64.wrap (rd y105 0)), u110001, u110002] 27 (0, 0)) (by (with_reducible repeat (first | refine blk_drewN ?_ _ | refine blk_drew ?_ | refine blk_alloc ?_ _)); exact BK109.out) hb); have n4_ := Aside0.mk (below_step (by repeat (first | (with_reducible first | exact HB.out | apply below_alloc | apply pw_below_drewN | apply below_drew1 | refine below_set ?_ GE101.out | refine below_set ?_ GE109.out) | exact HB.out)) hb); clear HO_110001; clear HO_110002; clear BK101; clear BK109; clear HB; have HO_110001 := n0_; have HO_110002 := n1_; have BK101 := n2_; have BK109 := n3_; have HB := n4_; clear n0_ n1_ n2_ n3_ n4_; (try clear hb); (try clear hb2); (try clear hk); (try clear hi)) | ((with_reducible refine gate_dst (N := 9) rfl ?_); refine box_event ?hg (N := 9) ?hd (cs := #[.string (⟨#[]⟩ : ByteArray), .string (⟨#[]⟩ : ByteArray), .int .u64 0, .int .u64 0, .bool false]) (t := 31) ?hr ?_; (case hd => rfl); (case hg => rfl); (case hr => first | (go_simp; done) | (go_simp; rfl)); intro gb128 hg w88 hbox hb; have n0_ := Aside0.mk (Kd.S_below (by (with_reducible repeat (first | apply Kd.S_alloc | apply Kd.S_drewN | apply Kd.S_drew)); exact HO_110001.out) hb); have n1_ := Aside0.mk (Kd.R_below (Kd.R_elderB (by (with_reducible repeat (first | apply Kd.R_alloc | apply Kd.R_drewN | apply Kd.R_drew)); exact HO_110002.out) gb128 (Nat.le_of_eq hg.symm)) hb); have n2_ := Aside0.mk (blk_below (g := gb101) (o := .cells #[.int .u64 0, .slice none 0 0, .slice none 0 0] 27 (0, 0)) (by (with_reducible repeat (first | refine blk_drewN ?_ _ | refine blk_drew ?_ | refine blk_alloc ?_ _)); exact BK101.out) hb); have n3_ := Aside0.mk (blk_below (g := gb109) (o := .cells #[.int .u64 (IntKind.u64.wrap (rd y105 0)), u110001, u110002] 27 (0, 0)) (by (with_reducible repeat (first | refine blk_drewN ?_ _ | refine blk_drew ?_ | refine blk_alloc ?_ _)); exact BK109.out) hb); have n4_ := Aside0.mk (below_step (by repeat (first | (with_reducible first | exact HB.out | apply below_alloc | apply pw_below_drewN | apply below_drew1 | refine below_set ?_ GE101.out | refine below_set ?_ GE109.out) | exact HB.out)) hb); have n5_ := Aside0.mk (hbox); have n6_ := Aside0.mk ((by rw [hg]; exact (below_size (by repeat (first | (with_reducible first | exact HB.out | apply below_alloc | apply pw_below_drewN | apply below_drew1 | refine below_set ?_ GE101.out | refine below_set ?_ GE109.out) | exact HB.out))) : w.heap.size ≤ gb128)); have n7_ := Aside0.mk ((by rw [hg]; exact (below_size (by repeat (first | (with_reducible first | exact HB.out | apply below_alloc | apply pw_below_drewN | apply below_drew1 | refine below_set ?_ GE101.out | refine below_set ?_ GE109.out) | exact HB.out))) : w.heap.size ≤ gb128)); have n8_ := Aside0.mk ((by rw [hg]; exact Nat.ne_of_lt (blk_lt (g := gb101) (o := .cells #[.int .u64 0, .slice none 0 0, .slice none 0 0] 27 (0, 0)) (by (with_reducible repeat (first | refine blk_drewN ?_ _ | refine blk_drew ?_ | refine blk_alloc ?_ _)); exact BK101.out)) : gb101 ≠ gb128)); have n9_ := Aside0.mk ((by rw [hg]; exact Nat.ne_of_gt (blk_lt (g := gb101) (o := .cells #[.int .u64 0, .slice none 0 0, .slice none 0 0] 27 (0, 0)) (by (with_reducible repeat (first | refine blk_drewN ?_ _ | refine blk_drew ?_ | refine blk_alloc ?_ _)); exact BK101.out)) : gb128 ≠ gb101)); have n10_ := Aside0.mk ((by rw [hg]; exact Nat.ne_of_lt (blk_lt (g := gb109) (o := .cells #[.int .u64 (IntKind.u64.wrap (rd y105 0)), u110001, u110002] 27 (0, 0)) (by (with_reducible repeat (first | refine blk_drewN ?_ _ | refine blk_drew ?_ | refine blk_alloc ?_ _)); exact BK109.out)) : gb109 ≠ gb128)); have n11_ := Aside0.mk ((by rw [hg]; exact Nat.ne_of_gt (blk_lt (g := gb109) (o := .cells #[.int .u64 (IntKind.u64.wrap (rd y105 0)), u110001, u110002] 27 (0, 0)) (by (with_reducible repeat (first | refine blk_drewN ?_ _ | refine blk_drew ?_ | refine blk_alloc ?_ _)); exact BK109.out)) : gb128 ≠ gb109)); clear HO_110001; clear HO_110002; clear BK101; clear BK109; clear HB; have HO_110001 := n0_; have HO_110002 := n1_; have BK101 := n2_; have BK109 := n3_; have HB := n4_; have BK128 := n5_; have GW128 := n6_; have GE128 := n7_; have NB101_128 := n8_; have NB128_101 := n9_; have NB109_128 := n10_; have NB128_109 := n11_; clear n0_ n1_ n2_ n3_ n4_ n5_ n6_ n7_ n8_ n9_ n10_ n11_; clear hb hbox hg; have hnb89 := NB128_101.out; have hnc89 := NB101_128.out; have hnb90 := NB128_109.out; have hnc90 := NB109_128.out; have hcz91_0 : w88.cell? ⟨gb128, 0, none⟩ = some (.string (⟨#[]⟩ : ByteArray)) := (blk_cell BK128.out 0).trans rfl; have hcz91_1 : w88.cell? ⟨gb128, 1, none⟩ = some (.string (⟨#[]⟩ : ByteArray)) := (blk_cell BK128.out 1).trans rfl; have hcz91_2 : w88.cell? ⟨gb128, 2, none⟩ = some (.int .u64 0) := (blk_cell BK128.out 2).trans rfl; have hcz91_3 : w88.cell? ⟨gb128, 3, none⟩ = some (.int .u64 0) := (blk_cell BK128.out 3).trans rfl; have hcz91_4 : w88.cell? ⟨gb128, 4, none⟩ = some (.bool false) := (blk_cell BK128.out 4).trans rfl; have hfz91_0 := blk_frozen BK128.out 0; have hfz91_1 := blk_frozen BK128.out 1; have hfz91_2 := blk_frozen BK128.out 2; have hfz91_3 := blk_frozen BK128.out 3; have hfz91_4 := blk_frozen BK128.out 4; have hnb92 := NB109_101.out; have hnc92 := NB101_109.out; have hcz93_0 : w88.cell? ⟨gb109, 0, none⟩ = some (.int .u64 (IntKind.u64.wrap (rd y105 0))) := (blk_cell BK109.out 0).trans rfl; have hcz93_1 : w88.cell? ⟨gb109, 1, none⟩ = some (u110001) := (blk_cell BK109.out 1).trans rfl; have hcz93_2 : w88.cell? ⟨gb109, 2, none⟩ = some (u110002) := (blk_cell BK109.out 2).trans rfl; have hfz93_0 := blk_frozen BK109.out 0; have hfz93_1 := blk_frozen BK109.out 1; have hfz93_2 := blk_frozen BK109.out 2; obtain ⟨Ao94, co94, eo94⟩ := Kd.S_slice HO_110001.out; subst eo94) | ((with_reducible refine gate_builtin (b := .append) (xs := #[.tmp 112, .tmp 114]) rfl ?_); at_builtin; refine Kd.R_append k31 (w0 := w) w.heap.size rfl (.tmp 112) (.tmp 114) 25 31 (.agg #[(.string ⟨#[]⟩), (.string ⟨#[]⟩), (.int .u64 0), (.int .u64 0), (.bool false)]) 56 rfl Tryd.underlying25 info31 rfl (by decide) (by omega) u110002 x110002_2 (⟨t127, (⟨#[]⟩ : ByteArray), IntKind.u64.wrap (Int.tmod x8_57 40), IntKind.u64.wrap (wrap64 ((Int.tmod x8_57 40) + (Int.tmod x8_57 7))), ((Int.tmod x8_57 5) == 4)⟩ : S31) [.string t127, .string (⟨#[]⟩ : ByteArray), .int .u64 (IntKind.u64.wrap (Int.tmod x8_57 40)), .int .u64 (IntKind.u64.wrap (wrap64 ((Int.tmod x8_57 40) + (Int.tmod x8_57 7)))), .bool ((Int.tmod x8_57 5) == 4)] (fun k_ => k_ ≠ gb128) (fun _ => False) rfl (by first | (go_simp; done) | (go_simp; rfl)) ?aP (fun _ hk => hk.elim) ?aF ?aO ?aB ?aS ?aL ?_; (case aP => exact k31_mkM _ _ _ (⟨t127, (⟨#[]⟩ : ByteArray), IntKind.u64.wrap (Int.tmod x8_57 40), IntKind.u64.wrap (wrap64 ((Int.tmod x8_57 40) + (Int.tmod x8_57 7))), ((Int.tmod x8_57 5) == 4)⟩ : S31)); (case aB => exact (by repeat (first | (with_reducible first | exact HB.out | apply below_alloc | apply pw_below_drewN | apply below_drew1 | refine below_set ?_ GE101.out | refine below_set ?_ GE109.out | refine below_set ?_ GE128.out) | exact HB.out))); (case aF => exact (fun k_ hk => Kd.freshB (g := gb128) (o := .cells #[.string t127, .string (⟨#[]⟩ : ByteArray), .int .u64 (IntKind.u64.wrap (Int.tmod x8_57 40)), .int .u64 (IntKind.u64.wrap (wrap64 ((Int.tmod x8_57 40) + (Int.tmod x8_57 7)))), .bool ((Int.tmod x8_57 5) == 4)] 31 (0, 0)) (by (with_reducible repeat (first | refine blk_drewN ?_ _ | refine blk_drew ?_ | refine blk_alloc ?_ _)); refine blk_put (cs := #[.string t127, .string (⟨#[]⟩ : ByteArray), .int .u64 (IntKind.u64.wrap (Int.tmod x8_57 40)), .int .u64 (IntKind.u64.wrap (wrap64 ((Int.tmod x8_57 40) + (Int.tmod x8_57 7)))), .bool false]) ?_ 4 _ rfl; (with_reducible repeat (first | refine blk_drewN ?_ _ | refine blk_drew ?_ | refine blk_alloc ?_ _)); refine blk_put (cs := #[.string t127, .string (⟨#[]⟩ : ByteArray), .int .u64 (IntKind.u64.wrap (Int.tmod x8_57 40)), .int .u64 0, .bool false]) ?_ 3 _ rfl; (with_reducible repeat (first | refine blk_drewN ?_ _ | refine blk_drew ?_ | refine blk_alloc ?_ _)); refine blk_put (cs := #[.string t127, .string (⟨#[]⟩ : ByteArray), .int .u64 0, .int .u64 0, .bool false]) ?_ 2 _ rfl; (with_reducible repeat (first | refine blk_drewN ?_ _ | refine blk_drew ?_ | refine blk_alloc ?_ _)); refine blk_put (cs := #[.string t127, .string (⟨#[]⟩ : ByteArray), .int .u64 0, .int .u64 0, .bool false]) ?_ 1 _ rfl; (with_reducible repeat (first | refine blk_drewN ?_ _ | refine blk_drew ?_ | refine blk_alloc ?_ _)); refine blk_put (cs := #[.string (⟨#[]⟩ : ByteArray), .string (⟨#[]⟩ : ByteArray), .int .u64 0, .int .u64 0, .bool false]) ?_ 0 _ rfl; (with_reducible repeat (first | refine blk_drewN ?_ _ | refine blk_drew ?_ | refine blk_alloc ?_ _)); exact BK128.out) k_ hk)); (case aO => exact (by (with_reducible repeat (first | apply Kd.R_alloc | apply Kd.R_drewN | apply Kd.R_drew)); exact Kd.R_mono (Kd.R_far (p := ⟨gb128, 4, none⟩) (Kd.R_far (p := ⟨gb128, 3, none⟩) (Kd.R_far (p := ⟨gb128, 2, none⟩) (Kd.R_far (p := ⟨gb128, 1, none⟩) (Kd.R_far (p := ⟨gb128, 0, none⟩) (Kd.R_mono HO_110002.out (fun k_ hk => (⟨hk, hk.2⟩ : _ ∧ k_ ≠ gb128))) (fun _ hk => hk.2) (.string t127)) (fun _ hk => hk.2) (.string (⟨#[]⟩ : ByteArray))) (fun _ hk => hk.2) (.int .u64 (IntKind.u64.wrap (Int.tmod x8_57 40)))) (fun _ hk => hk.2) (.int .u64 (IntKind.u64.wrap (wrap64 ((Int.tmod x8_57 40) + (Int.tmod x8_57 7)))))) (fun _ hk => hk.2) (.bool ((Int.tmod x8_57 5) == 4))) (fun _ hk => hk.1.2))); (case aS => exact (below_size (by repeat (first | (with_reducible first | exact HB.out | apply below_alloc | apply pw_below_drewN | apply below_drew1 | refine below_set ?_ GE101.out | refine below_set ?_ GE109.out | refine below_set ?_ GE128.out) | exact HB.out)))); (case aL => have := LMc86.out; omega); intro v134 w95 ho hb hg hat; rw [← Ny133.out] at ho; have n0_ := Aside0.mk (Kd.S_over' (by (with_reducible repeat (first | apply Kd.S_alloc | apply Kd.S_drewN | apply Kd.S_drew)); exact (Kd.S_mono (Kd.S_far (p := ⟨gb128, 4, none⟩) (Kd.S_far (p := ⟨gb128, 3, none⟩) (Kd.S_far (p := ⟨gb128, 2, none⟩) (Kd.S_far (p := ⟨gb128, 1, none⟩) (Kd.S_far (p := ⟨gb128, 0, none⟩) (Kd.S_types HO_110001.out BK128.out (by decide)) (fun _ hk => hk.2) (.string t127)) (fun _ hk => hk.2) (.string (⟨#[]⟩ : ByteArray))) (fun _ hk => hk.2) (.int .u64 (IntKind.u64.wrap (Int.tmod x8_57 40)))) (fun _ hk => hk.2) (.int .u64 (IntKind.u64.wrap (wrap64 ((Int.tmod x8_57 40) + (Int.tmod x8_57 7)))))) (fun _ hk => hk.2) (.bool ((Int.tmod x8_57 5) == 4))) (fun _ h_ => h_.1))) (Kd.R_typed (by (with_reducible repeat (first | apply Kd.R_alloc | apply Kd.R_drewN | apply Kd.R_drew)); exact (Kd.R_mono (Kd.R_far (p := ⟨gb128, 4, none⟩) (Kd.R_far (p := ⟨gb128, 3, none⟩) (Kd.R_far (p := ⟨gb128, 2, none⟩) (Kd.R_far (p := ⟨gb128, 1, none⟩) (Kd.R_far (p := ⟨gb128, 0, none⟩) (Kd.R_mono HO_110002.out (fun k_ hk => (⟨hk, hk.2⟩ : _ ∧ k_ ≠ gb128))) (fun _ hk => hk.2) (.string t127)) (fun _ hk => hk.2) (.string (⟨#[]⟩ : ByteArray))) (fun _ hk => hk.2) (.int .u64 (IntKind.u64.wrap (Int.tmod x8_57 40)))) (fun _ hk => hk.2) (.int .u64 (IntKind.u64.wrap (wrap64 ((Int.tmod x8_57 40) + (Int.tmod x8_57 7)))))) (fun _ hk => hk.2) (.bool ((Int.tmod x8_57 5) == 4))) (fun _ h_ => h_.1)))) (by decide) hg); have n1_ := Aside0.mk (blk_grown (g := gb101) (o := .cells #[.int .u64 0, .slice none 0 0, .slice none 0 0] 27 (0, 0)) (by (with_reducible repeat (first | refine blk_drewN ?_ _ | refine blk_drew ?_ | refine blk_alloc ?_ _)); refine blk_far ?_ NB101_128.out _; (with_reducible repeat (first | refine blk_drewN ?_ _ | refine blk_drew ?_ | refine blk_alloc ?_ _)); refine blk_far ?_ NB101_128.out _; (with_reducible repeat (first | refine blk_drewN ?_ _ | refine blk_drew ?_ | refine blk_alloc ?_ _)); refine blk_far ?_ NB101_128.out _; (with_reducible repeat (first | refine blk_drewN ?_ _ | refine blk_drew ?_ | refine blk_alloc ?_ _)); refine blk_far ?_ NB101_128.out _; (with_reducible repeat (first | refine blk_drewN ?_ _ | refine blk_drew ?_ | refine blk_alloc ?_ _)); refine blk_far ?_ NB101_128.out _; (with_reducible repeat (first | refine blk_drewN ?_ _ | refine blk_drew ?_ | refine blk_alloc ?_ _)); exact BK101.out) hg (Kd.R_ne HO_110002.out BK101.out (by decide))); have n2_ := Aside0.mk (blk_grown (g := gb109) (o := .cells #[.int .u64 (IntKind.u64.wrap (rd y105 0)), .slice Ao94 x110001_1.length co94, u110002] 27 (0, 0)) (by (with_reducible repeat (first | refine blk_drewN ?_ _ | refine blk_drew ?_ | refine blk_alloc ?_ _)); refine blk_far ?_ NB109_128.out _; (with_reducible repeat (first | refine blk_drewN ?_ _ | refine blk_drew ?_ | refine blk_alloc ?_ _)); refine blk_far ?_ NB109_128.out _; (with_reducible repeat (first | refine blk_drewN ?_ _ | refine blk_drew ?_ | refine blk_alloc ?_ _)); refine blk_far ?_ NB109_128.out _; (with_reducible repeat (first | refine blk_drewN ?_ _ | refine blk_drew ?_ | refine blk_alloc ?_ _)); refine blk_far ?_ NB109_128.out _; (with_reducible repeat (first | refine blk_drewN ?_ _ | refine blk_drew ?_ | refine blk_alloc ?_ _)); refine blk_far ?_ NB109_128.out _; (with_reducible repeat (first | refine blk_drewN ?_ _ | refine blk_drew ?_ | refine blk_alloc ?_ _)); exact BK109.out) hg (Kd.R_ne HO_110002.out BK109.out (by decide))); have n3_ := Aside0.mk (blk_grown (g := gb128) (o := .cells #[.string t127, .string (⟨#[]⟩ : ByteArray), .int .u64 (IntKind.u64.wrap (Int.tmod x8_57 40)), .int .u64 (IntKind.u64.wrap (wrap64 ((Int.tmod x8_57 40) + (Int.tmod x8_57 7)))), .bool ((Int.tmod x8_57 5) == 4)] 31 (0, 0)) (by (with_reducible repeat (first | refine blk_drewN ?_ _ | refine blk_drew ?_ | refine blk_alloc ?_ _)); refine blk_put (cs := #[.string t127, .string (⟨#[]⟩ : ByteArray), .int .u64 (IntKind.u64.wrap (Int.tmod x8_57 40)), .int .u64 (IntKind.u64.wrap (wrap64 ((Int.tmod x8_57 40) + (Int.tmod x8_57 7)))), .bool false]) ?_ 4 _ rfl; (with_reducible repeat (first | refine blk_drewN ?_ _ | refine blk_drew ?_ | refine blk_alloc ?_ _)); refine blk_put (cs := #[.string t127, .string (⟨#[]⟩ : ByteArray), .int .u64 (IntKind.u64.wrap (Int.tmod x8_57 40)), .int .u64 0, .bool false]) ?_ 3 _ rfl; (with_reducible repeat (first | refine blk_drewN ?_ _ | refine blk_drew ?_ | refine blk_alloc ?_ _)); refine blk_put (cs := #[.string t127, .string (⟨#[]⟩ : ByteArray), .int .u64 0, .int .u64 0, .bool false]) ?_ 2 _ rfl; (with_reducible repeat (first | refine blk_drewN ?_ _ | refine blk_drew ?_ | refine blk_alloc ?_ _)); refine blk_put (cs := #[.string t127, .string (⟨#[]⟩ : ByteArray), .int .u64 0, .int .u64 0, .bool false]) ?_ 1 _ rfl; (with_reducible repeat (first | refine blk_drewN ?_ _ | refine blk_drew ?_ | refine blk_alloc ?_ _)); refine blk_put (cs := #[.string (⟨#[]⟩ : ByteArray), .string (⟨#[]⟩ : ByteArray), .int .u64 0, .int .u64 0, .bool false]) ?_ 0 _ rfl; (with_reducible repeat (first | refine blk_drewN ?_ _ | refine blk_drew ?_ | refine blk_alloc ?_ _)); exact BK128.out) hg (Kd.R_away HO_110002.out (fun _ hk => hk.2))); have n4_ := Aside0.mk (hb); have n5_ := Aside0.mk (ho); clear HO_110001; clear BK101; clear BK109; clear BK128; clear HB; clear HO_110002; have HO_110001 := n0_; have BK101 := n1_; have BK109 := n2_; have BK128 := n3_; have HB := n4_; have HO135 := n5_; clear n0_ n1_ n2_ n3_ n4_ n5_; clear ho hb hg hat; obtain ⟨Ao96, co96, eo96⟩ := Kd.R_slice HO135.out; subst eo96; have hcz97_0 : w95.cell? ⟨gb109, 0, none⟩ = some (.int .u64 (IntKind.u64.wrap (rd y105 0))) := (blk_cell BK109.out 0).trans rfl; have hcz97_1 : w95.cell? ⟨gb109, 1, none⟩ = some (.slice Ao94 x110001_1.length co94) := (blk_cell BK109.out 1).trans rfl; have hcz97_2 : w95.cell? ⟨gb109, 2, none⟩ = some (u110002) := (blk_cell BK109.out 2).trans rfl; have hfz97_0 := blk_frozen BK109.out 0; have hfz97_1 := blk_frozen BK109.out 1; have hfz97_2 := blk_frozen BK109.out 2))
               go_roundg kj57
               case measure => have := HK1.out; have := HK2.out; have := HJ57.out; omega
               case rel => exact ⟨(wrap64 (x7_2 + 1)), (y133), (.slice Ao96 y133.length co96), (by first | rfl | (simp; done) | (simp [*]; done)), H', ⟨by have := HK1.out; have := HK2.out; have := HJ57.out; omega⟩, ⟨by (try simp only [hl3_1]); (with_reducible repeat (first | apply Kd.S_alloc | apply Kd.S_drewN | apply Kd.S_drew)); exact Kd.S_mono (Kd.S_far (p := ⟨gb109, 2, none⟩) (Kd.S_types HO_110001.out BK109.out (by decide)) (fun _ hk => hk.2) (.slice Ao96 y133.length co96)) (fun _ hk => trivial)⟩, ⟨by (try simp only [hl3_1]); (with_reducible repeat (first | apply Kd.R_alloc | apply Kd.R_drewN | apply Kd.R_drew)); exact Kd.R_mono (Kd.R_far (p := ⟨gb109, 2, none⟩) (Kd.R_types HO135.out BK109.out (by decide)) (fun _ hk => hk.2) (.slice Ao96 y133.length co96)) (fun _ hk => trivial)⟩, ⟨by (try simp only [hl3_1]); (with_reducible repeat (first | refine blk_drewN ?_ _ | refine blk_drew ?_ | refine blk_alloc ?_ _)); refine blk_far ?_ NB101_109.out _; (with_reducible repeat (first | refine blk_drewN ?_ _ | refine blk_drew ?_ | refine blk_alloc ?_ _)); exact BK101.out⟩, ⟨by (try simp only [hl3_1]); (with_reducible repeat (first | refine blk_drewN ?_ _ | refine blk_drew ?_ | refine blk_alloc ?_ _)); refine blk_put (cs := #[.int .u64 (IntKind.u64.wrap (rd y105 0)), .slice Ao94 x110001_1.length co94, u110002]) ?_ 2 _ rfl; (with_reducible repeat (first | refine blk_drewN ?_ _ | refine blk_drew ?_ | refine blk_alloc ?_ _)); exact BK109.out⟩, ⟨by repeat (first | (with_reducible first | exact HB.out | apply below_alloc | apply pw_below_drewN | apply below_drew1 | refine below_set ?_ GE101.out | refine below_set ?_ GE109.out | refine below_set ?_ GE128.out) | exact HB.out)⟩⟩
              ·rw [if_neg c86] at H
               exact absurd H (by simp)
            ·rw [if_neg c63] at H
             have c63b0 : decide (0 < (x110001_1.length : Int)) = false := decide_eq_false c63
             have c63b1 : decide (0 < x110001_1.length) = false := decide_eq_false (by omega)
             clear c63
             by_cases c98 : x110002_2.length < 2513169434916
             ·rw [if_pos c98] at H
              have LMc98 := Aside0.mk c98
              clear c98
              obtain ⟨y136, hy136⟩ : ∃ y_ : List (S31), y_ = (x110002_2 ++ [(⟨t127, (⟨#[]⟩ : ByteArray), IntKind.u64.wrap (Int.tmod x8_57 40), IntKind.u64.wrap (wrap64 ((Int.tmod x8_57 40) + (Int.tmod x8_57 7))), ((Int.tmod x8_57 5) == 4)⟩ : S31)]) := ⟨_, rfl⟩
              replace H : (wicketmanlaw16_State.l1 kj57 l0 (wrap64 (x7_2 + 1)) (IntKind.u64.wrap (rd y105 0)) x110001_1 y136) = some (r1, r2, r3) := by first | (rw [hy136]; with_reducible exact H) | (have H2_ := (Option.bind_some _ _).symm.trans H; rw [hy136]; with_reducible exact H2_) | (have H2_ := (Option.bind_some _ _).symm.trans H; with_reducible exact H2_) | with_reducible exact H | (rw [hy136]; exact H) | exact H
              have Ny136 := Aside0.mk hy136
              clear hy136
              have H' := Aside0.mk H
              clear H
              go_wp2_with (first | ((with_reducible refine gate_callee (f := 28) rfl ?_); refine goesL_ (some 77) rfl rfl Tryd.func28 (by kernel_rfl) rfl #[.int .u8 ((x7_2) % 256)] rfl (by (try simp only [List.map_toArray, List.map_cons, List.map_nil]); first | done | rfl | (simp only [List.length_drop, List.length_take]; rfl)) ?_; (with_reducible refine (wicketmanlaw16_ID.calls ((x7_2) % 256) t127 _ A62.out).mono ?_); rintro e w99 ⟨rfl, hb⟩; refine ⟨_, rfl, ?_⟩; have n0_ := Aside0.mk (Kd.S_below (by (with_reducible repeat (first | apply Kd.S_alloc | apply Kd.S_drewN | apply Kd.S_drew)); exact HO_110001.out) hb); have n1_ := Aside0.mk (Kd.R_below (by (with_reducible repeat (first | apply Kd.R_alloc | apply Kd.R_drewN | apply Kd.R_drew)); exact HO_110002.out) hb); have n2_ := Aside0.mk (blk_below (g := gb101) (o := .cells #[.int .u64 0, .slice none 0 0, .slice none 0 0] 27 (0, 0)) (by (with_reducible repeat (first | refine blk_drewN ?_ _ | refine blk_drew ?_ | refine blk_alloc ?_ _)); exact BK101.out) hb); have n3_ := Aside0.mk (blk_below (g := gb109) (o := .cells #[.int .u64 (IntKind.u64.wrap (rd y105 0)), u110001, u110002] 27 (0, 0)) (by (with_reducible repeat (first | refine blk_drewN ?_ _ | refine blk_drew ?_ | refine blk_alloc ?_ _)); exact BK109.out) hb); have n4_ := Aside0.mk (below_step (by repeat (first | (with_reducible first | exact HB.out | apply below_alloc | apply pw_below_drewN | apply below_drew1 | refine below_set ?_ GE101.out | refine below_set ?_ GE109.out) | exact HB.out)) hb); clear HO_110001; clear HO_110002; clear BK101; clear BK109; clear HB; have HO_110001 := n0_; have HO_110002 := n1_; have BK101 := n2_; have BK109 := n3_; have HB := n4_; clear n0_ n1_ n2_ n3_ n4_; (try clear hb); (try clear hb2); (try clear hk); (try clear hi)) | ((with_reducible refine gate_dst (N := 9) rfl ?_); refine box_event ?hg (N := 9) ?hd (cs := #[.string (⟨#[]⟩ : ByteArray), .string (⟨#[]⟩ : ByteArray), .int .u64 0, .int .u64 0, .bool false]) (t := 31) ?hr ?_; (case hd => rfl); (case hg => rfl); (case hr => first | (go_simp; done) | (go_simp; rfl)); intro gb128 hg w100 hbox hb; have n0_ := Aside0.mk (Kd.S_below (by (with_reducible repeat (first | apply Kd.S_alloc | apply Kd.S_drewN | apply Kd.S_drew)); exact HO_110001.out) hb); have n1_ := Aside0.mk (Kd.R_below (Kd.R_elderB (by (with_reducible repeat (first | apply Kd.R_alloc | apply Kd.R_drewN | apply Kd.R_drew)); exact HO_110002.out) gb128 (Nat.le_of_eq hg.symm)) hb); have n2_ := Aside0.mk (blk_below (g := gb101) (o := .cells #[.int .u64 0, .slice none 0 0, .slice none 0 0] 27 (0, 0)) (by (with_reducible repeat (first | refine blk_drewN ?_ _ | refine blk_drew ?_ | refine blk_alloc ?_ _)); exact BK101.out) hb); have n3_ := Aside0.mk (blk_below (g := gb109) (o := .cells #[.int .u64 (IntKind.u64.wrap (rd y105 0)), u110001, u110002] 27 (0, 0)) (by (with_reducible repeat (first | refine blk_drewN ?_ _ | refine blk_drew ?_ | refine blk_alloc ?_ _)); exact BK109.out) hb); have n4_ := Aside0.mk (below_step (by repeat (first | (with_reducible first | exact HB.out | apply below_alloc | apply pw_below_drewN | apply below_drew1 | refine below_set ?_ GE101.out | refine below_set ?_ GE109.out) | exact HB.out)) hb); have n5_ := Aside0.mk (hbox); have n6_ := Aside0.mk ((by rw [hg]; exact (below_size (by repeat (first | (with_reducible first | exact HB.out | apply below_alloc | apply pw_below_drewN | apply below_drew1 | refine below_set ?_ GE101.out | refine below_set ?_ GE109.out) | exact HB.out))) : w.heap.size ≤ gb128)); have n7_ := Aside0.mk ((by rw [hg]; exact (below_size (by repeat (first | (with_reducible first | exact HB.out | apply below_alloc | apply pw_below_drewN | apply below_drew1 | refine below_set ?_ GE101.out | refine below_set ?_ GE109.out) | exact HB.out))) : w.heap.size ≤ gb128)); have n8_ := Aside0.mk ((by rw [hg]; exact Nat.ne_of_lt (blk_lt (g := gb101) (o := .cells #[.int .u64 0, .slice none 0 0, .slice none 0 0] 27 (0, 0)) (by (with_reducible repeat (first | refine blk_drewN ?_ _ | refine blk_drew ?_ | refine blk_alloc ?_ _)); exact BK101.out)) : gb101 ≠ gb128)); have n9_ := Aside0.mk ((by rw [hg]; exact Nat.ne_of_gt (blk_lt (g := gb101) (o := .cells #[.int .u64 0, .slice none 0 0, .slice none 0 0] 27 (0, 0)) (by (with_reducible repeat (first | refine blk_drewN ?_ _ | refine blk_drew ?_ | refine blk_alloc ?_ _)); exact BK101.out)) : gb128 ≠ gb101)); have n10_ := Aside0.mk ((by rw [hg]; exact Nat.ne_of_lt (blk_lt (g := gb109) (o := .cells #[.int .u64 (IntKind.u64.wrap (rd y105 0)), u110001, u110002] 27 (0, 0)) (by (with_reducible repeat (first | refine blk_drewN ?_ _ | refine blk_drew ?_ | refine blk_alloc ?_ _)); exact BK109.out)) : gb109 ≠ gb128)); have n11_ := Aside0.mk ((by rw [hg]; exact Nat.ne_of_gt (blk_lt (g := gb109) (o := .cells #[.int .u64 (IntKind.u64.wrap (rd y105 0)), u110001, u110002] 27 (0, 0)) (by (with_reducible repeat (first | refine blk_drewN ?_ _ | refine blk_drew ?_ | refine blk_alloc ?_ _)); exact BK109.out)) : gb128 ≠ gb109)); clear HO_110001; clear HO_110002; clear BK101; clear BK109; clear HB; have HO_110001 := n0_; have HO_110002 := n1_; have BK101 := n2_; have BK109 := n3_; have HB := n4_; have BK128 := n5_; have GW128 := n6_; have GE128 := n7_; have NB101_128 := n8_; have NB128_101 := n9_; have NB109_128 := n10_; have NB128_109 := n11_; clear n0_ n1_ n2_ n3_ n4_ n5_ n6_ n7_ n8_ n9_ n10_ n11_; clear hb hbox hg; have hnb101 := NB128_101.out; have hnc101 := NB101_128.out; have hnb102 := NB128_109.out; have hnc102 := NB109_128.out; have hcz103_0 : w100.cell? ⟨gb128, 0, none⟩ = some (.string (⟨#[]⟩ : ByteArray)) := (blk_cell BK128.out 0).trans rfl; have hcz103_1 : w100.cell? ⟨gb128, 1, none⟩ = some (.string (⟨#[]⟩ : ByteArray)) := (blk_cell BK128.out 1).trans rfl; have hcz103_2 : w100.cell? ⟨gb128, 2, none⟩ = some (.int .u64 0) := (blk_cell BK128.out 2).trans rfl; have hcz103_3 : w100.cell? ⟨gb128, 3, none⟩ = some (.int .u64 0) := (blk_cell BK128.out 3).trans rfl; have hcz103_4 : w100.cell? ⟨gb128, 4, none⟩ = some (.bool false) := (blk_cell BK128.out 4).trans rfl; have hfz103_0 := blk_frozen BK128.out 0; have hfz103_1 := blk_frozen BK128.out 1; have hfz103_2 := blk_frozen BK128.out 2; have hfz103_3 := blk_frozen BK128.out 3; have hfz103_4 := blk_frozen BK128.out 4; have hnb104 := NB109_101.out; have hnc104 := NB101_109.out; have hcz105_0 : w100.cell? ⟨gb109, 0, none⟩ = some (.int .u64 (IntKind.u64.wrap (rd y105 0))) := (blk_cell BK109.out 0).trans rfl; have hcz105_1 : w100.cell? ⟨gb109, 1, none⟩ = some (u110001) := (blk_cell BK109.out 1).trans rfl; have hcz105_2 : w100.cell? ⟨gb109, 2, none⟩ = some (u110002) := (blk_cell BK109.out 2).trans rfl; have hfz105_0 := blk_frozen BK109.out 0; have hfz105_1 := blk_frozen BK109.out 1; have hfz105_2 := blk_frozen BK109.out 2; obtain ⟨Ao106, co106, eo106⟩ := Kd.S_slice HO_110001.out; subst eo106) | ((with_reducible refine gate_builtin (b := .append) (xs := #[.tmp 112, .tmp 114]) rfl ?_); at_builtin; refine Kd.R_append k31 (w0 := w) w.heap.size rfl (.tmp 112) (.tmp 114) 25 31 (.agg #[(.string ⟨#[]⟩), (.string ⟨#[]⟩), (.int .u64 0), (.int .u64 0), (.bool false)]) 56 rfl Tryd.underlying25 info31 rfl (by decide) (by omega) u110002 x110002_2 (⟨t127, (⟨#[]⟩ : ByteArray), IntKind.u64.wrap (Int.tmod x8_57 40), IntKind.u64.wrap (wrap64 ((Int.tmod x8_57 40) + (Int.tmod x8_57 7))), ((Int.tmod x8_57 5) == 4)⟩ : S31) [.string t127, .string (⟨#[]⟩ : ByteArray), .int .u64 (IntKind.u64.wrap (Int.tmod x8_57 40)), .int .u64 (IntKind.u64.wrap (wrap64 ((Int.tmod x8_57 40) + (Int.tmod x8_57 7)))), .bool ((Int.tmod x8_57 5) == 4)] (fun k_ => k_ ≠ gb128) (fun _ => False) rfl (by first | (go_simp; done) | (go_simp; rfl)) ?aP (fun _ hk => hk.elim) ?aF ?aO ?aB ?aS ?aL ?_; (case aP => exact k31_mkM _ _ _ (⟨t127, (⟨#[]⟩ : ByteArray), IntKind.u64.wrap (Int.tmod x8_57 40), IntKind.u64.wrap (wrap64 ((Int.tmod x8_57 40) + (Int.tmod x8_57 7))), ((Int.tmod x8_57 5) == 4)⟩ : S31)); (case aB => exact (by repeat (first | (with_reducible first | exact HB.out | apply below_alloc | apply pw_below_drewN | apply below_drew1 | refine below_set ?_ GE101.out | refine below_set ?_ GE109.out | refine below_set ?_ GE128.out) | exact HB.out))); (case aF => exact (fun k_ hk => Kd.freshB (g := gb128) (o := .cells #[.string t127, .string (⟨#[]⟩ : ByteArray), .int .u64 (IntKind.u64.wrap (Int.tmod x8_57 40)), .int .u64 (IntKind.u64.wrap (wrap64 ((Int.tmod x8_57 40) + (Int.tmod x8_57 7)))), .bool ((Int.tmod x8_57 5) == 4)] 31 (0, 0)) (by (with_reducible repeat (first | refine blk_drewN ?_ _ | refine blk_drew ?_ | refine blk_alloc ?_ _)); refine blk_put (cs := #[.string t127, .string (⟨#[]⟩ : ByteArray), .int .u64 (IntKind.u64.wrap (Int.tmod x8_57 40)), .int .u64 (IntKind.u64.wrap (wrap64 ((Int.tmod x8_57 40) + (Int.tmod x8_57 7)))), .bool false]) ?_ 4 _ rfl; (with_reducible repeat (first | refine blk_drewN ?_ _ | refine blk_drew ?_ | refine blk_alloc ?_ _)); refine blk_put (cs := #[.string t127, .string (⟨#[]⟩ : ByteArray), .int .u64 (IntKind.u64.wrap (Int.tmod x8_57 40)), .int .u64 0, .bool false]) ?_ 3 _ rfl; (with_reducible repeat (first | refine blk_drewN ?_ _ | refine blk_drew ?_ | refine blk_alloc ?_ _)); refine blk_put (cs := #[.string t127, .string (⟨#[]⟩ : ByteArray), .int .u64 0, .int .u64 0, .bool false]) ?_ 2 _ rfl; (with_reducible repeat (first | refine blk_drewN ?_ _ | refine blk_drew ?_ | refine blk_alloc ?_ _)); refine blk_put (cs := #[.string t127, .string (⟨#[]⟩ : ByteArray), .int .u64 0, .int .u64 0, .bool false]) ?_ 1 _ rfl; (with_reducible repeat (first | refine blk_drewN ?_ _ | refine blk_drew ?_ | refine blk_alloc ?_ _)); refine blk_put (cs := #[.string (⟨#[]⟩ : ByteArray), .string (⟨#[]⟩ : ByteArray), .int .u64 0, .int .u64 0, .bool false]) ?_ 0 _ rfl; (with_reducible repeat (first | refine blk_drewN ?_ _ | refine blk_drew ?_ | refine blk_alloc ?_ _)); exact BK128.out) k_ hk)); (case aO => exact (by (with_reducible repeat (first | apply Kd.R_alloc | apply Kd.R_drewN | apply Kd.R_drew)); exact Kd.R_mono (Kd.R_far (p := ⟨gb128, 4, none⟩) (Kd.R_far (p := ⟨gb128, 3, none⟩) (Kd.R_far (p := ⟨gb128, 2, none⟩) (Kd.R_far (p := ⟨gb128, 1, none⟩) (Kd.R_far (p := ⟨gb128, 0, none⟩) (Kd.R_mono HO_110002.out (fun k_ hk => (⟨hk, hk.2⟩ : _ ∧ k_ ≠ gb128))) (fun _ hk => hk.2) (.string t127)) (fun _ hk => hk.2) (.string (⟨#[]⟩ : ByteArray))) (fun _ hk => hk.2) (.int .u64 (IntKind.u64.wrap (Int.tmod x8_57 40)))) (fun _ hk => hk.2) (.int .u64 (IntKind.u64.wrap (wrap64 ((Int.tmod x8_57 40) + (Int.tmod x8_57 7)))))) (fun _ hk => hk.2) (.bool ((Int.tmod x8_57 5) == 4))) (fun _ hk => hk.1.2))); (case aS => exact (below_size (by repeat (first | (with_reducible first | exact HB.out | apply below_alloc | apply pw_below_drewN | apply below_drew1 | refine below_set ?_ GE101.out | refine below_set ?_ GE109.out | refine below_set ?_ GE128.out) | exact HB.out)))); (case aL => have := LMc98.out; omega); intro v137 w107 ho hb hg hat; rw [← Ny136.out] at ho; have n0_ := Aside0.mk (Kd.S_over' (by (with_reducible repeat (first | apply Kd.S_alloc | apply Kd.S_drewN | apply Kd.S_drew)); exact (Kd.S_mono (Kd.S_far (p := ⟨gb128, 4, none⟩) (Kd.S_far (p := ⟨gb128, 3, none⟩) (Kd.S_far (p := ⟨gb128, 2, none⟩) (Kd.S_far (p := ⟨gb128, 1, none⟩) (Kd.S_far (p := ⟨gb128, 0, none⟩) (Kd.S_types HO_110001.out BK128.out (by decide)) (fun _ hk => hk.2) (.string t127)) (fun _ hk => hk.2) (.string (⟨#[]⟩ : ByteArray))) (fun _ hk => hk.2) (.int .u64 (IntKind.u64.wrap (Int.tmod x8_57 40)))) (fun _ hk => hk.2) (.int .u64 (IntKind.u64.wrap (wrap64 ((Int.tmod x8_57 40) + (Int.tmod x8_57 7)))))) (fun _ hk => hk.2) (.bool ((Int.tmod x8_57 5) == 4))) (fun _ h_ => h_.1))) (Kd.R_typed (by (with_reducible repeat (first | apply Kd.R_alloc | apply Kd.R_drewN | apply Kd.R_drew)); exact (Kd.R_mono (Kd.R_far (p := ⟨gb128, 4, none⟩) (Kd.R_far (p := ⟨gb128, 3, none⟩) (Kd.R_far (p := ⟨gb128, 2, none⟩) (Kd.R_far (p := ⟨gb128, 1, none⟩) (Kd.R_far (p := ⟨gb128, 0, none⟩) (Kd.R_mono HO_110002.out (fun k_ hk => (⟨hk, hk.2⟩ : _ ∧ k_ ≠ gb128))) (fun _ hk => hk.2) (.string t127)) (fun _ hk => hk.2) (.string (⟨#[]⟩ : ByteArray))) (fun _ hk => hk.2) (.int .u64 (IntKind.u64.wrap (Int.tmod x8_57 40)))) (fun _ hk => hk.2) (.int .u64 (IntKind.u64.wrap (wrap64 ((Int.tmod x8_57 40) + (Int.tmod x8_57 7)))))) (fun _ hk => hk.2) (.bool ((Int.tmod x8_57 5) == 4))) (fun _ h_ => h_.1)))) (by decide) hg); have n1_ := Aside0.mk (blk_grown (g := gb101) (o := .cells #[.int .u64 0, .slice none 0 0, .slice none 0 0] 27 (0, 0)) (by (with_reducible repeat (first | refine blk_drewN ?_ _ | refine blk_drew ?_ | refine blk_alloc ?_ _)); refine blk_far ?_ NB101_128.out _; (with_reducible repeat (first | refine blk_drewN ?_ _ | refine blk_drew ?_ | refine blk_alloc ?_ _)); refine blk_far ?_ NB101_128.out _; (with_reducible repeat (first | refine blk_drewN ?_ _ | refine blk_drew ?_ | refine blk_alloc ?_ _)); refine blk_far ?_ NB101_128.out _; (with_reducible repeat (first | refine blk_drewN ?_ _ | refine blk_drew ?_ | refine blk_alloc ?_ _)); refine blk_far ?_ NB101_128.out _; (with_reducible repeat (first | refine blk_drewN ?_ _ | refine blk_drew ?_ | refine blk_alloc ?_ _)); refine blk_far ?_ NB101_128.out _; (with_reducible repeat (first | refine blk_drewN ?_ _ | refine blk_drew ?_ | refine blk_alloc ?_ _)); exact BK101.out) hg (Kd.R_ne HO_110002.out BK101.out (by decide))); have n2_ := Aside0.mk (blk_grown (g := gb109) (o := .cells #[.int .u64 (IntKind.u64.wrap (rd y105 0)), .slice Ao106 x110001_1.length co106, u110002] 27 (0, 0)) (by (with_reducible repeat (first | refine blk_drewN ?_ _ | refine blk_drew ?_ | refine blk_alloc ?_ _)); refine blk_far ?_ NB109_128.out _; (with_reducible repeat (first | refine blk_drewN ?_ _ | refine blk_drew ?_ | refine blk_alloc ?_ _)); refine blk_far ?_ NB109_128.out _; (with_reducible repeat (first | refine blk_drewN ?_ _ | refine blk_drew ?_ | refine blk_alloc ?_ _)); refine blk_far ?_ NB109_128.out _; (with_reducible repeat (first | refine blk_drewN ?_ _ | refine blk_drew ?_ | refine blk_alloc ?_ _)); refine blk_far ?_ NB109_128.out _; (with_reducible repeat (first | refine blk_drewN ?_ _ | refine blk_drew ?_ | refine blk_alloc ?_ _)); refine blk_far ?_ NB109_128.out _; (with_reducible repeat (first | refine blk_drewN ?_ _ | refine blk_drew ?_ | refine blk_alloc ?_ _)); exact BK109.out) hg (Kd.R_ne HO_110002.out BK109.out (by decide))); have n3_ := Aside0.mk (blk_grown (g := gb128) (o := .cells #[.string t127, .string (⟨#[]⟩ : ByteArray), .int .u64 (IntKind.u64.wrap (Int.tmod x8_57 40)), .int .u64 (IntKind.u64.wrap (wrap64 ((Int.tmod x8_57 40) + (Int.tmod x8_57 7)))), .bool ((Int.tmod x8_57 5) == 4)] 31 (0, 0)) (by (with_reducible repeat (first | refine blk_drewN ?_ _ | refine blk_drew ?_ | refine blk_alloc ?_ _)); refine blk_put (cs := #[.string t127, .string (⟨#[]⟩ : ByteArray), .int .u64 (IntKind.u64.wrap (Int.tmod x8_57 40)), .int .u64 (IntKind.u64.wrap (wrap64 ((Int.tmod x8_57 40) + (Int.tmod x8_57 7)))), .bool false]) ?_ 4 _ rfl; (with_reducible repeat (first | refine blk_drewN ?_ _ | refine blk_drew ?_ | refine blk_alloc ?_ _)); refine blk_put (cs := #[.string t127, .string (⟨#[]⟩ : ByteArray), .int .u64 (IntKind.u64.wrap (Int.tmod x8_57 40)), .int .u64 0, .bool false]) ?_ 3 _ rfl; (with_reducible repeat (first | refine blk_drewN ?_ _ | refine blk_drew ?_ | refine blk_alloc ?_ _)); refine blk_put (cs := #[.string t127, .string (⟨#[]⟩ : ByteArray), .int .u64 0, .int .u64 0, .bool false]) ?_ 2 _ rfl; (with_reducible repeat (first | refine blk_drewN ?_ _ | refine blk_drew ?_ | refine blk_alloc ?_ _)); refine blk_put (cs := #[.string t127, .string (⟨#[]⟩ : ByteArray), .int .u64 0, .int .u64 0, .bool false]) ?_ 1 _ rfl; (with_reducible repeat (first | refine blk_drewN ?_ _ | refine blk_drew ?_ | refine blk_alloc ?_ _)); refine blk_put (cs := #[.string (⟨#[]⟩ : ByteArray), .string (⟨#[]⟩ : ByteArray), .int .u64 0, .int .u64 0, .bool false]) ?_ 0 _ rfl; (with_reducible repeat (first | refine blk_drewN ?_ _ | refine blk_drew ?_ | refine blk_alloc ?_ _)); exact BK128.out) hg (Kd.R_away HO_110002.out (fun _ hk => hk.2))); have n4_ := Aside0.mk (hb); have n5_ := Aside0.mk (ho); clear HO_110001; clear BK101; clear BK109; clear BK128; clear HB; clear HO_110002; have HO_110001 := n0_; have BK101 := n1_; have BK109 := n2_; have BK128 := n3_; have HB := n4_; have HO138 := n5_; clear n0_ n1_ n2_ n3_ n4_ n5_; clear ho hb hg hat; obtain ⟨Ao108, co108, eo108⟩ := Kd.R_slice HO138.out; subst eo108; have hcz109_0 : w107.cell? ⟨gb109, 0, none⟩ = some (.int .u64 (IntKind.u64.wrap (rd y105 0))) := (blk_cell BK109.out 0).trans rfl; have hcz109_1 : w107.cell? ⟨gb109, 1, none⟩ = some (.slice Ao106 x110001_1.length co106) := (blk_cell BK109.out 1).trans rfl; have hcz109_2 : w107.cell? ⟨gb109, 2, none⟩ = some (u110002) := (blk_cell BK109.out 2).trans rfl; have hfz109_0 := blk_frozen BK109.out 0; have hfz109_1 := blk_frozen BK109.out 1; have hfz109_2 := blk_frozen BK109.out 2))
              go_roundg kj57
              case measure => have := HK1.out; have := HK2.out; have := HJ57.out; omega
              case rel => exact ⟨(wrap64 (x7_2 + 1)), (y136), (.slice Ao108 y136.length co108), (by first | rfl | (simp; done) | (simp [*]; done)), H', ⟨by have := HK1.out; have := HK2.out; have := HJ57.out; omega⟩, ⟨by (try simp only [hl3_1]); (with_reducible repeat (first | apply Kd.S_alloc | apply Kd.S_drewN | apply Kd.S_drew)); exact Kd.S_mono (Kd.S_far (p := ⟨gb109, 2, none⟩) (Kd.S_types HO_110001.out BK109.out (by decide)) (fun _ hk => hk.2) (.slice Ao108 y136.length co108)) (fun _ hk => trivial)⟩, ⟨by (try simp only [hl3_1]); (with_reducible repeat (first | apply Kd.R_alloc | apply Kd.R_drewN | apply Kd.R_drew)); exact Kd.R_mono (Kd.R_far (p := ⟨gb109, 2, none⟩) (Kd.R_types HO138.out BK109.out (by decide)) (fun _ hk => hk.2) (.slice Ao108 y136.length co108)) (fun _ hk => trivial)⟩, ⟨by (try simp only [hl3_1]); (with_reducible repeat (first | refine blk_drewN ?_ _ | refine blk_drew ?_ | refine blk_alloc ?_ _)); refine blk_far ?_ NB101_109.out _; (with_reducible repeat (first | refine blk_drewN ?_ _ | refine blk_drew ?_ | refine blk_alloc ?_ _)); exact BK101.out⟩, ⟨by (try simp only [hl3_1]); (with_reducible repeat (first | refine blk_drewN ?_ _ | refine blk_drew ?_ | refine blk_alloc ?_ _)); refine blk_put (cs := #[.int .u64 (IntKind.u64.wrap (rd y105 0)), .slice Ao106 x110001_1.length co106, u110002]) ?_ 2 _ rfl; (with_reducible repeat (first | refine blk_drewN ?_ _ | refine blk_drew ?_ | refine blk_alloc ?_ _)); exact BK109.out⟩, ⟨by repeat (first | (with_reducible first | exact HB.out | apply below_alloc | apply pw_below_drewN | apply below_drew1 | refine below_set ?_ GE101.out | refine below_set ?_ GE109.out | refine below_set ?_ GE128.out) | exact HB.out)⟩⟩
             ·rw [if_neg c98] at H
              exact absurd H (by simp)
        ·rw [if_neg c57] at H
         have c57b0 : decide (x7_2 < 16) = false := decide_eq_false c57
         clear c57
         simp only [Option.some.injEq, Prod.mk.injEq] at H
         obtain ⟨rfl, rfl, rfl⟩ := H
         have hnb110 := NB109_101.out
         have hnc110 := NB101_109.out
         have hcz111_0 : wr.cell? ⟨gb109, 0, none⟩ = some (.int .u64 (IntKind.u64.wrap (rd y105 0))) := (blk_cell BK109.out 0).trans rfl
         have hcz111_1 : wr.cell? ⟨gb109, 1, none⟩ = some (u110001) := (blk_cell BK109.out 1).trans rfl
         have hcz111_2 : wr.cell? ⟨gb109, 2, none⟩ = some (u110002) := (blk_cell BK109.out 2).trans rfl
         have hfz111_0 := blk_frozen BK109.out 0
         have hfz111_1 := blk_frozen BK109.out 1
         have hfz111_2 := blk_frozen BK109.out 2
         have hcz112_0 : wr.cell? ⟨gb101, 0, none⟩ = some (.int .u64 0) := (blk_cell BK101.out 0).trans rfl
         have hcz112_1 : wr.cell? ⟨gb101, 1, none⟩ = some (.slice none 0 0) := (blk_cell BK101.out 1).trans rfl
         have hcz112_2 : wr.cell? ⟨gb101, 2, none⟩ = some (.slice none 0 0) := (blk_cell BK101.out 2).trans rfl
         have hfz112_0 := blk_frozen BK101.out 0
         have hfz112_1 := blk_frozen BK101.out 1
         have hfz112_2 := blk_frozen BK101.out 2
         obtain ⟨Ao113, co113, eo113⟩ := Kd.S_slice HO_110001.out
         subst eo113
         obtain ⟨Ao114, co114, eo114⟩ := Kd.R_slice HO_110002.out
         subst eo114
         go_wp2
         refine bodyPost_ret (results_cell_row rfl _ _ gb101 27 #[.int .u64 (IntKind.u64.wrap (rd y105 0)), .slice Ao113 x110001_1.length co113, .slice Ao114 x110002_2.length co114] (0, 0) _ rfl (by (with_reducible repeat (first | refine blk_drewN ?_ _ | refine blk_drew ?_ | refine blk_alloc ?_ _)); refine blk_put (cs := #[.int .u64 (IntKind.u64.wrap (rd y105 0)), .slice Ao113 x110001_1.length co113, .slice none 0 0]) ?_ 2 _ rfl; (with_reducible repeat (first | refine blk_drewN ?_ _ | refine blk_drew ?_ | refine blk_alloc ?_ _)); refine blk_put (cs := #[.int .u64 (IntKind.u64.wrap (rd y105 0)), .slice none 0 0, .slice none 0 0]) ?_ 1 _ rfl; (with_reducible repeat (first | refine blk_drewN ?_ _ | refine blk_drew ?_ | refine blk_alloc ?_ _)); refine blk_put (cs := #[.int .u64 0, .slice none 0 0, .slice none 0 0]) ?_ 0 _ rfl; (with_reducible repeat (first | refine blk_drewN ?_ _ | refine blk_drew ?_ | refine blk_alloc ?_ _)); exact BK101.out) Tryd.underlying27 rfl (by kernel_rfl)) rfl ?_
         exact ⟨_, _, by first | rfl | (simp [errW_none, errW_some] <;> rfl) | (simp [*, errW_none, errW_some] <;> rfl), by (with_reducible repeat (first | apply Kd.S_alloc | apply Kd.S_drewN | apply Kd.S_drew)); exact Kd.S_mono (Kd.S_far (p := ⟨gb101, 2, none⟩) (Kd.S_far (p := ⟨gb101, 1, none⟩) (Kd.S_far (p := ⟨gb101, 0, none⟩) (Kd.S_types HO_110001.out BK101.out (by decide)) (fun _ hk => hk.2) (.int .u64 (IntKind.u64.wrap (rd y105 0)))) (fun _ hk => hk.2) (.slice Ao113 x110001_1.length co113)) (fun _ hk => hk.2) (.slice Ao114 x110002_2.length co114)) (fun _ hk => trivial), by (with_reducible repeat (first | apply Kd.R_alloc | apply Kd.R_drewN | apply Kd.R_drew)); exact Kd.R_mono (Kd.R_far (p := ⟨gb101, 2, none⟩) (Kd.R_far (p := ⟨gb101, 1, none⟩) (Kd.R_far (p := ⟨gb101, 0, none⟩) (Kd.R_types HO_110002.out BK101.out (by decide)) (fun _ hk => hk.2) (.int .u64 (IntKind.u64.wrap (rd y105 0)))) (fun _ hk => hk.2) (.slice Ao113 x110001_1.length co113)) (fun _ hk => hk.2) (.slice Ao114 x110002_2.length co114)) (fun _ hk => trivial), by repeat (first | (with_reducible first | exact HB.out | apply below_alloc | apply pw_below_drewN | apply below_drew1 | refine below_set ?_ GE101.out | refine below_set ?_ GE109.out) | exact HB.out)⟩
  ·rw [if_neg c3] at H
   exact absurd H (by simp)
 ·rw [if_neg c2] at H
  exact absurd H (by simp)

end Go.Proofs.YtnlhomgclplnhaaDoor.Pr
