import Derived.Test.YtnlhomgclplnhaaDoorPk1
import Derived.Test.YtnlhomgclplnhaaDoorPk4
import Derived.Test.YtnlhomgclplnhaaDoorPk5
import Derived.Test.YtnlhomgclplnhaaDoorPk6
-- Written for this claim by wip/myprint.py, this session's driver over the kit's print.py. Not trusted: Lean checks it.
namespace Go.Proofs.YtnlhomgclplnhaaDoor.Pr
open Go.RowKit Go.Proofs.YtnlhomgclplnhaaDoorW.PrintWords Go.Proofs.YtnlhomgclplnhaaDoorW.PrintLast Go.Proofs.YtnlhomgclplnhaaDoorW.PrintMore Go.Proofs.YtnlhomgclplnhaaDoor.E
attribute [local go_sem] max2_int min2_int max_two min_two max_three min_three max_four min_four   -- for this text's walks alone
set_option linter.unusedVariables false
set_option linter.unusedSimpArgs false

/-! ### wicketmanlaw16_CodeRight: function 3 -/
def wicketmanlaw16_CodeRight.j0 : Nat → Int → List (S33) → List (S31) → Int → List (S33) → List (S31) → Option (Bool)
 | 0, _, _, _, _, _, _ => none
 | k + 1, x109000, x109001, x109002, x117000, x117001, x117002 => (code_State.f x117000 x117001 x117002).bind fun bt132 => ((wicketmanlaw16_known.f).bind fun t136 => (if t136 = true then ((code_Right.f x109000 x109001 x109002).bind fun t137 => (if t137 = true then ((code_Right.f x117000 x117001 x117002).bind fun t138 => (if t138 = true then (none) else (some (bt132.2 == 1)))) else (none))) else (none)))
def wicketmanlaw16_CodeRight.f (k : Nat) (l0 : List Int) (a1 : Int) (a2 : Int) : Option (Bool) := (wicketmanlaw16_State.f k l0).bind fun bt101 => ((wicketmanlaw16_State.f k l0).bind fun bt109 => (if (Int.tmod a1 4) = 0 then (if (bt109.2.2.length : Int) < 2 then ((wicketmanlaw16_known.f).bind fun t117 => (some t117)) else (if (wrap64 ((bt109.2.2.length : Int) - 1)) = 0 then (none) else (if 0 ≤ (Int.tmod (wrap64 (a2)) (wrap64 ((bt109.2.2.length : Int) - 1))) then (if (Int.tmod (wrap64 (a2)) (wrap64 ((bt109.2.2.length : Int) - 1))) < (bt109.2.2.length : Int) then (if 0 ≤ (wrap64 ((Int.tmod (wrap64 (a2)) (wrap64 ((bt109.2.2.length : Int) - 1))) + 1)) then (if (wrap64 ((Int.tmod (wrap64 (a2)) (wrap64 ((bt109.2.2.length : Int) - 1))) + 1)) < (bt109.2.2.length : Int) then (wicketmanlaw16_CodeRight.j0 k bt101.1 bt101.2.1 bt101.2.2 bt109.1 bt109.2.1 ((bt109.2.2.set ((Int.tmod (wrap64 (a2)) (wrap64 ((bt109.2.2.length : Int) - 1))) : Int).toNat (⟨(rd_T31 bt109.2.2 (wrap64 ((Int.tmod (wrap64 (a2)) (wrap64 ((bt109.2.2.length : Int) - 1))) + 1))).f0, (rd_T31 bt109.2.2 (wrap64 ((Int.tmod (wrap64 (a2)) (wrap64 ((bt109.2.2.length : Int) - 1))) + 1))).f1, (rd_T31 bt109.2.2 (wrap64 ((Int.tmod (wrap64 (a2)) (wrap64 ((bt109.2.2.length : Int) - 1))) + 1))).f2, (rd_T31 bt109.2.2 (wrap64 ((Int.tmod (wrap64 (a2)) (wrap64 ((bt109.2.2.length : Int) - 1))) + 1))).f3, (rd_T31 bt109.2.2 (wrap64 ((Int.tmod (wrap64 (a2)) (wrap64 ((bt109.2.2.length : Int) - 1))) + 1))).f4⟩ : S31)).set ((wrap64 ((Int.tmod (wrap64 (a2)) (wrap64 ((bt109.2.2.length : Int) - 1))) + 1)) : Int).toNat (⟨(rd_T31 bt109.2.2 (Int.tmod (wrap64 (a2)) (wrap64 ((bt109.2.2.length : Int) - 1)))).f0, (rd_T31 bt109.2.2 (Int.tmod (wrap64 (a2)) (wrap64 ((bt109.2.2.length : Int) - 1)))).f1, (rd_T31 bt109.2.2 (Int.tmod (wrap64 (a2)) (wrap64 ((bt109.2.2.length : Int) - 1)))).f2, (rd_T31 bt109.2.2 (Int.tmod (wrap64 (a2)) (wrap64 ((bt109.2.2.length : Int) - 1)))).f3, (rd_T31 bt109.2.2 (Int.tmod (wrap64 (a2)) (wrap64 ((bt109.2.2.length : Int) - 1)))).f4⟩ : S31))) else (none)) else (none)) else (none)) else (none)))) else (if (Int.tmod a1 4) = 1 then (if (bt109.2.1.length : Int) = 0 then ((wicketmanlaw16_known.f).bind fun t123 => (some t123)) else (if 0 ≤ (wrap64 ((bt109.2.1.length : Int) - 1)) then (if (wrap64 ((bt109.2.1.length : Int) - 1)) < (bt109.2.1.length : Int) then (if bt109.2.1.length < 1466015503701 then (wicketmanlaw16_CodeRight.j0 k bt101.1 bt101.2.1 bt101.2.2 bt109.1 (bt109.2.1 ++ [(⟨(rd_T33 bt109.2.1 (wrap64 ((bt109.2.1.length : Int) - 1))).f0, (rd_T33 bt109.2.1 (wrap64 ((bt109.2.1.length : Int) - 1))).f1, (rd_T33 bt109.2.1 (wrap64 ((bt109.2.1.length : Int) - 1))).f2, (rd_T33 bt109.2.1 (wrap64 ((bt109.2.1.length : Int) - 1))).f3, (rd_T33 bt109.2.1 (wrap64 ((bt109.2.1.length : Int) - 1))).f4, (rd_T33 bt109.2.1 (wrap64 ((bt109.2.1.length : Int) - 1))).f5⟩ : S33)]) bt109.2.2) else (none)) else (none)) else (none))) else (if (Int.tmod a1 4) = 2 then (if (bt109.2.2.length : Int) = 0 then ((wicketmanlaw16_known.f).bind fun t128 => (some t128)) else (if 0 ≤ (Int.tmod (wrap64 (a2)) (bt109.2.2.length : Int)) then (if (Int.tmod (wrap64 (a2)) (bt109.2.2.length : Int)) < (bt109.2.2.length : Int) then (wicketmanlaw16_CodeRight.j0 k bt101.1 bt101.2.1 bt101.2.2 bt109.1 bt109.2.1 (bt109.2.2.set ((Int.tmod (wrap64 (a2)) (bt109.2.2.length : Int)) : Int).toNat (⟨(rd_T31 bt109.2.2 (Int.tmod (wrap64 (a2)) (bt109.2.2.length : Int))).f0, (⟨#[110, 111, 98, 111, 100, 121]⟩ : ByteArray), (rd_T31 bt109.2.2 (Int.tmod (wrap64 (a2)) (bt109.2.2.length : Int))).f2, (rd_T31 bt109.2.2 (Int.tmod (wrap64 (a2)) (bt109.2.2.length : Int))).f3, (rd_T31 bt109.2.2 (Int.tmod (wrap64 (a2)) (bt109.2.2.length : Int))).f4⟩ : S31))) else (none)) else (none))) else (if (bt109.2.2.length : Int) = 0 then ((wicketmanlaw16_known.f).bind fun t130 => (some t130)) else (if 0 ≤ (Int.tmod (wrap64 (a2)) (bt109.2.2.length : Int)) then (if (Int.tmod (wrap64 (a2)) (bt109.2.2.length : Int)) < (bt109.2.2.length : Int) then (wicketmanlaw16_CodeRight.j0 k bt101.1 bt101.2.1 bt101.2.2 bt109.1 bt109.2.1 (bt109.2.2.set ((Int.tmod (wrap64 (a2)) (bt109.2.2.length : Int)) : Int).toNat (⟨(⟨#[48, 48]⟩ : ByteArray), (rd_T31 bt109.2.2 (Int.tmod (wrap64 (a2)) (bt109.2.2.length : Int))).f1, (rd_T31 bt109.2.2 (Int.tmod (wrap64 (a2)) (bt109.2.2.length : Int))).f2, (rd_T31 bt109.2.2 (Int.tmod (wrap64 (a2)) (bt109.2.2.length : Int))).f3, (rd_T31 bt109.2.2 (Int.tmod (wrap64 (a2)) (bt109.2.2.length : Int))).f4⟩ : S31))) else (none)) else (none)))))))
theorem wicketmanlaw16_CodeRight.mono_l : ∀ k, (∀ y0 y1 y2 y3 y4 y5, LeO (wicketmanlaw16_CodeRight.j0 k y0 y1 y2 y3 y4 y5) (wicketmanlaw16_CodeRight.j0 (k + 1) y0 y1 y2 y3 y4 y5))
 | 0 => fun _ _ _ _ _ _ r h => by simp [wicketmanlaw16_CodeRight.j0] at h
 | k + 1 => by
  have ih0 := wicketmanlaw16_CodeRight.mono_l k
  ·intro y0 y1 y2 y3 y4 y5
   unfold wicketmanlaw16_CodeRight.j0
   repeat' first
   | (with_reducible exact ih0 _ _ _ _ _ _)
   | (with_reducible exact wicketmanlaw16_State.mono _ _)
   | (with_reducible exact LeO.refl _)
   | (with_reducible exact LeO.none _)
   | (with_reducible refine LeO.ite ?_ ?_)
   | (with_reducible refine LeO.bind ?_ (fun _ => ?_))
   | exact ih0 _ _ _ _ _ _
   | exact wicketmanlaw16_State.mono _ _
   | exact LeO.none _
   | refine LeO.ite ?_ ?_
   | refine LeO.bind ?_ (fun _ => ?_)
theorem wicketmanlaw16_CodeRight.mono : ∀ a0 a1 a2 k, LeO (wicketmanlaw16_CodeRight.f k a0 a1 a2) (wicketmanlaw16_CodeRight.f (k + 1) a0 a1 a2) := by
 intro a0 a1 a2 k
 have ih0 := wicketmanlaw16_CodeRight.mono_l k
 unfold wicketmanlaw16_CodeRight.f
 repeat' first
   | (with_reducible exact ih0 _ _ _ _ _ _)
   | (with_reducible exact wicketmanlaw16_State.mono _ _)
   | (with_reducible exact LeO.refl _)
   | (with_reducible exact LeO.none _)
   | (with_reducible refine LeO.ite ?_ ?_)
   | (with_reducible refine LeO.bind ?_ (fun _ => ?_))
   | exact ih0 _ _ _ _ _ _
   | exact wicketmanlaw16_State.mono _ _
   | exact LeO.none _
   | refine LeO.ite ?_ ?_
   | refine LeO.bind ?_ (fun _ => ?_)
def wicketmanlaw16_CodeRight.T6 : Bool × List (List Nat × List Nat) := (true, [([], []), ([0], [0]), ([], []), ([2], [2]), ([], []), ([4], [4]), ([5], [5]), ([3, 6], [3, 6]), ([1, 7, 0, 1, 2, 3, 4, 5, 6, 7], [1, 7]), ([8, 0, 1, 2, 3, 4, 5, 6, 7], [8]), ([9, 0, 1, 2, 3, 4, 5, 6, 7], [9])])
def wicketmanlaw16_CodeRight.B6 : List Nat := [0, 1, 0, 4, 0, 16, 48, 124, 255, 511, 1023]
theorem wicketmanlaw16_CodeRight.tab6 : rtab .any (opsOf Tryd.f3 6) = wicketmanlaw16_CodeRight.T6 := by kernel_rfl
theorem wicketmanlaw16_CodeRight.bits6 : waitsOk wicketmanlaw16_CodeRight.T6.2 wicketmanlaw16_CodeRight.B6 = true := by kernel_rfl
def wicketmanlaw16_CodeRight.T12 : Bool × List (List Nat × List Nat) := (true, [([], []), ([0], [0]), ([], []), ([], []), ([3], [3]), ([], []), ([5], [5]), ([4, 6], [4, 6]), ([7], [7]), ([1, 2, 0, 1, 2, 3, 4, 5, 6, 7, 8], [1, 2]), ([9, 8, 0, 1, 2, 3, 4, 5, 6, 7, 8], [8, 9])])
def wicketmanlaw16_CodeRight.B12 : List Nat := [0, 1, 0, 0, 8, 0, 32, 120, 248, 511, 1023]
theorem wicketmanlaw16_CodeRight.tab12 : rtab .any (opsOf Tryd.f3 12) = wicketmanlaw16_CodeRight.T12 := by kernel_rfl
theorem wicketmanlaw16_CodeRight.bits12 : waitsOk wicketmanlaw16_CodeRight.T12.2 wicketmanlaw16_CodeRight.B12 = true := by kernel_rfl
def wicketmanlaw16_CodeRight.T17 : Bool × List (List Nat × List Nat) := (true, [([], []), ([0], [0]), ([], []), ([2], [2]), ([], []), ([4], [4]), ([5], [5]), ([6], [6]), ([3, 7], [3, 7]), ([8], [8]), ([9], [9]), ([1, 10], [1, 10]), ([0, 1, 2, 3, 4, 5, 6, 7, 8, 9, 10, 11], []), ([12, 11, 11, 0, 1, 2, 3, 4, 5, 6, 7, 8, 9, 10, 11], [11, 12])])
def wicketmanlaw16_CodeRight.B17 : List Nat := [0, 1, 0, 4, 0, 16, 48, 112, 252, 508, 1020, 2047, 4095, 8191]
theorem wicketmanlaw16_CodeRight.tab17 : rtab .any (opsOf Tryd.f3 17) = wicketmanlaw16_CodeRight.T17 := by kernel_rfl
theorem wicketmanlaw16_CodeRight.bits17 : waitsOk wicketmanlaw16_CodeRight.T17.2 wicketmanlaw16_CodeRight.B17 = true := by kernel_rfl
def wicketmanlaw16_CodeRight.T21 : Bool × List (List Nat × List Nat) := (true, [([], []), ([0], [0]), ([], []), ([2], [2]), ([], []), ([4], [4]), ([5], [5]), ([3, 6], [3, 6]), ([1, 7, 0, 1, 2, 3, 4, 5, 6, 7], [1, 7]), ([8, 0, 1, 2, 3, 4, 5, 6, 7], [8]), ([9, 0, 1, 2, 3, 4, 5, 6, 7], [9])])
def wicketmanlaw16_CodeRight.B21 : List Nat := [0, 1, 0, 4, 0, 16, 48, 124, 255, 511, 1023]
theorem wicketmanlaw16_CodeRight.tab21 : rtab .any (opsOf Tryd.f3 21) = wicketmanlaw16_CodeRight.T21 := by kernel_rfl
theorem wicketmanlaw16_CodeRight.bits21 : waitsOk wicketmanlaw16_CodeRight.T21.2 wicketmanlaw16_CodeRight.B21 = true := by kernel_rfl
set_option maxHeartbeats 8000000 in
set_option maxRecDepth 1000000 in
theorem wicketmanlaw16_CodeRight.calls (k : Nat) (A0 : Option Addr) (c0 : Nat) (l0 : List Int) (a1 : Int) (a2 : Int) (r : Bool) (w : World) (hr0 : Kd.C (Kd.int .u8) w A0 l0.length l0) (hc0 : l0.length ≤ c0) (h : wicketmanlaw16_CodeRight.f k l0 a1 a2 = some r) (hG_ : RootsIn w) :
  Calls Tryd.prog 3 #[.slice A0 l0.length c0, .int .u8 a1, .int .u8 a2] w fun e w' => e = .returned (.bool r) ∧ Below w.heap.size w w' := by
 have hu27 := Tryd.underlying27
 have hu31 := Tryd.underlying31
 have hu33 := Tryd.underlying33
 have HR0 := Aside0.mk hr0
 have HC0 := Aside0.mk hc0
 clear hr0 hc0
 have HB := Aside0.mk (Below.refl w.heap.size w)
 have HGR := Aside0.mk hG_
 clear hG_
 have H : ((wicketmanlaw16_State.f k l0).bind fun bt101 => ((wicketmanlaw16_State.f k l0).bind fun bt109 => (if (Int.tmod a1 4) = 0 then (if (bt109.2.2.length : Int) < 2 then ((wicketmanlaw16_known.f).bind fun t117 => (some t117)) else (if (wrap64 ((bt109.2.2.length : Int) - 1)) = 0 then (none) else (if 0 ≤ (Int.tmod (wrap64 (a2)) (wrap64 ((bt109.2.2.length : Int) - 1))) then (if (Int.tmod (wrap64 (a2)) (wrap64 ((bt109.2.2.length : Int) - 1))) < (bt109.2.2.length : Int) then (if 0 ≤ (wrap64 ((Int.tmod (wrap64 (a2)) (wrap64 ((bt109.2.2.length : Int) - 1))) + 1)) then (if (wrap64 ((Int.tmod (wrap64 (a2)) (wrap64 ((bt109.2.2.length : Int) - 1))) + 1)) < (bt109.2.2.length : Int) then (wicketmanlaw16_CodeRight.j0 k bt101.1 bt101.2.1 bt101.2.2 bt109.1 bt109.2.1 ((bt109.2.2.set ((Int.tmod (wrap64 (a2)) (wrap64 ((bt109.2.2.length : Int) - 1))) : Int).toNat (⟨(rd_T31 bt109.2.2 (wrap64 ((Int.tmod (wrap64 (a2)) (wrap64 ((bt109.2.2.length : Int) - 1))) + 1))).f0, (rd_T31 bt109.2.2 (wrap64 ((Int.tmod (wrap64 (a2)) (wrap64 ((bt109.2.2.length : Int) - 1))) + 1))).f1, (rd_T31 bt109.2.2 (wrap64 ((Int.tmod (wrap64 (a2)) (wrap64 ((bt109.2.2.length : Int) - 1))) + 1))).f2, (rd_T31 bt109.2.2 (wrap64 ((Int.tmod (wrap64 (a2)) (wrap64 ((bt109.2.2.length : Int) - 1))) + 1))).f3, (rd_T31 bt109.2.2 (wrap64 ((Int.tmod (wrap64 (a2)) (wrap64 ((bt109.2.2.length : Int) - 1))) + 1))).f4⟩ : S31)).set ((wrap64 ((Int.tmod (wrap64 (a2)) (wrap64 ((bt109.2.2.length : Int) - 1))) + 1)) : Int).toNat (⟨(rd_T31 bt109.2.2 (Int.tmod (wrap64 (a2)) (wrap64 ((bt109.2.2.length : Int) - 1)))).f0, (rd_T31 bt109.2.2 (Int.tmod (wrap64 (a2)) (wrap64 ((bt109.2.2.length : Int) - 1)))).f1, (rd_T31 bt109.2.2 (Int.tmod (wrap64 (a2)) (wrap64 ((bt109.2.2.length : Int) - 1)))).f2, (rd_T31 bt109.2.2 (Int.tmod (wrap64 (a2)) (wrap64 ((bt109.2.2.length : Int) - 1)))).f3, (rd_T31 bt109.2.2 (Int.tmod (wrap64 (a2)) (wrap64 ((bt109.2.2.length : Int) - 1)))).f4⟩ : S31))) else (none)) else (none)) else (none)) else (none)))) else (if (Int.tmod a1 4) = 1 then (if (bt109.2.1.length : Int) = 0 then ((wicketmanlaw16_known.f).bind fun t123 => (some t123)) else (if 0 ≤ (wrap64 ((bt109.2.1.length : Int) - 1)) then (if (wrap64 ((bt109.2.1.length : Int) - 1)) < (bt109.2.1.length : Int) then (if bt109.2.1.length < 1466015503701 then (wicketmanlaw16_CodeRight.j0 k bt101.1 bt101.2.1 bt101.2.2 bt109.1 (bt109.2.1 ++ [(⟨(rd_T33 bt109.2.1 (wrap64 ((bt109.2.1.length : Int) - 1))).f0, (rd_T33 bt109.2.1 (wrap64 ((bt109.2.1.length : Int) - 1))).f1, (rd_T33 bt109.2.1 (wrap64 ((bt109.2.1.length : Int) - 1))).f2, (rd_T33 bt109.2.1 (wrap64 ((bt109.2.1.length : Int) - 1))).f3, (rd_T33 bt109.2.1 (wrap64 ((bt109.2.1.length : Int) - 1))).f4, (rd_T33 bt109.2.1 (wrap64 ((bt109.2.1.length : Int) - 1))).f5⟩ : S33)]) bt109.2.2) else (none)) else (none)) else (none))) else (if (Int.tmod a1 4) = 2 then (if (bt109.2.2.length : Int) = 0 then ((wicketmanlaw16_known.f).bind fun t128 => (some t128)) else (if 0 ≤ (Int.tmod (wrap64 (a2)) (bt109.2.2.length : Int)) then (if (Int.tmod (wrap64 (a2)) (bt109.2.2.length : Int)) < (bt109.2.2.length : Int) then (wicketmanlaw16_CodeRight.j0 k bt101.1 bt101.2.1 bt101.2.2 bt109.1 bt109.2.1 (bt109.2.2.set ((Int.tmod (wrap64 (a2)) (bt109.2.2.length : Int)) : Int).toNat (⟨(rd_T31 bt109.2.2 (Int.tmod (wrap64 (a2)) (bt109.2.2.length : Int))).f0, (⟨#[110, 111, 98, 111, 100, 121]⟩ : ByteArray), (rd_T31 bt109.2.2 (Int.tmod (wrap64 (a2)) (bt109.2.2.length : Int))).f2, (rd_T31 bt109.2.2 (Int.tmod (wrap64 (a2)) (bt109.2.2.length : Int))).f3, (rd_T31 bt109.2.2 (Int.tmod (wrap64 (a2)) (bt109.2.2.length : Int))).f4⟩ : S31))) else (none)) else (none))) else (if (bt109.2.2.length : Int) = 0 then ((wicketmanlaw16_known.f).bind fun t130 => (some t130)) else (if 0 ≤ (Int.tmod (wrap64 (a2)) (bt109.2.2.length : Int)) then (if (Int.tmod (wrap64 (a2)) (bt109.2.2.length : Int)) < (bt109.2.2.length : Int) then (wicketmanlaw16_CodeRight.j0 k bt101.1 bt101.2.1 bt101.2.2 bt109.1 bt109.2.1 (bt109.2.2.set ((Int.tmod (wrap64 (a2)) (bt109.2.2.length : Int)) : Int).toNat (⟨(⟨#[48, 48]⟩ : ByteArray), (rd_T31 bt109.2.2 (Int.tmod (wrap64 (a2)) (bt109.2.2.length : Int))).f1, (rd_T31 bt109.2.2 (Int.tmod (wrap64 (a2)) (bt109.2.2.length : Int))).f2, (rd_T31 bt109.2.2 (Int.tmod (wrap64 (a2)) (bt109.2.2.length : Int))).f3, (rd_T31 bt109.2.2 (Int.tmod (wrap64 (a2)) (bt109.2.2.length : Int))).f4⟩ : S31))) else (none)) else (none)))))))) = some r := h
 clear h
 replace H := Option.bind_eq_some_iff.mp H
 obtain ⟨⟨t101, t102, t105⟩, A40, H⟩ := H
 replace H : ((wicketmanlaw16_State.f k l0).bind fun bt109 => (if (Int.tmod a1 4) = 0 then (if (bt109.2.2.length : Int) < 2 then ((wicketmanlaw16_known.f).bind fun t117 => (some t117)) else (if (wrap64 ((bt109.2.2.length : Int) - 1)) = 0 then (none) else (if 0 ≤ (Int.tmod (wrap64 (a2)) (wrap64 ((bt109.2.2.length : Int) - 1))) then (if (Int.tmod (wrap64 (a2)) (wrap64 ((bt109.2.2.length : Int) - 1))) < (bt109.2.2.length : Int) then (if 0 ≤ (wrap64 ((Int.tmod (wrap64 (a2)) (wrap64 ((bt109.2.2.length : Int) - 1))) + 1)) then (if (wrap64 ((Int.tmod (wrap64 (a2)) (wrap64 ((bt109.2.2.length : Int) - 1))) + 1)) < (bt109.2.2.length : Int) then (wicketmanlaw16_CodeRight.j0 k t101 t102 t105 bt109.1 bt109.2.1 ((bt109.2.2.set ((Int.tmod (wrap64 (a2)) (wrap64 ((bt109.2.2.length : Int) - 1))) : Int).toNat (⟨(rd_T31 bt109.2.2 (wrap64 ((Int.tmod (wrap64 (a2)) (wrap64 ((bt109.2.2.length : Int) - 1))) + 1))).f0, (rd_T31 bt109.2.2 (wrap64 ((Int.tmod (wrap64 (a2)) (wrap64 ((bt109.2.2.length : Int) - 1))) + 1))).f1, (rd_T31 bt109.2.2 (wrap64 ((Int.tmod (wrap64 (a2)) (wrap64 ((bt109.2.2.length : Int) - 1))) + 1))).f2, (rd_T31 bt109.2.2 (wrap64 ((Int.tmod (wrap64 (a2)) (wrap64 ((bt109.2.2.length : Int) - 1))) + 1))).f3, (rd_T31 bt109.2.2 (wrap64 ((Int.tmod (wrap64 (a2)) (wrap64 ((bt109.2.2.length : Int) - 1))) + 1))).f4⟩ : S31)).set ((wrap64 ((Int.tmod (wrap64 (a2)) (wrap64 ((bt109.2.2.length : Int) - 1))) + 1)) : Int).toNat (⟨(rd_T31 bt109.2.2 (Int.tmod (wrap64 (a2)) (wrap64 ((bt109.2.2.length : Int) - 1)))).f0, (rd_T31 bt109.2.2 (Int.tmod (wrap64 (a2)) (wrap64 ((bt109.2.2.length : Int) - 1)))).f1, (rd_T31 bt109.2.2 (Int.tmod (wrap64 (a2)) (wrap64 ((bt109.2.2.length : Int) - 1)))).f2, (rd_T31 bt109.2.2 (Int.tmod (wrap64 (a2)) (wrap64 ((bt109.2.2.length : Int) - 1)))).f3, (rd_T31 bt109.2.2 (Int.tmod (wrap64 (a2)) (wrap64 ((bt109.2.2.length : Int) - 1)))).f4⟩ : S31))) else (none)) else (none)) else (none)) else (none)))) else (if (Int.tmod a1 4) = 1 then (if (bt109.2.1.length : Int) = 0 then ((wicketmanlaw16_known.f).bind fun t123 => (some t123)) else (if 0 ≤ (wrap64 ((bt109.2.1.length : Int) - 1)) then (if (wrap64 ((bt109.2.1.length : Int) - 1)) < (bt109.2.1.length : Int) then (if bt109.2.1.length < 1466015503701 then (wicketmanlaw16_CodeRight.j0 k t101 t102 t105 bt109.1 (bt109.2.1 ++ [(⟨(rd_T33 bt109.2.1 (wrap64 ((bt109.2.1.length : Int) - 1))).f0, (rd_T33 bt109.2.1 (wrap64 ((bt109.2.1.length : Int) - 1))).f1, (rd_T33 bt109.2.1 (wrap64 ((bt109.2.1.length : Int) - 1))).f2, (rd_T33 bt109.2.1 (wrap64 ((bt109.2.1.length : Int) - 1))).f3, (rd_T33 bt109.2.1 (wrap64 ((bt109.2.1.length : Int) - 1))).f4, (rd_T33 bt109.2.1 (wrap64 ((bt109.2.1.length : Int) - 1))).f5⟩ : S33)]) bt109.2.2) else (none)) else (none)) else (none))) else (if (Int.tmod a1 4) = 2 then (if (bt109.2.2.length : Int) = 0 then ((wicketmanlaw16_known.f).bind fun t128 => (some t128)) else (if 0 ≤ (Int.tmod (wrap64 (a2)) (bt109.2.2.length : Int)) then (if (Int.tmod (wrap64 (a2)) (bt109.2.2.length : Int)) < (bt109.2.2.length : Int) then (wicketmanlaw16_CodeRight.j0 k t101 t102 t105 bt109.1 bt109.2.1 (bt109.2.2.set ((Int.tmod (wrap64 (a2)) (bt109.2.2.length : Int)) : Int).toNat (⟨(rd_T31 bt109.2.2 (Int.tmod (wrap64 (a2)) (bt109.2.2.length : Int))).f0, (⟨#[110, 111, 98, 111, 100, 121]⟩ : ByteArray), (rd_T31 bt109.2.2 (Int.tmod (wrap64 (a2)) (bt109.2.2.length : Int))).f2, (rd_T31 bt109.2.2 (Int.tmod (wrap64 (a2)) (bt109.2.2.length : Int))).f3, (rd_T31 bt109.2.2 (Int.tmod (wrap64 (a2)) (bt109.2.2.length : Int))).f4⟩ : S31))) else (none)) else (none))) else (if (bt109.2.2.length : Int) = 0 then ((wicketmanlaw16_known.f).bind fun t130 => (some t130)) else (if 0 ≤ (Int.tmod (wrap64 (a2)) (bt109.2.2.length : Int)) then (if (Int.tmod (wrap64 (a2)) (bt109.2.2.length : Int)) < (bt109.2.2.length : Int) then (wicketmanlaw16_CodeRight.j0 k t101 t102 t105 bt109.1 bt109.2.1 (bt109.2.2.set ((Int.tmod (wrap64 (a2)) (bt109.2.2.length : Int)) : Int).toNat (⟨(⟨#[48, 48]⟩ : ByteArray), (rd_T31 bt109.2.2 (Int.tmod (wrap64 (a2)) (bt109.2.2.length : Int))).f1, (rd_T31 bt109.2.2 (Int.tmod (wrap64 (a2)) (bt109.2.2.length : Int))).f2, (rd_T31 bt109.2.2 (Int.tmod (wrap64 (a2)) (bt109.2.2.length : Int))).f3, (rd_T31 bt109.2.2 (Int.tmod (wrap64 (a2)) (bt109.2.2.length : Int))).f4⟩ : S31))) else (none)) else (none))))))) = some r := H
 have A4 := Aside0.mk A40
 clear A40
 replace H := Option.bind_eq_some_iff.mp H
 obtain ⟨⟨t109, t110, t113⟩, A50, H⟩ := H
 replace H : (if (Int.tmod a1 4) = 0 then (if (t113.length : Int) < 2 then ((wicketmanlaw16_known.f).bind fun t117 => (some t117)) else (if (wrap64 ((t113.length : Int) - 1)) = 0 then (none) else (if 0 ≤ (Int.tmod (wrap64 (a2)) (wrap64 ((t113.length : Int) - 1))) then (if (Int.tmod (wrap64 (a2)) (wrap64 ((t113.length : Int) - 1))) < (t113.length : Int) then (if 0 ≤ (wrap64 ((Int.tmod (wrap64 (a2)) (wrap64 ((t113.length : Int) - 1))) + 1)) then (if (wrap64 ((Int.tmod (wrap64 (a2)) (wrap64 ((t113.length : Int) - 1))) + 1)) < (t113.length : Int) then (wicketmanlaw16_CodeRight.j0 k t101 t102 t105 t109 t110 ((t113.set ((Int.tmod (wrap64 (a2)) (wrap64 ((t113.length : Int) - 1))) : Int).toNat (⟨(rd_T31 t113 (wrap64 ((Int.tmod (wrap64 (a2)) (wrap64 ((t113.length : Int) - 1))) + 1))).f0, (rd_T31 t113 (wrap64 ((Int.tmod (wrap64 (a2)) (wrap64 ((t113.length : Int) - 1))) + 1))).f1, (rd_T31 t113 (wrap64 ((Int.tmod (wrap64 (a2)) (wrap64 ((t113.length : Int) - 1))) + 1))).f2, (rd_T31 t113 (wrap64 ((Int.tmod (wrap64 (a2)) (wrap64 ((t113.length : Int) - 1))) + 1))).f3, (rd_T31 t113 (wrap64 ((Int.tmod (wrap64 (a2)) (wrap64 ((t113.length : Int) - 1))) + 1))).f4⟩ : S31)).set ((wrap64 ((Int.tmod (wrap64 (a2)) (wrap64 ((t113.length : Int) - 1))) + 1)) : Int).toNat (⟨(rd_T31 t113 (Int.tmod (wrap64 (a2)) (wrap64 ((t113.length : Int) - 1)))).f0, (rd_T31 t113 (Int.tmod (wrap64 (a2)) (wrap64 ((t113.length : Int) - 1)))).f1, (rd_T31 t113 (Int.tmod (wrap64 (a2)) (wrap64 ((t113.length : Int) - 1)))).f2, (rd_T31 t113 (Int.tmod (wrap64 (a2)) (wrap64 ((t113.length : Int) - 1)))).f3, (rd_T31 t113 (Int.tmod (wrap64 (a2)) (wrap64 ((t113.length : Int) - 1)))).f4⟩ : S31))) else (none)) else (none)) else (none)) else (none)))) else (if (Int.tmod a1 4) = 1 then (if (t110.length : Int) = 0 then ((wicketmanlaw16_known.f).bind fun t123 => (some t123)) else (if 0 ≤ (wrap64 ((t110.length : Int) - 1)) then (if (wrap64 ((t110.length : Int) - 1)) < (t110.length : Int) then (if t110.length < 1466015503701 then (wicketmanlaw16_CodeRight.j0 k t101 t102 t105 t109 (t110 ++ [(⟨(rd_T33 t110 (wrap64 ((t110.length : Int) - 1))).f0, (rd_T33 t110 (wrap64 ((t110.length : Int) - 1))).f1, (rd_T33 t110 (wrap64 ((t110.length : Int) - 1))).f2, (rd_T33 t110 (wrap64 ((t110.length : Int) - 1))).f3, (rd_T33 t110 (wrap64 ((t110.length : Int) - 1))).f4, (rd_T33 t110 (wrap64 ((t110.length : Int) - 1))).f5⟩ : S33)]) t113) else (none)) else (none)) else (none))) else (if (Int.tmod a1 4) = 2 then (if (t113.length : Int) = 0 then ((wicketmanlaw16_known.f).bind fun t128 => (some t128)) else (if 0 ≤ (Int.tmod (wrap64 (a2)) (t113.length : Int)) then (if (Int.tmod (wrap64 (a2)) (t113.length : Int)) < (t113.length : Int) then (wicketmanlaw16_CodeRight.j0 k t101 t102 t105 t109 t110 (t113.set ((Int.tmod (wrap64 (a2)) (t113.length : Int)) : Int).toNat (⟨(rd_T31 t113 (Int.tmod (wrap64 (a2)) (t113.length : Int))).f0, (⟨#[110, 111, 98, 111, 100, 121]⟩ : ByteArray), (rd_T31 t113 (Int.tmod (wrap64 (a2)) (t113.length : Int))).f2, (rd_T31 t113 (Int.tmod (wrap64 (a2)) (t113.length : Int))).f3, (rd_T31 t113 (Int.tmod (wrap64 (a2)) (t113.length : Int))).f4⟩ : S31))) else (none)) else (none))) else (if (t113.length : Int) = 0 then ((wicketmanlaw16_known.f).bind fun t130 => (some t130)) else (if 0 ≤ (Int.tmod (wrap64 (a2)) (t113.length : Int)) then (if (Int.tmod (wrap64 (a2)) (t113.length : Int)) < (t113.length : Int) then (wicketmanlaw16_CodeRight.j0 k t101 t102 t105 t109 t110 (t113.set ((Int.tmod (wrap64 (a2)) (t113.length : Int)) : Int).toNat (⟨(⟨#[48, 48]⟩ : ByteArray), (rd_T31 t113 (Int.tmod (wrap64 (a2)) (t113.length : Int))).f1, (rd_T31 t113 (Int.tmod (wrap64 (a2)) (t113.length : Int))).f2, (rd_T31 t113 (Int.tmod (wrap64 (a2)) (t113.length : Int))).f3, (rd_T31 t113 (Int.tmod (wrap64 (a2)) (t113.length : Int))).f4⟩ : S31))) else (none)) else (none)))))) = some r := H
 have A5 := Aside0.mk A50
 clear A50
 have HC6 := Aside0.mk H
 clear H
 go_enter Tryd.func3, Tryd.ntmps3
 go_upto_block 0 with (first | ((with_reducible refine gate_callee (f := 8) rfl ?_); refine goesL_ (some 14) rfl rfl Tryd.func8 (by kernel_rfl) rfl #[.slice A0 l0.length c0] rfl (by (try simp only [List.map_toArray, List.map_cons, List.map_nil]); first | done | rfl | (simp only [List.length_drop, List.length_take]; rfl)) ?_; (with_reducible refine (wicketmanlaw16_State.calls k _ _ l0 t101 t102 t105 _ ?side1 ?side2 A4.out).mono ?_); (case side1 => repeat (first | exact HR0.out | (with_reducible refine Kd.C_alloc ?_ _) | (with_reducible refine Kd.C_drewN ?_ _) | (with_reducible refine Kd.C_drew ?_))); (case side2 => exact HC0.out); rintro e w7 ⟨v103, v106, rfl, ho0, ho1, hb⟩; refine ⟨_, rfl, ?_⟩; have n0_ := Aside0.mk (Kd.N_lower (Kd.N_mono (ok' := fun k_ => some k_ ≠ (v106 : Value).ownBlock) (Kd.S_N (Kd.S_bound (Kd.S_apart' ho0 (Kd.R_typed ho1) (by decide)))) (fun k_ hk_ => hk_.1.2)) (below_size (by repeat (first | (with_reducible first | exact HB.out | apply below_alloc | apply pw_below_drewN | apply below_drew1) | exact HB.out)))); have n1_ := Aside0.mk (Kd.R_lower ho1 (below_size (by repeat (first | (with_reducible first | exact HB.out | apply below_alloc | apply pw_below_drewN | apply below_drew1) | exact HB.out)))); have n2_ := Aside0.mk (below_step (by repeat (first | (with_reducible first | exact HB.out | apply below_alloc | apply pw_below_drewN | apply below_drew1) | exact HB.out)) hb); clear HB; have HO104 := n0_; have HO107 := n1_; have HB := n2_; clear n0_ n1_ n2_; (try clear hb); (try clear hb2); (try clear hk); (try clear hi); (try clear ho0); (try clear ho1)) | ((with_reducible refine gate_dst (N := 7) rfl ?_); refine box_event ?hg (N := 7) ?hd (cs := #[.int .u64 0, .slice none 0 0, .slice none 0 0]) (t := 27) ?hr ?_; (case hd => rfl); (case hg => rfl); (case hr => first | (go_simp; done) | (go_simp; rfl)); intro gb108 hg w8 hbox hb; have n0_ := Aside0.mk (Kd.N_below (Kd.N_elderB (by (with_reducible repeat (first | apply Kd.N_alloc | apply Kd.N_drewN | apply Kd.N_drew)); exact HO104.out) gb108 (Nat.le_of_eq hg.symm)) hb); have n1_ := Aside0.mk (Kd.R_below (by (with_reducible repeat (first | apply Kd.R_alloc | apply Kd.R_drewN | apply Kd.R_drew)); exact HO107.out) hb); have n2_ := Aside0.mk (below_step (by repeat (first | (with_reducible first | exact HB.out | apply below_alloc | apply pw_below_drewN | apply below_drew1) | exact HB.out)) hb); have n3_ := Aside0.mk (hbox); have n4_ := Aside0.mk ((by rw [hg]; exact (below_size (by repeat (first | (with_reducible first | exact HB.out | apply below_alloc | apply pw_below_drewN | apply below_drew1) | exact HB.out))) : w.heap.size ≤ gb108)); have n5_ := Aside0.mk ((by rw [hg]; exact (below_size (by repeat (first | (with_reducible first | exact HB.out | apply below_alloc | apply pw_below_drewN | apply below_drew1) | exact HB.out))) : w.heap.size ≤ gb108)); clear HO104; clear HO107; clear HB; have HO104 := n0_; have HO107 := n1_; have HB := n2_; have BK108 := n3_; have GW108 := n4_; have GE108 := n5_; clear n0_ n1_ n2_ n3_ n4_ n5_; clear hb hbox hg; have hcz9_0 : w8.cell? ⟨gb108, 0, none⟩ = some (.int .u64 0) := (blk_cell BK108.out 0).trans rfl; have hcz9_1 : w8.cell? ⟨gb108, 1, none⟩ = some (.slice none 0 0) := (blk_cell BK108.out 1).trans rfl; have hcz9_2 : w8.cell? ⟨gb108, 2, none⟩ = some (.slice none 0 0) := (blk_cell BK108.out 2).trans rfl; have hfz9_0 := blk_frozen BK108.out 0; have hfz9_1 := blk_frozen BK108.out 1; have hfz9_2 := blk_frozen BK108.out 2; obtain ⟨Ao10, co10, eo10⟩ := Kd.N_slice HO104.out; subst eo10; obtain ⟨Ao11, co11, eo11⟩ := Kd.R_slice HO107.out; subst eo11) | ((with_reducible refine gate_callee (f := 8) rfl ?_); refine goesL_ (some 16) rfl rfl Tryd.func8 (by kernel_rfl) rfl #[.slice A0 l0.length c0] rfl (by (try simp only [List.map_toArray, List.map_cons, List.map_nil]); first | done | rfl | (simp only [List.length_drop, List.length_take]; rfl)) ?_; (with_reducible refine (wicketmanlaw16_State.calls k _ _ l0 t109 t110 t113 _ ?side1 ?side2 A5.out).mono ?_); (case side1 => exact Kd.C_below HR0.out (by repeat (first | (with_reducible first | exact HB.out | apply below_alloc | apply pw_below_drewN | apply below_drew1 | refine below_set ?_ GE108.out) | exact HB.out))); (case side2 => exact HC0.out); rintro e w12 ⟨v111, v114, rfl, ho0, ho1, hb⟩; refine ⟨_, rfl, ?_⟩; have n0_ := Aside0.mk (Kd.N_mono (Kd.N_told (Kd.N_told (Kd.N_old (by (with_reducible repeat (first | apply Kd.N_alloc | apply Kd.N_drewN | apply Kd.N_drew)); exact (Kd.N_mono (Kd.N_far (p := ⟨gb108, 2, none⟩) (Kd.N_far (p := ⟨gb108, 1, none⟩) (Kd.N_far (p := ⟨gb108, 0, none⟩) (Kd.N_mono HO104.out (fun k_ hk => (⟨hk, hk.2⟩ : _ ∧ k_ ≠ gb108))) (fun _ hk => hk.2) (.int .u64 t101)) (fun _ hk => hk.2) (.slice Ao10 t102.length co10)) (fun _ hk => hk.2) (.slice Ao11 t105.length co11)) (fun _ h_ => h_.1))) hb) (Kd.N_base (Kd.S_N ho0))) (Kd.R_base ho1)) (fun _ h_ => h_.1)); have n1_ := Aside0.mk (Kd.R_elder' (by (with_reducible repeat (first | apply Kd.R_alloc | apply Kd.R_drewN | apply Kd.R_drew)); exact (Kd.R_mono (Kd.R_far (p := ⟨gb108, 2, none⟩) (Kd.R_far (p := ⟨gb108, 1, none⟩) (Kd.R_far (p := ⟨gb108, 0, none⟩) (Kd.R_types HO107.out BK108.out (by decide)) (fun _ hk => hk.2) (.int .u64 t101)) (fun _ hk => hk.2) (.slice Ao10 t102.length co10)) (fun _ hk => hk.2) (.slice Ao11 t105.length co11)) (fun _ h_ => h_.1))) (Kd.R_base ho1) hb); have n2_ := Aside0.mk (Kd.N_lower (Kd.N_mono (ok' := fun k_ => some k_ ≠ (v114 : Value).ownBlock ∧ some k_ ≠ (.slice Ao10 t102.length co10 : Value).ownBlock ∧ some k_ ≠ (.slice Ao11 t105.length co11 : Value).ownBlock ∧ k_ ≠ gb108) (Kd.S_N (Kd.S_bound (Kd.S_apart' ho0 (Kd.R_typed ho1) (by decide)))) (fun k_ hk_ => ⟨hk_.1.2, (Kd.fresh' (Kd.N_lt (by (with_reducible repeat (first | apply Kd.N_alloc | apply Kd.N_drewN | apply Kd.N_drew)); exact (Kd.N_mono (Kd.N_far (p := ⟨gb108, 2, none⟩) (Kd.N_far (p := ⟨gb108, 1, none⟩) (Kd.N_far (p := ⟨gb108, 0, none⟩) (Kd.N_mono HO104.out (fun k_ hk => (⟨hk, hk.2⟩ : _ ∧ k_ ≠ gb108))) (fun _ hk => hk.2) (.int .u64 t101)) (fun _ hk => hk.2) (.slice Ao10 t102.length co10)) (fun _ hk => hk.2) (.slice Ao11 t105.length co11)) (fun _ h_ => h_.1)))) k_ hk_.2.1), (Kd.fresh' (Kd.R_lt (by (with_reducible repeat (first | apply Kd.R_alloc | apply Kd.R_drewN | apply Kd.R_drew)); exact (Kd.R_mono (Kd.R_far (p := ⟨gb108, 2, none⟩) (Kd.R_far (p := ⟨gb108, 1, none⟩) (Kd.R_far (p := ⟨gb108, 0, none⟩) (Kd.R_types HO107.out BK108.out (by decide)) (fun _ hk => hk.2) (.int .u64 t101)) (fun _ hk => hk.2) (.slice Ao10 t102.length co10)) (fun _ hk => hk.2) (.slice Ao11 t105.length co11)) (fun _ h_ => h_.1)))) k_ hk_.2.1), (Kd.freshB (g := gb108) (o := .cells #[.int .u64 t101, .slice Ao10 t102.length co10, .slice Ao11 t105.length co11] 27 (0, 0)) (by (with_reducible repeat (first | refine blk_drewN ?_ _ | refine blk_drew ?_ | refine blk_alloc ?_ _)); refine blk_put (cs := #[.int .u64 t101, .slice Ao10 t102.length co10, .slice none 0 0]) ?_ 2 _ rfl; (with_reducible repeat (first | refine blk_drewN ?_ _ | refine blk_drew ?_ | refine blk_alloc ?_ _)); refine blk_put (cs := #[.int .u64 t101, .slice none 0 0, .slice none 0 0]) ?_ 1 _ rfl; (with_reducible repeat (first | refine blk_drewN ?_ _ | refine blk_drew ?_ | refine blk_alloc ?_ _)); refine blk_put (cs := #[.int .u64 0, .slice none 0 0, .slice none 0 0]) ?_ 0 _ rfl; (with_reducible repeat (first | refine blk_drewN ?_ _ | refine blk_drew ?_ | refine blk_alloc ?_ _)); exact BK108.out) k_ hk_.2.1)⟩)) (below_size (by repeat (first | (with_reducible first | exact HB.out | apply below_alloc | apply pw_below_drewN | apply below_drew1 | refine below_set ?_ GE108.out) | exact HB.out)))); have n3_ := Aside0.mk (Kd.R_lower (Kd.R_new' ho1 (Kd.R_lt (by (with_reducible repeat (first | apply Kd.R_alloc | apply Kd.R_drewN | apply Kd.R_drew)); exact (Kd.R_mono (Kd.R_far (p := ⟨gb108, 2, none⟩) (Kd.R_far (p := ⟨gb108, 1, none⟩) (Kd.R_far (p := ⟨gb108, 0, none⟩) (Kd.R_types HO107.out BK108.out (by decide)) (fun _ hk => hk.2) (.int .u64 t101)) (fun _ hk => hk.2) (.slice Ao10 t102.length co10)) (fun _ hk => hk.2) (.slice Ao11 t105.length co11)) (fun _ h_ => h_.1))))) (below_size (by repeat (first | (with_reducible first | exact HB.out | apply below_alloc | apply pw_below_drewN | apply below_drew1 | refine below_set ?_ GE108.out) | exact HB.out)))); have n4_ := Aside0.mk (blk_below (g := gb108) (o := .cells #[.int .u64 t101, .slice Ao10 t102.length co10, .slice Ao11 t105.length co11] 27 (0, 0)) (by (with_reducible repeat (first | refine blk_drewN ?_ _ | refine blk_drew ?_ | refine blk_alloc ?_ _)); refine blk_put (cs := #[.int .u64 t101, .slice Ao10 t102.length co10, .slice none 0 0]) ?_ 2 _ rfl; (with_reducible repeat (first | refine blk_drewN ?_ _ | refine blk_drew ?_ | refine blk_alloc ?_ _)); refine blk_put (cs := #[.int .u64 t101, .slice none 0 0, .slice none 0 0]) ?_ 1 _ rfl; (with_reducible repeat (first | refine blk_drewN ?_ _ | refine blk_drew ?_ | refine blk_alloc ?_ _)); refine blk_put (cs := #[.int .u64 0, .slice none 0 0, .slice none 0 0]) ?_ 0 _ rfl; (with_reducible repeat (first | refine blk_drewN ?_ _ | refine blk_drew ?_ | refine blk_alloc ?_ _)); exact BK108.out) hb); have n5_ := Aside0.mk (below_step (by repeat (first | (with_reducible first | exact HB.out | apply below_alloc | apply pw_below_drewN | apply below_drew1 | refine below_set ?_ GE108.out) | exact HB.out)) hb); clear HO104; clear HO107; clear BK108; clear HB; have HO104 := n0_; have HO107 := n1_; have HO112 := n2_; have HO115 := n3_; have BK108 := n4_; have HB := n5_; clear n0_ n1_ n2_ n3_ n4_ n5_; (try clear hb); (try clear hb2); (try clear hk); (try clear hi); (try clear ho0); (try clear ho1)) | ((with_reducible refine gate_dst (N := 8) rfl ?_); refine box_event ?hg (N := 8) ?hd (cs := #[.int .u64 0, .slice none 0 0, .slice none 0 0]) (t := 27) ?hr ?_; (case hd => rfl); (case hg => rfl); (case hr => first | (go_simp; done) | (go_simp; rfl)); intro gb116 hg w13 hbox hb; have n0_ := Aside0.mk (Kd.N_below (Kd.N_elderB (by (with_reducible repeat (first | apply Kd.N_alloc | apply Kd.N_drewN | apply Kd.N_drew)); exact HO104.out) gb116 (Nat.le_of_eq hg.symm)) hb); have n1_ := Aside0.mk (Kd.R_below (by (with_reducible repeat (first | apply Kd.R_alloc | apply Kd.R_drewN | apply Kd.R_drew)); exact HO107.out) hb); have n2_ := Aside0.mk (Kd.N_below (Kd.N_elderB (by (with_reducible repeat (first | apply Kd.N_alloc | apply Kd.N_drewN | apply Kd.N_drew)); exact HO112.out) gb116 (Nat.le_of_eq hg.symm)) hb); have n3_ := Aside0.mk (Kd.R_below (by (with_reducible repeat (first | apply Kd.R_alloc | apply Kd.R_drewN | apply Kd.R_drew)); exact HO115.out) hb); have n4_ := Aside0.mk (blk_below (g := gb108) (o := .cells #[.int .u64 t101, .slice Ao10 t102.length co10, .slice Ao11 t105.length co11] 27 (0, 0)) (by (with_reducible repeat (first | refine blk_drewN ?_ _ | refine blk_drew ?_ | refine blk_alloc ?_ _)); exact BK108.out) hb); have n5_ := Aside0.mk (below_step (by repeat (first | (with_reducible first | exact HB.out | apply below_alloc | apply pw_below_drewN | apply below_drew1 | refine below_set ?_ GE108.out) | exact HB.out)) hb); have n6_ := Aside0.mk (hbox); have n7_ := Aside0.mk ((by rw [hg]; exact (below_size (by repeat (first | (with_reducible first | exact HB.out | apply below_alloc | apply pw_below_drewN | apply below_drew1 | refine below_set ?_ GE108.out) | exact HB.out))) : w.heap.size ≤ gb116)); have n8_ := Aside0.mk ((by rw [hg]; exact (below_size (by repeat (first | (with_reducible first | exact HB.out | apply below_alloc | apply pw_below_drewN | apply below_drew1 | refine below_set ?_ GE108.out) | exact HB.out))) : w.heap.size ≤ gb116)); have n9_ := Aside0.mk ((by rw [hg]; exact Nat.ne_of_lt (blk_lt (g := gb108) (o := .cells #[.int .u64 t101, .slice Ao10 t102.length co10, .slice Ao11 t105.length co11] 27 (0, 0)) (by (with_reducible repeat (first | refine blk_drewN ?_ _ | refine blk_drew ?_ | refine blk_alloc ?_ _)); exact BK108.out)) : gb108 ≠ gb116)); have n10_ := Aside0.mk ((by rw [hg]; exact Nat.ne_of_gt (blk_lt (g := gb108) (o := .cells #[.int .u64 t101, .slice Ao10 t102.length co10, .slice Ao11 t105.length co11] 27 (0, 0)) (by (with_reducible repeat (first | refine blk_drewN ?_ _ | refine blk_drew ?_ | refine blk_alloc ?_ _)); exact BK108.out)) : gb116 ≠ gb108)); clear HO104; clear HO107; clear HO112; clear HO115; clear BK108; clear HB; have HO104 := n0_; have HO107 := n1_; have HO112 := n2_; have HO115 := n3_; have BK108 := n4_; have HB := n5_; have BK116 := n6_; have GW116 := n7_; have GE116 := n8_; have NB108_116 := n9_; have NB116_108 := n10_; clear n0_ n1_ n2_ n3_ n4_ n5_ n6_ n7_ n8_ n9_ n10_; clear hb hbox hg; have hnb14 := NB116_108.out; have hnc14 := NB108_116.out; have hcz15_0 : w13.cell? ⟨gb116, 0, none⟩ = some (.int .u64 0) := (blk_cell BK116.out 0).trans rfl; have hcz15_1 : w13.cell? ⟨gb116, 1, none⟩ = some (.slice none 0 0) := (blk_cell BK116.out 1).trans rfl; have hcz15_2 : w13.cell? ⟨gb116, 2, none⟩ = some (.slice none 0 0) := (blk_cell BK116.out 2).trans rfl; have hfz15_0 := blk_frozen BK116.out 0; have hfz15_1 := blk_frozen BK116.out 1; have hfz15_2 := blk_frozen BK116.out 2; obtain ⟨Ao16, co16, eo16⟩ := Kd.N_slice HO112.out; subst eo16; obtain ⟨Ao17, co17, eo17⟩ := Kd.R_slice HO115.out; subst eo17))
 (try simp only [Act.put, List.setIfInBounds_toArray, List.set_cons_zero, List.set_cons_succ])
 go_cut [] (fun wc => ∃ (kq : Nat) (x109002_5 : List (S31)) (x117001_5 : List (S33)) (x117002_5 : List (S31)) (u109002 : Value) (u117001 : Value) (u117002 : Value), Aside0 (wicketmanlaw16_CodeRight.j0 kq t101 t102 x109002_5 t109 x117001_5 x117002_5 = some r) ∧ Aside0 (kq ≤ k) ∧ Aside0 (Kd.N k33 33 wc w.heap.size (fun k_ => some k_ ≠ (u109002 : Value).ownBlock ∧ some k_ ≠ (u117001 : Value).ownBlock ∧ some k_ ≠ (u117002 : Value).ownBlock ∧ k_ ≠ gb108 ∧ k_ ≠ gb116) (.slice Ao10 t102.length co10) t102) ∧ Aside0 (Kd.R k31 31 wc w.heap.size (fun k_ => some k_ ≠ (u117002 : Value).ownBlock) u109002 x109002_5) ∧ Aside0 (Kd.N k33 33 wc w.heap.size (fun k_ => some k_ ≠ ((.slice Ao10 t102.length co10) : Value).ownBlock ∧ some k_ ≠ (u109002 : Value).ownBlock ∧ some k_ ≠ (u117002 : Value).ownBlock ∧ k_ ≠ gb108 ∧ k_ ≠ gb116) u117001 x117001_5) ∧ Aside0 (Kd.R k31 31 wc w.heap.size (fun k_ => some k_ ≠ (u109002 : Value).ownBlock) u117002 x117002_5) ∧ Aside0 (wc.heap[gb108]? = some (.cells #[.int .u64 t101, (.slice Ao10 t102.length co10), u109002] 27 (0, 0))) ∧ Aside0 (wc.heap[gb116]? = some (.cells #[.int .u64 t109, u117001, u117002] 27 (0, 0))) ∧ Aside0 (Below w.heap.size w wc))
 case first =>
  have H := HC6.out
  clear HC6
  by_cases c18 : (Int.tmod a1 4) = 0
  ·rw [if_pos c18] at H
   have c18b0 : ((Int.tmod a1 4) == 0) = true := beq_iff_eq.mpr c18
   have c18b1 : ((Int.tmod a1 4) != 0) = false := bne_eq_false_iff_eq.mpr c18
   clear c18
   (first | rw [c18b0] | (simp only [i64_w, i32_w]; rw [c18b0]) | skip)
   by_cases c19 : (t113.length : Int) < 2
   ·rw [if_pos c19] at H
    have c19b0 : decide ((t113.length : Int) < 2) = true := decide_eq_true c19
    have c19b1 : decide (t113.length < 2) = true := decide_eq_true (by omega)
    clear c19
    replace H := Option.bind_eq_some_iff.mp H
    obtain ⟨t117, A200, H⟩ := H
    replace H : (some t117) = some r := H
    have A20 := Aside0.mk A200
    clear A200
    obtain rfl := Option.some.inj H
    have hnb21 := NB116_108.out
    have hnc21 := NB108_116.out
    have hcz22_0 : w13.cell? ⟨gb116, 0, none⟩ = some (.int .u64 0) := (blk_cell BK116.out 0).trans rfl
    have hcz22_1 : w13.cell? ⟨gb116, 1, none⟩ = some (.slice none 0 0) := (blk_cell BK116.out 1).trans rfl
    have hcz22_2 : w13.cell? ⟨gb116, 2, none⟩ = some (.slice none 0 0) := (blk_cell BK116.out 2).trans rfl
    have hfz22_0 := blk_frozen BK116.out 0
    have hfz22_1 := blk_frozen BK116.out 1
    have hfz22_2 := blk_frozen BK116.out 2
    go_wp2_with (first | ((with_reducible refine gate_callee (f := 9) rfl ?_); refine goesL_ (some 40) rfl rfl Tryd.func9 (by kernel_rfl) rfl #[] rfl (by (try simp only [List.map_toArray, List.map_cons, List.map_nil]); first | done | rfl | (simp only [List.length_drop, List.length_take]; rfl)) ?_; (with_reducible refine (wicketmanlaw16_known.calls  t117 _ A20.out (HGR.out.below rfl (by repeat (first | (with_reducible first | exact HB.out | apply below_alloc | apply pw_below_drewN | apply below_drew1 | refine below_set ?_ GE108.out | refine below_set ?_ GE116.out) | exact HB.out)))).mono ?_); rintro e w23 ⟨rfl, hb⟩; refine ⟨_, rfl, ?_⟩; have n0_ := Aside0.mk (Kd.N_below (by (with_reducible repeat (first | apply Kd.N_alloc | apply Kd.N_drewN | apply Kd.N_drew)); exact (Kd.N_mono (Kd.N_far (p := ⟨gb116, 2, none⟩) (Kd.N_far (p := ⟨gb116, 1, none⟩) (Kd.N_far (p := ⟨gb116, 0, none⟩) (Kd.N_mono HO104.out (fun k_ hk => (⟨hk, hk.2⟩ : _ ∧ k_ ≠ gb116))) (fun _ hk => hk.2) (.int .u64 t109)) (fun _ hk => hk.2) (.slice Ao16 t110.length co16)) (fun _ hk => hk.2) (.slice Ao17 t113.length co17)) (fun _ h_ => h_.1))) hb); have n1_ := Aside0.mk (Kd.R_below (by (with_reducible repeat (first | apply Kd.R_alloc | apply Kd.R_drewN | apply Kd.R_drew)); exact (Kd.R_mono (Kd.R_far (p := ⟨gb116, 2, none⟩) (Kd.R_far (p := ⟨gb116, 1, none⟩) (Kd.R_far (p := ⟨gb116, 0, none⟩) (Kd.R_types HO107.out BK116.out (by decide)) (fun _ hk => hk.2) (.int .u64 t109)) (fun _ hk => hk.2) (.slice Ao16 t110.length co16)) (fun _ hk => hk.2) (.slice Ao17 t113.length co17)) (fun _ h_ => h_.1))) hb); have n2_ := Aside0.mk (Kd.N_below (by (with_reducible repeat (first | apply Kd.N_alloc | apply Kd.N_drewN | apply Kd.N_drew)); exact (Kd.N_mono (Kd.N_far (p := ⟨gb116, 2, none⟩) (Kd.N_far (p := ⟨gb116, 1, none⟩) (Kd.N_far (p := ⟨gb116, 0, none⟩) (Kd.N_mono HO112.out (fun k_ hk => (⟨hk, hk.2⟩ : _ ∧ k_ ≠ gb116))) (fun _ hk => hk.2) (.int .u64 t109)) (fun _ hk => hk.2) (.slice Ao16 t110.length co16)) (fun _ hk => hk.2) (.slice Ao17 t113.length co17)) (fun _ h_ => h_.1))) hb); have n3_ := Aside0.mk (Kd.R_below (by (with_reducible repeat (first | apply Kd.R_alloc | apply Kd.R_drewN | apply Kd.R_drew)); exact (Kd.R_mono (Kd.R_far (p := ⟨gb116, 2, none⟩) (Kd.R_far (p := ⟨gb116, 1, none⟩) (Kd.R_far (p := ⟨gb116, 0, none⟩) (Kd.R_types HO115.out BK116.out (by decide)) (fun _ hk => hk.2) (.int .u64 t109)) (fun _ hk => hk.2) (.slice Ao16 t110.length co16)) (fun _ hk => hk.2) (.slice Ao17 t113.length co17)) (fun _ h_ => h_.1))) hb); have n4_ := Aside0.mk (blk_below (g := gb108) (o := .cells #[.int .u64 t101, .slice Ao10 t102.length co10, .slice Ao11 t105.length co11] 27 (0, 0)) (by (with_reducible repeat (first | refine blk_drewN ?_ _ | refine blk_drew ?_ | refine blk_alloc ?_ _)); refine blk_far ?_ NB108_116.out _; (with_reducible repeat (first | refine blk_drewN ?_ _ | refine blk_drew ?_ | refine blk_alloc ?_ _)); refine blk_far ?_ NB108_116.out _; (with_reducible repeat (first | refine blk_drewN ?_ _ | refine blk_drew ?_ | refine blk_alloc ?_ _)); refine blk_far ?_ NB108_116.out _; (with_reducible repeat (first | refine blk_drewN ?_ _ | refine blk_drew ?_ | refine blk_alloc ?_ _)); exact BK108.out) hb); have n5_ := Aside0.mk (blk_below (g := gb116) (o := .cells #[.int .u64 t109, .slice Ao16 t110.length co16, .slice Ao17 t113.length co17] 27 (0, 0)) (by (with_reducible repeat (first | refine blk_drewN ?_ _ | refine blk_drew ?_ | refine blk_alloc ?_ _)); refine blk_put (cs := #[.int .u64 t109, .slice Ao16 t110.length co16, .slice none 0 0]) ?_ 2 _ rfl; (with_reducible repeat (first | refine blk_drewN ?_ _ | refine blk_drew ?_ | refine blk_alloc ?_ _)); refine blk_put (cs := #[.int .u64 t109, .slice none 0 0, .slice none 0 0]) ?_ 1 _ rfl; (with_reducible repeat (first | refine blk_drewN ?_ _ | refine blk_drew ?_ | refine blk_alloc ?_ _)); refine blk_put (cs := #[.int .u64 0, .slice none 0 0, .slice none 0 0]) ?_ 0 _ rfl; (with_reducible repeat (first | refine blk_drewN ?_ _ | refine blk_drew ?_ | refine blk_alloc ?_ _)); exact BK116.out) hb); have n6_ := Aside0.mk (below_step (by repeat (first | (with_reducible first | exact HB.out | apply below_alloc | apply pw_below_drewN | apply below_drew1 | refine below_set ?_ GE108.out | refine below_set ?_ GE116.out) | exact HB.out)) hb); clear HO104; clear HO107; clear HO112; clear HO115; clear BK108; clear BK116; clear HB; have HO104 := n0_; have HO107 := n1_; have HO112 := n2_; have HO115 := n3_; have BK108 := n4_; have BK116 := n5_; have HB := n6_; clear n0_ n1_ n2_ n3_ n4_ n5_ n6_; (try clear hb); (try clear hb2); (try clear hk); (try clear hi)))
    go_ret
    exact ⟨by first | rfl | (simp [errW_none, errW_some] <;> rfl) | (simp [*, errW_none, errW_some] <;> rfl), by repeat (first | (with_reducible first | exact HB.out | apply below_alloc | apply pw_below_drewN | apply below_drew1 | refine below_set ?_ GE108.out | refine below_set ?_ GE116.out) | exact HB.out)⟩
   ·rw [if_neg c19] at H
    have c19b0 : decide ((t113.length : Int) < 2) = false := decide_eq_false c19
    have c19b1 : decide (t113.length < 2) = false := decide_eq_false (by omega)
    clear c19
    by_cases c24 : (wrap64 ((t113.length : Int) - 1)) = 0
    ·rw [if_pos c24] at H
     exact absurd H (by simp)
    ·rw [if_neg c24] at H
     have c24b0 : ((wrap64 ((t113.length : Int) - 1)) == 0) = false := beq_eq_false_iff_ne.mpr c24
     have c24b1 : ((wrap64 ((t113.length : Int) - 1)) != 0) = true := bne_iff_ne.mpr c24
     obtain ⟨ji25, hji25⟩ : ∃ j_ : Int, (Int.tmod (wrap64 (a2)) (wrap64 ((t113.length : Int) - 1))) = j_ := ⟨_, rfl⟩
     replace H : (if 0 ≤ (ji25) then (if (ji25) < (t113.length : Int) then (if 0 ≤ (wrap64 ((ji25) + 1)) then (if (wrap64 ((ji25) + 1)) < (t113.length : Int) then (wicketmanlaw16_CodeRight.j0 k t101 t102 t105 t109 t110 ((t113.set ((ji25) : Int).toNat (⟨(rd_T31 t113 (wrap64 ((ji25) + 1))).f0, (rd_T31 t113 (wrap64 ((ji25) + 1))).f1, (rd_T31 t113 (wrap64 ((ji25) + 1))).f2, (rd_T31 t113 (wrap64 ((ji25) + 1))).f3, (rd_T31 t113 (wrap64 ((ji25) + 1))).f4⟩ : S31)).set ((wrap64 ((ji25) + 1)) : Int).toNat (⟨(rd_T31 t113 (ji25)).f0, (rd_T31 t113 (ji25)).f1, (rd_T31 t113 (ji25)).f2, (rd_T31 t113 (ji25)).f3, (rd_T31 t113 (ji25)).f4⟩ : S31))) else (none)) else (none)) else (none)) else (none)) = some r := by first | (rw [hji25] at H; exact H) | (simp only [hji25] at H ⊢; exact H)
     by_cases c26 : 0 ≤ (ji25)
     ·rw [if_pos c26] at H
      have c26b0 : decide (0 ≤ (ji25)) = true := decide_eq_true c26
      clear c26
      by_cases c27 : (ji25) < (t113.length : Int)
      ·rw [if_pos c27] at H
       have c27b0 : decide ((ji25) < (t113.length : Int)) = true := decide_eq_true c27
       clear c27
       obtain ⟨ji28, hji28⟩ : ∃ j_ : Int, (wrap64 ((ji25) + 1)) = j_ := ⟨_, rfl⟩
       replace H : (if 0 ≤ (ji28) then (if (ji28) < (t113.length : Int) then (wicketmanlaw16_CodeRight.j0 k t101 t102 t105 t109 t110 ((t113.set ((ji25) : Int).toNat (⟨(rd_T31 t113 (ji28)).f0, (rd_T31 t113 (ji28)).f1, (rd_T31 t113 (ji28)).f2, (rd_T31 t113 (ji28)).f3, (rd_T31 t113 (ji28)).f4⟩ : S31)).set ((ji28) : Int).toNat (⟨(rd_T31 t113 (ji25)).f0, (rd_T31 t113 (ji25)).f1, (rd_T31 t113 (ji25)).f2, (rd_T31 t113 (ji25)).f3, (rd_T31 t113 (ji25)).f4⟩ : S31))) else (none)) else (none)) = some r := by first | (rw [hji28] at H; exact H) | (simp only [hji28] at H ⊢; exact H)
       have hji28w : (IntKind.i64.wrap ((ji25) + 1)) = ji28 := (i64_w _).trans hji28
       by_cases c29 : 0 ≤ (ji28)
       ·rw [if_pos c29] at H
        have c29b0 : decide (0 ≤ (ji28)) = true := decide_eq_true c29
        clear c29
        by_cases c30 : (ji28) < (t113.length : Int)
        ·rw [if_pos c30] at H
         have c30b0 : decide ((ji28) < (t113.length : Int)) = true := decide_eq_true c30
         clear c30
         obtain ⟨y121, hy121⟩ : ∃ y_ : List (S31), y_ = (t113.set ((ji25) : Int).toNat (⟨(rd_T31 t113 (ji28)).f0, (rd_T31 t113 (ji28)).f1, (rd_T31 t113 (ji28)).f2, (rd_T31 t113 (ji28)).f3, (rd_T31 t113 (ji28)).f4⟩ : S31)) := ⟨_, rfl⟩
         replace H : (wicketmanlaw16_CodeRight.j0 k t101 t102 t105 t109 t110 (y121.set ((ji28) : Int).toNat (⟨(rd_T31 t113 (ji25)).f0, (rd_T31 t113 (ji25)).f1, (rd_T31 t113 (ji25)).f2, (rd_T31 t113 (ji25)).f3, (rd_T31 t113 (ji25)).f4⟩ : S31))) = some r := by first | (rw [hy121]; with_reducible exact H) | (have H2_ := (Option.bind_some _ _).symm.trans H; rw [hy121]; with_reducible exact H2_) | (have H2_ := (Option.bind_some _ _).symm.trans H; with_reducible exact H2_) | with_reducible exact H | (rw [hy121]; exact H) | exact H
         have Ny121 := Aside0.mk hy121
         clear hy121
         obtain ⟨y122, hy122⟩ : ∃ y_ : List (S31), y_ = (y121.set ((ji28) : Int).toNat (⟨(rd_T31 t113 (ji25)).f0, (rd_T31 t113 (ji25)).f1, (rd_T31 t113 (ji25)).f2, (rd_T31 t113 (ji25)).f3, (rd_T31 t113 (ji25)).f4⟩ : S31)) := ⟨_, rfl⟩
         replace H : (wicketmanlaw16_CodeRight.j0 k t101 t102 t105 t109 t110 y122) = some r := by first | (rw [hy122]; with_reducible exact H) | (have H2_ := (Option.bind_some _ _).symm.trans H; rw [hy122]; with_reducible exact H2_) | (have H2_ := (Option.bind_some _ _).symm.trans H; with_reducible exact H2_) | with_reducible exact H | (rw [hy122]; exact H) | exact H
         have Ny122 := Aside0.mk hy122
         clear hy122
         have H' := Aside0.mk H
         clear H
         have hnb33 := NB116_108.out
         have hnc33 := NB108_116.out
         have hcz34_0 : w13.cell? ⟨gb116, 0, none⟩ = some (.int .u64 0) := (blk_cell BK116.out 0).trans rfl
         have hcz34_1 : w13.cell? ⟨gb116, 1, none⟩ = some (.slice none 0 0) := (blk_cell BK116.out 1).trans rfl
         have hcz34_2 : w13.cell? ⟨gb116, 2, none⟩ = some (.slice none 0 0) := (blk_cell BK116.out 2).trans rfl
         have hfz34_0 := blk_frozen BK116.out 0
         have hfz34_1 := blk_frozen BK116.out 1
         have hfz34_2 := blk_frozen BK116.out 2
         have p118 : 0 ≤ ((ji25) : Int) := of_decide_eq_true (by first | (with_reducible assumption) | assumption)
         have q118 : (ji25) < (t113.length : Int) := of_decide_eq_true (by first | (with_reducible assumption) | assumption)
         obtain ⟨ad118, e118, hx118_0, hx118_1, hx118_2, hx118_3, hx118_4⟩ := at_T31 (Kd.R_reads' HO115.out).2.2 (ji25) p118 q118
         cases e118
         have hn118_0 : ad118.block ≠ gb116 := Kd.own_blk (Kd.R_ne HO115.out BK116.out (by decide))
         have hn118_1 : ad118.block ≠ gb116 := Kd.own_blk (Kd.R_ne HO115.out BK116.out (by decide))
         have hn118_2 : ad118.block ≠ gb116 := Kd.own_blk (Kd.R_ne HO115.out BK116.out (by decide))
         replace hx118_0 := (cell_far (p := ⟨gb116, 0, none⟩) (by first | (rw [add_block]; exact hn118_0) | (show (Addr.add _ _).block ≠ _; rw [add_block]; exact hn118_0) | exact hn118_0) (.int .u64 t109)).trans hx118_0
         replace hx118_1 := (cell_far (p := ⟨gb116, 0, none⟩) (by first | (rw [add_block]; exact hn118_0) | (show (Addr.add _ _).block ≠ _; rw [add_block]; exact hn118_0) | exact hn118_0) (.int .u64 t109)).trans hx118_1
         replace hx118_2 := (cell_far (p := ⟨gb116, 0, none⟩) (by first | (rw [add_block]; exact hn118_0) | (show (Addr.add _ _).block ≠ _; rw [add_block]; exact hn118_0) | exact hn118_0) (.int .u64 t109)).trans hx118_2
         replace hx118_3 := (cell_far (p := ⟨gb116, 0, none⟩) (by first | (rw [add_block]; exact hn118_0) | (show (Addr.add _ _).block ≠ _; rw [add_block]; exact hn118_0) | exact hn118_0) (.int .u64 t109)).trans hx118_3
         replace hx118_4 := (cell_far (p := ⟨gb116, 0, none⟩) (by first | (rw [add_block]; exact hn118_0) | (show (Addr.add _ _).block ≠ _; rw [add_block]; exact hn118_0) | exact hn118_0) (.int .u64 t109)).trans hx118_4
         replace hx118_0 := (cell_far (p := ⟨gb116, 1, none⟩) (by first | (rw [add_block]; exact hn118_1) | (show (Addr.add _ _).block ≠ _; rw [add_block]; exact hn118_1) | exact hn118_1) (.slice Ao16 t110.length co16)).trans hx118_0
         replace hx118_1 := (cell_far (p := ⟨gb116, 1, none⟩) (by first | (rw [add_block]; exact hn118_1) | (show (Addr.add _ _).block ≠ _; rw [add_block]; exact hn118_1) | exact hn118_1) (.slice Ao16 t110.length co16)).trans hx118_1
         replace hx118_2 := (cell_far (p := ⟨gb116, 1, none⟩) (by first | (rw [add_block]; exact hn118_1) | (show (Addr.add _ _).block ≠ _; rw [add_block]; exact hn118_1) | exact hn118_1) (.slice Ao16 t110.length co16)).trans hx118_2
         replace hx118_3 := (cell_far (p := ⟨gb116, 1, none⟩) (by first | (rw [add_block]; exact hn118_1) | (show (Addr.add _ _).block ≠ _; rw [add_block]; exact hn118_1) | exact hn118_1) (.slice Ao16 t110.length co16)).trans hx118_3
         replace hx118_4 := (cell_far (p := ⟨gb116, 1, none⟩) (by first | (rw [add_block]; exact hn118_1) | (show (Addr.add _ _).block ≠ _; rw [add_block]; exact hn118_1) | exact hn118_1) (.slice Ao16 t110.length co16)).trans hx118_4
         replace hx118_0 := (cell_far (p := ⟨gb116, 2, none⟩) (by first | (rw [add_block]; exact hn118_2) | (show (Addr.add _ _).block ≠ _; rw [add_block]; exact hn118_2) | exact hn118_2) (.slice (some ad118) t113.length co17)).trans hx118_0
         replace hx118_1 := (cell_far (p := ⟨gb116, 2, none⟩) (by first | (rw [add_block]; exact hn118_2) | (show (Addr.add _ _).block ≠ _; rw [add_block]; exact hn118_2) | exact hn118_2) (.slice (some ad118) t113.length co17)).trans hx118_1
         replace hx118_2 := (cell_far (p := ⟨gb116, 2, none⟩) (by first | (rw [add_block]; exact hn118_2) | (show (Addr.add _ _).block ≠ _; rw [add_block]; exact hn118_2) | exact hn118_2) (.slice (some ad118) t113.length co17)).trans hx118_2
         replace hx118_3 := (cell_far (p := ⟨gb116, 2, none⟩) (by first | (rw [add_block]; exact hn118_2) | (show (Addr.add _ _).block ≠ _; rw [add_block]; exact hn118_2) | exact hn118_2) (.slice (some ad118) t113.length co17)).trans hx118_3
         replace hx118_4 := (cell_far (p := ⟨gb116, 2, none⟩) (by first | (rw [add_block]; exact hn118_2) | (show (Addr.add _ _).block ≠ _; rw [add_block]; exact hn118_2) | exact hn118_2) (.slice (some ad118) t113.length co17)).trans hx118_4
         clear hn118_0
         clear hn118_1
         clear hn118_2
         replace p118 := eq_true p118
         replace q118 := eq_true q118
         try go_wp2_with (first | ((with_reducible refine gate_dst (N := 10) rfl ?_); refine box_event ?hg (N := 10) ?hd (cs := #[.string (⟨#[]⟩ : ByteArray), .string (⟨#[]⟩ : ByteArray), .int .u64 0, .int .u64 0, .bool false]) (t := 31) ?hr ?_; (case hd => rfl); (case hg => rfl); (case hr => first | (go_simp; done) | (go_simp; rfl)); intro gb119 hg w35 hbox hb; have n0_ := Aside0.mk (Kd.N_below (Kd.N_elderB (by (with_reducible repeat (first | apply Kd.N_alloc | apply Kd.N_drewN | apply Kd.N_drew)); exact (Kd.N_mono (Kd.N_far (p := ⟨gb116, 2, none⟩) (Kd.N_far (p := ⟨gb116, 1, none⟩) (Kd.N_far (p := ⟨gb116, 0, none⟩) (Kd.N_mono HO104.out (fun k_ hk => (⟨hk, hk.2⟩ : _ ∧ k_ ≠ gb116))) (fun _ hk => hk.2) (.int .u64 t109)) (fun _ hk => hk.2) (.slice Ao16 t110.length co16)) (fun _ hk => hk.2) (.slice (some ad118) t113.length co17)) (fun _ h_ => h_.1))) gb119 (Nat.le_of_eq hg.symm)) hb); have n1_ := Aside0.mk (Kd.R_below (Kd.R_elderB (by (with_reducible repeat (first | apply Kd.R_alloc | apply Kd.R_drewN | apply Kd.R_drew)); exact (Kd.R_mono (Kd.R_far (p := ⟨gb116, 2, none⟩) (Kd.R_far (p := ⟨gb116, 1, none⟩) (Kd.R_far (p := ⟨gb116, 0, none⟩) (Kd.R_types HO107.out BK116.out (by decide)) (fun _ hk => hk.2) (.int .u64 t109)) (fun _ hk => hk.2) (.slice Ao16 t110.length co16)) (fun _ hk => hk.2) (.slice (some ad118) t113.length co17)) (fun _ h_ => h_.1))) gb119 (Nat.le_of_eq hg.symm)) hb); have n2_ := Aside0.mk (Kd.N_below (Kd.N_elderB (by (with_reducible repeat (first | apply Kd.N_alloc | apply Kd.N_drewN | apply Kd.N_drew)); exact (Kd.N_mono (Kd.N_far (p := ⟨gb116, 2, none⟩) (Kd.N_far (p := ⟨gb116, 1, none⟩) (Kd.N_far (p := ⟨gb116, 0, none⟩) (Kd.N_mono HO112.out (fun k_ hk => (⟨hk, hk.2⟩ : _ ∧ k_ ≠ gb116))) (fun _ hk => hk.2) (.int .u64 t109)) (fun _ hk => hk.2) (.slice Ao16 t110.length co16)) (fun _ hk => hk.2) (.slice (some ad118) t113.length co17)) (fun _ h_ => h_.1))) gb119 (Nat.le_of_eq hg.symm)) hb); have n3_ := Aside0.mk (Kd.R_below (Kd.R_elderB (by (with_reducible repeat (first | apply Kd.R_alloc | apply Kd.R_drewN | apply Kd.R_drew)); exact (Kd.R_mono (Kd.R_far (p := ⟨gb116, 2, none⟩) (Kd.R_far (p := ⟨gb116, 1, none⟩) (Kd.R_far (p := ⟨gb116, 0, none⟩) (Kd.R_types HO115.out BK116.out (by decide)) (fun _ hk => hk.2) (.int .u64 t109)) (fun _ hk => hk.2) (.slice Ao16 t110.length co16)) (fun _ hk => hk.2) (.slice (some ad118) t113.length co17)) (fun _ h_ => h_.1))) gb119 (Nat.le_of_eq hg.symm)) hb); have n4_ := Aside0.mk (blk_below (g := gb108) (o := .cells #[.int .u64 t101, .slice Ao10 t102.length co10, .slice Ao11 t105.length co11] 27 (0, 0)) (by (with_reducible repeat (first | refine blk_drewN ?_ _ | refine blk_drew ?_ | refine blk_alloc ?_ _)); refine blk_far ?_ NB108_116.out _; (with_reducible repeat (first | refine blk_drewN ?_ _ | refine blk_drew ?_ | refine blk_alloc ?_ _)); refine blk_far ?_ NB108_116.out _; (with_reducible repeat (first | refine blk_drewN ?_ _ | refine blk_drew ?_ | refine blk_alloc ?_ _)); refine blk_far ?_ NB108_116.out _; (with_reducible repeat (first | refine blk_drewN ?_ _ | refine blk_drew ?_ | refine blk_alloc ?_ _)); exact BK108.out) hb); have n5_ := Aside0.mk (blk_below (g := gb116) (o := .cells #[.int .u64 t109, .slice Ao16 t110.length co16, .slice (some ad118) t113.length co17] 27 (0, 0)) (by (with_reducible repeat (first | refine blk_drewN ?_ _ | refine blk_drew ?_ | refine blk_alloc ?_ _)); refine blk_put (cs := #[.int .u64 t109, .slice Ao16 t110.length co16, .slice none 0 0]) ?_ 2 _ rfl; (with_reducible repeat (first | refine blk_drewN ?_ _ | refine blk_drew ?_ | refine blk_alloc ?_ _)); refine blk_put (cs := #[.int .u64 t109, .slice none 0 0, .slice none 0 0]) ?_ 1 _ rfl; (with_reducible repeat (first | refine blk_drewN ?_ _ | refine blk_drew ?_ | refine blk_alloc ?_ _)); refine blk_put (cs := #[.int .u64 0, .slice none 0 0, .slice none 0 0]) ?_ 0 _ rfl; (with_reducible repeat (first | refine blk_drewN ?_ _ | refine blk_drew ?_ | refine blk_alloc ?_ _)); exact BK116.out) hb); have n6_ := Aside0.mk (below_step (by repeat (first | (with_reducible first | exact HB.out | apply below_alloc | apply pw_below_drewN | apply below_drew1 | refine below_set ?_ GE108.out | refine below_set ?_ GE116.out) | exact HB.out)) hb); have n7_ := Aside0.mk (hbox); have n8_ := Aside0.mk ((by rw [hg]; exact (below_size (by repeat (first | (with_reducible first | exact HB.out | apply below_alloc | apply pw_below_drewN | apply below_drew1 | refine below_set ?_ GE108.out | refine below_set ?_ GE116.out) | exact HB.out))) : w.heap.size ≤ gb119)); have n9_ := Aside0.mk ((by rw [hg]; exact (below_size (by repeat (first | (with_reducible first | exact HB.out | apply below_alloc | apply pw_below_drewN | apply below_drew1 | refine below_set ?_ GE108.out | refine below_set ?_ GE116.out) | exact HB.out))) : w.heap.size ≤ gb119)); have n10_ := Aside0.mk ((by rw [hg]; exact Nat.ne_of_lt (blk_lt (g := gb108) (o := .cells #[.int .u64 t101, .slice Ao10 t102.length co10, .slice Ao11 t105.length co11] 27 (0, 0)) (by (with_reducible repeat (first | refine blk_drewN ?_ _ | refine blk_drew ?_ | refine blk_alloc ?_ _)); refine blk_far ?_ NB108_116.out _; (with_reducible repeat (first | refine blk_drewN ?_ _ | refine blk_drew ?_ | refine blk_alloc ?_ _)); refine blk_far ?_ NB108_116.out _; (with_reducible repeat (first | refine blk_drewN ?_ _ | refine blk_drew ?_ | refine blk_alloc ?_ _)); refine blk_far ?_ NB108_116.out _; (with_reducible repeat (first | refine blk_drewN ?_ _ | refine blk_drew ?_ | refine blk_alloc ?_ _)); exact BK108.out)) : gb108 ≠ gb119)); have n11_ := Aside0.mk ((by rw [hg]; exact Nat.ne_of_gt (blk_lt (g := gb108) (o := .cells #[.int .u64 t101, .slice Ao10 t102.length co10, .slice Ao11 t105.length co11] 27 (0, 0)) (by (with_reducible repeat (first | refine blk_drewN ?_ _ | refine blk_drew ?_ | refine blk_alloc ?_ _)); refine blk_far ?_ NB108_116.out _; (with_reducible repeat (first | refine blk_drewN ?_ _ | refine blk_drew ?_ | refine blk_alloc ?_ _)); refine blk_far ?_ NB108_116.out _; (with_reducible repeat (first | refine blk_drewN ?_ _ | refine blk_drew ?_ | refine blk_alloc ?_ _)); refine blk_far ?_ NB108_116.out _; (with_reducible repeat (first | refine blk_drewN ?_ _ | refine blk_drew ?_ | refine blk_alloc ?_ _)); exact BK108.out)) : gb119 ≠ gb108)); have n12_ := Aside0.mk ((by rw [hg]; exact Nat.ne_of_lt (blk_lt (g := gb116) (o := .cells #[.int .u64 t109, .slice Ao16 t110.length co16, .slice (some ad118) t113.length co17] 27 (0, 0)) (by (with_reducible repeat (first | refine blk_drewN ?_ _ | refine blk_drew ?_ | refine blk_alloc ?_ _)); refine blk_put (cs := #[.int .u64 t109, .slice Ao16 t110.length co16, .slice none 0 0]) ?_ 2 _ rfl; (with_reducible repeat (first | refine blk_drewN ?_ _ | refine blk_drew ?_ | refine blk_alloc ?_ _)); refine blk_put (cs := #[.int .u64 t109, .slice none 0 0, .slice none 0 0]) ?_ 1 _ rfl; (with_reducible repeat (first | refine blk_drewN ?_ _ | refine blk_drew ?_ | refine blk_alloc ?_ _)); refine blk_put (cs := #[.int .u64 0, .slice none 0 0, .slice none 0 0]) ?_ 0 _ rfl; (with_reducible repeat (first | refine blk_drewN ?_ _ | refine blk_drew ?_ | refine blk_alloc ?_ _)); exact BK116.out)) : gb116 ≠ gb119)); have n13_ := Aside0.mk ((by rw [hg]; exact Nat.ne_of_gt (blk_lt (g := gb116) (o := .cells #[.int .u64 t109, .slice Ao16 t110.length co16, .slice (some ad118) t113.length co17] 27 (0, 0)) (by (with_reducible repeat (first | refine blk_drewN ?_ _ | refine blk_drew ?_ | refine blk_alloc ?_ _)); refine blk_put (cs := #[.int .u64 t109, .slice Ao16 t110.length co16, .slice none 0 0]) ?_ 2 _ rfl; (with_reducible repeat (first | refine blk_drewN ?_ _ | refine blk_drew ?_ | refine blk_alloc ?_ _)); refine blk_put (cs := #[.int .u64 t109, .slice none 0 0, .slice none 0 0]) ?_ 1 _ rfl; (with_reducible repeat (first | refine blk_drewN ?_ _ | refine blk_drew ?_ | refine blk_alloc ?_ _)); refine blk_put (cs := #[.int .u64 0, .slice none 0 0, .slice none 0 0]) ?_ 0 _ rfl; (with_reducible repeat (first | refine blk_drewN ?_ _ | refine blk_drew ?_ | refine blk_alloc ?_ _)); exact BK116.out)) : gb119 ≠ gb116)); clear HO104; clear HO107; clear HO112; clear HO115; clear BK108; clear BK116; clear HB; have HO104 := n0_; have HO107 := n1_; have HO112 := n2_; have HO115 := n3_; have BK108 := n4_; have BK116 := n5_; have HB := n6_; have BK119 := n7_; have GW119 := n8_; have GE119 := n9_; have NB108_119 := n10_; have NB119_108 := n11_; have NB116_119 := n12_; have NB119_116 := n13_; clear n0_ n1_ n2_ n3_ n4_ n5_ n6_ n7_ n8_ n9_ n10_ n11_ n12_ n13_; clear hb hbox hg; have hnb36 := NB119_108.out; have hnc36 := NB108_119.out; have hnb37 := NB119_116.out; have hnc37 := NB116_119.out; have hcz38_0 : w35.cell? ⟨gb119, 0, none⟩ = some (.string (⟨#[]⟩ : ByteArray)) := (blk_cell BK119.out 0).trans rfl; have hcz38_1 : w35.cell? ⟨gb119, 1, none⟩ = some (.string (⟨#[]⟩ : ByteArray)) := (blk_cell BK119.out 1).trans rfl; have hcz38_2 : w35.cell? ⟨gb119, 2, none⟩ = some (.int .u64 0) := (blk_cell BK119.out 2).trans rfl; have hcz38_3 : w35.cell? ⟨gb119, 3, none⟩ = some (.int .u64 0) := (blk_cell BK119.out 3).trans rfl; have hcz38_4 : w35.cell? ⟨gb119, 4, none⟩ = some (.bool false) := (blk_cell BK119.out 4).trans rfl; have hfz38_0 := blk_frozen BK119.out 0; have hfz38_1 := blk_frozen BK119.out 1; have hfz38_2 := blk_frozen BK119.out 2; have hfz38_3 := blk_frozen BK119.out 3; have hfz38_4 := blk_frozen BK119.out 4))
         have n0_ : Aside0 (Kd.N k33 33 (((((w35.setCell ⟨gb119, 0, none⟩ (.string ((rd_T31 t113 (ji25)).f0))).setCell ⟨gb119, 1, none⟩ (.string ((rd_T31 t113 (ji25)).f1))).setCell ⟨gb119, 2, none⟩ (.int .u64 ((rd_T31 t113 (ji25)).f2))).setCell ⟨gb119, 3, none⟩ (.int .u64 ((rd_T31 t113 (ji25)).f3))).setCell ⟨gb119, 4, none⟩ (.bool ((rd_T31 t113 (ji25)).f4))) w.heap.size (fun k_ => some k_ ≠ (.slice Ao11 t105.length co11 : Value).ownBlock ∧ some k_ ≠ (.slice Ao16 t110.length co16 : Value).ownBlock ∧ some k_ ≠ (.slice (some ad118) t113.length co17 : Value).ownBlock ∧ k_ ≠ gb108 ∧ k_ ≠ gb116 ∧ k_ ≠ gb119) (.slice Ao10 t102.length co10) t102) := ⟨by (with_reducible repeat (first | apply Kd.N_alloc | apply Kd.N_drewN | apply Kd.N_drew)); exact Kd.N_mono (Kd.N_far (p := ⟨gb119, 4, none⟩) (Kd.N_far (p := ⟨gb119, 3, none⟩) (Kd.N_far (p := ⟨gb119, 2, none⟩) (Kd.N_far (p := ⟨gb119, 1, none⟩) (Kd.N_far (p := ⟨gb119, 0, none⟩) (Kd.N_mono HO104.out (fun k_ hk => (⟨hk, hk.2⟩ : _ ∧ k_ ≠ gb119))) (fun _ hk => hk.2) (.string ((rd_T31 t113 (ji25)).f0))) (fun _ hk => hk.2) (.string ((rd_T31 t113 (ji25)).f1))) (fun _ hk => hk.2) (.int .u64 ((rd_T31 t113 (ji25)).f2))) (fun _ hk => hk.2) (.int .u64 ((rd_T31 t113 (ji25)).f3))) (fun _ hk => hk.2) (.bool ((rd_T31 t113 (ji25)).f4))) (fun _ hk => ⟨hk.1.1.1.1.1.1, ⟨hk.1.1.1.1.2, ⟨hk.1.1.1.2, ⟨hk.1.1.1.1.1.2, ⟨hk.1.1.2, hk.1.2⟩⟩⟩⟩⟩)⟩
         have n1_ : Aside0 (Kd.R k31 31 (((((w35.setCell ⟨gb119, 0, none⟩ (.string ((rd_T31 t113 (ji25)).f0))).setCell ⟨gb119, 1, none⟩ (.string ((rd_T31 t113 (ji25)).f1))).setCell ⟨gb119, 2, none⟩ (.int .u64 ((rd_T31 t113 (ji25)).f2))).setCell ⟨gb119, 3, none⟩ (.int .u64 ((rd_T31 t113 (ji25)).f3))).setCell ⟨gb119, 4, none⟩ (.bool ((rd_T31 t113 (ji25)).f4))) w.heap.size (fun k_ => some k_ ≠ (.slice (some ad118) t113.length co17 : Value).ownBlock ∧ k_ ≠ gb119) (.slice Ao11 t105.length co11) t105) := ⟨by (with_reducible repeat (first | apply Kd.R_alloc | apply Kd.R_drewN | apply Kd.R_drew)); exact Kd.R_mono (Kd.R_far (p := ⟨gb119, 4, none⟩) (Kd.R_far (p := ⟨gb119, 3, none⟩) (Kd.R_far (p := ⟨gb119, 2, none⟩) (Kd.R_far (p := ⟨gb119, 1, none⟩) (Kd.R_far (p := ⟨gb119, 0, none⟩) (Kd.R_mono HO107.out (fun k_ hk => (⟨hk, hk.2⟩ : _ ∧ k_ ≠ gb119))) (fun _ hk => hk.2) (.string ((rd_T31 t113 (ji25)).f0))) (fun _ hk => hk.2) (.string ((rd_T31 t113 (ji25)).f1))) (fun _ hk => hk.2) (.int .u64 ((rd_T31 t113 (ji25)).f2))) (fun _ hk => hk.2) (.int .u64 ((rd_T31 t113 (ji25)).f3))) (fun _ hk => hk.2) (.bool ((rd_T31 t113 (ji25)).f4))) (fun _ hk => ⟨hk.1.1.2, hk.1.2⟩)⟩
         have n2_ : Aside0 (Kd.N k33 33 (((((w35.setCell ⟨gb119, 0, none⟩ (.string ((rd_T31 t113 (ji25)).f0))).setCell ⟨gb119, 1, none⟩ (.string ((rd_T31 t113 (ji25)).f1))).setCell ⟨gb119, 2, none⟩ (.int .u64 ((rd_T31 t113 (ji25)).f2))).setCell ⟨gb119, 3, none⟩ (.int .u64 ((rd_T31 t113 (ji25)).f3))).setCell ⟨gb119, 4, none⟩ (.bool ((rd_T31 t113 (ji25)).f4))) w.heap.size (fun k_ => some k_ ≠ (.slice Ao10 t102.length co10 : Value).ownBlock ∧ some k_ ≠ (.slice Ao11 t105.length co11 : Value).ownBlock ∧ some k_ ≠ (.slice (some ad118) t113.length co17 : Value).ownBlock ∧ k_ ≠ gb108 ∧ k_ ≠ gb116 ∧ k_ ≠ gb119) (.slice Ao16 t110.length co16) t110) := ⟨by (with_reducible repeat (first | apply Kd.N_alloc | apply Kd.N_drewN | apply Kd.N_drew)); exact Kd.N_mono (Kd.N_far (p := ⟨gb119, 4, none⟩) (Kd.N_far (p := ⟨gb119, 3, none⟩) (Kd.N_far (p := ⟨gb119, 2, none⟩) (Kd.N_far (p := ⟨gb119, 1, none⟩) (Kd.N_far (p := ⟨gb119, 0, none⟩) (Kd.N_mono HO112.out (fun k_ hk => (⟨hk, hk.2⟩ : _ ∧ k_ ≠ gb119))) (fun _ hk => hk.2) (.string ((rd_T31 t113 (ji25)).f0))) (fun _ hk => hk.2) (.string ((rd_T31 t113 (ji25)).f1))) (fun _ hk => hk.2) (.int .u64 ((rd_T31 t113 (ji25)).f2))) (fun _ hk => hk.2) (.int .u64 ((rd_T31 t113 (ji25)).f3))) (fun _ hk => hk.2) (.bool ((rd_T31 t113 (ji25)).f4))) (fun _ hk => ⟨hk.1.1.1.2.1, ⟨hk.1.1.1.2.2.1, ⟨hk.1.1.1.1, ⟨hk.1.1.1.2.2.2, ⟨hk.1.1.2, hk.1.2⟩⟩⟩⟩⟩)⟩
         have n3_ : Aside0 (Kd.R k31 31 (((((w35.setCell ⟨gb119, 0, none⟩ (.string ((rd_T31 t113 (ji25)).f0))).setCell ⟨gb119, 1, none⟩ (.string ((rd_T31 t113 (ji25)).f1))).setCell ⟨gb119, 2, none⟩ (.int .u64 ((rd_T31 t113 (ji25)).f2))).setCell ⟨gb119, 3, none⟩ (.int .u64 ((rd_T31 t113 (ji25)).f3))).setCell ⟨gb119, 4, none⟩ (.bool ((rd_T31 t113 (ji25)).f4))) w.heap.size (fun k_ => some k_ ≠ (.slice Ao11 t105.length co11 : Value).ownBlock ∧ k_ ≠ gb119) (.slice (some ad118) t113.length co17) t113) := ⟨by (with_reducible repeat (first | apply Kd.R_alloc | apply Kd.R_drewN | apply Kd.R_drew)); exact Kd.R_mono (Kd.R_far (p := ⟨gb119, 4, none⟩) (Kd.R_far (p := ⟨gb119, 3, none⟩) (Kd.R_far (p := ⟨gb119, 2, none⟩) (Kd.R_far (p := ⟨gb119, 1, none⟩) (Kd.R_far (p := ⟨gb119, 0, none⟩) (Kd.R_mono HO115.out (fun k_ hk => (⟨hk, hk.2⟩ : _ ∧ k_ ≠ gb119))) (fun _ hk => hk.2) (.string ((rd_T31 t113 (ji25)).f0))) (fun _ hk => hk.2) (.string ((rd_T31 t113 (ji25)).f1))) (fun _ hk => hk.2) (.int .u64 ((rd_T31 t113 (ji25)).f2))) (fun _ hk => hk.2) (.int .u64 ((rd_T31 t113 (ji25)).f3))) (fun _ hk => hk.2) (.bool ((rd_T31 t113 (ji25)).f4))) (fun _ hk => ⟨hk.1.1.2, hk.1.2⟩)⟩
         have n4_ : Aside0 ((((((w35.setCell ⟨gb119, 0, none⟩ (.string ((rd_T31 t113 (ji25)).f0))).setCell ⟨gb119, 1, none⟩ (.string ((rd_T31 t113 (ji25)).f1))).setCell ⟨gb119, 2, none⟩ (.int .u64 ((rd_T31 t113 (ji25)).f2))).setCell ⟨gb119, 3, none⟩ (.int .u64 ((rd_T31 t113 (ji25)).f3))).setCell ⟨gb119, 4, none⟩ (.bool ((rd_T31 t113 (ji25)).f4))).heap[gb108]? = some (.cells #[.int .u64 t101, .slice Ao10 t102.length co10, .slice Ao11 t105.length co11] 27 (0, 0))) := ⟨by (with_reducible repeat (first | refine blk_drewN ?_ _ | refine blk_drew ?_ | refine blk_alloc ?_ _)); refine blk_far ?_ NB108_119.out _; (with_reducible repeat (first | refine blk_drewN ?_ _ | refine blk_drew ?_ | refine blk_alloc ?_ _)); refine blk_far ?_ NB108_119.out _; (with_reducible repeat (first | refine blk_drewN ?_ _ | refine blk_drew ?_ | refine blk_alloc ?_ _)); refine blk_far ?_ NB108_119.out _; (with_reducible repeat (first | refine blk_drewN ?_ _ | refine blk_drew ?_ | refine blk_alloc ?_ _)); refine blk_far ?_ NB108_119.out _; (with_reducible repeat (first | refine blk_drewN ?_ _ | refine blk_drew ?_ | refine blk_alloc ?_ _)); refine blk_far ?_ NB108_119.out _; (with_reducible repeat (first | refine blk_drewN ?_ _ | refine blk_drew ?_ | refine blk_alloc ?_ _)); exact BK108.out⟩
         have n5_ : Aside0 ((((((w35.setCell ⟨gb119, 0, none⟩ (.string ((rd_T31 t113 (ji25)).f0))).setCell ⟨gb119, 1, none⟩ (.string ((rd_T31 t113 (ji25)).f1))).setCell ⟨gb119, 2, none⟩ (.int .u64 ((rd_T31 t113 (ji25)).f2))).setCell ⟨gb119, 3, none⟩ (.int .u64 ((rd_T31 t113 (ji25)).f3))).setCell ⟨gb119, 4, none⟩ (.bool ((rd_T31 t113 (ji25)).f4))).heap[gb116]? = some (.cells #[.int .u64 t109, .slice Ao16 t110.length co16, .slice (some ad118) t113.length co17] 27 (0, 0))) := ⟨by (with_reducible repeat (first | refine blk_drewN ?_ _ | refine blk_drew ?_ | refine blk_alloc ?_ _)); refine blk_far ?_ NB116_119.out _; (with_reducible repeat (first | refine blk_drewN ?_ _ | refine blk_drew ?_ | refine blk_alloc ?_ _)); refine blk_far ?_ NB116_119.out _; (with_reducible repeat (first | refine blk_drewN ?_ _ | refine blk_drew ?_ | refine blk_alloc ?_ _)); refine blk_far ?_ NB116_119.out _; (with_reducible repeat (first | refine blk_drewN ?_ _ | refine blk_drew ?_ | refine blk_alloc ?_ _)); refine blk_far ?_ NB116_119.out _; (with_reducible repeat (first | refine blk_drewN ?_ _ | refine blk_drew ?_ | refine blk_alloc ?_ _)); refine blk_far ?_ NB116_119.out _; (with_reducible repeat (first | refine blk_drewN ?_ _ | refine blk_drew ?_ | refine blk_alloc ?_ _)); exact BK116.out⟩
         have n6_ : Aside0 ((((((w35.setCell ⟨gb119, 0, none⟩ (.string ((rd_T31 t113 (ji25)).f0))).setCell ⟨gb119, 1, none⟩ (.string ((rd_T31 t113 (ji25)).f1))).setCell ⟨gb119, 2, none⟩ (.int .u64 ((rd_T31 t113 (ji25)).f2))).setCell ⟨gb119, 3, none⟩ (.int .u64 ((rd_T31 t113 (ji25)).f3))).setCell ⟨gb119, 4, none⟩ (.bool ((rd_T31 t113 (ji25)).f4))).heap[gb119]? = some (.cells #[.string ((rd_T31 t113 (ji25)).f0), .string ((rd_T31 t113 (ji25)).f1), .int .u64 ((rd_T31 t113 (ji25)).f2), .int .u64 ((rd_T31 t113 (ji25)).f3), .bool ((rd_T31 t113 (ji25)).f4)] 31 (0, 0))) := ⟨by (with_reducible repeat (first | refine blk_drewN ?_ _ | refine blk_drew ?_ | refine blk_alloc ?_ _)); refine blk_put (cs := #[.string ((rd_T31 t113 (ji25)).f0), .string ((rd_T31 t113 (ji25)).f1), .int .u64 ((rd_T31 t113 (ji25)).f2), .int .u64 ((rd_T31 t113 (ji25)).f3), .bool false]) ?_ 4 _ rfl; (with_reducible repeat (first | refine blk_drewN ?_ _ | refine blk_drew ?_ | refine blk_alloc ?_ _)); refine blk_put (cs := #[.string ((rd_T31 t113 (ji25)).f0), .string ((rd_T31 t113 (ji25)).f1), .int .u64 ((rd_T31 t113 (ji25)).f2), .int .u64 0, .bool false]) ?_ 3 _ rfl; (with_reducible repeat (first | refine blk_drewN ?_ _ | refine blk_drew ?_ | refine blk_alloc ?_ _)); refine blk_put (cs := #[.string ((rd_T31 t113 (ji25)).f0), .string ((rd_T31 t113 (ji25)).f1), .int .u64 0, .int .u64 0, .bool false]) ?_ 2 _ rfl; (with_reducible repeat (first | refine blk_drewN ?_ _ | refine blk_drew ?_ | refine blk_alloc ?_ _)); refine blk_put (cs := #[.string ((rd_T31 t113 (ji25)).f0), .string (⟨#[]⟩ : ByteArray), .int .u64 0, .int .u64 0, .bool false]) ?_ 1 _ rfl; (with_reducible repeat (first | refine blk_drewN ?_ _ | refine blk_drew ?_ | refine blk_alloc ?_ _)); refine blk_put (cs := #[.string (⟨#[]⟩ : ByteArray), .string (⟨#[]⟩ : ByteArray), .int .u64 0, .int .u64 0, .bool false]) ?_ 0 _ rfl; (with_reducible repeat (first | refine blk_drewN ?_ _ | refine blk_drew ?_ | refine blk_alloc ?_ _)); exact BK119.out⟩
         have n7_ : Aside0 (Below w.heap.size w (((((w35.setCell ⟨gb119, 0, none⟩ (.string ((rd_T31 t113 (ji25)).f0))).setCell ⟨gb119, 1, none⟩ (.string ((rd_T31 t113 (ji25)).f1))).setCell ⟨gb119, 2, none⟩ (.int .u64 ((rd_T31 t113 (ji25)).f2))).setCell ⟨gb119, 3, none⟩ (.int .u64 ((rd_T31 t113 (ji25)).f3))).setCell ⟨gb119, 4, none⟩ (.bool ((rd_T31 t113 (ji25)).f4)))) := ⟨by repeat (first | (with_reducible first | exact HB.out | apply below_alloc | apply pw_below_drewN | apply below_drew1 | refine below_set ?_ GE108.out | refine below_set ?_ GE116.out | refine below_set ?_ GE119.out) | exact HB.out)⟩
         (try clear HO104)
         (try clear HO107)
         (try clear HO112)
         (try clear HO115)
         (try clear BK108)
         (try clear BK116)
         (try clear BK119)
         (try clear HB)
         generalize (((((w35.setCell ⟨gb119, 0, none⟩ (.string ((rd_T31 t113 (ji25)).f0))).setCell ⟨gb119, 1, none⟩ (.string ((rd_T31 t113 (ji25)).f1))).setCell ⟨gb119, 2, none⟩ (.int .u64 ((rd_T31 t113 (ji25)).f2))).setCell ⟨gb119, 3, none⟩ (.int .u64 ((rd_T31 t113 (ji25)).f3))).setCell ⟨gb119, 4, none⟩ (.bool ((rd_T31 t113 (ji25)).f4))) = w39 at n0_ n1_ n2_ n3_ n4_ n5_ n6_ n7_ ⊢
         have HO104 := n0_
         have HO107 := n1_
         have HO112 := n2_
         have HO115 := n3_
         have BK108 := n4_
         have BK116 := n5_
         have BK119 := n6_
         have HB := n7_
         clear n0_ n1_ n2_ n3_ n4_ n5_ n6_ n7_
         have n0_ := Aside0.mk (Kd.N_drew HO104.out)
         have n1_ := Aside0.mk (Kd.R_drew HO107.out)
         have n2_ := Aside0.mk (Kd.N_drew HO112.out)
         have n3_ := Aside0.mk (Kd.R_drew HO115.out)
         have n4_ := Aside0.mk (blk_drew BK108.out)
         have n5_ := Aside0.mk (blk_drew BK116.out)
         have n6_ := Aside0.mk (blk_drew BK119.out)
         have n7_ := Aside0.mk (below_drew1 HB.out)
         clear HO104
         clear HO107
         clear HO112
         clear HO115
         clear BK108
         clear BK116
         clear BK119
         clear HB
         have HO104 := n0_
         have HO107 := n1_
         have HO112 := n2_
         have HO115 := n3_
         have BK108 := n4_
         have BK116 := n5_
         have BK119 := n6_
         have HB := n7_
         clear n0_ n1_ n2_ n3_ n4_ n5_ n6_ n7_
         have p120 : 0 ≤ ((ji28) : Int) := of_decide_eq_true (by first | (with_reducible assumption) | assumption)
         have q120 : (ji28) < (t113.length : Int) := of_decide_eq_true (by first | (with_reducible assumption) | assumption)
         obtain ⟨ad120, e120, hx120_0, hx120_1, hx120_2, hx120_3, hx120_4⟩ := at_T31 (Kd.R_reads' HO115.out).2.2 (ji28) p120 q120
         obtain rfl : ad118 = ad120 := (by injection e120)
         replace p120 := eq_true p120
         replace q120 := eq_true q120
         have p31 : 0 ≤ ((ji25) : Int) := of_decide_eq_true (by first | (with_reducible assumption) | assumption)
         have q31 : ((ji25) : Int) < ((t113.length : Int) : Int) := of_decide_eq_true (by first | (with_reducible assumption) | assumption)
         obtain ⟨go31, co31, eo31, gb31, gl31, cl31, HG31⟩ := Kd.R_form HO115.out (by omega)
         (first | cases eo31 | (injection eo31 with ea_ en_ ec_; (first | subst ea_ | (injection ea_ with ea_; subst ea_)); subst ec_; clear en_))
         have GB31 := Aside0.mk gb31
         have GG31 := Aside0.mk HG31
         clear gb31 gl31 HG31
         (first | simp only [add_plain] at hx118_0 | skip)
         (first | simp only [add_plain] at hx118_1 | skip)
         (first | simp only [add_plain] at hx118_2 | skip)
         (first | simp only [add_plain] at hx118_3 | skip)
         (first | simp only [add_plain] at hx118_4 | skip)
         (first | simp only [add_plain] at hx120_0 | skip)
         (first | simp only [add_plain] at hx120_1 | skip)
         (first | simp only [add_plain] at hx120_2 | skip)
         (first | simp only [add_plain] at hx120_3 | skip)
         (first | simp only [add_plain] at hx120_4 | skip)
         obtain ⟨ce31, hcl31, hM31, hcc31, hfr31⟩ := Kd.R_elem HO115.out z31 ((ji25) : Int) p31 q31
         obtain rfl := k31_openM hM31
         have hx31_0 : World.cell? _ ⟨go31, ((ji25) : Int).toNat * 5, none⟩ = some (.string ((rd_T31 t113 (ji25)).f0)) := hcc31 0 _ rfl
         have hx31_1 : World.cell? _ ⟨go31, ((ji25) : Int).toNat * 5 + 1, none⟩ = some (.string ((rd_T31 t113 (ji25)).f1)) := hcc31 1 _ rfl
         have hx31_2 : World.cell? _ ⟨go31, ((ji25) : Int).toNat * 5 + 2, none⟩ = some (.int .u64 ((rd_T31 t113 (ji25)).f2)) := hcc31 2 _ rfl
         have hx31_3 : World.cell? _ ⟨go31, ((ji25) : Int).toNat * 5 + 3, none⟩ = some (.int .u64 ((rd_T31 t113 (ji25)).f3)) := hcc31 3 _ rfl
         have hx31_4 : World.cell? _ ⟨go31, ((ji25) : Int).toNat * 5 + 4, none⟩ = some (.bool ((rd_T31 t113 (ji25)).f4)) := hcc31 4 _ rfl
         have hf31_0 : World.frozen? _ ⟨go31, ((ji25) : Int).toNat * 5, none⟩ = false := hfr31 0
         have hf31_1 : World.frozen? _ ⟨go31, ((ji25) : Int).toNat * 5 + 1, none⟩ = false := hfr31 1
         have hf31_2 : World.frozen? _ ⟨go31, ((ji25) : Int).toNat * 5 + 2, none⟩ = false := hfr31 2
         have hf31_3 : World.frozen? _ ⟨go31, ((ji25) : Int).toNat * 5 + 3, none⟩ = false := hfr31 3
         have hf31_4 : World.frozen? _ ⟨go31, ((ji25) : Int).toNat * 5 + 4, none⟩ = false := hfr31 4
         clear hcl31 hcc31 hfr31 hM31
         replace p31 := eq_true p31
         replace q31 := eq_true q31
         obtain ⟨ce41, hcl41, hM41, hcc41, hfr41⟩ := Kd.R_elem HO115.out z31 ((ji25) : Int) (of_decide_eq_true (by first | (with_reducible assumption) | assumption)) (by have h_ : ((ji25) : Int) < ((t113.length : Int) : Int) := of_decide_eq_true (by first | (with_reducible assumption) | assumption); first | exact h_ | (have e_ := (Kd.R_reads' HO115.out).1; omega) | simpa using h_)
         obtain rfl := k31_openM hM41
         have HP41 := (Kd.R_seg HO115.out ((ji25) : Int) (of_decide_eq_true (by first | (with_reducible assumption) | assumption)) (by have h_ : ((ji25) : Int) < ((t113.length : Int) : Int) := of_decide_eq_true (by first | (with_reducible assumption) | assumption); first | exact h_ | (have e_ := (Kd.R_reads' HO115.out).1; omega) | simpa using h_) (seg := [.string ((rd_T31 t113 (ji28)).f0), .string ((rd_T31 t113 (ji28)).f1), .int .u64 ((rd_T31 t113 (ji28)).f2), .int .u64 ((rd_T31 t113 (ji28)).f3), .bool ((rd_T31 t113 (ji28)).f4)]) (j := 0) hcl41 hcc41 (show 5 ≤ 5 from by decide) (x' := (⟨(rd_T31 t113 (ji28)).f0, (rd_T31 t113 (ji28)).f1, (rd_T31 t113 (ji28)).f2, (rd_T31 t113 (ji28)).f3, (rd_T31 t113 (ji28)).f4⟩ : S31)) (k31_mkM _ _ _ (⟨(rd_T31 t113 (ji28)).f0, (rd_T31 t113 (ji28)).f1, (rd_T31 t113 (ji28)).f2, (rd_T31 t113 (ji28)).f3, (rd_T31 t113 (ji28)).f4⟩ : S31) ) (fun _ hk => hk)).1
         rw [← Ny121.out] at HP41
         have HQ41 := Aside0.mk HP41
         clear hcl41 hcc41 hfr41 hM41 HP41
         refine start_ (n := 11) (S := fun w' => w'.cell? ⟨gb116, 0, none⟩ = some (.int .u64 t109) ∧ w'.cell? ⟨gb116, 1, none⟩ = some (.slice Ao16 t110.length co16) ∧ w'.cell? ⟨gb116, 2, none⟩ = some (.slice (some ⟨go31, 0, none⟩) t113.length co17) ∧ w'.cell? ⟨go31, ((ji28)).toNat * 5, none⟩ = some (.string ((rd_T31 t113 (ji28)).f0)) ∧ w'.cell? ⟨go31, ((ji28)).toNat * 5 + 1, none⟩ = some (.string ((rd_T31 t113 (ji28)).f1)) ∧ w'.cell? ⟨go31, ((ji28)).toNat * 5 + 2, none⟩ = some (.int .u64 ((rd_T31 t113 (ji28)).f2)) ∧ w'.cell? ⟨go31, ((ji28)).toNat * 5 + 3, none⟩ = some (.int .u64 ((rd_T31 t113 (ji28)).f3)) ∧ w'.cell? ⟨go31, ((ji28)).toNat * 5 + 4, none⟩ = some (.bool ((rd_T31 t113 (ji28)).f4))) (ds := [10]) #[false, false, false, false, false, false, false, false, false, false, false] (by kernel_rfl) rfl rfl ⟨(blk_cell BK116.out 0).trans rfl, (blk_cell BK116.out 1).trans rfl, (blk_cell BK116.out 2).trans rfl, hx120_0, hx120_1, hx120_2, hx120_3, hx120_4⟩ (fun hHeld => ?_); refine with_tabW wicketmanlaw16_CodeRight.tab12 wicketmanlaw16_CodeRight.bits12 (fun HT_ HW_ => ?_)
         generalize w39.drew = w40 at HO104 HO107 HO112 HO115 BK108 BK116 BK119 HB GG31 HQ41 hf31_0 hf31_1 hf31_2 hf31_3 hf31_4 hx118_0 hx118_1 hx118_2 hx118_3 hx118_4 hx120_0 hx120_1 hx120_2 hx120_3 hx120_4 hx31_0 hx31_1 hx31_2 hx31_3 hx31_4 hHeld ⊢
         refine pure_ (i := 0) (N := some 53) (v := ?_) (a' := ?_) #[true, false, false, false, false, false, false, false, false, false, false] rfl rfl (any_of HT_.out (by kernel_rfl)) (fun _ _ _ h => h) (Or.inl ⟨by rfl, ?_⟩) ?_ ?_
         rotate_left
         ·intro w'
          go_simp
          with_reducible rfl
         rotate_left
         ·simp only [Act.put, List.setIfInBounds_toArray, List.set_cons_zero, List.set_cons_succ, i64_w, i32_w]
          rfl
         refine pure_ (i := 2) (N := some 55) (v := ?_) (a' := ?_) #[true, false, true, false, false, false, false, false, false, false, false] rfl rfl (any_of HT_.out (by kernel_rfl)) (fun _ _ _ h => h) (Or.inl ⟨by rfl, ?_⟩) ?_ ?_
         rotate_left
         ·intro w'
          go_simp
          with_reducible rfl
         rotate_left
         ·simp only [Act.put, List.setIfInBounds_toArray, List.set_cons_zero, List.set_cons_succ, i64_w, i32_w]
          rfl
         refine pure_ (i := 3) (N := some 56) (v := ?_) (a' := ?_) #[true, false, true, true, false, false, false, false, false, false, false] rfl rfl (any_of HT_.out (by kernel_rfl)) (fun _ _ _ h => h) (Or.inl ⟨by rfl, ?_⟩) ?_ ?_
         rotate_left
         ·intro w'
          go_simp
          with_reducible rfl
         rotate_left
         ·simp only [Act.put, List.setIfInBounds_toArray, List.set_cons_zero, List.set_cons_succ, i64_w, i32_w]
          rfl
         refine pure_ (i := 5) (N := some 58) (v := ?_) (a' := ?_) #[true, false, true, true, false, true, false, false, false, false, false] rfl rfl (any_of HT_.out (by kernel_rfl)) (fun _ _ _ h => h) (Or.inl ⟨by rfl, ?_⟩) ?_ ?_
         rotate_left
         ·intro w'
          go_simp
          with_reducible rfl
         rotate_left
         ·simp only [Act.put, List.setIfInBounds_toArray, List.set_cons_zero, List.set_cons_succ, i64_w, i32_w]
          rfl
         refine pure_ (i := 6) (N := some 59) (v := ?_) (a' := ?_) #[true, false, true, true, false, true, true, false, false, false, false] rfl rfl (any_of HT_.out (by kernel_rfl)) (fun _ _ _ h => h) (Or.inl ⟨by rfl, ?_⟩) ?_ ?_
         rotate_left
         ·intro w'
          go_simp
          with_reducible rfl
         rotate_left
         ·simp only [Act.put, List.setIfInBounds_toArray, List.set_cons_zero, List.set_cons_succ, i64_w, i32_w]
          rfl
         refine take_ (i := 1) (N := some 54) (v := ?_) (a' := ?_) #[true, true, true, true, false, true, true, false, false, false, false] rfl rfl (take_ofW HT_.out HW_.out (by kernel_rfl)) (fun _ _ _ h => h) (Or.inl ⟨by rfl, ?_⟩) hHeld ?_ ?_
         rotate_left
         ·rintro w' ⟨s0, s1, s2, s3, s4, s5, s6, s7⟩
          go_simp
          with_reducible rfl
         rotate_left
         ·simp only [Act.put, List.setIfInBounds_toArray, List.set_cons_zero, List.set_cons_succ, i64_w, i32_w]
          rfl
         refine take_ (i := 4) (N := some 57) (v := ?_) (a' := ?_) #[true, true, true, true, true, true, true, false, false, false, false] rfl rfl (take_ofW HT_.out HW_.out (by kernel_rfl)) (fun _ _ _ h => h) (Or.inl ⟨by rfl, ?_⟩) hHeld ?_ ?_
         rotate_left
         ·rintro w' ⟨s0, s1, s2, s3, s4, s5, s6, s7⟩
          go_simp
          with_reducible rfl
         rotate_left
         ·simp only [Act.put, List.setIfInBounds_toArray, List.set_cons_zero, List.set_cons_succ, i64_w, i32_w]
          rfl
         refine pure_ (i := 7) (N := some 60) (v := ?_) (a' := ?_) #[true, true, true, true, true, true, true, true, false, false, false] rfl rfl (any_of HT_.out (by kernel_rfl)) (fun _ _ _ h => h) (Or.inl ⟨by rfl, ?_⟩) ?_ ?_
         rotate_left
         ·intro w'
          go_simp
          with_reducible rfl
         rotate_left
         ·simp only [Act.put, List.setIfInBounds_toArray, List.set_cons_zero, List.set_cons_succ, i64_w, i32_w]
          rfl
         refine take_ (i := 8) (N := some 61) (v := ?_) (a' := ?_) #[true, true, true, true, true, true, true, true, true, false, false] rfl rfl (take_ofW HT_.out HW_.out (by kernel_rfl)) (fun _ _ _ h => h) (Or.inl ⟨by rfl, ?_⟩) hHeld ?_ ?_
         rotate_left
         ·rintro w' ⟨s0, s1, s2, s3, s4, s5, s6, s7⟩
          go_simp
          with_reducible rfl
         rotate_left
         ·simp only [Act.put, List.setIfInBounds_toArray, List.set_cons_zero, List.set_cons_succ, i64_w, i32_w]
          rfl
         refine pure_ (i := 9) (N := some 62) (v := ?_) (a' := ?_) #[true, true, true, true, true, true, true, true, true, true, false] rfl rfl (any_of HT_.out (by kernel_rfl)) (fun _ _ _ h => h) (Or.inl ⟨by rfl, ?_⟩) ?_ ?_
         rotate_left
         ·intro w'
          go_simp
          with_reducible rfl
         rotate_left
         ·simp only [Act.put, List.setIfInBounds_toArray, List.set_cons_zero, List.set_cons_succ, i64_w, i32_w]
          rfl
         refine last_ (i := 10) (N := none) #[true, true, true, true, true, true, true, true, true, true, true] rfl rfl (one_of HT_.out (by kernel_rfl)) (by decide) (fun K hK => ?_)
         refine skip_ (w1 := ?_) (by rfl) rfl ?_ ?_
         rotate_left
         ·go_simp
          rfl
         refine hK.out _ _ ?_
         clear hK K
         refine done_ (done_of HT_.out (by kernel_rfl)) ?_
         have n0_ : Aside0 (Kd.N k33 33 (((((w40.setCell ⟨go31, ((ji25) : Int).toNat * 5, none⟩ (.string ((rd_T31 t113 (ji28)).f0))).setCell ⟨go31, ((ji25) : Int).toNat * 5 + 1, none⟩ (.string ((rd_T31 t113 (ji28)).f1))).setCell ⟨go31, ((ji25) : Int).toNat * 5 + 2, none⟩ (.int .u64 ((rd_T31 t113 (ji28)).f2))).setCell ⟨go31, ((ji25) : Int).toNat * 5 + 3, none⟩ (.int .u64 ((rd_T31 t113 (ji28)).f3))).setCell ⟨go31, ((ji25) : Int).toNat * 5 + 4, none⟩ (.bool ((rd_T31 t113 (ji28)).f4))) w.heap.size (fun k_ => some k_ ≠ (.slice Ao11 t105.length co11 : Value).ownBlock ∧ some k_ ≠ (.slice Ao16 t110.length co16 : Value).ownBlock ∧ some k_ ≠ (.slice (some ⟨go31, 0, none⟩) t113.length co17 : Value).ownBlock ∧ k_ ≠ gb108 ∧ k_ ≠ gb116 ∧ k_ ≠ gb119) (.slice Ao10 t102.length co10) t102) := ⟨by (with_reducible repeat (first | apply Kd.N_alloc | apply Kd.N_drewN | apply Kd.N_drew)); exact Kd.N_mono (Kd.N_far (p := ⟨go31, ((ji25) : Int).toNat * 5 + 4, none⟩) (Kd.N_far (p := ⟨go31, ((ji25) : Int).toNat * 5 + 3, none⟩) (Kd.N_far (p := ⟨go31, ((ji25) : Int).toNat * 5 + 2, none⟩) (Kd.N_far (p := ⟨go31, ((ji25) : Int).toNat * 5 + 1, none⟩) (Kd.N_far (p := ⟨go31, ((ji25) : Int).toNat * 5, none⟩) (Kd.N_mono HO104.out (fun k_ hk => (⟨hk, fun e_ => hk.2.2.1 (by rw [e_]; rfl)⟩ : _ ∧ k_ ≠ go31))) (fun _ hk => hk.2) (.string ((rd_T31 t113 (ji28)).f0))) (fun _ hk => hk.2) (.string ((rd_T31 t113 (ji28)).f1))) (fun _ hk => hk.2) (.int .u64 ((rd_T31 t113 (ji28)).f2))) (fun _ hk => hk.2) (.int .u64 ((rd_T31 t113 (ji28)).f3))) (fun _ hk => hk.2) (.bool ((rd_T31 t113 (ji28)).f4))) (fun _ hk => ⟨hk.1.1, ⟨hk.1.2.1, ⟨hk.1.2.2.1, ⟨hk.1.2.2.2.1, ⟨hk.1.2.2.2.2.1, hk.1.2.2.2.2.2⟩⟩⟩⟩⟩)⟩
         have n1_ : Aside0 (Kd.R k31 31 (((((w40.setCell ⟨go31, ((ji25) : Int).toNat * 5, none⟩ (.string ((rd_T31 t113 (ji28)).f0))).setCell ⟨go31, ((ji25) : Int).toNat * 5 + 1, none⟩ (.string ((rd_T31 t113 (ji28)).f1))).setCell ⟨go31, ((ji25) : Int).toNat * 5 + 2, none⟩ (.int .u64 ((rd_T31 t113 (ji28)).f2))).setCell ⟨go31, ((ji25) : Int).toNat * 5 + 3, none⟩ (.int .u64 ((rd_T31 t113 (ji28)).f3))).setCell ⟨go31, ((ji25) : Int).toNat * 5 + 4, none⟩ (.bool ((rd_T31 t113 (ji28)).f4))) w.heap.size (fun k_ => some k_ ≠ (.slice (some ⟨go31, 0, none⟩) t113.length co17 : Value).ownBlock ∧ k_ ≠ gb119) (.slice Ao11 t105.length co11) t105) := ⟨by (with_reducible repeat (first | apply Kd.R_alloc | apply Kd.R_drewN | apply Kd.R_drew)); exact Kd.R_mono (Kd.R_far (p := ⟨go31, ((ji25) : Int).toNat * 5 + 4, none⟩) (Kd.R_far (p := ⟨go31, ((ji25) : Int).toNat * 5 + 3, none⟩) (Kd.R_far (p := ⟨go31, ((ji25) : Int).toNat * 5 + 2, none⟩) (Kd.R_far (p := ⟨go31, ((ji25) : Int).toNat * 5 + 1, none⟩) (Kd.R_far (p := ⟨go31, ((ji25) : Int).toNat * 5, none⟩) (Kd.R_mono HO107.out (fun k_ hk => (⟨hk, fun e_ => hk.1 (by rw [e_]; rfl)⟩ : _ ∧ k_ ≠ go31))) (fun _ hk => hk.2) (.string ((rd_T31 t113 (ji28)).f0))) (fun _ hk => hk.2) (.string ((rd_T31 t113 (ji28)).f1))) (fun _ hk => hk.2) (.int .u64 ((rd_T31 t113 (ji28)).f2))) (fun _ hk => hk.2) (.int .u64 ((rd_T31 t113 (ji28)).f3))) (fun _ hk => hk.2) (.bool ((rd_T31 t113 (ji28)).f4))) (fun _ hk => ⟨hk.1.1, hk.1.2⟩)⟩
         have n2_ : Aside0 (Kd.N k33 33 (((((w40.setCell ⟨go31, ((ji25) : Int).toNat * 5, none⟩ (.string ((rd_T31 t113 (ji28)).f0))).setCell ⟨go31, ((ji25) : Int).toNat * 5 + 1, none⟩ (.string ((rd_T31 t113 (ji28)).f1))).setCell ⟨go31, ((ji25) : Int).toNat * 5 + 2, none⟩ (.int .u64 ((rd_T31 t113 (ji28)).f2))).setCell ⟨go31, ((ji25) : Int).toNat * 5 + 3, none⟩ (.int .u64 ((rd_T31 t113 (ji28)).f3))).setCell ⟨go31, ((ji25) : Int).toNat * 5 + 4, none⟩ (.bool ((rd_T31 t113 (ji28)).f4))) w.heap.size (fun k_ => some k_ ≠ (.slice Ao10 t102.length co10 : Value).ownBlock ∧ some k_ ≠ (.slice Ao11 t105.length co11 : Value).ownBlock ∧ some k_ ≠ (.slice (some ⟨go31, 0, none⟩) t113.length co17 : Value).ownBlock ∧ k_ ≠ gb108 ∧ k_ ≠ gb116 ∧ k_ ≠ gb119) (.slice Ao16 t110.length co16) t110) := ⟨by (with_reducible repeat (first | apply Kd.N_alloc | apply Kd.N_drewN | apply Kd.N_drew)); exact Kd.N_mono (Kd.N_far (p := ⟨go31, ((ji25) : Int).toNat * 5 + 4, none⟩) (Kd.N_far (p := ⟨go31, ((ji25) : Int).toNat * 5 + 3, none⟩) (Kd.N_far (p := ⟨go31, ((ji25) : Int).toNat * 5 + 2, none⟩) (Kd.N_far (p := ⟨go31, ((ji25) : Int).toNat * 5 + 1, none⟩) (Kd.N_far (p := ⟨go31, ((ji25) : Int).toNat * 5, none⟩) (Kd.N_mono HO112.out (fun k_ hk => (⟨hk, fun e_ => hk.2.2.1 (by rw [e_]; rfl)⟩ : _ ∧ k_ ≠ go31))) (fun _ hk => hk.2) (.string ((rd_T31 t113 (ji28)).f0))) (fun _ hk => hk.2) (.string ((rd_T31 t113 (ji28)).f1))) (fun _ hk => hk.2) (.int .u64 ((rd_T31 t113 (ji28)).f2))) (fun _ hk => hk.2) (.int .u64 ((rd_T31 t113 (ji28)).f3))) (fun _ hk => hk.2) (.bool ((rd_T31 t113 (ji28)).f4))) (fun _ hk => ⟨hk.1.1, ⟨hk.1.2.1, ⟨hk.1.2.2.1, ⟨hk.1.2.2.2.1, ⟨hk.1.2.2.2.2.1, hk.1.2.2.2.2.2⟩⟩⟩⟩⟩)⟩
         have n3_ : Aside0 (Kd.R k31 31 (((((w40.setCell ⟨go31, ((ji25) : Int).toNat * 5, none⟩ (.string ((rd_T31 t113 (ji28)).f0))).setCell ⟨go31, ((ji25) : Int).toNat * 5 + 1, none⟩ (.string ((rd_T31 t113 (ji28)).f1))).setCell ⟨go31, ((ji25) : Int).toNat * 5 + 2, none⟩ (.int .u64 ((rd_T31 t113 (ji28)).f2))).setCell ⟨go31, ((ji25) : Int).toNat * 5 + 3, none⟩ (.int .u64 ((rd_T31 t113 (ji28)).f3))).setCell ⟨go31, ((ji25) : Int).toNat * 5 + 4, none⟩ (.bool ((rd_T31 t113 (ji28)).f4))) w.heap.size (fun k_ => some k_ ≠ (.slice Ao11 t105.length co11 : Value).ownBlock ∧ k_ ≠ gb119) (.slice (some ⟨go31, 0, none⟩) t113.length co17) y121) := ⟨by (with_reducible repeat (first | apply Kd.R_alloc | apply Kd.R_drewN | apply Kd.R_drew)); exact HQ41.out⟩
         have n4_ : Aside0 ((((((w40.setCell ⟨go31, ((ji25) : Int).toNat * 5, none⟩ (.string ((rd_T31 t113 (ji28)).f0))).setCell ⟨go31, ((ji25) : Int).toNat * 5 + 1, none⟩ (.string ((rd_T31 t113 (ji28)).f1))).setCell ⟨go31, ((ji25) : Int).toNat * 5 + 2, none⟩ (.int .u64 ((rd_T31 t113 (ji28)).f2))).setCell ⟨go31, ((ji25) : Int).toNat * 5 + 3, none⟩ (.int .u64 ((rd_T31 t113 (ji28)).f3))).setCell ⟨go31, ((ji25) : Int).toNat * 5 + 4, none⟩ (.bool ((rd_T31 t113 (ji28)).f4))).heap[gb108]? = some (.cells #[.int .u64 t101, .slice Ao10 t102.length co10, .slice Ao11 t105.length co11] 27 (0, 0))) := ⟨by (with_reducible repeat (first | refine blk_drewN ?_ _ | refine blk_drew ?_ | refine blk_alloc ?_ _)); refine blk_far ?_ (by have h_ := Kd.R_ne HO115.out BK108.out (by decide); intro e_; exact h_ (by rw [e_]; rfl)) _; (with_reducible repeat (first | refine blk_drewN ?_ _ | refine blk_drew ?_ | refine blk_alloc ?_ _)); refine blk_far ?_ (by have h_ := Kd.R_ne HO115.out BK108.out (by decide); intro e_; exact h_ (by rw [e_]; rfl)) _; (with_reducible repeat (first | refine blk_drewN ?_ _ | refine blk_drew ?_ | refine blk_alloc ?_ _)); refine blk_far ?_ (by have h_ := Kd.R_ne HO115.out BK108.out (by decide); intro e_; exact h_ (by rw [e_]; rfl)) _; (with_reducible repeat (first | refine blk_drewN ?_ _ | refine blk_drew ?_ | refine blk_alloc ?_ _)); refine blk_far ?_ (by have h_ := Kd.R_ne HO115.out BK108.out (by decide); intro e_; exact h_ (by rw [e_]; rfl)) _; (with_reducible repeat (first | refine blk_drewN ?_ _ | refine blk_drew ?_ | refine blk_alloc ?_ _)); refine blk_far ?_ (by have h_ := Kd.R_ne HO115.out BK108.out (by decide); intro e_; exact h_ (by rw [e_]; rfl)) _; (with_reducible repeat (first | refine blk_drewN ?_ _ | refine blk_drew ?_ | refine blk_alloc ?_ _)); exact BK108.out⟩
         have n5_ : Aside0 ((((((w40.setCell ⟨go31, ((ji25) : Int).toNat * 5, none⟩ (.string ((rd_T31 t113 (ji28)).f0))).setCell ⟨go31, ((ji25) : Int).toNat * 5 + 1, none⟩ (.string ((rd_T31 t113 (ji28)).f1))).setCell ⟨go31, ((ji25) : Int).toNat * 5 + 2, none⟩ (.int .u64 ((rd_T31 t113 (ji28)).f2))).setCell ⟨go31, ((ji25) : Int).toNat * 5 + 3, none⟩ (.int .u64 ((rd_T31 t113 (ji28)).f3))).setCell ⟨go31, ((ji25) : Int).toNat * 5 + 4, none⟩ (.bool ((rd_T31 t113 (ji28)).f4))).heap[gb116]? = some (.cells #[.int .u64 t109, .slice Ao16 t110.length co16, .slice (some ⟨go31, 0, none⟩) t113.length co17] 27 (0, 0))) := ⟨by (with_reducible repeat (first | refine blk_drewN ?_ _ | refine blk_drew ?_ | refine blk_alloc ?_ _)); refine blk_far ?_ (by have h_ := Kd.R_ne HO115.out BK116.out (by decide); intro e_; exact h_ (by rw [e_]; rfl)) _; (with_reducible repeat (first | refine blk_drewN ?_ _ | refine blk_drew ?_ | refine blk_alloc ?_ _)); refine blk_far ?_ (by have h_ := Kd.R_ne HO115.out BK116.out (by decide); intro e_; exact h_ (by rw [e_]; rfl)) _; (with_reducible repeat (first | refine blk_drewN ?_ _ | refine blk_drew ?_ | refine blk_alloc ?_ _)); refine blk_far ?_ (by have h_ := Kd.R_ne HO115.out BK116.out (by decide); intro e_; exact h_ (by rw [e_]; rfl)) _; (with_reducible repeat (first | refine blk_drewN ?_ _ | refine blk_drew ?_ | refine blk_alloc ?_ _)); refine blk_far ?_ (by have h_ := Kd.R_ne HO115.out BK116.out (by decide); intro e_; exact h_ (by rw [e_]; rfl)) _; (with_reducible repeat (first | refine blk_drewN ?_ _ | refine blk_drew ?_ | refine blk_alloc ?_ _)); refine blk_far ?_ (by have h_ := Kd.R_ne HO115.out BK116.out (by decide); intro e_; exact h_ (by rw [e_]; rfl)) _; (with_reducible repeat (first | refine blk_drewN ?_ _ | refine blk_drew ?_ | refine blk_alloc ?_ _)); exact BK116.out⟩
         have n6_ : Aside0 ((((((w40.setCell ⟨go31, ((ji25) : Int).toNat * 5, none⟩ (.string ((rd_T31 t113 (ji28)).f0))).setCell ⟨go31, ((ji25) : Int).toNat * 5 + 1, none⟩ (.string ((rd_T31 t113 (ji28)).f1))).setCell ⟨go31, ((ji25) : Int).toNat * 5 + 2, none⟩ (.int .u64 ((rd_T31 t113 (ji28)).f2))).setCell ⟨go31, ((ji25) : Int).toNat * 5 + 3, none⟩ (.int .u64 ((rd_T31 t113 (ji28)).f3))).setCell ⟨go31, ((ji25) : Int).toNat * 5 + 4, none⟩ (.bool ((rd_T31 t113 (ji28)).f4))).heap[gb119]? = some (.cells #[.string ((rd_T31 t113 (ji25)).f0), .string ((rd_T31 t113 (ji25)).f1), .int .u64 ((rd_T31 t113 (ji25)).f2), .int .u64 ((rd_T31 t113 (ji25)).f3), .bool ((rd_T31 t113 (ji25)).f4)] 31 (0, 0))) := ⟨by (with_reducible repeat (first | refine blk_drewN ?_ _ | refine blk_drew ?_ | refine blk_alloc ?_ _)); refine blk_far ?_ (by have h_ := Kd.R_away HO115.out (fun _ hk => hk.2); intro e_; exact h_ (by rw [e_]; rfl)) _; (with_reducible repeat (first | refine blk_drewN ?_ _ | refine blk_drew ?_ | refine blk_alloc ?_ _)); refine blk_far ?_ (by have h_ := Kd.R_away HO115.out (fun _ hk => hk.2); intro e_; exact h_ (by rw [e_]; rfl)) _; (with_reducible repeat (first | refine blk_drewN ?_ _ | refine blk_drew ?_ | refine blk_alloc ?_ _)); refine blk_far ?_ (by have h_ := Kd.R_away HO115.out (fun _ hk => hk.2); intro e_; exact h_ (by rw [e_]; rfl)) _; (with_reducible repeat (first | refine blk_drewN ?_ _ | refine blk_drew ?_ | refine blk_alloc ?_ _)); refine blk_far ?_ (by have h_ := Kd.R_away HO115.out (fun _ hk => hk.2); intro e_; exact h_ (by rw [e_]; rfl)) _; (with_reducible repeat (first | refine blk_drewN ?_ _ | refine blk_drew ?_ | refine blk_alloc ?_ _)); refine blk_far ?_ (by have h_ := Kd.R_away HO115.out (fun _ hk => hk.2); intro e_; exact h_ (by rw [e_]; rfl)) _; (with_reducible repeat (first | refine blk_drewN ?_ _ | refine blk_drew ?_ | refine blk_alloc ?_ _)); exact BK119.out⟩
         have n7_ : Aside0 (Below w.heap.size w (((((w40.setCell ⟨go31, ((ji25) : Int).toNat * 5, none⟩ (.string ((rd_T31 t113 (ji28)).f0))).setCell ⟨go31, ((ji25) : Int).toNat * 5 + 1, none⟩ (.string ((rd_T31 t113 (ji28)).f1))).setCell ⟨go31, ((ji25) : Int).toNat * 5 + 2, none⟩ (.int .u64 ((rd_T31 t113 (ji28)).f2))).setCell ⟨go31, ((ji25) : Int).toNat * 5 + 3, none⟩ (.int .u64 ((rd_T31 t113 (ji28)).f3))).setCell ⟨go31, ((ji25) : Int).toNat * 5 + 4, none⟩ (.bool ((rd_T31 t113 (ji28)).f4)))) := ⟨by repeat (first | (with_reducible first | exact HB.out | apply below_alloc | apply pw_below_drewN | apply below_drew1 | refine below_set ?_ GB31.out | refine below_set ?_ GB31.out | refine below_set ?_ GB31.out | refine below_set ?_ GB31.out | refine below_set ?_ GB31.out | refine below_set ?_ GE108.out | refine below_set ?_ GE116.out | refine below_set ?_ GE119.out) | exact HB.out)⟩
         (try clear HO104)
         (try clear HO107)
         (try clear HO112)
         (try clear HO115)
         (try clear BK108)
         (try clear BK116)
         (try clear BK119)
         (try clear HB)
         generalize (((((w40.setCell ⟨go31, ((ji25) : Int).toNat * 5, none⟩ (.string ((rd_T31 t113 (ji28)).f0))).setCell ⟨go31, ((ji25) : Int).toNat * 5 + 1, none⟩ (.string ((rd_T31 t113 (ji28)).f1))).setCell ⟨go31, ((ji25) : Int).toNat * 5 + 2, none⟩ (.int .u64 ((rd_T31 t113 (ji28)).f2))).setCell ⟨go31, ((ji25) : Int).toNat * 5 + 3, none⟩ (.int .u64 ((rd_T31 t113 (ji28)).f3))).setCell ⟨go31, ((ji25) : Int).toNat * 5 + 4, none⟩ (.bool ((rd_T31 t113 (ji28)).f4))) = w42 at n0_ n1_ n2_ n3_ n4_ n5_ n6_ n7_ ⊢
         have HO104 := n0_
         have HO107 := n1_
         have HO112 := n2_
         have HO115 := n3_
         have BK108 := n4_
         have BK116 := n5_
         have BK119 := n6_
         have HB := n7_
         clear n0_ n1_ n2_ n3_ n4_ n5_ n6_ n7_
         have hcz43_0 : w42.cell? ⟨gb116, 0, none⟩ = some (.int .u64 t109) := (blk_cell BK116.out 0).trans rfl
         have hcz43_1 : w42.cell? ⟨gb116, 1, none⟩ = some (.slice Ao16 t110.length co16) := (blk_cell BK116.out 1).trans rfl
         have hcz43_2 : w42.cell? ⟨gb116, 2, none⟩ = some (.slice (some ⟨go31, 0, none⟩) t113.length co17) := (blk_cell BK116.out 2).trans rfl
         have hfz43_0 := blk_frozen BK116.out 0
         have hfz43_1 := blk_frozen BK116.out 1
         have hfz43_2 := blk_frozen BK116.out 2
         have hcz44_0 : w42.cell? ⟨gb119, 0, none⟩ = some (.string ((rd_T31 t113 (ji25)).f0)) := (blk_cell BK119.out 0).trans rfl
         have hcz44_1 : w42.cell? ⟨gb119, 1, none⟩ = some (.string ((rd_T31 t113 (ji25)).f1)) := (blk_cell BK119.out 1).trans rfl
         have hcz44_2 : w42.cell? ⟨gb119, 2, none⟩ = some (.int .u64 ((rd_T31 t113 (ji25)).f2)) := (blk_cell BK119.out 2).trans rfl
         have hcz44_3 : w42.cell? ⟨gb119, 3, none⟩ = some (.int .u64 ((rd_T31 t113 (ji25)).f3)) := (blk_cell BK119.out 3).trans rfl
         have hcz44_4 : w42.cell? ⟨gb119, 4, none⟩ = some (.bool ((rd_T31 t113 (ji25)).f4)) := (blk_cell BK119.out 4).trans rfl
         have hfz44_0 := blk_frozen BK119.out 0
         have hfz44_1 := blk_frozen BK119.out 1
         have hfz44_2 := blk_frozen BK119.out 2
         have hfz44_3 := blk_frozen BK119.out 3
         have hfz44_4 := blk_frozen BK119.out 4
         have p32 : 0 ≤ ((ji28) : Int) := of_decide_eq_true (by first | (with_reducible assumption) | assumption)
         have q32 : ((ji28) : Int) < ((t113.length : Int) : Int) := of_decide_eq_true (by first | (with_reducible assumption) | assumption)
         obtain ⟨ce32, hcl32, hM32, hcc32, hfr32⟩ := Kd.R_elem HO115.out z31 ((ji28) : Int) p32 q32
         obtain rfl := k31_openM hM32
         have hx32_0 : w42.cell? ⟨go31, ((ji28) : Int).toNat * 5, none⟩ = some (.string ((rd_T31 y121 (ji28)).f0)) := hcc32 0 _ rfl
         have hx32_1 : w42.cell? ⟨go31, ((ji28) : Int).toNat * 5 + 1, none⟩ = some (.string ((rd_T31 y121 (ji28)).f1)) := hcc32 1 _ rfl
         have hx32_2 : w42.cell? ⟨go31, ((ji28) : Int).toNat * 5 + 2, none⟩ = some (.int .u64 ((rd_T31 y121 (ji28)).f2)) := hcc32 2 _ rfl
         have hx32_3 : w42.cell? ⟨go31, ((ji28) : Int).toNat * 5 + 3, none⟩ = some (.int .u64 ((rd_T31 y121 (ji28)).f3)) := hcc32 3 _ rfl
         have hx32_4 : w42.cell? ⟨go31, ((ji28) : Int).toNat * 5 + 4, none⟩ = some (.bool ((rd_T31 y121 (ji28)).f4)) := hcc32 4 _ rfl
         have hf32_0 : w42.frozen? ⟨go31, ((ji28) : Int).toNat * 5, none⟩ = false := hfr32 0
         have hf32_1 : w42.frozen? ⟨go31, ((ji28) : Int).toNat * 5 + 1, none⟩ = false := hfr32 1
         have hf32_2 : w42.frozen? ⟨go31, ((ji28) : Int).toNat * 5 + 2, none⟩ = false := hfr32 2
         have hf32_3 : w42.frozen? ⟨go31, ((ji28) : Int).toNat * 5 + 3, none⟩ = false := hfr32 3
         have hf32_4 : w42.frozen? ⟨go31, ((ji28) : Int).toNat * 5 + 4, none⟩ = false := hfr32 4
         clear hcl32 hcc32 hfr32 hM32
         replace p32 := eq_true p32
         replace q32 := eq_true q32
         have HX45 := Aside0.mk (show Kd.R k31 31 w42 w.heap.size (fun k_ => some k_ ≠ (.slice Ao11 t105.length co11 : Value).ownBlock ∧ k_ ≠ gb119) (.slice (some ⟨go31, 0, none⟩) t113.length co17) y121 from (by (with_reducible repeat (first | apply Kd.R_alloc | apply Kd.R_drewN | apply Kd.R_drew)); exact HO115.out))
         obtain ⟨ce45, hcl45, hM45, hcc45, hfr45⟩ := Kd.R_elem HX45.out z31 ((ji28) : Int) (of_decide_eq_true (by first | (with_reducible assumption) | assumption)) (by have h_ : ((ji28) : Int) < ((t113.length : Int) : Int) := of_decide_eq_true (by first | (with_reducible assumption) | assumption); first | exact h_ | (have e_ := (Kd.R_reads' HO115.out).1; omega) | simpa using h_)
         obtain rfl := k31_openM hM45
         have HP45 := Kd.R_seg HX45.out ((ji28) : Int) (of_decide_eq_true (by first | (with_reducible assumption) | assumption)) (by have h_ : ((ji28) : Int) < ((t113.length : Int) : Int) := of_decide_eq_true (by first | (with_reducible assumption) | assumption); first | exact h_ | (have e_ := (Kd.R_reads' HO115.out).1; omega) | simpa using h_) (seg := [.string ((rd_T31 t113 (ji25)).f0), .string ((rd_T31 t113 (ji25)).f1), .int .u64 ((rd_T31 t113 (ji25)).f2), .int .u64 ((rd_T31 t113 (ji25)).f3), .bool ((rd_T31 t113 (ji25)).f4)]) (j := 0) hcl45 hcc45 (show 5 ≤ 5 from by decide) (x' := (⟨(rd_T31 t113 (ji25)).f0, (rd_T31 t113 (ji25)).f1, (rd_T31 t113 (ji25)).f2, (rd_T31 t113 (ji25)).f3, (rd_T31 t113 (ji25)).f4⟩ : S31)) (k31_mkM _ _ _ (⟨(rd_T31 t113 (ji25)).f0, (rd_T31 t113 (ji25)).f1, (rd_T31 t113 (ji25)).f2, (rd_T31 t113 (ji25)).f3, (rd_T31 t113 (ji25)).f4⟩ : S31) ) (fun _ hk => hk)
         have hx45_0 := hcc45 0 _ rfl
         (try simp only [show (k31).sz = 5 from rfl, Nat.mul_one, Nat.add_zero] at hx45_0)
         have hf45_0 := hfr45 0
         (try simp only [show (k31).sz = 5 from rfl, Nat.mul_one, Nat.add_zero] at hf45_0)
         have hx45_1 := hcc45 1 _ rfl
         (try simp only [show (k31).sz = 5 from rfl, Nat.mul_one, Nat.add_zero] at hx45_1)
         have hf45_1 := hfr45 1
         (try simp only [show (k31).sz = 5 from rfl, Nat.mul_one, Nat.add_zero] at hf45_1)
         have hx45_2 := hcc45 2 _ rfl
         (try simp only [show (k31).sz = 5 from rfl, Nat.mul_one, Nat.add_zero] at hx45_2)
         have hf45_2 := hfr45 2
         (try simp only [show (k31).sz = 5 from rfl, Nat.mul_one, Nat.add_zero] at hf45_2)
         have hx45_3 := hcc45 3 _ rfl
         (try simp only [show (k31).sz = 5 from rfl, Nat.mul_one, Nat.add_zero] at hx45_3)
         have hf45_3 := hfr45 3
         (try simp only [show (k31).sz = 5 from rfl, Nat.mul_one, Nat.add_zero] at hf45_3)
         have hx45_4 := hcc45 4 _ rfl
         (try simp only [show (k31).sz = 5 from rfl, Nat.mul_one, Nat.add_zero] at hx45_4)
         have hf45_4 := hfr45 4
         (try simp only [show (k31).sz = 5 from rfl, Nat.mul_one, Nat.add_zero] at hf45_4)
         clear hcl45 hcc45 hfr45 hM45
         try go_wp2_with (first | ((with_reducible refine gate_store (t := 31) (p := 68) rfl ?_); refine store_event (t := 31) (p := 68) (v := ?vo_w46) (w1 := (((((w42.setCell ⟨go31, ((ji28) : Int).toNat * 5, none⟩ (.string ((rd_T31 t113 (ji25)).f0))).setCell ⟨go31, ((ji28) : Int).toNat * 5 + 1, none⟩ (.string ((rd_T31 t113 (ji25)).f1))).setCell ⟨go31, ((ji28) : Int).toNat * 5 + 2, none⟩ (.int .u64 ((rd_T31 t113 (ji25)).f2))).setCell ⟨go31, ((ji28) : Int).toNat * 5 + 3, none⟩ (.int .u64 ((rd_T31 t113 (ji25)).f3))).setCell ⟨go31, ((ji28) : Int).toNat * 5 + 4, none⟩ (.bool ((rd_T31 t113 (ji25)).f4)))) ?hg ?ho ?hn ?hr ?_; (case ho => rfl); (case hg => rfl); (case hn => rfl); (case hr => first | (go_simp; done) | (go_simp; rfl)); intro w46 hw; have hg : w42.grownBy w46 (some go31) := (by rw [hw]; exact HP45.2); have hp_ : Kd.R k31 31 w46 w.heap.size (fun k_ => some k_ ≠ (.slice Ao11 t105.length co11 : Value).ownBlock ∧ k_ ≠ gb119) (.slice (some ⟨go31, 0, none⟩) t113.length co17) y122 := (by rw [hw, Ny122.out]; exact HP45.1); clear HP45; have n0_ := Aside0.mk (Kd.N_afterv (v := (.slice (some ⟨go31, 0, none⟩) t113.length co17)) (v1 := (.slice (some ⟨go31, 0, none⟩) t113.length co17)) (ok := (fun k_ => some k_ ≠ (.slice Ao11 t105.length co11 : Value).ownBlock ∧ some k_ ≠ (.slice Ao16 t110.length co16 : Value).ownBlock ∧ k_ ≠ gb108 ∧ k_ ≠ gb116 ∧ k_ ≠ gb119)) (by (with_reducible repeat (first | apply Kd.N_alloc | apply Kd.N_drewN | apply Kd.N_drew)); exact Kd.N_mono HO104.out (fun _ hk => ⟨⟨hk.1, ⟨hk.2.1, ⟨hk.2.2.2.1, ⟨hk.2.2.2.2.1, hk.2.2.2.2.2⟩⟩⟩⟩, hk.2.2.1⟩)) hg (.inl rfl)); have n1_ := Aside0.mk (Kd.R_after (v := (.slice (some ⟨go31, 0, none⟩) t113.length co17)) (v1 := (.slice (some ⟨go31, 0, none⟩) t113.length co17)) (ok := (fun k_ => k_ ≠ gb119)) (by (with_reducible repeat (first | apply Kd.R_alloc | apply Kd.R_drewN | apply Kd.R_drew)); exact Kd.R_mono HO107.out (fun _ hk => ⟨hk.2, hk.1⟩)) hg (.inl rfl)); have n2_ := Aside0.mk (blk_grown (g := gb108) (o := .cells #[.int .u64 t101, .slice Ao10 t102.length co10, .slice Ao11 t105.length co11] 27 (0, 0)) (by (with_reducible repeat (first | refine blk_drewN ?_ _ | refine blk_drew ?_ | refine blk_alloc ?_ _)); exact BK108.out) hg (Kd.R_ne HO115.out BK108.out (by decide))); have n3_ := Aside0.mk (Kd.N_afterv (v := (.slice (some ⟨go31, 0, none⟩) t113.length co17)) (v1 := (.slice (some ⟨go31, 0, none⟩) t113.length co17)) (ok := (fun k_ => some k_ ≠ (.slice Ao10 t102.length co10 : Value).ownBlock ∧ some k_ ≠ (.slice Ao11 t105.length co11 : Value).ownBlock ∧ k_ ≠ gb108 ∧ k_ ≠ gb116 ∧ k_ ≠ gb119)) (by (with_reducible repeat (first | apply Kd.N_alloc | apply Kd.N_drewN | apply Kd.N_drew)); exact Kd.N_mono HO112.out (fun _ hk => ⟨⟨hk.1, ⟨hk.2.1, ⟨hk.2.2.2.1, ⟨hk.2.2.2.2.1, hk.2.2.2.2.2⟩⟩⟩⟩, hk.2.2.1⟩)) hg (.inl rfl)); have n4_ := Aside0.mk (hp_); have n5_ := Aside0.mk (blk_grown (g := gb116) (o := .cells #[.int .u64 t109, .slice Ao16 t110.length co16, .slice (some ⟨go31, 0, none⟩) t113.length co17] 27 (0, 0)) (by (with_reducible repeat (first | refine blk_drewN ?_ _ | refine blk_drew ?_ | refine blk_alloc ?_ _)); exact BK116.out) hg (Kd.R_ne HO115.out BK116.out (by decide))); have n6_ := Aside0.mk (blk_grown (g := gb119) (o := .cells #[.string ((rd_T31 t113 (ji25)).f0), .string ((rd_T31 t113 (ji25)).f1), .int .u64 ((rd_T31 t113 (ji25)).f2), .int .u64 ((rd_T31 t113 (ji25)).f3), .bool ((rd_T31 t113 (ji25)).f4)] 31 (0, 0)) (by (with_reducible repeat (first | refine blk_drewN ?_ _ | refine blk_drew ?_ | refine blk_alloc ?_ _)); exact BK119.out) hg (Kd.R_away HO115.out (fun _ hk => hk.2))); have n7_ := Aside0.mk ((by rw [hw]; exact below_set (below_set (below_set (below_set (below_set (HB.out) GB31.out) GB31.out) GB31.out) GB31.out) GB31.out : Below w.heap.size w w46)); clear HO104; clear HO107; clear BK108; clear HO112; clear HO115; clear BK116; clear BK119; clear HB; have HO104 := n0_; have HO107 := n1_; have BK108 := n2_; have HO112 := n3_; have HO115 := n4_; have BK116 := n5_; have BK119 := n6_; have HB := n7_; clear n0_ n1_ n2_ n3_ n4_ n5_ n6_ n7_; clear hg hw hp_))
         go_meet
         case rel => exact ⟨_, (t105), (t110), (y122), (.slice Ao11 t105.length co11), (.slice Ao16 t110.length co16), (.slice (some ⟨go31, 0, none⟩) t113.length co17), H', ⟨by first | omega | exact Nat.le_refl _⟩, ⟨by (with_reducible repeat (first | apply Kd.N_alloc | apply Kd.N_drewN | apply Kd.N_drew)); exact Kd.N_mono HO104.out (fun _ hk => ⟨hk.1.1, ⟨hk.1.2.1, ⟨hk.2, ⟨hk.1.2.2.1, hk.1.2.2.2.1⟩⟩⟩⟩)⟩, ⟨by (with_reducible repeat (first | apply Kd.R_alloc | apply Kd.R_drewN | apply Kd.R_drew)); exact Kd.R_mono HO107.out (fun _ hk => hk.2)⟩, ⟨by (with_reducible repeat (first | apply Kd.N_alloc | apply Kd.N_drewN | apply Kd.N_drew)); exact Kd.N_mono HO112.out (fun _ hk => ⟨hk.1.1, ⟨hk.1.2.1, ⟨hk.2, ⟨hk.1.2.2.1, hk.1.2.2.2.1⟩⟩⟩⟩)⟩, ⟨by (with_reducible repeat (first | apply Kd.R_alloc | apply Kd.R_drewN | apply Kd.R_drew)); exact Kd.R_mono HO115.out (fun _ hk => hk.1)⟩, ⟨by (with_reducible repeat (first | refine blk_drewN ?_ _ | refine blk_drew ?_ | refine blk_alloc ?_ _)); exact BK108.out⟩, ⟨by (with_reducible repeat (first | refine blk_drewN ?_ _ | refine blk_drew ?_ | refine blk_alloc ?_ _)); exact BK116.out⟩, ⟨by repeat (first | (with_reducible first | exact HB.out | apply below_alloc | apply pw_below_drewN | apply below_drew1 | refine below_set ?_ GE108.out | refine below_set ?_ GE116.out | refine below_set ?_ GE119.out) | exact HB.out)⟩⟩
        ·rw [if_neg c30] at H
         exact absurd H (by simp)
       ·rw [if_neg c29] at H
        exact absurd H (by simp)
      ·rw [if_neg c27] at H
       exact absurd H (by simp)
     ·rw [if_neg c26] at H
      exact absurd H (by simp)
  ·rw [if_neg c18] at H
   have c18b0 : ((Int.tmod a1 4) == 0) = false := beq_eq_false_iff_ne.mpr c18
   have c18b1 : ((Int.tmod a1 4) != 0) = true := bne_iff_ne.mpr c18
   (first | rw [c18b0] | (simp only [i64_w, i32_w]; rw [c18b0]) | skip)
   by_cases c47 : (Int.tmod a1 4) = 1
   ·rw [if_pos c47] at H
    have c47b0 : ((Int.tmod a1 4) == 1) = true := beq_iff_eq.mpr c47
    have c47b1 : ((Int.tmod a1 4) != 1) = false := bne_eq_false_iff_eq.mpr c47
    clear c47
    by_cases c48 : (t110.length : Int) = 0
    ·rw [if_pos c48] at H
     have c48b0 : ((t110.length : Int) == 0) = true := beq_iff_eq.mpr c48
     have c48b1 : ((t110.length : Int) != 0) = false := bne_eq_false_iff_eq.mpr c48
     clear c48
     replace H := Option.bind_eq_some_iff.mp H
     obtain ⟨t123, A490, H⟩ := H
     replace H : (some t123) = some r := H
     have A49 := Aside0.mk A490
     clear A490
     obtain rfl := Option.some.inj H
     have hnb50 := NB116_108.out
     have hnc50 := NB108_116.out
     have hcz51_0 : w13.cell? ⟨gb116, 0, none⟩ = some (.int .u64 0) := (blk_cell BK116.out 0).trans rfl
     have hcz51_1 : w13.cell? ⟨gb116, 1, none⟩ = some (.slice none 0 0) := (blk_cell BK116.out 1).trans rfl
     have hcz51_2 : w13.cell? ⟨gb116, 2, none⟩ = some (.slice none 0 0) := (blk_cell BK116.out 2).trans rfl
     have hfz51_0 := blk_frozen BK116.out 0
     have hfz51_1 := blk_frozen BK116.out 1
     have hfz51_2 := blk_frozen BK116.out 2
     go_wp2_with (first | ((with_reducible refine gate_callee (f := 9) rfl ?_); refine goesL_ (some 75) rfl rfl Tryd.func9 (by kernel_rfl) rfl #[] rfl (by (try simp only [List.map_toArray, List.map_cons, List.map_nil]); first | done | rfl | (simp only [List.length_drop, List.length_take]; rfl)) ?_; (with_reducible refine (wicketmanlaw16_known.calls  t123 _ A49.out (HGR.out.below rfl (by repeat (first | (with_reducible first | exact HB.out | apply below_alloc | apply pw_below_drewN | apply below_drew1 | refine below_set ?_ GE108.out | refine below_set ?_ GE116.out) | exact HB.out)))).mono ?_); rintro e w52 ⟨rfl, hb⟩; refine ⟨_, rfl, ?_⟩; have n0_ := Aside0.mk (Kd.N_below (by (with_reducible repeat (first | apply Kd.N_alloc | apply Kd.N_drewN | apply Kd.N_drew)); exact (Kd.N_mono (Kd.N_far (p := ⟨gb116, 2, none⟩) (Kd.N_far (p := ⟨gb116, 1, none⟩) (Kd.N_far (p := ⟨gb116, 0, none⟩) (Kd.N_mono HO104.out (fun k_ hk => (⟨hk, hk.2⟩ : _ ∧ k_ ≠ gb116))) (fun _ hk => hk.2) (.int .u64 t109)) (fun _ hk => hk.2) (.slice Ao16 t110.length co16)) (fun _ hk => hk.2) (.slice Ao17 t113.length co17)) (fun _ h_ => h_.1))) hb); have n1_ := Aside0.mk (Kd.R_below (by (with_reducible repeat (first | apply Kd.R_alloc | apply Kd.R_drewN | apply Kd.R_drew)); exact (Kd.R_mono (Kd.R_far (p := ⟨gb116, 2, none⟩) (Kd.R_far (p := ⟨gb116, 1, none⟩) (Kd.R_far (p := ⟨gb116, 0, none⟩) (Kd.R_types HO107.out BK116.out (by decide)) (fun _ hk => hk.2) (.int .u64 t109)) (fun _ hk => hk.2) (.slice Ao16 t110.length co16)) (fun _ hk => hk.2) (.slice Ao17 t113.length co17)) (fun _ h_ => h_.1))) hb); have n2_ := Aside0.mk (Kd.N_below (by (with_reducible repeat (first | apply Kd.N_alloc | apply Kd.N_drewN | apply Kd.N_drew)); exact (Kd.N_mono (Kd.N_far (p := ⟨gb116, 2, none⟩) (Kd.N_far (p := ⟨gb116, 1, none⟩) (Kd.N_far (p := ⟨gb116, 0, none⟩) (Kd.N_mono HO112.out (fun k_ hk => (⟨hk, hk.2⟩ : _ ∧ k_ ≠ gb116))) (fun _ hk => hk.2) (.int .u64 t109)) (fun _ hk => hk.2) (.slice Ao16 t110.length co16)) (fun _ hk => hk.2) (.slice Ao17 t113.length co17)) (fun _ h_ => h_.1))) hb); have n3_ := Aside0.mk (Kd.R_below (by (with_reducible repeat (first | apply Kd.R_alloc | apply Kd.R_drewN | apply Kd.R_drew)); exact (Kd.R_mono (Kd.R_far (p := ⟨gb116, 2, none⟩) (Kd.R_far (p := ⟨gb116, 1, none⟩) (Kd.R_far (p := ⟨gb116, 0, none⟩) (Kd.R_types HO115.out BK116.out (by decide)) (fun _ hk => hk.2) (.int .u64 t109)) (fun _ hk => hk.2) (.slice Ao16 t110.length co16)) (fun _ hk => hk.2) (.slice Ao17 t113.length co17)) (fun _ h_ => h_.1))) hb); have n4_ := Aside0.mk (blk_below (g := gb108) (o := .cells #[.int .u64 t101, .slice Ao10 t102.length co10, .slice Ao11 t105.length co11] 27 (0, 0)) (by (with_reducible repeat (first | refine blk_drewN ?_ _ | refine blk_drew ?_ | refine blk_alloc ?_ _)); refine blk_far ?_ NB108_116.out _; (with_reducible repeat (first | refine blk_drewN ?_ _ | refine blk_drew ?_ | refine blk_alloc ?_ _)); refine blk_far ?_ NB108_116.out _; (with_reducible repeat (first | refine blk_drewN ?_ _ | refine blk_drew ?_ | refine blk_alloc ?_ _)); refine blk_far ?_ NB108_116.out _; (with_reducible repeat (first | refine blk_drewN ?_ _ | refine blk_drew ?_ | refine blk_alloc ?_ _)); exact BK108.out) hb); have n5_ := Aside0.mk (blk_below (g := gb116) (o := .cells #[.int .u64 t109, .slice Ao16 t110.length co16, .slice Ao17 t113.length co17] 27 (0, 0)) (by (with_reducible repeat (first | refine blk_drewN ?_ _ | refine blk_drew ?_ | refine blk_alloc ?_ _)); refine blk_put (cs := #[.int .u64 t109, .slice Ao16 t110.length co16, .slice none 0 0]) ?_ 2 _ rfl; (with_reducible repeat (first | refine blk_drewN ?_ _ | refine blk_drew ?_ | refine blk_alloc ?_ _)); refine blk_put (cs := #[.int .u64 t109, .slice none 0 0, .slice none 0 0]) ?_ 1 _ rfl; (with_reducible repeat (first | refine blk_drewN ?_ _ | refine blk_drew ?_ | refine blk_alloc ?_ _)); refine blk_put (cs := #[.int .u64 0, .slice none 0 0, .slice none 0 0]) ?_ 0 _ rfl; (with_reducible repeat (first | refine blk_drewN ?_ _ | refine blk_drew ?_ | refine blk_alloc ?_ _)); exact BK116.out) hb); have n6_ := Aside0.mk (below_step (by repeat (first | (with_reducible first | exact HB.out | apply below_alloc | apply pw_below_drewN | apply below_drew1 | refine below_set ?_ GE108.out | refine below_set ?_ GE116.out) | exact HB.out)) hb); clear HO104; clear HO107; clear HO112; clear HO115; clear BK108; clear BK116; clear HB; have HO104 := n0_; have HO107 := n1_; have HO112 := n2_; have HO115 := n3_; have BK108 := n4_; have BK116 := n5_; have HB := n6_; clear n0_ n1_ n2_ n3_ n4_ n5_ n6_; (try clear hb); (try clear hb2); (try clear hk); (try clear hi)))
     go_ret
     exact ⟨by first | rfl | (simp [errW_none, errW_some] <;> rfl) | (simp [*, errW_none, errW_some] <;> rfl), by repeat (first | (with_reducible first | exact HB.out | apply below_alloc | apply pw_below_drewN | apply below_drew1 | refine below_set ?_ GE108.out | refine below_set ?_ GE116.out) | exact HB.out)⟩
    ·rw [if_neg c48] at H
     have c48b0 : ((t110.length : Int) == 0) = false := beq_eq_false_iff_ne.mpr c48
     have c48b1 : ((t110.length : Int) != 0) = true := bne_iff_ne.mpr c48
     have c48b2 : ¬ (t110 = []) := fun h_ => c48 (by rw [h_]; rfl)
     obtain ⟨ji53, hji53⟩ : ∃ j_ : Int, (wrap64 ((t110.length : Int) - 1)) = j_ := ⟨_, rfl⟩
     replace H : (if 0 ≤ (ji53) then (if (ji53) < (t110.length : Int) then (if t110.length < 1466015503701 then (wicketmanlaw16_CodeRight.j0 k t101 t102 t105 t109 (t110 ++ [(⟨(rd_T33 t110 (ji53)).f0, (rd_T33 t110 (ji53)).f1, (rd_T33 t110 (ji53)).f2, (rd_T33 t110 (ji53)).f3, (rd_T33 t110 (ji53)).f4, (rd_T33 t110 (ji53)).f5⟩ : S33)]) t113) else (none)) else (none)) else (none)) = some r := by first | (rw [hji53] at H; exact H) | (simp only [hji53] at H ⊢; exact H)
     have hji53w : (IntKind.i64.wrap ((t110.length : Int) - 1)) = ji53 := (i64_w _).trans hji53
     by_cases c54 : 0 ≤ (ji53)
     ·rw [if_pos c54] at H
      have c54b0 : decide (0 ≤ (ji53)) = true := decide_eq_true c54
      clear c54
      by_cases c55 : (ji53) < (t110.length : Int)
      ·rw [if_pos c55] at H
       have c55b0 : decide ((ji53) < (t110.length : Int)) = true := decide_eq_true c55
       clear c55
       by_cases c56 : t110.length < 1466015503701
       ·rw [if_pos c56] at H
        have LMc56 := Aside0.mk c56
        clear c56
        obtain ⟨y125, hy125⟩ : ∃ y_ : List (S33), y_ = (t110 ++ [(⟨(rd_T33 t110 (ji53)).f0, (rd_T33 t110 (ji53)).f1, (rd_T33 t110 (ji53)).f2, (rd_T33 t110 (ji53)).f3, (rd_T33 t110 (ji53)).f4, (rd_T33 t110 (ji53)).f5⟩ : S33)]) := ⟨_, rfl⟩
        replace H : (wicketmanlaw16_CodeRight.j0 k t101 t102 t105 t109 y125 t113) = some r := by first | (rw [hy125]; with_reducible exact H) | (have H2_ := (Option.bind_some _ _).symm.trans H; rw [hy125]; with_reducible exact H2_) | (have H2_ := (Option.bind_some _ _).symm.trans H; with_reducible exact H2_) | with_reducible exact H | (rw [hy125]; exact H) | exact H
        have Ny125 := Aside0.mk hy125
        clear hy125
        have H' := Aside0.mk H
        clear H
        have hnb57 := NB116_108.out
        have hnc57 := NB108_116.out
        have hcz58_0 : w13.cell? ⟨gb116, 0, none⟩ = some (.int .u64 0) := (blk_cell BK116.out 0).trans rfl
        have hcz58_1 : w13.cell? ⟨gb116, 1, none⟩ = some (.slice none 0 0) := (blk_cell BK116.out 1).trans rfl
        have hcz58_2 : w13.cell? ⟨gb116, 2, none⟩ = some (.slice none 0 0) := (blk_cell BK116.out 2).trans rfl
        have hfz58_0 := blk_frozen BK116.out 0
        have hfz58_1 := blk_frozen BK116.out 1
        have hfz58_2 := blk_frozen BK116.out 2
        try go_wp2
        have n0_ : Aside0 (Kd.N k33 33 (((w13.setCell ⟨gb116, 0, none⟩ (.int .u64 t109)).setCell ⟨gb116, 1, none⟩ (.slice Ao16 t110.length co16)).setCell ⟨gb116, 2, none⟩ (.slice Ao17 t113.length co17)) w.heap.size (fun k_ => some k_ ≠ (.slice Ao11 t105.length co11 : Value).ownBlock ∧ some k_ ≠ (.slice Ao16 t110.length co16 : Value).ownBlock ∧ some k_ ≠ (.slice Ao17 t113.length co17 : Value).ownBlock ∧ k_ ≠ gb108 ∧ k_ ≠ gb116) (.slice Ao10 t102.length co10) t102) := ⟨by (with_reducible repeat (first | apply Kd.N_alloc | apply Kd.N_drewN | apply Kd.N_drew)); exact Kd.N_mono (Kd.N_far (p := ⟨gb116, 2, none⟩) (Kd.N_far (p := ⟨gb116, 1, none⟩) (Kd.N_far (p := ⟨gb116, 0, none⟩) (Kd.N_mono HO104.out (fun k_ hk => (⟨hk, hk.2⟩ : _ ∧ k_ ≠ gb116))) (fun _ hk => hk.2) (.int .u64 t109)) (fun _ hk => hk.2) (.slice Ao16 t110.length co16)) (fun _ hk => hk.2) (.slice Ao17 t113.length co17)) (fun _ hk => ⟨hk.1.1.1.1.1, ⟨hk.1.1.1.2, ⟨hk.1.1.2, ⟨hk.1.1.1.1.2, hk.1.2⟩⟩⟩⟩)⟩
        have n1_ : Aside0 (Kd.R k31 31 (((w13.setCell ⟨gb116, 0, none⟩ (.int .u64 t109)).setCell ⟨gb116, 1, none⟩ (.slice Ao16 t110.length co16)).setCell ⟨gb116, 2, none⟩ (.slice Ao17 t113.length co17)) w.heap.size (fun k_ => some k_ ≠ (.slice Ao17 t113.length co17 : Value).ownBlock) (.slice Ao11 t105.length co11) t105) := ⟨by (with_reducible repeat (first | apply Kd.R_alloc | apply Kd.R_drewN | apply Kd.R_drew)); exact Kd.R_mono (Kd.R_far (p := ⟨gb116, 2, none⟩) (Kd.R_far (p := ⟨gb116, 1, none⟩) (Kd.R_far (p := ⟨gb116, 0, none⟩) (Kd.R_types HO107.out BK116.out (by decide)) (fun _ hk => hk.2) (.int .u64 t109)) (fun _ hk => hk.2) (.slice Ao16 t110.length co16)) (fun _ hk => hk.2) (.slice Ao17 t113.length co17)) (fun _ hk => hk.1.2)⟩
        have n2_ : Aside0 (Kd.N k33 33 (((w13.setCell ⟨gb116, 0, none⟩ (.int .u64 t109)).setCell ⟨gb116, 1, none⟩ (.slice Ao16 t110.length co16)).setCell ⟨gb116, 2, none⟩ (.slice Ao17 t113.length co17)) w.heap.size (fun k_ => some k_ ≠ (.slice Ao10 t102.length co10 : Value).ownBlock ∧ some k_ ≠ (.slice Ao11 t105.length co11 : Value).ownBlock ∧ some k_ ≠ (.slice Ao17 t113.length co17 : Value).ownBlock ∧ k_ ≠ gb108 ∧ k_ ≠ gb116) (.slice Ao16 t110.length co16) t110) := ⟨by (with_reducible repeat (first | apply Kd.N_alloc | apply Kd.N_drewN | apply Kd.N_drew)); exact Kd.N_mono (Kd.N_far (p := ⟨gb116, 2, none⟩) (Kd.N_far (p := ⟨gb116, 1, none⟩) (Kd.N_far (p := ⟨gb116, 0, none⟩) (Kd.N_mono HO112.out (fun k_ hk => (⟨hk, hk.2⟩ : _ ∧ k_ ≠ gb116))) (fun _ hk => hk.2) (.int .u64 t109)) (fun _ hk => hk.2) (.slice Ao16 t110.length co16)) (fun _ hk => hk.2) (.slice Ao17 t113.length co17)) (fun _ hk => ⟨hk.1.1.2.1, ⟨hk.1.1.2.2.1, ⟨hk.1.1.1, ⟨hk.1.1.2.2.2, hk.1.2⟩⟩⟩⟩)⟩
        have n3_ : Aside0 (Kd.R k31 31 (((w13.setCell ⟨gb116, 0, none⟩ (.int .u64 t109)).setCell ⟨gb116, 1, none⟩ (.slice Ao16 t110.length co16)).setCell ⟨gb116, 2, none⟩ (.slice Ao17 t113.length co17)) w.heap.size (fun k_ => some k_ ≠ (.slice Ao11 t105.length co11 : Value).ownBlock) (.slice Ao17 t113.length co17) t113) := ⟨by (with_reducible repeat (first | apply Kd.R_alloc | apply Kd.R_drewN | apply Kd.R_drew)); exact Kd.R_mono (Kd.R_far (p := ⟨gb116, 2, none⟩) (Kd.R_far (p := ⟨gb116, 1, none⟩) (Kd.R_far (p := ⟨gb116, 0, none⟩) (Kd.R_types HO115.out BK116.out (by decide)) (fun _ hk => hk.2) (.int .u64 t109)) (fun _ hk => hk.2) (.slice Ao16 t110.length co16)) (fun _ hk => hk.2) (.slice Ao17 t113.length co17)) (fun _ hk => hk.1.2)⟩
        have n4_ : Aside0 ((((w13.setCell ⟨gb116, 0, none⟩ (.int .u64 t109)).setCell ⟨gb116, 1, none⟩ (.slice Ao16 t110.length co16)).setCell ⟨gb116, 2, none⟩ (.slice Ao17 t113.length co17)).heap[gb108]? = some (.cells #[.int .u64 t101, .slice Ao10 t102.length co10, .slice Ao11 t105.length co11] 27 (0, 0))) := ⟨by (with_reducible repeat (first | refine blk_drewN ?_ _ | refine blk_drew ?_ | refine blk_alloc ?_ _)); refine blk_far ?_ NB108_116.out _; (with_reducible repeat (first | refine blk_drewN ?_ _ | refine blk_drew ?_ | refine blk_alloc ?_ _)); refine blk_far ?_ NB108_116.out _; (with_reducible repeat (first | refine blk_drewN ?_ _ | refine blk_drew ?_ | refine blk_alloc ?_ _)); refine blk_far ?_ NB108_116.out _; (with_reducible repeat (first | refine blk_drewN ?_ _ | refine blk_drew ?_ | refine blk_alloc ?_ _)); exact BK108.out⟩
        have n5_ : Aside0 ((((w13.setCell ⟨gb116, 0, none⟩ (.int .u64 t109)).setCell ⟨gb116, 1, none⟩ (.slice Ao16 t110.length co16)).setCell ⟨gb116, 2, none⟩ (.slice Ao17 t113.length co17)).heap[gb116]? = some (.cells #[.int .u64 t109, .slice Ao16 t110.length co16, .slice Ao17 t113.length co17] 27 (0, 0))) := ⟨by (with_reducible repeat (first | refine blk_drewN ?_ _ | refine blk_drew ?_ | refine blk_alloc ?_ _)); refine blk_put (cs := #[.int .u64 t109, .slice Ao16 t110.length co16, .slice none 0 0]) ?_ 2 _ rfl; (with_reducible repeat (first | refine blk_drewN ?_ _ | refine blk_drew ?_ | refine blk_alloc ?_ _)); refine blk_put (cs := #[.int .u64 t109, .slice none 0 0, .slice none 0 0]) ?_ 1 _ rfl; (with_reducible repeat (first | refine blk_drewN ?_ _ | refine blk_drew ?_ | refine blk_alloc ?_ _)); refine blk_put (cs := #[.int .u64 0, .slice none 0 0, .slice none 0 0]) ?_ 0 _ rfl; (with_reducible repeat (first | refine blk_drewN ?_ _ | refine blk_drew ?_ | refine blk_alloc ?_ _)); exact BK116.out⟩
        have n6_ : Aside0 (Below w.heap.size w (((w13.setCell ⟨gb116, 0, none⟩ (.int .u64 t109)).setCell ⟨gb116, 1, none⟩ (.slice Ao16 t110.length co16)).setCell ⟨gb116, 2, none⟩ (.slice Ao17 t113.length co17))) := ⟨by repeat (first | (with_reducible first | exact HB.out | apply below_alloc | apply pw_below_drewN | apply below_drew1 | refine below_set ?_ GE108.out | refine below_set ?_ GE116.out) | exact HB.out)⟩
        (try clear HO104)
        (try clear HO107)
        (try clear HO112)
        (try clear HO115)
        (try clear BK108)
        (try clear BK116)
        (try clear HB)
        generalize (((w13.setCell ⟨gb116, 0, none⟩ (.int .u64 t109)).setCell ⟨gb116, 1, none⟩ (.slice Ao16 t110.length co16)).setCell ⟨gb116, 2, none⟩ (.slice Ao17 t113.length co17)) = w59 at n0_ n1_ n2_ n3_ n4_ n5_ n6_ ⊢
        have HO104 := n0_
        have HO107 := n1_
        have HO112 := n2_
        have HO115 := n3_
        have BK108 := n4_
        have BK116 := n5_
        have HB := n6_
        clear n0_ n1_ n2_ n3_ n4_ n5_ n6_
        have n0_ := Aside0.mk (Kd.N_drew HO104.out)
        have n1_ := Aside0.mk (Kd.R_drew HO107.out)
        have n2_ := Aside0.mk (Kd.N_drew HO112.out)
        have n3_ := Aside0.mk (Kd.R_drew HO115.out)
        have n4_ := Aside0.mk (blk_drew BK108.out)
        have n5_ := Aside0.mk (blk_drew BK116.out)
        have n6_ := Aside0.mk (below_drew1 HB.out)
        clear HO104
        clear HO107
        clear HO112
        clear HO115
        clear BK108
        clear BK116
        clear HB
        have HO104 := n0_
        have HO107 := n1_
        have HO112 := n2_
        have HO115 := n3_
        have BK108 := n4_
        have BK116 := n5_
        have HB := n6_
        clear n0_ n1_ n2_ n3_ n4_ n5_ n6_
        have p124 : 0 ≤ ((ji53) : Int) := of_decide_eq_true (by first | (with_reducible assumption) | assumption)
        have q124 : (ji53) < (t110.length : Int) := of_decide_eq_true (by first | (with_reducible assumption) | assumption)
        obtain ⟨ad124, A124_1, c124_1, A124_2, c124_2, e124, hx124_0, hx124_1, hx124_2, hx124_3, hx124_4, hx124_5, hl124_1, hi124_1, hl124_2, hi124_2⟩ := at_T33 (Kd.N_reads' HO112.out).2.2 (ji53) p124 q124
        cases e124
        obtain ⟨ce124, hce124, hMe124, hcc124⟩ := Kd.N_get HO112.out z33 (ji53) p124 (by first | exact q124 | exact of_decide_eq_true (by first | (with_reducible assumption) | assumption) | (have e_ := (Kd.N_reads' HO112.out).1; omega))
        obtain ⟨ua124_1, uc124_1, ua124_2, uc124_2, rfl, ul124_1, ge124_1, ul124_2, ge124_2⟩ := k33_openF hMe124
        have hv124_1 := hcc124 1 _ rfl
        rw [add_field _ _ 1 (by omega)] at hv124_1
        replace hv124_1 := Option.some.inj (hv124_1.symm.trans hx124_1)
        injection hv124_1 with hva_ hvn_ hvc_
        rw [hva_] at ge124_1
        rw [hvc_] at ul124_1
        have HL124_1 := Aside0.mk (show Kd.V (Kd.int .u8) 5 _ w.heap.size _ _ ((rd_T33 t110 (ji53)).f1) from Kd.V_mk ul124_1 ge124_1)
        clear hva_ hvn_ hvc_ ge124_1 ul124_1
        have hv124_2 := hcc124 2 _ rfl
        rw [add_field _ _ 2 (by omega)] at hv124_2
        replace hv124_2 := Option.some.inj (hv124_2.symm.trans hx124_2)
        injection hv124_2 with hva_ hvn_ hvc_
        rw [hva_] at ge124_2
        rw [hvc_] at ul124_2
        have HL124_2 := Aside0.mk (show Kd.V (Kd.int .u8) 5 _ w.heap.size _ _ ((rd_T33 t110 (ji53)).f2) from Kd.V_mk ul124_2 ge124_2)
        clear hva_ hvn_ hvc_ ge124_2 ul124_2
        clear hcc124 hce124
        have HR124_1 := Aside0.mk hi124_1
        have HC124_1 := Aside0.mk hl124_1
        clear hi124_1 hl124_1
        have HR124_2 := Aside0.mk hi124_2
        have HC124_2 := Aside0.mk hl124_2
        clear hi124_2 hl124_2
        replace p124 := eq_true p124
        replace q124 := eq_true q124
        refine start_ (n := 14) (S := fun w' => w'.cell? ⟨gb116, 0, none⟩ = some (.int .u64 t109) ∧ w'.cell? ⟨gb116, 1, none⟩ = some (.slice (some ad124) t110.length co16) ∧ w'.cell? ⟨gb116, 2, none⟩ = some (.slice Ao17 t113.length co17) ∧ w'.cell? (ad124.add (((ji53)).toNat * 6)) = some (.string ((rd_T33 t110 (ji53)).f0)) ∧ w'.cell? ⟨(ad124.add (((ji53)).toNat * 6)).block, (ad124.add (((ji53)).toNat * 6)).off + 1, none⟩ = some (.slice A124_1 ((rd_T33 t110 (ji53)).f1).length c124_1) ∧ w'.cell? ⟨(ad124.add (((ji53)).toNat * 6)).block, (ad124.add (((ji53)).toNat * 6)).off + 2, none⟩ = some (.slice A124_2 ((rd_T33 t110 (ji53)).f2).length c124_2) ∧ w'.cell? ⟨(ad124.add (((ji53)).toNat * 6)).block, (ad124.add (((ji53)).toNat * 6)).off + 3, none⟩ = some (.string ((rd_T33 t110 (ji53)).f3)) ∧ w'.cell? ⟨(ad124.add (((ji53)).toNat * 6)).block, (ad124.add (((ji53)).toNat * 6)).off + 4, none⟩ = some (.int .i64 ((rd_T33 t110 (ji53)).f4)) ∧ w'.cell? ⟨(ad124.add (((ji53)).toNat * 6)).block, (ad124.add (((ji53)).toNat * 6)).off + 5, none⟩ = some (.int .u64 ((rd_T33 t110 (ji53)).f5))) (ds := [11, 13]) #[false, false, false, false, false, false, false, false, false, false, false, false, false, false] (by kernel_rfl) rfl rfl ⟨(blk_cell BK116.out 0).trans rfl, (blk_cell BK116.out 1).trans rfl, (blk_cell BK116.out 2).trans rfl, hx124_0, hx124_1, hx124_2, hx124_3, hx124_4, hx124_5⟩ (fun hHeld => ?_); refine with_tabW wicketmanlaw16_CodeRight.tab17 wicketmanlaw16_CodeRight.bits17 (fun HT_ HW_ => ?_)
        generalize w59.drew = w60 at HO104 HO107 HO112 HO115 BK108 BK116 HB HL124_1 HL124_2 HR124_1 HR124_2 hx124_0 hx124_1 hx124_2 hx124_3 hx124_4 hx124_5 hHeld ⊢
        refine pure_ (i := 0) (N := some 76) (v := ?_) (a' := ?_) #[true, false, false, false, false, false, false, false, false, false, false, false, false, false] rfl rfl (any_of HT_.out (by kernel_rfl)) (fun _ _ _ h => h) (Or.inl ⟨by rfl, ?_⟩) ?_ ?_
        rotate_left
        ·intro w'
         go_simp
         with_reducible rfl
        rotate_left
        ·simp only [Act.put, List.setIfInBounds_toArray, List.set_cons_zero, List.set_cons_succ, i64_w, i32_w]
         rfl
        refine pure_ (i := 2) (N := some 78) (v := ?_) (a' := ?_) #[true, false, true, false, false, false, false, false, false, false, false, false, false, false] rfl rfl (any_of HT_.out (by kernel_rfl)) (fun _ _ _ h => h) (Or.inl ⟨by rfl, ?_⟩) ?_ ?_
        rotate_left
        ·intro w'
         go_simp
         with_reducible rfl
        rotate_left
        ·simp only [Act.put, List.setIfInBounds_toArray, List.set_cons_zero, List.set_cons_succ, i64_w, i32_w]
         rfl
        refine pure_ (i := 4) (N := some 80) (v := ?_) (a' := ?_) #[true, false, true, false, true, false, false, false, false, false, false, false, false, false] rfl rfl (any_of HT_.out (by kernel_rfl)) (fun _ _ _ h => h) (Or.inl ⟨by rfl, ?_⟩) ?_ ?_
        rotate_left
        ·intro w'
         go_simp
         with_reducible rfl
        rotate_left
        ·simp only [Act.put, List.setIfInBounds_toArray, List.set_cons_zero, List.set_cons_succ, i64_w, i32_w]
         rfl
        refine take_ (i := 1) (N := some 77) (v := ?_) (a' := ?_) #[true, true, true, false, true, false, false, false, false, false, false, false, false, false] rfl rfl (take_ofW HT_.out HW_.out (by kernel_rfl)) (fun _ _ _ h => h) (Or.inl ⟨by rfl, ?_⟩) hHeld ?_ ?_
        rotate_left
        ·rintro w' ⟨s0, s1, s2, s3, s4, s5, s6, s7, s8⟩
         go_simp
         with_reducible rfl
        rotate_left
        ·simp only [Act.put, List.setIfInBounds_toArray, List.set_cons_zero, List.set_cons_succ, i64_w, i32_w]
         rfl
        refine take_ (i := 3) (N := some 79) (v := ?_) (a' := ?_) #[true, true, true, true, true, false, false, false, false, false, false, false, false, false] rfl rfl (take_ofW HT_.out HW_.out (by kernel_rfl)) (fun _ _ _ h => h) (Or.inl ⟨by rfl, ?_⟩) hHeld ?_ ?_
        rotate_left
        ·rintro w' ⟨s0, s1, s2, s3, s4, s5, s6, s7, s8⟩
         go_simp
         with_reducible rfl
        rotate_left
        ·simp only [Act.put, List.setIfInBounds_toArray, List.set_cons_zero, List.set_cons_succ, i64_w, i32_w]
         rfl
        refine take_ (i := 5) (N := some 81) (v := ?_) (a' := ?_) #[true, true, true, true, true, true, false, false, false, false, false, false, false, false] rfl rfl (take_ofW HT_.out HW_.out (by kernel_rfl)) (fun _ _ _ h => h) (Or.inl ⟨by rfl, ?_⟩) hHeld ?_ ?_
        rotate_left
        ·rintro w' ⟨s0, s1, s2, s3, s4, s5, s6, s7, s8⟩
         go_simp
         with_reducible rfl
        rotate_left
        ·simp only [Act.put, List.setIfInBounds_toArray, List.set_cons_zero, List.set_cons_succ, i64_w, i32_w]
         rfl
        refine pure_ (i := 6) (N := some 82) (v := ?_) (a' := ?_) #[true, true, true, true, true, true, true, false, false, false, false, false, false, false] rfl rfl (any_of HT_.out (by kernel_rfl)) (fun _ _ _ h => h) (Or.inl ⟨by rfl, ?_⟩) ?_ ?_
        rotate_left
        ·intro w'
         go_simp
         with_reducible rfl
        rotate_left
        ·simp only [Act.put, List.setIfInBounds_toArray, List.set_cons_zero, List.set_cons_succ, i64_w, i32_w]
         rfl
        refine pure_ (i := 7) (N := some 83) (v := ?_) (a' := ?_) #[true, true, true, true, true, true, true, true, false, false, false, false, false, false] rfl rfl (any_of HT_.out (by kernel_rfl)) (fun _ _ _ h => h) (Or.inl ⟨by rfl, ?_⟩) ?_ ?_
        rotate_left
        ·intro w'
         go_simp
         with_reducible rfl
        rotate_left
        ·simp only [Act.put, List.setIfInBounds_toArray, List.set_cons_zero, List.set_cons_succ, i64_w, i32_w]
         rfl
        refine pure_ (i := 8) (N := some 84) (v := ?_) (a' := ?_) #[true, true, true, true, true, true, true, true, true, false, false, false, false, false] rfl rfl (any_of HT_.out (by kernel_rfl)) (fun _ _ _ h => h) (Or.inl ⟨by rfl, ?_⟩) ?_ ?_
        rotate_left
        ·intro w'
         go_simp
         with_reducible rfl
        rotate_left
        ·simp only [Act.put, List.setIfInBounds_toArray, List.set_cons_zero, List.set_cons_succ, i64_w, i32_w]
         rfl
        refine take_ (i := 9) (N := some 85) (v := ?_) (a' := ?_) #[true, true, true, true, true, true, true, true, true, true, false, false, false, false] rfl rfl (take_ofW HT_.out HW_.out (by kernel_rfl)) (fun _ _ _ h => h) (Or.inl ⟨by rfl, ?_⟩) hHeld ?_ ?_
        rotate_left
        ·rintro w' ⟨s0, s1, s2, s3, s4, s5, s6, s7, s8⟩
         go_simp
         with_reducible rfl
        rotate_left
        ·simp only [Act.put, List.setIfInBounds_toArray, List.set_cons_zero, List.set_cons_succ, i64_w, i32_w]
         rfl
        refine one_ (i := 10) (N := some 86) #[true, true, true, true, true, true, true, true, true, true, true, false, false, false] rfl rfl (one_of HT_.out (by kernel_rfl)) (by decide) (fun K hK => ?_)
        refine value_ (w1 := ?_) (v := ?_) (by rfl) rfl ?_ ?_
        rotate_left 2
        ·go_simp
         constructor
         ·rfl
         ·rfl
        refine hK.out _ _ ⟨(blk_cell (blk_alloc BK116.out _) 0).trans rfl, (blk_cell (blk_alloc BK116.out _) 1).trans rfl, (blk_cell (blk_alloc BK116.out _) 2).trans rfl, (World.cell?_alloc_lt _ _ _ (World.block_lt_of_cell? _ _ (hHeld.2.2.2.1))).trans (hHeld.2.2.2.1), (World.cell?_alloc_lt _ _ _ (World.block_lt_of_cell? _ _ (hHeld.2.2.2.2.1))).trans (hHeld.2.2.2.2.1), (World.cell?_alloc_lt _ _ _ (World.block_lt_of_cell? _ _ (hHeld.2.2.2.2.2.1))).trans (hHeld.2.2.2.2.2.1), (World.cell?_alloc_lt _ _ _ (World.block_lt_of_cell? _ _ (hHeld.2.2.2.2.2.2.1))).trans (hHeld.2.2.2.2.2.2.1), (World.cell?_alloc_lt _ _ _ (World.block_lt_of_cell? _ _ (hHeld.2.2.2.2.2.2.2.1))).trans (hHeld.2.2.2.2.2.2.2.1), (World.cell?_alloc_lt _ _ _ (World.block_lt_of_cell? _ _ (hHeld.2.2.2.2.2.2.2.2))).trans (hHeld.2.2.2.2.2.2.2.2)⟩ (fun hHeld => ?_)
        clear hK K
        refine norm_ (a' := ?_) ?_ ?_
        rotate_left
        ·show Act.put _ (some 86) _ = _
         simp only [Act.put, List.setIfInBounds_toArray, List.set_cons_zero, List.set_cons_succ, i64_w, i32_w]
         rfl
        refine last_ (i := 11) (N := some 87) #[true, true, true, true, true, true, true, true, true, true, true, true, false, false] rfl rfl (one_of HT_.out (by kernel_rfl)) (by decide) (fun K hK => ?_)
        refine Kd.N_append_step k33 (w0 := w) w.heap.size (by rfl) (.tmp 77) (.tmp 86) 24 33 (.agg #[(.string ⟨#[]⟩), (.slice none 0 0), (.slice none 0 0), (.string ⟨#[]⟩), (.int .i64 0), (.int .u64 0)]) 96 rfl Tryd.underlying24 info33 rfl (by decide) (by omega) (.slice (some ad124) t110.length co16) t110 (⟨(rd_T33 t110 (ji53)).f0, (rd_T33 t110 (ji53)).f1, (rd_T33 t110 (ji53)).f2, (rd_T33 t110 (ji53)).f3, (rd_T33 t110 (ji53)).f4, (rd_T33 t110 (ji53)).f5⟩ : S33) [.string ((rd_T33 t110 (ji53)).f0), .slice A124_1 ((rd_T33 t110 (ji53)).f1).length c124_1, .slice A124_2 ((rd_T33 t110 (ji53)).f2).length c124_2, .string ((rd_T33 t110 (ji53)).f3), .int .i64 ((rd_T33 t110 (ji53)).f4), .int .u64 ((rd_T33 t110 (ji53)).f5)] (fun k_ => some k_ ≠ (.slice Ao10 t102.length co10 : Value).ownBlock ∧ some k_ ≠ (.slice Ao11 t105.length co11 : Value).ownBlock ∧ some k_ ≠ (.slice Ao17 t113.length co17 : Value).ownBlock ∧ k_ ≠ gb108 ∧ k_ ≠ gb116) (fun k_ => ((fun k_ => some k_ ≠ (.slice Ao10 t102.length co10 : Value).ownBlock ∧ some k_ ≠ (.slice Ao11 t105.length co11 : Value).ownBlock ∧ some k_ ≠ (.slice Ao17 t113.length co17 : Value).ownBlock ∧ k_ ≠ gb108 ∧ k_ ≠ gb116)) k_ ∧ some k_ ≠ (.slice (some ad124) t110.length co16 : Value).ownBlock) rfl rfl ?aP (fun _ hk => hk) ?aF ?aO ?aB ?aS ?aL ?_
        (case aP => exact (k33_mkF _ _ (⟨(rd_T33 t110 (ji53)).f0, (rd_T33 t110 (ji53)).f1, (rd_T33 t110 (ji53)).f2, (rd_T33 t110 (ji53)).f3, (rd_T33 t110 (ji53)).f4, (rd_T33 t110 (ji53)).f5⟩ : S33) (Kd.V_reads' (Kd.V_mono (ok' := (fun k_ => ((fun k_ => some k_ ≠ (.slice Ao10 t102.length co10 : Value).ownBlock ∧ some k_ ≠ (.slice Ao11 t105.length co11 : Value).ownBlock ∧ some k_ ≠ (.slice Ao17 t113.length co17 : Value).ownBlock ∧ k_ ≠ gb108 ∧ k_ ≠ gb116)) k_ ∧ some k_ ≠ (.slice (some ad124) t110.length co16 : Value).ownBlock)) (HL124_1.out) (fun k_ hk => ⟨⟨hk.1.1, ⟨hk.1.2.1, ⟨hk.1.2.2.1, ⟨hk.1.2.2.2.1, hk.1.2.2.2.2⟩⟩⟩⟩, hk.2⟩))).2.1 (Kd.V_F (Kd.V_mono (ok' := (fun k_ => ((fun k_ => some k_ ≠ (.slice Ao10 t102.length co10 : Value).ownBlock ∧ some k_ ≠ (.slice Ao11 t105.length co11 : Value).ownBlock ∧ some k_ ≠ (.slice Ao17 t113.length co17 : Value).ownBlock ∧ k_ ≠ gb108 ∧ k_ ≠ gb116)) k_ ∧ some k_ ≠ (.slice (some ad124) t110.length co16 : Value).ownBlock)) (HL124_1.out) (fun k_ hk => ⟨⟨hk.1.1, ⟨hk.1.2.1, ⟨hk.1.2.2.1, ⟨hk.1.2.2.2.1, hk.1.2.2.2.2⟩⟩⟩⟩, hk.2⟩))) (Kd.V_reads' (Kd.V_mono (ok' := (fun k_ => ((fun k_ => some k_ ≠ (.slice Ao10 t102.length co10 : Value).ownBlock ∧ some k_ ≠ (.slice Ao11 t105.length co11 : Value).ownBlock ∧ some k_ ≠ (.slice Ao17 t113.length co17 : Value).ownBlock ∧ k_ ≠ gb108 ∧ k_ ≠ gb116)) k_ ∧ some k_ ≠ (.slice (some ad124) t110.length co16 : Value).ownBlock)) (HL124_2.out) (fun k_ hk => ⟨⟨hk.1.1, ⟨hk.1.2.1, ⟨hk.1.2.2.1, ⟨hk.1.2.2.2.1, hk.1.2.2.2.2⟩⟩⟩⟩, hk.2⟩))).2.1 (Kd.V_F (Kd.V_mono (ok' := (fun k_ => ((fun k_ => some k_ ≠ (.slice Ao10 t102.length co10 : Value).ownBlock ∧ some k_ ≠ (.slice Ao11 t105.length co11 : Value).ownBlock ∧ some k_ ≠ (.slice Ao17 t113.length co17 : Value).ownBlock ∧ k_ ≠ gb108 ∧ k_ ≠ gb116)) k_ ∧ some k_ ≠ (.slice (some ad124) t110.length co16 : Value).ownBlock)) (HL124_2.out) (fun k_ hk => ⟨⟨hk.1.1, ⟨hk.1.2.1, ⟨hk.1.2.2.1, ⟨hk.1.2.2.2.1, hk.1.2.2.2.2⟩⟩⟩⟩, hk.2⟩)))))
        (case aB => exact (by repeat (first | (with_reducible first | exact HB.out | apply below_alloc | apply pw_below_drewN | apply below_drew1 | refine below_set ?_ GE108.out | refine below_set ?_ GE116.out) | exact HB.out)))
        (case aF => exact (fun k_ hk => ⟨Kd.fresh' (Kd.N_lt (by (with_reducible repeat (first | apply Kd.N_alloc | apply Kd.N_drewN | apply Kd.N_drew)); exact HO104.out)) k_ hk, Kd.fresh' (Kd.R_lt (by (with_reducible repeat (first | apply Kd.R_alloc | apply Kd.R_drewN | apply Kd.R_drew)); exact HO107.out)) k_ hk, Kd.fresh' (Kd.R_lt (by (with_reducible repeat (first | apply Kd.R_alloc | apply Kd.R_drewN | apply Kd.R_drew)); exact HO115.out)) k_ hk, Kd.freshB (g := gb108) (o := .cells #[.int .u64 t101, .slice Ao10 t102.length co10, .slice Ao11 t105.length co11] 27 (0, 0)) (by (with_reducible repeat (first | refine blk_drewN ?_ _ | refine blk_drew ?_ | refine blk_alloc ?_ _)); exact BK108.out) k_ hk, Kd.freshB (g := gb116) (o := .cells #[.int .u64 t109, .slice (some ad124) t110.length co16, .slice Ao17 t113.length co17] 27 (0, 0)) (by (with_reducible repeat (first | refine blk_drewN ?_ _ | refine blk_drew ?_ | refine blk_alloc ?_ _)); exact BK116.out) k_ hk⟩))
        (case aO => exact (by (with_reducible repeat (first | apply Kd.N_alloc | apply Kd.N_drewN | apply Kd.N_drew)); exact HO112.out))
        (case aS => exact (below_size (by repeat (first | (with_reducible first | exact HB.out | apply below_alloc | apply pw_below_drewN | apply below_drew1 | refine below_set ?_ GE108.out | refine below_set ?_ GE116.out) | exact HB.out))))
        (case aL => have := LMc56.out; omega)
        intro v126 w61 ho hb hg hat
        rw [← Ny125.out] at ho
        have n0_ := Aside0.mk (Kd.N_afterv (ok := (fun k_ => some k_ ≠ (.slice Ao11 t105.length co11 : Value).ownBlock ∧ some k_ ≠ (.slice Ao17 t113.length co17 : Value).ownBlock ∧ k_ ≠ gb108 ∧ k_ ≠ gb116)) (by (with_reducible repeat (first | apply Kd.N_alloc | apply Kd.N_drewN | apply Kd.N_drew)); exact Kd.N_mono HO104.out (fun _ hk => ⟨⟨hk.1, ⟨hk.2.2.1, ⟨hk.2.2.2.1, hk.2.2.2.2⟩⟩⟩, hk.2.1⟩)) hg hat)
        have n1_ := Aside0.mk (Kd.R_over' (by (with_reducible repeat (first | apply Kd.R_alloc | apply Kd.R_drewN | apply Kd.R_drew)); exact HO107.out) (Kd.N_typed (by (with_reducible repeat (first | apply Kd.N_alloc | apply Kd.N_drewN | apply Kd.N_drew)); exact HO112.out)) (by decide) hg)
        have n2_ := Aside0.mk (blk_grown (g := gb108) (o := .cells #[.int .u64 t101, .slice Ao10 t102.length co10, .slice Ao11 t105.length co11] 27 (0, 0)) (by (with_reducible repeat (first | refine blk_drewN ?_ _ | refine blk_drew ?_ | refine blk_alloc ?_ _)); exact BK108.out) hg (Kd.N_ne HO112.out BK108.out (by decide)))
        have n3_ := Aside0.mk (Kd.R_over' (by (with_reducible repeat (first | apply Kd.R_alloc | apply Kd.R_drewN | apply Kd.R_drew)); exact HO115.out) (Kd.N_typed (by (with_reducible repeat (first | apply Kd.N_alloc | apply Kd.N_drewN | apply Kd.N_drew)); exact HO112.out)) (by decide) hg)
        have n4_ := Aside0.mk (blk_grown (g := gb116) (o := .cells #[.int .u64 t109, .slice (some ad124) t110.length co16, .slice Ao17 t113.length co17] 27 (0, 0)) (by (with_reducible repeat (first | refine blk_drewN ?_ _ | refine blk_drew ?_ | refine blk_alloc ?_ _)); exact BK116.out) hg (Kd.N_ne HO112.out BK116.out (by decide)))
        have n5_ := Aside0.mk (Kd.V_afterv (ok := (fun k_ => some k_ ≠ (.slice Ao10 t102.length co10 : Value).ownBlock ∧ some k_ ≠ (.slice Ao11 t105.length co11 : Value).ownBlock ∧ some k_ ≠ (.slice Ao17 t113.length co17 : Value).ownBlock ∧ k_ ≠ gb108 ∧ k_ ≠ gb116)) (by (with_reducible repeat (first | apply Kd.V_alloc | apply Kd.V_drewN | apply Kd.V_drew)); exact HL124_1.out) hg hat)
        have n6_ := Aside0.mk (Kd.V_afterv (ok := (fun k_ => some k_ ≠ (.slice Ao10 t102.length co10 : Value).ownBlock ∧ some k_ ≠ (.slice Ao11 t105.length co11 : Value).ownBlock ∧ some k_ ≠ (.slice Ao17 t113.length co17 : Value).ownBlock ∧ k_ ≠ gb108 ∧ k_ ≠ gb116)) (by (with_reducible repeat (first | apply Kd.V_alloc | apply Kd.V_drewN | apply Kd.V_drew)); exact HL124_2.out) hg hat)
        have n7_ := Aside0.mk (hb)
        have n8_ := Aside0.mk (ho)
        clear HO104
        clear HO107
        clear BK108
        clear HO115
        clear BK116
        clear HL124_1
        clear HL124_2
        clear HB
        clear HO112
        have HO104 := n0_
        have HO107 := n1_
        have BK108 := n2_
        have HO115 := n3_
        have BK116 := n4_
        have HL124_1 := n5_
        have HL124_2 := n6_
        have HB := n7_
        have HO127 := n8_
        clear n0_ n1_ n2_ n3_ n4_ n5_ n6_ n7_ n8_
        clear ho hb hg hat
        obtain ⟨Ao62, co62, eo62⟩ := Kd.N_slice HO127.out
        (first | subst eo62 | (injection eo62 with f1_ f2_ f3_; have f4_ := f1_.symm; have f5_ := f3_.symm; clear f1_ f2_ f3_; subst f4_; subst f5_))
        refine hK.out _ _ ?_
        clear hK K
        refine norm_ (a' := ?_) ?_ ?_
        rotate_left
        ·show Act.put _ (some 87) _ = _
         simp only [Act.put, List.setIfInBounds_toArray, List.set_cons_zero, List.set_cons_succ, i64_w, i32_w]
         rfl
        refine pure_ (i := 12) (N := some 88) (v := ?_) (a' := ?_) #[true, true, true, true, true, true, true, true, true, true, true, true, true, false] rfl rfl (any_of HT_.out (by kernel_rfl)) (fun _ _ _ h => h) (Or.inl ⟨by rfl, ?_⟩) ?_ ?_
        rotate_left
        ·intro w'
         go_simp
         with_reducible rfl
        rotate_left
        ·simp only [Act.put, List.setIfInBounds_toArray, List.set_cons_zero, List.set_cons_succ, i64_w, i32_w]
         rfl
        refine last_ (i := 13) (N := none) #[true, true, true, true, true, true, true, true, true, true, true, true, true, true] rfl rfl (one_of HT_.out (by kernel_rfl)) (by decide) (fun K hK => ?_)
        have hs63 : w61.cell? ⟨gb116, 1, none⟩ = some (.slice (some ad124) t110.length co16) := (blk_cell BK116.out 1).trans rfl
        have hfs63 := blk_frozen BK116.out 1
        have hns63_0 := NB108_116.out
        have hms63_0 := NB116_108.out
        refine skip_ (w1 := ?_) (by rfl) rfl ?_ ?_
        rotate_left
        ·go_simp
         rfl
        refine hK.out _ _ ?_
        clear hK K
        refine done_ (done_of HT_.out (by kernel_rfl)) ?_
        try go_wp2
        go_meet
        case rel => exact ⟨_, (t105), (y125), (t113), (.slice Ao11 t105.length co11), (.slice Ao62 y125.length co62), (.slice Ao17 t113.length co17), H', ⟨by first | omega | exact Nat.le_refl _⟩, ⟨by (with_reducible repeat (first | apply Kd.N_alloc | apply Kd.N_drewN | apply Kd.N_drew)); exact Kd.N_mono (Kd.N_far (p := ⟨gb116, 1, none⟩) (Kd.N_mono HO104.out (fun k_ hk => (⟨hk, hk.1.2.2.2⟩ : _ ∧ k_ ≠ gb116))) (fun _ hk => hk.2) (.slice Ao62 y125.length co62)) (fun _ hk => ⟨hk.1.1.1, ⟨hk.1.2, ⟨hk.1.1.2.1, ⟨hk.1.1.2.2.1, hk.1.1.2.2.2⟩⟩⟩⟩)⟩, ⟨by (with_reducible repeat (first | apply Kd.R_alloc | apply Kd.R_drewN | apply Kd.R_drew)); exact Kd.R_mono (Kd.R_far (p := ⟨gb116, 1, none⟩) (Kd.R_types HO107.out BK116.out (by decide)) (fun _ hk => hk.2) (.slice Ao62 y125.length co62)) (fun _ hk => hk.1)⟩, ⟨by (with_reducible repeat (first | apply Kd.N_alloc | apply Kd.N_drewN | apply Kd.N_drew)); exact Kd.N_mono (Kd.N_far (p := ⟨gb116, 1, none⟩) (Kd.N_mono HO127.out (fun k_ hk => (⟨hk, hk.2.2.2.2⟩ : _ ∧ k_ ≠ gb116))) (fun _ hk => hk.2) (.slice Ao62 y125.length co62)) (fun _ hk => ⟨hk.1.1, ⟨hk.1.2.1, ⟨hk.1.2.2.1, ⟨hk.1.2.2.2.1, hk.1.2.2.2.2⟩⟩⟩⟩)⟩, ⟨by (with_reducible repeat (first | apply Kd.R_alloc | apply Kd.R_drewN | apply Kd.R_drew)); exact Kd.R_mono (Kd.R_far (p := ⟨gb116, 1, none⟩) (Kd.R_types HO115.out BK116.out (by decide)) (fun _ hk => hk.2) (.slice Ao62 y125.length co62)) (fun _ hk => hk.1)⟩, ⟨by (with_reducible repeat (first | refine blk_drewN ?_ _ | refine blk_drew ?_ | refine blk_alloc ?_ _)); refine blk_far ?_ NB108_116.out _; (with_reducible repeat (first | refine blk_drewN ?_ _ | refine blk_drew ?_ | refine blk_alloc ?_ _)); exact BK108.out⟩, ⟨by (with_reducible repeat (first | refine blk_drewN ?_ _ | refine blk_drew ?_ | refine blk_alloc ?_ _)); refine blk_put (cs := #[.int .u64 t109, .slice (some ad124) t110.length co16, .slice Ao17 t113.length co17]) ?_ 1 _ rfl; (with_reducible repeat (first | refine blk_drewN ?_ _ | refine blk_drew ?_ | refine blk_alloc ?_ _)); exact BK116.out⟩, ⟨by repeat (first | (with_reducible first | exact HB.out | apply below_alloc | apply pw_below_drewN | apply below_drew1 | refine below_set ?_ GE108.out | refine below_set ?_ GE116.out) | exact HB.out)⟩⟩
       ·rw [if_neg c56] at H
        exact absurd H (by simp)
      ·rw [if_neg c55] at H
       exact absurd H (by simp)
     ·rw [if_neg c54] at H
      exact absurd H (by simp)
   ·rw [if_neg c47] at H
    have c47b0 : ((Int.tmod a1 4) == 1) = false := beq_eq_false_iff_ne.mpr c47
    have c47b1 : ((Int.tmod a1 4) != 1) = true := bne_iff_ne.mpr c47
    by_cases c64 : (Int.tmod a1 4) = 2
    ·rw [if_pos c64] at H
     have c64b0 : ((Int.tmod a1 4) == 2) = true := beq_iff_eq.mpr c64
     have c64b1 : ((Int.tmod a1 4) != 2) = false := bne_eq_false_iff_eq.mpr c64
     clear c64
     by_cases c65 : (t113.length : Int) = 0
     ·rw [if_pos c65] at H
      have c65b0 : ((t113.length : Int) == 0) = true := beq_iff_eq.mpr c65
      have c65b1 : ((t113.length : Int) != 0) = false := bne_eq_false_iff_eq.mpr c65
      clear c65
      replace H := Option.bind_eq_some_iff.mp H
      obtain ⟨t128, A660, H⟩ := H
      replace H : (some t128) = some r := H
      have A66 := Aside0.mk A660
      clear A660
      obtain rfl := Option.some.inj H
      have hnb67 := NB116_108.out
      have hnc67 := NB108_116.out
      have hcz68_0 : w13.cell? ⟨gb116, 0, none⟩ = some (.int .u64 0) := (blk_cell BK116.out 0).trans rfl
      have hcz68_1 : w13.cell? ⟨gb116, 1, none⟩ = some (.slice none 0 0) := (blk_cell BK116.out 1).trans rfl
      have hcz68_2 : w13.cell? ⟨gb116, 2, none⟩ = some (.slice none 0 0) := (blk_cell BK116.out 2).trans rfl
      have hfz68_0 := blk_frozen BK116.out 0
      have hfz68_1 := blk_frozen BK116.out 1
      have hfz68_2 := blk_frozen BK116.out 2
      go_wp2_with (first | ((with_reducible refine gate_callee (f := 9) rfl ?_); refine goesL_ (some 95) rfl rfl Tryd.func9 (by kernel_rfl) rfl #[] rfl (by (try simp only [List.map_toArray, List.map_cons, List.map_nil]); first | done | rfl | (simp only [List.length_drop, List.length_take]; rfl)) ?_; (with_reducible refine (wicketmanlaw16_known.calls  t128 _ A66.out (HGR.out.below rfl (by repeat (first | (with_reducible first | exact HB.out | apply below_alloc | apply pw_below_drewN | apply below_drew1 | refine below_set ?_ GE108.out | refine below_set ?_ GE116.out) | exact HB.out)))).mono ?_); rintro e w69 ⟨rfl, hb⟩; refine ⟨_, rfl, ?_⟩; have n0_ := Aside0.mk (Kd.N_below (by (with_reducible repeat (first | apply Kd.N_alloc | apply Kd.N_drewN | apply Kd.N_drew)); exact (Kd.N_mono (Kd.N_far (p := ⟨gb116, 2, none⟩) (Kd.N_far (p := ⟨gb116, 1, none⟩) (Kd.N_far (p := ⟨gb116, 0, none⟩) (Kd.N_mono HO104.out (fun k_ hk => (⟨hk, hk.2⟩ : _ ∧ k_ ≠ gb116))) (fun _ hk => hk.2) (.int .u64 t109)) (fun _ hk => hk.2) (.slice Ao16 t110.length co16)) (fun _ hk => hk.2) (.slice Ao17 t113.length co17)) (fun _ h_ => h_.1))) hb); have n1_ := Aside0.mk (Kd.R_below (by (with_reducible repeat (first | apply Kd.R_alloc | apply Kd.R_drewN | apply Kd.R_drew)); exact (Kd.R_mono (Kd.R_far (p := ⟨gb116, 2, none⟩) (Kd.R_far (p := ⟨gb116, 1, none⟩) (Kd.R_far (p := ⟨gb116, 0, none⟩) (Kd.R_types HO107.out BK116.out (by decide)) (fun _ hk => hk.2) (.int .u64 t109)) (fun _ hk => hk.2) (.slice Ao16 t110.length co16)) (fun _ hk => hk.2) (.slice Ao17 t113.length co17)) (fun _ h_ => h_.1))) hb); have n2_ := Aside0.mk (Kd.N_below (by (with_reducible repeat (first | apply Kd.N_alloc | apply Kd.N_drewN | apply Kd.N_drew)); exact (Kd.N_mono (Kd.N_far (p := ⟨gb116, 2, none⟩) (Kd.N_far (p := ⟨gb116, 1, none⟩) (Kd.N_far (p := ⟨gb116, 0, none⟩) (Kd.N_mono HO112.out (fun k_ hk => (⟨hk, hk.2⟩ : _ ∧ k_ ≠ gb116))) (fun _ hk => hk.2) (.int .u64 t109)) (fun _ hk => hk.2) (.slice Ao16 t110.length co16)) (fun _ hk => hk.2) (.slice Ao17 t113.length co17)) (fun _ h_ => h_.1))) hb); have n3_ := Aside0.mk (Kd.R_below (by (with_reducible repeat (first | apply Kd.R_alloc | apply Kd.R_drewN | apply Kd.R_drew)); exact (Kd.R_mono (Kd.R_far (p := ⟨gb116, 2, none⟩) (Kd.R_far (p := ⟨gb116, 1, none⟩) (Kd.R_far (p := ⟨gb116, 0, none⟩) (Kd.R_types HO115.out BK116.out (by decide)) (fun _ hk => hk.2) (.int .u64 t109)) (fun _ hk => hk.2) (.slice Ao16 t110.length co16)) (fun _ hk => hk.2) (.slice Ao17 t113.length co17)) (fun _ h_ => h_.1))) hb); have n4_ := Aside0.mk (blk_below (g := gb108) (o := .cells #[.int .u64 t101, .slice Ao10 t102.length co10, .slice Ao11 t105.length co11] 27 (0, 0)) (by (with_reducible repeat (first | refine blk_drewN ?_ _ | refine blk_drew ?_ | refine blk_alloc ?_ _)); refine blk_far ?_ NB108_116.out _; (with_reducible repeat (first | refine blk_drewN ?_ _ | refine blk_drew ?_ | refine blk_alloc ?_ _)); refine blk_far ?_ NB108_116.out _; (with_reducible repeat (first | refine blk_drewN ?_ _ | refine blk_drew ?_ | refine blk_alloc ?_ _)); refine blk_far ?_ NB108_116.out _; (with_reducible repeat (first | refine blk_drewN ?_ _ | refine blk_drew ?_ | refine blk_alloc ?_ _)); exact BK108.out) hb); have n5_ := Aside0.mk (blk_below (g := gb116) (o := .cells #[.int .u64 t109, .slice Ao16 t110.length co16, .slice Ao17 t113.length co17] 27 (0, 0)) (by (with_reducible repeat (first | refine blk_drewN ?_ _ | refine blk_drew ?_ | refine blk_alloc ?_ _)); refine blk_put (cs := #[.int .u64 t109, .slice Ao16 t110.length co16, .slice none 0 0]) ?_ 2 _ rfl; (with_reducible repeat (first | refine blk_drewN ?_ _ | refine blk_drew ?_ | refine blk_alloc ?_ _)); refine blk_put (cs := #[.int .u64 t109, .slice none 0 0, .slice none 0 0]) ?_ 1 _ rfl; (with_reducible repeat (first | refine blk_drewN ?_ _ | refine blk_drew ?_ | refine blk_alloc ?_ _)); refine blk_put (cs := #[.int .u64 0, .slice none 0 0, .slice none 0 0]) ?_ 0 _ rfl; (with_reducible repeat (first | refine blk_drewN ?_ _ | refine blk_drew ?_ | refine blk_alloc ?_ _)); exact BK116.out) hb); have n6_ := Aside0.mk (below_step (by repeat (first | (with_reducible first | exact HB.out | apply below_alloc | apply pw_below_drewN | apply below_drew1 | refine below_set ?_ GE108.out | refine below_set ?_ GE116.out) | exact HB.out)) hb); clear HO104; clear HO107; clear HO112; clear HO115; clear BK108; clear BK116; clear HB; have HO104 := n0_; have HO107 := n1_; have HO112 := n2_; have HO115 := n3_; have BK108 := n4_; have BK116 := n5_; have HB := n6_; clear n0_ n1_ n2_ n3_ n4_ n5_ n6_; (try clear hb); (try clear hb2); (try clear hk); (try clear hi)))
      go_ret
      exact ⟨by first | rfl | (simp [errW_none, errW_some] <;> rfl) | (simp [*, errW_none, errW_some] <;> rfl), by repeat (first | (with_reducible first | exact HB.out | apply below_alloc | apply pw_below_drewN | apply below_drew1 | refine below_set ?_ GE108.out | refine below_set ?_ GE116.out) | exact HB.out)⟩
     ·rw [if_neg c65] at H
      have c65b0 : ((t113.length : Int) == 0) = false := beq_eq_false_iff_ne.mpr c65
      have c65b1 : ((t113.length : Int) != 0) = true := bne_iff_ne.mpr c65
      have c65b2 : ¬ (t113 = []) := fun h_ => c65 (by rw [h_]; rfl)
      obtain ⟨ji70, hji70⟩ : ∃ j_ : Int, (Int.tmod (wrap64 (a2)) (t113.length : Int)) = j_ := ⟨_, rfl⟩
      replace H : (if 0 ≤ (ji70) then (if (ji70) < (t113.length : Int) then (wicketmanlaw16_CodeRight.j0 k t101 t102 t105 t109 t110 (t113.set ((ji70) : Int).toNat (⟨(rd_T31 t113 (ji70)).f0, (⟨#[110, 111, 98, 111, 100, 121]⟩ : ByteArray), (rd_T31 t113 (ji70)).f2, (rd_T31 t113 (ji70)).f3, (rd_T31 t113 (ji70)).f4⟩ : S31))) else (none)) else (none)) = some r := by first | (rw [hji70] at H; exact H) | (simp only [hji70] at H ⊢; exact H)
      by_cases c71 : 0 ≤ (ji70)
      ·rw [if_pos c71] at H
       have c71b0 : decide (0 ≤ (ji70)) = true := decide_eq_true c71
       clear c71
       by_cases c72 : (ji70) < (t113.length : Int)
       ·rw [if_pos c72] at H
        have c72b0 : decide ((ji70) < (t113.length : Int)) = true := decide_eq_true c72
        clear c72
        obtain ⟨y129, hy129⟩ : ∃ y_ : List (S31), y_ = (t113.set ((ji70) : Int).toNat (⟨(rd_T31 t113 (ji70)).f0, (⟨#[110, 111, 98, 111, 100, 121]⟩ : ByteArray), (rd_T31 t113 (ji70)).f2, (rd_T31 t113 (ji70)).f3, (rd_T31 t113 (ji70)).f4⟩ : S31)) := ⟨_, rfl⟩
        replace H : (wicketmanlaw16_CodeRight.j0 k t101 t102 t105 t109 t110 y129) = some r := by first | (rw [hy129]; with_reducible exact H) | (have H2_ := (Option.bind_some _ _).symm.trans H; rw [hy129]; with_reducible exact H2_) | (have H2_ := (Option.bind_some _ _).symm.trans H; with_reducible exact H2_) | with_reducible exact H | (rw [hy129]; exact H) | exact H
        have Ny129 := Aside0.mk hy129
        clear hy129
        have H' := Aside0.mk H
        clear H
        have hnb74 := NB116_108.out
        have hnc74 := NB108_116.out
        have hcz75_0 : w13.cell? ⟨gb116, 0, none⟩ = some (.int .u64 0) := (blk_cell BK116.out 0).trans rfl
        have hcz75_1 : w13.cell? ⟨gb116, 1, none⟩ = some (.slice none 0 0) := (blk_cell BK116.out 1).trans rfl
        have hcz75_2 : w13.cell? ⟨gb116, 2, none⟩ = some (.slice none 0 0) := (blk_cell BK116.out 2).trans rfl
        have hfz75_0 := blk_frozen BK116.out 0
        have hfz75_1 := blk_frozen BK116.out 1
        have hfz75_2 := blk_frozen BK116.out 2
        try go_wp2
        have n0_ : Aside0 (Kd.N k33 33 (((w13.setCell ⟨gb116, 0, none⟩ (.int .u64 t109)).setCell ⟨gb116, 1, none⟩ (.slice Ao16 t110.length co16)).setCell ⟨gb116, 2, none⟩ (.slice Ao17 t113.length co17)) w.heap.size (fun k_ => some k_ ≠ (.slice Ao11 t105.length co11 : Value).ownBlock ∧ some k_ ≠ (.slice Ao16 t110.length co16 : Value).ownBlock ∧ some k_ ≠ (.slice Ao17 t113.length co17 : Value).ownBlock ∧ k_ ≠ gb108 ∧ k_ ≠ gb116) (.slice Ao10 t102.length co10) t102) := ⟨by (with_reducible repeat (first | apply Kd.N_alloc | apply Kd.N_drewN | apply Kd.N_drew)); exact Kd.N_mono (Kd.N_far (p := ⟨gb116, 2, none⟩) (Kd.N_far (p := ⟨gb116, 1, none⟩) (Kd.N_far (p := ⟨gb116, 0, none⟩) (Kd.N_mono HO104.out (fun k_ hk => (⟨hk, hk.2⟩ : _ ∧ k_ ≠ gb116))) (fun _ hk => hk.2) (.int .u64 t109)) (fun _ hk => hk.2) (.slice Ao16 t110.length co16)) (fun _ hk => hk.2) (.slice Ao17 t113.length co17)) (fun _ hk => ⟨hk.1.1.1.1.1, ⟨hk.1.1.1.2, ⟨hk.1.1.2, ⟨hk.1.1.1.1.2, hk.1.2⟩⟩⟩⟩)⟩
        have n1_ : Aside0 (Kd.R k31 31 (((w13.setCell ⟨gb116, 0, none⟩ (.int .u64 t109)).setCell ⟨gb116, 1, none⟩ (.slice Ao16 t110.length co16)).setCell ⟨gb116, 2, none⟩ (.slice Ao17 t113.length co17)) w.heap.size (fun k_ => some k_ ≠ (.slice Ao17 t113.length co17 : Value).ownBlock) (.slice Ao11 t105.length co11) t105) := ⟨by (with_reducible repeat (first | apply Kd.R_alloc | apply Kd.R_drewN | apply Kd.R_drew)); exact Kd.R_mono (Kd.R_far (p := ⟨gb116, 2, none⟩) (Kd.R_far (p := ⟨gb116, 1, none⟩) (Kd.R_far (p := ⟨gb116, 0, none⟩) (Kd.R_types HO107.out BK116.out (by decide)) (fun _ hk => hk.2) (.int .u64 t109)) (fun _ hk => hk.2) (.slice Ao16 t110.length co16)) (fun _ hk => hk.2) (.slice Ao17 t113.length co17)) (fun _ hk => hk.1.2)⟩
        have n2_ : Aside0 (Kd.N k33 33 (((w13.setCell ⟨gb116, 0, none⟩ (.int .u64 t109)).setCell ⟨gb116, 1, none⟩ (.slice Ao16 t110.length co16)).setCell ⟨gb116, 2, none⟩ (.slice Ao17 t113.length co17)) w.heap.size (fun k_ => some k_ ≠ (.slice Ao10 t102.length co10 : Value).ownBlock ∧ some k_ ≠ (.slice Ao11 t105.length co11 : Value).ownBlock ∧ some k_ ≠ (.slice Ao17 t113.length co17 : Value).ownBlock ∧ k_ ≠ gb108 ∧ k_ ≠ gb116) (.slice Ao16 t110.length co16) t110) := ⟨by (with_reducible repeat (first | apply Kd.N_alloc | apply Kd.N_drewN | apply Kd.N_drew)); exact Kd.N_mono (Kd.N_far (p := ⟨gb116, 2, none⟩) (Kd.N_far (p := ⟨gb116, 1, none⟩) (Kd.N_far (p := ⟨gb116, 0, none⟩) (Kd.N_mono HO112.out (fun k_ hk => (⟨hk, hk.2⟩ : _ ∧ k_ ≠ gb116))) (fun _ hk => hk.2) (.int .u64 t109)) (fun _ hk => hk.2) (.slice Ao16 t110.length co16)) (fun _ hk => hk.2) (.slice Ao17 t113.length co17)) (fun _ hk => ⟨hk.1.1.2.1, ⟨hk.1.1.2.2.1, ⟨hk.1.1.1, ⟨hk.1.1.2.2.2, hk.1.2⟩⟩⟩⟩)⟩
        have n3_ : Aside0 (Kd.R k31 31 (((w13.setCell ⟨gb116, 0, none⟩ (.int .u64 t109)).setCell ⟨gb116, 1, none⟩ (.slice Ao16 t110.length co16)).setCell ⟨gb116, 2, none⟩ (.slice Ao17 t113.length co17)) w.heap.size (fun k_ => some k_ ≠ (.slice Ao11 t105.length co11 : Value).ownBlock) (.slice Ao17 t113.length co17) t113) := ⟨by (with_reducible repeat (first | apply Kd.R_alloc | apply Kd.R_drewN | apply Kd.R_drew)); exact Kd.R_mono (Kd.R_far (p := ⟨gb116, 2, none⟩) (Kd.R_far (p := ⟨gb116, 1, none⟩) (Kd.R_far (p := ⟨gb116, 0, none⟩) (Kd.R_types HO115.out BK116.out (by decide)) (fun _ hk => hk.2) (.int .u64 t109)) (fun _ hk => hk.2) (.slice Ao16 t110.length co16)) (fun _ hk => hk.2) (.slice Ao17 t113.length co17)) (fun _ hk => hk.1.2)⟩
        have n4_ : Aside0 ((((w13.setCell ⟨gb116, 0, none⟩ (.int .u64 t109)).setCell ⟨gb116, 1, none⟩ (.slice Ao16 t110.length co16)).setCell ⟨gb116, 2, none⟩ (.slice Ao17 t113.length co17)).heap[gb108]? = some (.cells #[.int .u64 t101, .slice Ao10 t102.length co10, .slice Ao11 t105.length co11] 27 (0, 0))) := ⟨by (with_reducible repeat (first | refine blk_drewN ?_ _ | refine blk_drew ?_ | refine blk_alloc ?_ _)); refine blk_far ?_ NB108_116.out _; (with_reducible repeat (first | refine blk_drewN ?_ _ | refine blk_drew ?_ | refine blk_alloc ?_ _)); refine blk_far ?_ NB108_116.out _; (with_reducible repeat (first | refine blk_drewN ?_ _ | refine blk_drew ?_ | refine blk_alloc ?_ _)); refine blk_far ?_ NB108_116.out _; (with_reducible repeat (first | refine blk_drewN ?_ _ | refine blk_drew ?_ | refine blk_alloc ?_ _)); exact BK108.out⟩
        have n5_ : Aside0 ((((w13.setCell ⟨gb116, 0, none⟩ (.int .u64 t109)).setCell ⟨gb116, 1, none⟩ (.slice Ao16 t110.length co16)).setCell ⟨gb116, 2, none⟩ (.slice Ao17 t113.length co17)).heap[gb116]? = some (.cells #[.int .u64 t109, .slice Ao16 t110.length co16, .slice Ao17 t113.length co17] 27 (0, 0))) := ⟨by (with_reducible repeat (first | refine blk_drewN ?_ _ | refine blk_drew ?_ | refine blk_alloc ?_ _)); refine blk_put (cs := #[.int .u64 t109, .slice Ao16 t110.length co16, .slice none 0 0]) ?_ 2 _ rfl; (with_reducible repeat (first | refine blk_drewN ?_ _ | refine blk_drew ?_ | refine blk_alloc ?_ _)); refine blk_put (cs := #[.int .u64 t109, .slice none 0 0, .slice none 0 0]) ?_ 1 _ rfl; (with_reducible repeat (first | refine blk_drewN ?_ _ | refine blk_drew ?_ | refine blk_alloc ?_ _)); refine blk_put (cs := #[.int .u64 0, .slice none 0 0, .slice none 0 0]) ?_ 0 _ rfl; (with_reducible repeat (first | refine blk_drewN ?_ _ | refine blk_drew ?_ | refine blk_alloc ?_ _)); exact BK116.out⟩
        have n6_ : Aside0 (Below w.heap.size w (((w13.setCell ⟨gb116, 0, none⟩ (.int .u64 t109)).setCell ⟨gb116, 1, none⟩ (.slice Ao16 t110.length co16)).setCell ⟨gb116, 2, none⟩ (.slice Ao17 t113.length co17))) := ⟨by repeat (first | (with_reducible first | exact HB.out | apply below_alloc | apply pw_below_drewN | apply below_drew1 | refine below_set ?_ GE108.out | refine below_set ?_ GE116.out) | exact HB.out)⟩
        (try clear HO104)
        (try clear HO107)
        (try clear HO112)
        (try clear HO115)
        (try clear BK108)
        (try clear BK116)
        (try clear HB)
        generalize (((w13.setCell ⟨gb116, 0, none⟩ (.int .u64 t109)).setCell ⟨gb116, 1, none⟩ (.slice Ao16 t110.length co16)).setCell ⟨gb116, 2, none⟩ (.slice Ao17 t113.length co17)) = w76 at n0_ n1_ n2_ n3_ n4_ n5_ n6_ ⊢
        have HO104 := n0_
        have HO107 := n1_
        have HO112 := n2_
        have HO115 := n3_
        have BK108 := n4_
        have BK116 := n5_
        have HB := n6_
        clear n0_ n1_ n2_ n3_ n4_ n5_ n6_
        have n0_ := Aside0.mk (Kd.N_drew HO104.out)
        have n1_ := Aside0.mk (Kd.R_drew HO107.out)
        have n2_ := Aside0.mk (Kd.N_drew HO112.out)
        have n3_ := Aside0.mk (Kd.R_drew HO115.out)
        have n4_ := Aside0.mk (blk_drew BK108.out)
        have n5_ := Aside0.mk (blk_drew BK116.out)
        have n6_ := Aside0.mk (below_drew1 HB.out)
        clear HO104
        clear HO107
        clear HO112
        clear HO115
        clear BK108
        clear BK116
        clear HB
        have HO104 := n0_
        have HO107 := n1_
        have HO112 := n2_
        have HO115 := n3_
        have BK108 := n4_
        have BK116 := n5_
        have HB := n6_
        clear n0_ n1_ n2_ n3_ n4_ n5_ n6_
        have p73 : 0 ≤ ((ji70) : Int) := of_decide_eq_true (by first | (with_reducible assumption) | assumption)
        have q73 : ((ji70) : Int) < ((t113.length : Int) : Int) := of_decide_eq_true (by first | (with_reducible assumption) | assumption)
        obtain ⟨go73, co73, eo73, gb73, gl73, cl73, HG73⟩ := Kd.R_form HO115.out (by omega)
        (first | cases eo73 | (injection eo73 with ea_ en_ ec_; (first | subst ea_ | (injection ea_ with ea_; subst ea_)); subst ec_; clear en_))
        have GB73 := Aside0.mk gb73
        have GG73 := Aside0.mk HG73
        clear gb73 gl73 HG73
        obtain ⟨ce73, hcl73, hM73, hcc73, hfr73⟩ := Kd.R_elem HO115.out z31 ((ji70) : Int) p73 q73
        obtain rfl := k31_openM hM73
        have hx73_0 : World.cell? _ ⟨go73, ((ji70) : Int).toNat * 5, none⟩ = some (.string ((rd_T31 t113 (ji70)).f0)) := hcc73 0 _ rfl
        have hx73_1 : World.cell? _ ⟨go73, ((ji70) : Int).toNat * 5 + 1, none⟩ = some (.string ((rd_T31 t113 (ji70)).f1)) := hcc73 1 _ rfl
        have hx73_2 : World.cell? _ ⟨go73, ((ji70) : Int).toNat * 5 + 2, none⟩ = some (.int .u64 ((rd_T31 t113 (ji70)).f2)) := hcc73 2 _ rfl
        have hx73_3 : World.cell? _ ⟨go73, ((ji70) : Int).toNat * 5 + 3, none⟩ = some (.int .u64 ((rd_T31 t113 (ji70)).f3)) := hcc73 3 _ rfl
        have hx73_4 : World.cell? _ ⟨go73, ((ji70) : Int).toNat * 5 + 4, none⟩ = some (.bool ((rd_T31 t113 (ji70)).f4)) := hcc73 4 _ rfl
        have hf73_0 : World.frozen? _ ⟨go73, ((ji70) : Int).toNat * 5, none⟩ = false := hfr73 0
        have hf73_1 : World.frozen? _ ⟨go73, ((ji70) : Int).toNat * 5 + 1, none⟩ = false := hfr73 1
        have hf73_2 : World.frozen? _ ⟨go73, ((ji70) : Int).toNat * 5 + 2, none⟩ = false := hfr73 2
        have hf73_3 : World.frozen? _ ⟨go73, ((ji70) : Int).toNat * 5 + 3, none⟩ = false := hfr73 3
        have hf73_4 : World.frozen? _ ⟨go73, ((ji70) : Int).toNat * 5 + 4, none⟩ = false := hfr73 4
        clear hcl73 hcc73 hfr73 hM73
        replace p73 := eq_true p73
        replace q73 := eq_true q73
        obtain ⟨ce78, hcl78, hM78, hcc78, hfr78⟩ := Kd.R_elem HO115.out z31 ((ji70) : Int) (of_decide_eq_true (by first | (with_reducible assumption) | assumption)) (by have h_ : ((ji70) : Int) < ((t113.length : Int) : Int) := of_decide_eq_true (by first | (with_reducible assumption) | assumption); first | exact h_ | (have e_ := (Kd.R_reads' HO115.out).1; omega) | simpa using h_)
        obtain rfl := k31_openM hM78
        have HP78 := (Kd.R_seg HO115.out ((ji70) : Int) (of_decide_eq_true (by first | (with_reducible assumption) | assumption)) (by have h_ : ((ji70) : Int) < ((t113.length : Int) : Int) := of_decide_eq_true (by first | (with_reducible assumption) | assumption); first | exact h_ | (have e_ := (Kd.R_reads' HO115.out).1; omega) | simpa using h_) (seg := [.string (⟨#[110, 111, 98, 111, 100, 121]⟩ : ByteArray)]) (j := 1) hcl78 hcc78 (show 2 ≤ 5 from by decide) (x' := (⟨(rd_T31 t113 (ji70)).f0, (⟨#[110, 111, 98, 111, 100, 121]⟩ : ByteArray), (rd_T31 t113 (ji70)).f2, (rd_T31 t113 (ji70)).f3, (rd_T31 t113 (ji70)).f4⟩ : S31)) (k31_mkM _ _ _ (⟨(rd_T31 t113 (ji70)).f0, (⟨#[110, 111, 98, 111, 100, 121]⟩ : ByteArray), (rd_T31 t113 (ji70)).f2, (rd_T31 t113 (ji70)).f3, (rd_T31 t113 (ji70)).f4⟩ : S31) ) (fun _ hk => hk)).1
        rw [← Ny129.out] at HP78
        have HQ78 := Aside0.mk HP78
        clear hcl78 hcc78 hfr78 hM78 HP78
        refine start_ (n := 11) (S := fun w' => w'.cell? ⟨gb116, 0, none⟩ = some (.int .u64 t109) ∧ w'.cell? ⟨gb116, 1, none⟩ = some (.slice Ao16 t110.length co16) ∧ w'.cell? ⟨gb116, 2, none⟩ = some (.slice (some ⟨go73, 0, none⟩) t113.length co17)) (ds := [10]) #[false, false, false, false, false, false, false, false, false, false, false] (by kernel_rfl) rfl rfl ⟨(blk_cell BK116.out 0).trans rfl, (blk_cell BK116.out 1).trans rfl, (blk_cell BK116.out 2).trans rfl⟩ (fun hHeld => ?_); refine with_tabW wicketmanlaw16_CodeRight.tab21 wicketmanlaw16_CodeRight.bits21 (fun HT_ HW_ => ?_)
        generalize w76.drew = w77 at HO104 HO107 HO112 HO115 BK108 BK116 HB GG73 HQ78 hf73_0 hf73_1 hf73_2 hf73_3 hf73_4 hx73_0 hx73_1 hx73_2 hx73_3 hx73_4 hHeld ⊢
        refine pure_ (i := 0) (N := some 96) (v := ?_) (a' := ?_) #[true, false, false, false, false, false, false, false, false, false, false] rfl rfl (any_of HT_.out (by kernel_rfl)) (fun _ _ _ h => h) (Or.inl ⟨by rfl, ?_⟩) ?_ ?_
        rotate_left
        ·intro w'
         go_simp
         with_reducible rfl
        rotate_left
        ·simp only [Act.put, List.setIfInBounds_toArray, List.set_cons_zero, List.set_cons_succ, i64_w, i32_w]
         rfl
        refine pure_ (i := 2) (N := some 98) (v := ?_) (a' := ?_) #[true, false, true, false, false, false, false, false, false, false, false] rfl rfl (any_of HT_.out (by kernel_rfl)) (fun _ _ _ h => h) (Or.inl ⟨by rfl, ?_⟩) ?_ ?_
        rotate_left
        ·intro w'
         go_simp
         with_reducible rfl
        rotate_left
        ·simp only [Act.put, List.setIfInBounds_toArray, List.set_cons_zero, List.set_cons_succ, i64_w, i32_w]
         rfl
        refine pure_ (i := 3) (N := some 99) (v := ?_) (a' := ?_) #[true, false, true, true, false, false, false, false, false, false, false] rfl rfl (any_of HT_.out (by kernel_rfl)) (fun _ _ _ h => h) (Or.inl ⟨by rfl, ?_⟩) ?_ ?_
        rotate_left
        ·intro w'
         go_simp
         with_reducible rfl
        rotate_left
        ·simp only [Act.put, List.setIfInBounds_toArray, List.set_cons_zero, List.set_cons_succ, i64_w, i32_w]
         rfl
        refine pure_ (i := 4) (N := some 100) (v := ?_) (a' := ?_) #[true, false, true, true, true, false, false, false, false, false, false] rfl rfl (any_of HT_.out (by kernel_rfl)) (fun _ _ _ h => h) (Or.inl ⟨by rfl, ?_⟩) ?_ ?_
        rotate_left
        ·intro w'
         go_simp
         with_reducible rfl
        rotate_left
        ·simp only [Act.put, List.setIfInBounds_toArray, List.set_cons_zero, List.set_cons_succ, i64_w, i32_w]
         rfl
        refine take_ (i := 1) (N := some 97) (v := ?_) (a' := ?_) #[true, true, true, true, true, false, false, false, false, false, false] rfl rfl (take_ofW HT_.out HW_.out (by kernel_rfl)) (fun _ _ _ h => h) (Or.inl ⟨by rfl, ?_⟩) hHeld ?_ ?_
        rotate_left
        ·rintro w' ⟨s0, s1, s2⟩
         go_simp
         with_reducible rfl
        rotate_left
        ·simp only [Act.put, List.setIfInBounds_toArray, List.set_cons_zero, List.set_cons_succ, i64_w, i32_w]
         rfl
        refine take_ (i := 5) (N := some 101) (v := ?_) (a' := ?_) #[true, true, true, true, true, true, false, false, false, false, false] rfl rfl (take_ofW HT_.out HW_.out (by kernel_rfl)) (fun _ _ _ h => h) (Or.inl ⟨by rfl, ?_⟩) hHeld ?_ ?_
        rotate_left
        ·rintro w' ⟨s0, s1, s2⟩
         go_simp
         with_reducible rfl
        rotate_left
        ·simp only [Act.put, List.setIfInBounds_toArray, List.set_cons_zero, List.set_cons_succ, i64_w, i32_w]
         rfl
        refine pure_ (i := 6) (N := some 102) (v := ?_) (a' := ?_) #[true, true, true, true, true, true, true, false, false, false, false] rfl rfl (any_of HT_.out (by kernel_rfl)) (fun _ _ _ h => h) (Or.inl ⟨by rfl, ?_⟩) ?_ ?_
        rotate_left
        ·intro w'
         go_simp
         with_reducible rfl
        rotate_left
        ·simp only [Act.put, List.setIfInBounds_toArray, List.set_cons_zero, List.set_cons_succ, i64_w, i32_w]
         rfl
        refine pure_ (i := 7) (N := some 103) (v := ?_) (a' := ?_) #[true, true, true, true, true, true, true, true, false, false, false] rfl rfl (any_of HT_.out (by kernel_rfl)) (fun _ _ _ h => h) (Or.inl ⟨by rfl, ?_⟩) ?_ ?_
        rotate_left
        ·intro w'
         go_simp
         with_reducible rfl
        rotate_left
        ·simp only [Act.put, List.setIfInBounds_toArray, List.set_cons_zero, List.set_cons_succ, i64_w, i32_w]
         rfl
        refine pure_ (i := 8) (N := some 104) (v := ?_) (a' := ?_) #[true, true, true, true, true, true, true, true, true, false, false] rfl rfl (any_of HT_.out (by kernel_rfl)) (fun _ _ _ h => h) (Or.inl ⟨by rfl, ?_⟩) ?_ ?_
        rotate_left
        ·intro w'
         go_simp
         with_reducible rfl
        rotate_left
        ·simp only [Act.put, List.setIfInBounds_toArray, List.set_cons_zero, List.set_cons_succ, i64_w, i32_w]
         rfl
        refine pure_ (i := 9) (N := some 105) (v := ?_) (a' := ?_) #[true, true, true, true, true, true, true, true, true, true, false] rfl rfl (any_of HT_.out (by kernel_rfl)) (fun _ _ _ h => h) (Or.inl ⟨by rfl, ?_⟩) ?_ ?_
        rotate_left
        ·intro w'
         go_simp
         with_reducible rfl
        rotate_left
        ·simp only [Act.put, List.setIfInBounds_toArray, List.set_cons_zero, List.set_cons_succ, i64_w, i32_w]
         rfl
        refine last_ (i := 10) (N := none) #[true, true, true, true, true, true, true, true, true, true, true] rfl rfl (one_of HT_.out (by kernel_rfl)) (by decide) (fun K hK => ?_)
        refine skip_ (w1 := ?_) (by rfl) rfl ?_ ?_
        rotate_left
        ·go_simp
         rfl
        refine hK.out _ _ ?_
        clear hK K
        refine done_ (done_of HT_.out (by kernel_rfl)) ?_
        try go_wp2
        go_meet
        case rel => exact ⟨_, (t105), (t110), (y129), (.slice Ao11 t105.length co11), (.slice Ao16 t110.length co16), (.slice (some ⟨go73, 0, none⟩) t113.length co17), H', ⟨by first | omega | exact Nat.le_refl _⟩, ⟨by (with_reducible repeat (first | apply Kd.N_alloc | apply Kd.N_drewN | apply Kd.N_drew)); exact Kd.N_mono (Kd.N_far (p := ⟨go73, ((ji70) : Int).toNat * 5 + 1, none⟩) (Kd.N_mono HO104.out (fun k_ hk => (⟨hk, fun e_ => hk.2.2.1 (by rw [e_]; rfl)⟩ : _ ∧ k_ ≠ go73))) (fun _ hk => hk.2) (.string (⟨#[110, 111, 98, 111, 100, 121]⟩ : ByteArray))) (fun _ hk => ⟨hk.1.1, ⟨hk.1.2.1, ⟨hk.1.2.2.1, ⟨hk.1.2.2.2.1, hk.1.2.2.2.2⟩⟩⟩⟩)⟩, ⟨by (with_reducible repeat (first | apply Kd.R_alloc | apply Kd.R_drewN | apply Kd.R_drew)); exact Kd.R_mono (Kd.R_far (p := ⟨go73, ((ji70) : Int).toNat * 5 + 1, none⟩) (Kd.R_mono HO107.out (fun k_ hk => (⟨hk, fun e_ => hk (by rw [e_]; rfl)⟩ : _ ∧ k_ ≠ go73))) (fun _ hk => hk.2) (.string (⟨#[110, 111, 98, 111, 100, 121]⟩ : ByteArray))) (fun _ hk => hk.1)⟩, ⟨by (with_reducible repeat (first | apply Kd.N_alloc | apply Kd.N_drewN | apply Kd.N_drew)); exact Kd.N_mono (Kd.N_far (p := ⟨go73, ((ji70) : Int).toNat * 5 + 1, none⟩) (Kd.N_mono HO112.out (fun k_ hk => (⟨hk, fun e_ => hk.2.2.1 (by rw [e_]; rfl)⟩ : _ ∧ k_ ≠ go73))) (fun _ hk => hk.2) (.string (⟨#[110, 111, 98, 111, 100, 121]⟩ : ByteArray))) (fun _ hk => ⟨hk.1.1, ⟨hk.1.2.1, ⟨hk.1.2.2.1, ⟨hk.1.2.2.2.1, hk.1.2.2.2.2⟩⟩⟩⟩)⟩, ⟨by (with_reducible repeat (first | apply Kd.R_alloc | apply Kd.R_drewN | apply Kd.R_drew)); exact HQ78.out⟩, ⟨by (with_reducible repeat (first | refine blk_drewN ?_ _ | refine blk_drew ?_ | refine blk_alloc ?_ _)); refine blk_far ?_ (by have h_ := Kd.R_ne HO115.out BK108.out (by decide); intro e_; exact h_ (by rw [e_]; rfl)) _; (with_reducible repeat (first | refine blk_drewN ?_ _ | refine blk_drew ?_ | refine blk_alloc ?_ _)); exact BK108.out⟩, ⟨by (with_reducible repeat (first | refine blk_drewN ?_ _ | refine blk_drew ?_ | refine blk_alloc ?_ _)); refine blk_far ?_ (by have h_ := Kd.R_ne HO115.out BK116.out (by decide); intro e_; exact h_ (by rw [e_]; rfl)) _; (with_reducible repeat (first | refine blk_drewN ?_ _ | refine blk_drew ?_ | refine blk_alloc ?_ _)); exact BK116.out⟩, ⟨by repeat (first | (with_reducible first | exact HB.out | apply below_alloc | apply pw_below_drewN | apply below_drew1 | refine below_set ?_ GB73.out | refine below_set ?_ GE108.out | refine below_set ?_ GE116.out) | exact HB.out)⟩⟩
       ·rw [if_neg c72] at H
        exact absurd H (by simp)
      ·rw [if_neg c71] at H
       exact absurd H (by simp)
    ·rw [if_neg c64] at H
     have c64b0 : ((Int.tmod a1 4) == 2) = false := beq_eq_false_iff_ne.mpr c64
     have c64b1 : ((Int.tmod a1 4) != 2) = true := bne_iff_ne.mpr c64
     by_cases c79 : (t113.length : Int) = 0
     ·rw [if_pos c79] at H
      have c79b0 : ((t113.length : Int) == 0) = true := beq_iff_eq.mpr c79
      have c79b1 : ((t113.length : Int) != 0) = false := bne_eq_false_iff_eq.mpr c79
      clear c79
      replace H := Option.bind_eq_some_iff.mp H
      obtain ⟨t130, A800, H⟩ := H
      replace H : (some t130) = some r := H
      have A80 := Aside0.mk A800
      clear A800
      obtain rfl := Option.some.inj H
      have hnb81 := NB116_108.out
      have hnc81 := NB108_116.out
      have hcz82_0 : w13.cell? ⟨gb116, 0, none⟩ = some (.int .u64 0) := (blk_cell BK116.out 0).trans rfl
      have hcz82_1 : w13.cell? ⟨gb116, 1, none⟩ = some (.slice none 0 0) := (blk_cell BK116.out 1).trans rfl
      have hcz82_2 : w13.cell? ⟨gb116, 2, none⟩ = some (.slice none 0 0) := (blk_cell BK116.out 2).trans rfl
      have hfz82_0 := blk_frozen BK116.out 0
      have hfz82_1 := blk_frozen BK116.out 1
      have hfz82_2 := blk_frozen BK116.out 2
      go_wp2_with (first | ((with_reducible refine gate_callee (f := 9) rfl ?_); refine goesL_ (some 23) rfl rfl Tryd.func9 (by kernel_rfl) rfl #[] rfl (by (try simp only [List.map_toArray, List.map_cons, List.map_nil]); first | done | rfl | (simp only [List.length_drop, List.length_take]; rfl)) ?_; (with_reducible refine (wicketmanlaw16_known.calls  t130 _ A80.out (HGR.out.below rfl (by repeat (first | (with_reducible first | exact HB.out | apply below_alloc | apply pw_below_drewN | apply below_drew1 | refine below_set ?_ GE108.out | refine below_set ?_ GE116.out) | exact HB.out)))).mono ?_); rintro e w83 ⟨rfl, hb⟩; refine ⟨_, rfl, ?_⟩; have n0_ := Aside0.mk (Kd.N_below (by (with_reducible repeat (first | apply Kd.N_alloc | apply Kd.N_drewN | apply Kd.N_drew)); exact (Kd.N_mono (Kd.N_far (p := ⟨gb116, 2, none⟩) (Kd.N_far (p := ⟨gb116, 1, none⟩) (Kd.N_far (p := ⟨gb116, 0, none⟩) (Kd.N_mono HO104.out (fun k_ hk => (⟨hk, hk.2⟩ : _ ∧ k_ ≠ gb116))) (fun _ hk => hk.2) (.int .u64 t109)) (fun _ hk => hk.2) (.slice Ao16 t110.length co16)) (fun _ hk => hk.2) (.slice Ao17 t113.length co17)) (fun _ h_ => h_.1))) hb); have n1_ := Aside0.mk (Kd.R_below (by (with_reducible repeat (first | apply Kd.R_alloc | apply Kd.R_drewN | apply Kd.R_drew)); exact (Kd.R_mono (Kd.R_far (p := ⟨gb116, 2, none⟩) (Kd.R_far (p := ⟨gb116, 1, none⟩) (Kd.R_far (p := ⟨gb116, 0, none⟩) (Kd.R_types HO107.out BK116.out (by decide)) (fun _ hk => hk.2) (.int .u64 t109)) (fun _ hk => hk.2) (.slice Ao16 t110.length co16)) (fun _ hk => hk.2) (.slice Ao17 t113.length co17)) (fun _ h_ => h_.1))) hb); have n2_ := Aside0.mk (Kd.N_below (by (with_reducible repeat (first | apply Kd.N_alloc | apply Kd.N_drewN | apply Kd.N_drew)); exact (Kd.N_mono (Kd.N_far (p := ⟨gb116, 2, none⟩) (Kd.N_far (p := ⟨gb116, 1, none⟩) (Kd.N_far (p := ⟨gb116, 0, none⟩) (Kd.N_mono HO112.out (fun k_ hk => (⟨hk, hk.2⟩ : _ ∧ k_ ≠ gb116))) (fun _ hk => hk.2) (.int .u64 t109)) (fun _ hk => hk.2) (.slice Ao16 t110.length co16)) (fun _ hk => hk.2) (.slice Ao17 t113.length co17)) (fun _ h_ => h_.1))) hb); have n3_ := Aside0.mk (Kd.R_below (by (with_reducible repeat (first | apply Kd.R_alloc | apply Kd.R_drewN | apply Kd.R_drew)); exact (Kd.R_mono (Kd.R_far (p := ⟨gb116, 2, none⟩) (Kd.R_far (p := ⟨gb116, 1, none⟩) (Kd.R_far (p := ⟨gb116, 0, none⟩) (Kd.R_types HO115.out BK116.out (by decide)) (fun _ hk => hk.2) (.int .u64 t109)) (fun _ hk => hk.2) (.slice Ao16 t110.length co16)) (fun _ hk => hk.2) (.slice Ao17 t113.length co17)) (fun _ h_ => h_.1))) hb); have n4_ := Aside0.mk (blk_below (g := gb108) (o := .cells #[.int .u64 t101, .slice Ao10 t102.length co10, .slice Ao11 t105.length co11] 27 (0, 0)) (by (with_reducible repeat (first | refine blk_drewN ?_ _ | refine blk_drew ?_ | refine blk_alloc ?_ _)); refine blk_far ?_ NB108_116.out _; (with_reducible repeat (first | refine blk_drewN ?_ _ | refine blk_drew ?_ | refine blk_alloc ?_ _)); refine blk_far ?_ NB108_116.out _; (with_reducible repeat (first | refine blk_drewN ?_ _ | refine blk_drew ?_ | refine blk_alloc ?_ _)); refine blk_far ?_ NB108_116.out _; (with_reducible repeat (first | refine blk_drewN ?_ _ | refine blk_drew ?_ | refine blk_alloc ?_ _)); exact BK108.out) hb); have n5_ := Aside0.mk (blk_below (g := gb116) (o := .cells #[.int .u64 t109, .slice Ao16 t110.length co16, .slice Ao17 t113.length co17] 27 (0, 0)) (by (with_reducible repeat (first | refine blk_drewN ?_ _ | refine blk_drew ?_ | refine blk_alloc ?_ _)); refine blk_put (cs := #[.int .u64 t109, .slice Ao16 t110.length co16, .slice none 0 0]) ?_ 2 _ rfl; (with_reducible repeat (first | refine blk_drewN ?_ _ | refine blk_drew ?_ | refine blk_alloc ?_ _)); refine blk_put (cs := #[.int .u64 t109, .slice none 0 0, .slice none 0 0]) ?_ 1 _ rfl; (with_reducible repeat (first | refine blk_drewN ?_ _ | refine blk_drew ?_ | refine blk_alloc ?_ _)); refine blk_put (cs := #[.int .u64 0, .slice none 0 0, .slice none 0 0]) ?_ 0 _ rfl; (with_reducible repeat (first | refine blk_drewN ?_ _ | refine blk_drew ?_ | refine blk_alloc ?_ _)); exact BK116.out) hb); have n6_ := Aside0.mk (below_step (by repeat (first | (with_reducible first | exact HB.out | apply below_alloc | apply pw_below_drewN | apply below_drew1 | refine below_set ?_ GE108.out | refine below_set ?_ GE116.out) | exact HB.out)) hb); clear HO104; clear HO107; clear HO112; clear HO115; clear BK108; clear BK116; clear HB; have HO104 := n0_; have HO107 := n1_; have HO112 := n2_; have HO115 := n3_; have BK108 := n4_; have BK116 := n5_; have HB := n6_; clear n0_ n1_ n2_ n3_ n4_ n5_ n6_; (try clear hb); (try clear hb2); (try clear hk); (try clear hi)))
      go_ret
      exact ⟨by first | rfl | (simp [errW_none, errW_some] <;> rfl) | (simp [*, errW_none, errW_some] <;> rfl), by repeat (first | (with_reducible first | exact HB.out | apply below_alloc | apply pw_below_drewN | apply below_drew1 | refine below_set ?_ GE108.out | refine below_set ?_ GE116.out) | exact HB.out)⟩
     ·rw [if_neg c79] at H
      have c79b0 : ((t113.length : Int) == 0) = false := beq_eq_false_iff_ne.mpr c79
      have c79b1 : ((t113.length : Int) != 0) = true := bne_iff_ne.mpr c79
      have c79b2 : ¬ (t113 = []) := fun h_ => c79 (by rw [h_]; rfl)
      obtain ⟨ji84, hji84⟩ : ∃ j_ : Int, (Int.tmod (wrap64 (a2)) (t113.length : Int)) = j_ := ⟨_, rfl⟩
      replace H : (if 0 ≤ (ji84) then (if (ji84) < (t113.length : Int) then (wicketmanlaw16_CodeRight.j0 k t101 t102 t105 t109 t110 (t113.set ((ji84) : Int).toNat (⟨(⟨#[48, 48]⟩ : ByteArray), (rd_T31 t113 (ji84)).f1, (rd_T31 t113 (ji84)).f2, (rd_T31 t113 (ji84)).f3, (rd_T31 t113 (ji84)).f4⟩ : S31))) else (none)) else (none)) = some r := by first | (rw [hji84] at H; exact H) | (simp only [hji84] at H ⊢; exact H)
      by_cases c85 : 0 ≤ (ji84)
      ·rw [if_pos c85] at H
       have c85b0 : decide (0 ≤ (ji84)) = true := decide_eq_true c85
       clear c85
       by_cases c86 : (ji84) < (t113.length : Int)
       ·rw [if_pos c86] at H
        have c86b0 : decide ((ji84) < (t113.length : Int)) = true := decide_eq_true c86
        clear c86
        obtain ⟨y131, hy131⟩ : ∃ y_ : List (S31), y_ = (t113.set ((ji84) : Int).toNat (⟨(⟨#[48, 48]⟩ : ByteArray), (rd_T31 t113 (ji84)).f1, (rd_T31 t113 (ji84)).f2, (rd_T31 t113 (ji84)).f3, (rd_T31 t113 (ji84)).f4⟩ : S31)) := ⟨_, rfl⟩
        replace H : (wicketmanlaw16_CodeRight.j0 k t101 t102 t105 t109 t110 y131) = some r := by first | (rw [hy131]; with_reducible exact H) | (have H2_ := (Option.bind_some _ _).symm.trans H; rw [hy131]; with_reducible exact H2_) | (have H2_ := (Option.bind_some _ _).symm.trans H; with_reducible exact H2_) | with_reducible exact H | (rw [hy131]; exact H) | exact H
        have Ny131 := Aside0.mk hy131
        clear hy131
        have H' := Aside0.mk H
        clear H
        have hnb88 := NB116_108.out
        have hnc88 := NB108_116.out
        have hcz89_0 : w13.cell? ⟨gb116, 0, none⟩ = some (.int .u64 0) := (blk_cell BK116.out 0).trans rfl
        have hcz89_1 : w13.cell? ⟨gb116, 1, none⟩ = some (.slice none 0 0) := (blk_cell BK116.out 1).trans rfl
        have hcz89_2 : w13.cell? ⟨gb116, 2, none⟩ = some (.slice none 0 0) := (blk_cell BK116.out 2).trans rfl
        have hfz89_0 := blk_frozen BK116.out 0
        have hfz89_1 := blk_frozen BK116.out 1
        have hfz89_2 := blk_frozen BK116.out 2
        try go_wp2
        have n0_ : Aside0 (Kd.N k33 33 (((w13.setCell ⟨gb116, 0, none⟩ (.int .u64 t109)).setCell ⟨gb116, 1, none⟩ (.slice Ao16 t110.length co16)).setCell ⟨gb116, 2, none⟩ (.slice Ao17 t113.length co17)) w.heap.size (fun k_ => some k_ ≠ (.slice Ao11 t105.length co11 : Value).ownBlock ∧ some k_ ≠ (.slice Ao16 t110.length co16 : Value).ownBlock ∧ some k_ ≠ (.slice Ao17 t113.length co17 : Value).ownBlock ∧ k_ ≠ gb108 ∧ k_ ≠ gb116) (.slice Ao10 t102.length co10) t102) := ⟨by (with_reducible repeat (first | apply Kd.N_alloc | apply Kd.N_drewN | apply Kd.N_drew)); exact Kd.N_mono (Kd.N_far (p := ⟨gb116, 2, none⟩) (Kd.N_far (p := ⟨gb116, 1, none⟩) (Kd.N_far (p := ⟨gb116, 0, none⟩) (Kd.N_mono HO104.out (fun k_ hk => (⟨hk, hk.2⟩ : _ ∧ k_ ≠ gb116))) (fun _ hk => hk.2) (.int .u64 t109)) (fun _ hk => hk.2) (.slice Ao16 t110.length co16)) (fun _ hk => hk.2) (.slice Ao17 t113.length co17)) (fun _ hk => ⟨hk.1.1.1.1.1, ⟨hk.1.1.1.2, ⟨hk.1.1.2, ⟨hk.1.1.1.1.2, hk.1.2⟩⟩⟩⟩)⟩
        have n1_ : Aside0 (Kd.R k31 31 (((w13.setCell ⟨gb116, 0, none⟩ (.int .u64 t109)).setCell ⟨gb116, 1, none⟩ (.slice Ao16 t110.length co16)).setCell ⟨gb116, 2, none⟩ (.slice Ao17 t113.length co17)) w.heap.size (fun k_ => some k_ ≠ (.slice Ao17 t113.length co17 : Value).ownBlock) (.slice Ao11 t105.length co11) t105) := ⟨by (with_reducible repeat (first | apply Kd.R_alloc | apply Kd.R_drewN | apply Kd.R_drew)); exact Kd.R_mono (Kd.R_far (p := ⟨gb116, 2, none⟩) (Kd.R_far (p := ⟨gb116, 1, none⟩) (Kd.R_far (p := ⟨gb116, 0, none⟩) (Kd.R_types HO107.out BK116.out (by decide)) (fun _ hk => hk.2) (.int .u64 t109)) (fun _ hk => hk.2) (.slice Ao16 t110.length co16)) (fun _ hk => hk.2) (.slice Ao17 t113.length co17)) (fun _ hk => hk.1.2)⟩
        have n2_ : Aside0 (Kd.N k33 33 (((w13.setCell ⟨gb116, 0, none⟩ (.int .u64 t109)).setCell ⟨gb116, 1, none⟩ (.slice Ao16 t110.length co16)).setCell ⟨gb116, 2, none⟩ (.slice Ao17 t113.length co17)) w.heap.size (fun k_ => some k_ ≠ (.slice Ao10 t102.length co10 : Value).ownBlock ∧ some k_ ≠ (.slice Ao11 t105.length co11 : Value).ownBlock ∧ some k_ ≠ (.slice Ao17 t113.length co17 : Value).ownBlock ∧ k_ ≠ gb108 ∧ k_ ≠ gb116) (.slice Ao16 t110.length co16) t110) := ⟨by (with_reducible repeat (first | apply Kd.N_alloc | apply Kd.N_drewN | apply Kd.N_drew)); exact Kd.N_mono (Kd.N_far (p := ⟨gb116, 2, none⟩) (Kd.N_far (p := ⟨gb116, 1, none⟩) (Kd.N_far (p := ⟨gb116, 0, none⟩) (Kd.N_mono HO112.out (fun k_ hk => (⟨hk, hk.2⟩ : _ ∧ k_ ≠ gb116))) (fun _ hk => hk.2) (.int .u64 t109)) (fun _ hk => hk.2) (.slice Ao16 t110.length co16)) (fun _ hk => hk.2) (.slice Ao17 t113.length co17)) (fun _ hk => ⟨hk.1.1.2.1, ⟨hk.1.1.2.2.1, ⟨hk.1.1.1, ⟨hk.1.1.2.2.2, hk.1.2⟩⟩⟩⟩)⟩
        have n3_ : Aside0 (Kd.R k31 31 (((w13.setCell ⟨gb116, 0, none⟩ (.int .u64 t109)).setCell ⟨gb116, 1, none⟩ (.slice Ao16 t110.length co16)).setCell ⟨gb116, 2, none⟩ (.slice Ao17 t113.length co17)) w.heap.size (fun k_ => some k_ ≠ (.slice Ao11 t105.length co11 : Value).ownBlock) (.slice Ao17 t113.length co17) t113) := ⟨by (with_reducible repeat (first | apply Kd.R_alloc | apply Kd.R_drewN | apply Kd.R_drew)); exact Kd.R_mono (Kd.R_far (p := ⟨gb116, 2, none⟩) (Kd.R_far (p := ⟨gb116, 1, none⟩) (Kd.R_far (p := ⟨gb116, 0, none⟩) (Kd.R_types HO115.out BK116.out (by decide)) (fun _ hk => hk.2) (.int .u64 t109)) (fun _ hk => hk.2) (.slice Ao16 t110.length co16)) (fun _ hk => hk.2) (.slice Ao17 t113.length co17)) (fun _ hk => hk.1.2)⟩
        have n4_ : Aside0 ((((w13.setCell ⟨gb116, 0, none⟩ (.int .u64 t109)).setCell ⟨gb116, 1, none⟩ (.slice Ao16 t110.length co16)).setCell ⟨gb116, 2, none⟩ (.slice Ao17 t113.length co17)).heap[gb108]? = some (.cells #[.int .u64 t101, .slice Ao10 t102.length co10, .slice Ao11 t105.length co11] 27 (0, 0))) := ⟨by (with_reducible repeat (first | refine blk_drewN ?_ _ | refine blk_drew ?_ | refine blk_alloc ?_ _)); refine blk_far ?_ NB108_116.out _; (with_reducible repeat (first | refine blk_drewN ?_ _ | refine blk_drew ?_ | refine blk_alloc ?_ _)); refine blk_far ?_ NB108_116.out _; (with_reducible repeat (first | refine blk_drewN ?_ _ | refine blk_drew ?_ | refine blk_alloc ?_ _)); refine blk_far ?_ NB108_116.out _; (with_reducible repeat (first | refine blk_drewN ?_ _ | refine blk_drew ?_ | refine blk_alloc ?_ _)); exact BK108.out⟩
        have n5_ : Aside0 ((((w13.setCell ⟨gb116, 0, none⟩ (.int .u64 t109)).setCell ⟨gb116, 1, none⟩ (.slice Ao16 t110.length co16)).setCell ⟨gb116, 2, none⟩ (.slice Ao17 t113.length co17)).heap[gb116]? = some (.cells #[.int .u64 t109, .slice Ao16 t110.length co16, .slice Ao17 t113.length co17] 27 (0, 0))) := ⟨by (with_reducible repeat (first | refine blk_drewN ?_ _ | refine blk_drew ?_ | refine blk_alloc ?_ _)); refine blk_put (cs := #[.int .u64 t109, .slice Ao16 t110.length co16, .slice none 0 0]) ?_ 2 _ rfl; (with_reducible repeat (first | refine blk_drewN ?_ _ | refine blk_drew ?_ | refine blk_alloc ?_ _)); refine blk_put (cs := #[.int .u64 t109, .slice none 0 0, .slice none 0 0]) ?_ 1 _ rfl; (with_reducible repeat (first | refine blk_drewN ?_ _ | refine blk_drew ?_ | refine blk_alloc ?_ _)); refine blk_put (cs := #[.int .u64 0, .slice none 0 0, .slice none 0 0]) ?_ 0 _ rfl; (with_reducible repeat (first | refine blk_drewN ?_ _ | refine blk_drew ?_ | refine blk_alloc ?_ _)); exact BK116.out⟩
        have n6_ : Aside0 (Below w.heap.size w (((w13.setCell ⟨gb116, 0, none⟩ (.int .u64 t109)).setCell ⟨gb116, 1, none⟩ (.slice Ao16 t110.length co16)).setCell ⟨gb116, 2, none⟩ (.slice Ao17 t113.length co17))) := ⟨by repeat (first | (with_reducible first | exact HB.out | apply below_alloc | apply pw_below_drewN | apply below_drew1 | refine below_set ?_ GE108.out | refine below_set ?_ GE116.out) | exact HB.out)⟩
        (try clear HO104)
        (try clear HO107)
        (try clear HO112)
        (try clear HO115)
        (try clear BK108)
        (try clear BK116)
        (try clear HB)
        generalize (((w13.setCell ⟨gb116, 0, none⟩ (.int .u64 t109)).setCell ⟨gb116, 1, none⟩ (.slice Ao16 t110.length co16)).setCell ⟨gb116, 2, none⟩ (.slice Ao17 t113.length co17)) = w90 at n0_ n1_ n2_ n3_ n4_ n5_ n6_ ⊢
        have HO104 := n0_
        have HO107 := n1_
        have HO112 := n2_
        have HO115 := n3_
        have BK108 := n4_
        have BK116 := n5_
        have HB := n6_
        clear n0_ n1_ n2_ n3_ n4_ n5_ n6_
        have n0_ := Aside0.mk (Kd.N_drew HO104.out)
        have n1_ := Aside0.mk (Kd.R_drew HO107.out)
        have n2_ := Aside0.mk (Kd.N_drew HO112.out)
        have n3_ := Aside0.mk (Kd.R_drew HO115.out)
        have n4_ := Aside0.mk (blk_drew BK108.out)
        have n5_ := Aside0.mk (blk_drew BK116.out)
        have n6_ := Aside0.mk (below_drew1 HB.out)
        clear HO104
        clear HO107
        clear HO112
        clear HO115
        clear BK108
        clear BK116
        clear HB
        have HO104 := n0_
        have HO107 := n1_
        have HO112 := n2_
        have HO115 := n3_
        have BK108 := n4_
        have BK116 := n5_
        have HB := n6_
        clear n0_ n1_ n2_ n3_ n4_ n5_ n6_
        have p87 : 0 ≤ ((ji84) : Int) := of_decide_eq_true (by first | (with_reducible assumption) | assumption)
        have q87 : ((ji84) : Int) < ((t113.length : Int) : Int) := of_decide_eq_true (by first | (with_reducible assumption) | assumption)
        obtain ⟨go87, co87, eo87, gb87, gl87, cl87, HG87⟩ := Kd.R_form HO115.out (by omega)
        (first | cases eo87 | (injection eo87 with ea_ en_ ec_; (first | subst ea_ | (injection ea_ with ea_; subst ea_)); subst ec_; clear en_))
        have GB87 := Aside0.mk gb87
        have GG87 := Aside0.mk HG87
        clear gb87 gl87 HG87
        obtain ⟨ce87, hcl87, hM87, hcc87, hfr87⟩ := Kd.R_elem HO115.out z31 ((ji84) : Int) p87 q87
        obtain rfl := k31_openM hM87
        have hx87_0 : World.cell? _ ⟨go87, ((ji84) : Int).toNat * 5, none⟩ = some (.string ((rd_T31 t113 (ji84)).f0)) := hcc87 0 _ rfl
        have hx87_1 : World.cell? _ ⟨go87, ((ji84) : Int).toNat * 5 + 1, none⟩ = some (.string ((rd_T31 t113 (ji84)).f1)) := hcc87 1 _ rfl
        have hx87_2 : World.cell? _ ⟨go87, ((ji84) : Int).toNat * 5 + 2, none⟩ = some (.int .u64 ((rd_T31 t113 (ji84)).f2)) := hcc87 2 _ rfl
        have hx87_3 : World.cell? _ ⟨go87, ((ji84) : Int).toNat * 5 + 3, none⟩ = some (.int .u64 ((rd_T31 t113 (ji84)).f3)) := hcc87 3 _ rfl
        have hx87_4 : World.cell? _ ⟨go87, ((ji84) : Int).toNat * 5 + 4, none⟩ = some (.bool ((rd_T31 t113 (ji84)).f4)) := hcc87 4 _ rfl
        have hf87_0 : World.frozen? _ ⟨go87, ((ji84) : Int).toNat * 5, none⟩ = false := hfr87 0
        have hf87_1 : World.frozen? _ ⟨go87, ((ji84) : Int).toNat * 5 + 1, none⟩ = false := hfr87 1
        have hf87_2 : World.frozen? _ ⟨go87, ((ji84) : Int).toNat * 5 + 2, none⟩ = false := hfr87 2
        have hf87_3 : World.frozen? _ ⟨go87, ((ji84) : Int).toNat * 5 + 3, none⟩ = false := hfr87 3
        have hf87_4 : World.frozen? _ ⟨go87, ((ji84) : Int).toNat * 5 + 4, none⟩ = false := hfr87 4
        clear hcl87 hcc87 hfr87 hM87
        replace p87 := eq_true p87
        replace q87 := eq_true q87
        obtain ⟨ce92, hcl92, hM92, hcc92, hfr92⟩ := Kd.R_elem HO115.out z31 ((ji84) : Int) (of_decide_eq_true (by first | (with_reducible assumption) | assumption)) (by have h_ : ((ji84) : Int) < ((t113.length : Int) : Int) := of_decide_eq_true (by first | (with_reducible assumption) | assumption); first | exact h_ | (have e_ := (Kd.R_reads' HO115.out).1; omega) | simpa using h_)
        obtain rfl := k31_openM hM92
        have HP92 := (Kd.R_seg HO115.out ((ji84) : Int) (of_decide_eq_true (by first | (with_reducible assumption) | assumption)) (by have h_ : ((ji84) : Int) < ((t113.length : Int) : Int) := of_decide_eq_true (by first | (with_reducible assumption) | assumption); first | exact h_ | (have e_ := (Kd.R_reads' HO115.out).1; omega) | simpa using h_) (seg := [.string (⟨#[48, 48]⟩ : ByteArray)]) (j := 0) hcl92 hcc92 (show 1 ≤ 5 from by decide) (x' := (⟨(⟨#[48, 48]⟩ : ByteArray), (rd_T31 t113 (ji84)).f1, (rd_T31 t113 (ji84)).f2, (rd_T31 t113 (ji84)).f3, (rd_T31 t113 (ji84)).f4⟩ : S31)) (k31_mkM _ _ _ (⟨(⟨#[48, 48]⟩ : ByteArray), (rd_T31 t113 (ji84)).f1, (rd_T31 t113 (ji84)).f2, (rd_T31 t113 (ji84)).f3, (rd_T31 t113 (ji84)).f4⟩ : S31) ) (fun _ hk => hk)).1
        rw [← Ny131.out] at HP92
        have HQ92 := Aside0.mk HP92
        clear hcl92 hcc92 hfr92 hM92 HP92
        refine start_ (n := 11) (S := fun w' => w'.cell? ⟨gb116, 0, none⟩ = some (.int .u64 t109) ∧ w'.cell? ⟨gb116, 1, none⟩ = some (.slice Ao16 t110.length co16) ∧ w'.cell? ⟨gb116, 2, none⟩ = some (.slice (some ⟨go87, 0, none⟩) t113.length co17)) (ds := [10]) #[false, false, false, false, false, false, false, false, false, false, false] (by kernel_rfl) rfl rfl ⟨(blk_cell BK116.out 0).trans rfl, (blk_cell BK116.out 1).trans rfl, (blk_cell BK116.out 2).trans rfl⟩ (fun hHeld => ?_); refine with_tabW wicketmanlaw16_CodeRight.tab6 wicketmanlaw16_CodeRight.bits6 (fun HT_ HW_ => ?_)
        generalize w90.drew = w91 at HO104 HO107 HO112 HO115 BK108 BK116 HB GG87 HQ92 hf87_0 hf87_1 hf87_2 hf87_3 hf87_4 hx87_0 hx87_1 hx87_2 hx87_3 hx87_4 hHeld ⊢
        refine pure_ (i := 0) (N := some 24) (v := ?_) (a' := ?_) #[true, false, false, false, false, false, false, false, false, false, false] rfl rfl (any_of HT_.out (by kernel_rfl)) (fun _ _ _ h => h) (Or.inl ⟨by rfl, ?_⟩) ?_ ?_
        rotate_left
        ·intro w'
         go_simp
         with_reducible rfl
        rotate_left
        ·simp only [Act.put, List.setIfInBounds_toArray, List.set_cons_zero, List.set_cons_succ, i64_w, i32_w]
         rfl
        refine pure_ (i := 2) (N := some 26) (v := ?_) (a' := ?_) #[true, false, true, false, false, false, false, false, false, false, false] rfl rfl (any_of HT_.out (by kernel_rfl)) (fun _ _ _ h => h) (Or.inl ⟨by rfl, ?_⟩) ?_ ?_
        rotate_left
        ·intro w'
         go_simp
         with_reducible rfl
        rotate_left
        ·simp only [Act.put, List.setIfInBounds_toArray, List.set_cons_zero, List.set_cons_succ, i64_w, i32_w]
         rfl
        refine pure_ (i := 3) (N := some 27) (v := ?_) (a' := ?_) #[true, false, true, true, false, false, false, false, false, false, false] rfl rfl (any_of HT_.out (by kernel_rfl)) (fun _ _ _ h => h) (Or.inl ⟨by rfl, ?_⟩) ?_ ?_
        rotate_left
        ·intro w'
         go_simp
         with_reducible rfl
        rotate_left
        ·simp only [Act.put, List.setIfInBounds_toArray, List.set_cons_zero, List.set_cons_succ, i64_w, i32_w]
         rfl
        refine pure_ (i := 4) (N := some 28) (v := ?_) (a' := ?_) #[true, false, true, true, true, false, false, false, false, false, false] rfl rfl (any_of HT_.out (by kernel_rfl)) (fun _ _ _ h => h) (Or.inl ⟨by rfl, ?_⟩) ?_ ?_
        rotate_left
        ·intro w'
         go_simp
         with_reducible rfl
        rotate_left
        ·simp only [Act.put, List.setIfInBounds_toArray, List.set_cons_zero, List.set_cons_succ, i64_w, i32_w]
         rfl
        refine take_ (i := 1) (N := some 25) (v := ?_) (a' := ?_) #[true, true, true, true, true, false, false, false, false, false, false] rfl rfl (take_ofW HT_.out HW_.out (by kernel_rfl)) (fun _ _ _ h => h) (Or.inl ⟨by rfl, ?_⟩) hHeld ?_ ?_
        rotate_left
        ·rintro w' ⟨s0, s1, s2⟩
         go_simp
         with_reducible rfl
        rotate_left
        ·simp only [Act.put, List.setIfInBounds_toArray, List.set_cons_zero, List.set_cons_succ, i64_w, i32_w]
         rfl
        refine take_ (i := 5) (N := some 29) (v := ?_) (a' := ?_) #[true, true, true, true, true, true, false, false, false, false, false] rfl rfl (take_ofW HT_.out HW_.out (by kernel_rfl)) (fun _ _ _ h => h) (Or.inl ⟨by rfl, ?_⟩) hHeld ?_ ?_
        rotate_left
        ·rintro w' ⟨s0, s1, s2⟩
         go_simp
         with_reducible rfl
        rotate_left
        ·simp only [Act.put, List.setIfInBounds_toArray, List.set_cons_zero, List.set_cons_succ, i64_w, i32_w]
         rfl
        refine pure_ (i := 6) (N := some 30) (v := ?_) (a' := ?_) #[true, true, true, true, true, true, true, false, false, false, false] rfl rfl (any_of HT_.out (by kernel_rfl)) (fun _ _ _ h => h) (Or.inl ⟨by rfl, ?_⟩) ?_ ?_
        rotate_left
        ·intro w'
         go_simp
         with_reducible rfl
        rotate_left
        ·simp only [Act.put, List.setIfInBounds_toArray, List.set_cons_zero, List.set_cons_succ, i64_w, i32_w]
         rfl
        refine pure_ (i := 7) (N := some 31) (v := ?_) (a' := ?_) #[true, true, true, true, true, true, true, true, false, false, false] rfl rfl (any_of HT_.out (by kernel_rfl)) (fun _ _ _ h => h) (Or.inl ⟨by rfl, ?_⟩) ?_ ?_
        rotate_left
        ·intro w'
         go_simp
         with_reducible rfl
        rotate_left
        ·simp only [Act.put, List.setIfInBounds_toArray, List.set_cons_zero, List.set_cons_succ, i64_w, i32_w]
         rfl
        refine pure_ (i := 8) (N := some 32) (v := ?_) (a' := ?_) #[true, true, true, true, true, true, true, true, true, false, false] rfl rfl (any_of HT_.out (by kernel_rfl)) (fun _ _ _ h => h) (Or.inl ⟨by rfl, ?_⟩) ?_ ?_
        rotate_left
        ·intro w'
         go_simp
         with_reducible rfl
        rotate_left
        ·simp only [Act.put, List.setIfInBounds_toArray, List.set_cons_zero, List.set_cons_succ, i64_w, i32_w]
         rfl
        refine pure_ (i := 9) (N := some 33) (v := ?_) (a' := ?_) #[true, true, true, true, true, true, true, true, true, true, false] rfl rfl (any_of HT_.out (by kernel_rfl)) (fun _ _ _ h => h) (Or.inl ⟨by rfl, ?_⟩) ?_ ?_
        rotate_left
        ·intro w'
         go_simp
         with_reducible rfl
        rotate_left
        ·simp only [Act.put, List.setIfInBounds_toArray, List.set_cons_zero, List.set_cons_succ, i64_w, i32_w]
         rfl
        refine last_ (i := 10) (N := none) #[true, true, true, true, true, true, true, true, true, true, true] rfl rfl (one_of HT_.out (by kernel_rfl)) (by decide) (fun K hK => ?_)
        refine skip_ (w1 := ?_) (by rfl) rfl ?_ ?_
        rotate_left
        ·go_simp
         rfl
        refine hK.out _ _ ?_
        clear hK K
        refine done_ (done_of HT_.out (by kernel_rfl)) ?_
        try go_wp2
        go_meet
        case rel => exact ⟨_, (t105), (t110), (y131), (.slice Ao11 t105.length co11), (.slice Ao16 t110.length co16), (.slice (some ⟨go87, 0, none⟩) t113.length co17), H', ⟨by first | omega | exact Nat.le_refl _⟩, ⟨by (with_reducible repeat (first | apply Kd.N_alloc | apply Kd.N_drewN | apply Kd.N_drew)); exact Kd.N_mono (Kd.N_far (p := ⟨go87, ((ji84) : Int).toNat * 5, none⟩) (Kd.N_mono HO104.out (fun k_ hk => (⟨hk, fun e_ => hk.2.2.1 (by rw [e_]; rfl)⟩ : _ ∧ k_ ≠ go87))) (fun _ hk => hk.2) (.string (⟨#[48, 48]⟩ : ByteArray))) (fun _ hk => ⟨hk.1.1, ⟨hk.1.2.1, ⟨hk.1.2.2.1, ⟨hk.1.2.2.2.1, hk.1.2.2.2.2⟩⟩⟩⟩)⟩, ⟨by (with_reducible repeat (first | apply Kd.R_alloc | apply Kd.R_drewN | apply Kd.R_drew)); exact Kd.R_mono (Kd.R_far (p := ⟨go87, ((ji84) : Int).toNat * 5, none⟩) (Kd.R_mono HO107.out (fun k_ hk => (⟨hk, fun e_ => hk (by rw [e_]; rfl)⟩ : _ ∧ k_ ≠ go87))) (fun _ hk => hk.2) (.string (⟨#[48, 48]⟩ : ByteArray))) (fun _ hk => hk.1)⟩, ⟨by (with_reducible repeat (first | apply Kd.N_alloc | apply Kd.N_drewN | apply Kd.N_drew)); exact Kd.N_mono (Kd.N_far (p := ⟨go87, ((ji84) : Int).toNat * 5, none⟩) (Kd.N_mono HO112.out (fun k_ hk => (⟨hk, fun e_ => hk.2.2.1 (by rw [e_]; rfl)⟩ : _ ∧ k_ ≠ go87))) (fun _ hk => hk.2) (.string (⟨#[48, 48]⟩ : ByteArray))) (fun _ hk => ⟨hk.1.1, ⟨hk.1.2.1, ⟨hk.1.2.2.1, ⟨hk.1.2.2.2.1, hk.1.2.2.2.2⟩⟩⟩⟩)⟩, ⟨by (with_reducible repeat (first | apply Kd.R_alloc | apply Kd.R_drewN | apply Kd.R_drew)); exact HQ92.out⟩, ⟨by (with_reducible repeat (first | refine blk_drewN ?_ _ | refine blk_drew ?_ | refine blk_alloc ?_ _)); refine blk_far ?_ (by have h_ := Kd.R_ne HO115.out BK108.out (by decide); intro e_; exact h_ (by rw [e_]; rfl)) _; (with_reducible repeat (first | refine blk_drewN ?_ _ | refine blk_drew ?_ | refine blk_alloc ?_ _)); exact BK108.out⟩, ⟨by (with_reducible repeat (first | refine blk_drewN ?_ _ | refine blk_drew ?_ | refine blk_alloc ?_ _)); refine blk_far ?_ (by have h_ := Kd.R_ne HO115.out BK116.out (by decide); intro e_; exact h_ (by rw [e_]; rfl)) _; (with_reducible repeat (first | refine blk_drewN ?_ _ | refine blk_drew ?_ | refine blk_alloc ?_ _)); exact BK116.out⟩, ⟨by repeat (first | (with_reducible first | exact HB.out | apply below_alloc | apply pw_below_drewN | apply below_drew1 | refine below_set ?_ GB87.out | refine below_set ?_ GE108.out | refine below_set ?_ GE116.out) | exact HB.out)⟩⟩
       ·rw [if_neg c86] at H
        exact absurd H (by simp)
      ·rw [if_neg c85] at H
       exact absurd H (by simp)
 case rest =>
  clear HC6
  try clear c1
  try clear p2
  try clear c4
  try clear c5
  try clear c6
  try clear p6
  try clear c7
  try clear p7
  try clear q7
  try clear hx7
  try clear hf7
  try clear c8
  try clear p8
  try clear q8
  try clear hx8
  try clear hf8
  try clear c9
  try clear c12
  try clear c47
  try clear c47b0
  try clear c47b1
  try clear c54
  try clear c55
  try clear c56
  try clear c64
  try clear c64b0
  try clear c64b1
  try clear p64
  try clear c65
  try clear c65b0
  try clear c65b1
  try clear c65b2
  try clear c67
  try clear c71
  try clear c71b0
  try clear c72
  try clear c72b0
  try clear c73
  try clear p73
  try clear q73
  try clear hx73
  try clear hf73
  try clear c74
  try clear c78
  try clear c79
  try clear c79b0
  try clear c79b1
  try clear c79b2
  try clear c81
  try clear c85
  try clear c85b0
  try clear c86
  try clear c86b0
  try clear c87
  try clear p87
  try clear q87
  try clear hx87
  try clear hf87
  try clear c88
  try clear c92
  try clear hcz68_0
  try clear hcz68_1
  try clear hcz68_2
  try clear hcz75_0
  try clear hcz75_1
  try clear hcz75_2
  try clear hcz82_0
  try clear hcz82_1
  try clear hcz82_2
  try clear hcz89_0
  try clear hcz89_1
  try clear hcz89_2
  try clear hfz68_0
  try clear hfz68_1
  try clear hfz68_2
  try clear hfz75_0
  try clear hfz75_1
  try clear hfz75_2
  try clear hfz82_0
  try clear hfz82_1
  try clear hfz82_2
  try clear hfz89_0
  try clear hfz89_1
  try clear hfz89_2
  try clear hx73_0
  try clear hx73_1
  try clear hx73_2
  try clear hx73_3
  try clear hx73_4
  try clear hx87_0
  try clear hx87_1
  try clear hx87_2
  try clear hx87_3
  try clear hx87_4
  try clear p73
  try clear p87
  try clear q73
  try clear q87
  obtain ⟨kq, x109002_5, x117001_5, x117002_5, u109002, u117001, u117002, HA, HJ5, HO_109001, HO_109002, HO_117001, HO_117002, BK108, BK116, HB⟩ := hcut
  cases kq with
  | zero => exact absurd HA.out (by simp [wicketmanlaw16_CodeRight.j0])
  | succ kj5 =>
   have H := HA.out
   clear HA
   simp only [wicketmanlaw16_CodeRight.j0] at H
   replace H := Option.bind_eq_some_iff.mp H
   obtain ⟨⟨t132, t135⟩, A930, H⟩ := H
   replace H : ((wicketmanlaw16_known.f).bind fun t136 => (if t136 = true then ((code_Right.f t101 t102 x109002_5).bind fun t137 => (if t137 = true then ((code_Right.f t109 x117001_5 x117002_5).bind fun t138 => (if t138 = true then (none) else (some (t135 == 1)))) else (none))) else (none))) = some r := H
   have A93 := Aside0.mk A930
   clear A930
   replace H := Option.bind_eq_some_iff.mp H
   obtain ⟨t136, A940, H⟩ := H
   replace H : (if t136 = true then ((code_Right.f t101 t102 x109002_5).bind fun t137 => (if t137 = true then ((code_Right.f t109 x117001_5 x117002_5).bind fun t138 => (if t138 = true then (none) else (some (t135 == 1)))) else (none))) else (none)) = some r := H
   have A94 := Aside0.mk A940
   clear A940
   by_cases c95 : t136 = true
   ·subst c95
    have H1 : ((code_Right.f t101 t102 x109002_5).bind fun t137 => (if t137 = true then ((code_Right.f t109 x117001_5 x117002_5).bind fun t138 => (if t138 = true then (none) else (some (t135 == 1)))) else (none))) = some r := by rw [if_pos rfl] at H; exact H
    clear H
    have H := H1
    clear H1
    replace H := Option.bind_eq_some_iff.mp H
    obtain ⟨t137, A960, H⟩ := H
    replace H : (if t137 = true then ((code_Right.f t109 x117001_5 x117002_5).bind fun t138 => (if t138 = true then (none) else (some (t135 == 1)))) else (none)) = some r := H
    have A96 := Aside0.mk A960
    clear A960
    by_cases c97 : t137 = true
    ·subst c97
     have H1 : ((code_Right.f t109 x117001_5 x117002_5).bind fun t138 => (if t138 = true then (none) else (some (t135 == 1)))) = some r := by rw [if_pos rfl] at H; exact H
     clear H
     have H := H1
     clear H1
     replace H := Option.bind_eq_some_iff.mp H
     obtain ⟨t138, A980, H⟩ := H
     replace H : (if t138 = true then (none) else (some (t135 == 1))) = some r := H
     have A98 := Aside0.mk A980
     clear A980
     by_cases c99 : t138 = true
     ·subst c99
      have H1 : (none) = some r := by rw [if_pos rfl] at H; exact H
      clear H
      have H := H1
      clear H1
      exact absurd H (by simp)
     ·replace c99 := Bool.eq_false_iff.mpr c99
      subst c99
      have H1 : (some (t135 == 1)) = some r := by rw [if_neg (show ¬ (false = true) by decide)] at H; exact H
      clear H
      have H := H1
      clear H1
      obtain rfl := Option.some.inj H
      have hnb100 := NB116_108.out
      have hnc100 := NB108_116.out
      have hcz101_0 : wc.cell? ⟨gb116, 0, none⟩ = some (.int .u64 t109) := (blk_cell BK116.out 0).trans rfl
      have hcz101_1 : wc.cell? ⟨gb116, 1, none⟩ = some (u117001) := (blk_cell BK116.out 1).trans rfl
      have hcz101_2 : wc.cell? ⟨gb116, 2, none⟩ = some (u117002) := (blk_cell BK116.out 2).trans rfl
      have hfz101_0 := blk_frozen BK116.out 0
      have hfz101_1 := blk_frozen BK116.out 1
      have hfz101_2 := blk_frozen BK116.out 2
      obtain ⟨Ao102, co102, eo102⟩ := Kd.N_slice HO_117001.out
      subst eo102
      obtain ⟨Ao103, co103, eo103⟩ := Kd.R_slice HO_117002.out
      subst eo103
      go_wp2_with (first | ((with_reducible refine gate_callee (f := 10) rfl ?_); refine goesL_ (some 108) rfl rfl Tryd.func10 (by kernel_rfl) rfl #[.agg #[.int .u64 t109, .slice Ao102 x117001_5.length co102, .slice Ao103 x117002_5.length co103]] rfl (by (try simp only [List.map_toArray, List.map_cons, List.map_nil]); first | done | rfl | (simp only [List.length_drop, List.length_take]; rfl)) ?_; (with_reducible refine (code_State.calls t109 _ _ x117001_5 _ _ x117002_5 t132 t135 _ ?side1 ?side2 ?side3 ?side4 A93.out (HGR.out.below rfl (by repeat (first | (with_reducible first | exact HB.out | apply below_alloc | apply pw_below_drewN | apply below_drew1 | refine below_set ?_ GE108.out | refine below_set ?_ GE116.out) | exact HB.out)))).mono ?_); (case side1 => repeat (first | exact (Kd.N_reads' HO_117001.out).2.2 | (with_reducible refine Kd.C_alloc ?_ _) | (with_reducible refine Kd.C_drewN ?_ _) | (with_reducible refine Kd.C_drew ?_))); (case side2 => exact (Kd.N_reads' HO_117001.out).2.1); (case side3 => repeat (first | exact (Kd.R_reads' HO_117002.out).2.2 | (with_reducible refine Kd.C_alloc ?_ _) | (with_reducible refine Kd.C_drewN ?_ _) | (with_reducible refine Kd.C_drew ?_))); (case side4 => exact (Kd.R_reads' HO_117002.out).2.1); rintro e w104 ⟨v133, rfl, ho0, hb⟩; refine ⟨_, rfl, ?_⟩; have n0_ := Aside0.mk (Kd.N_elder' (by (with_reducible repeat (first | apply Kd.N_alloc | apply Kd.N_drewN | apply Kd.N_drew)); exact HO_109001.out) (Kd.R_base ho0) hb); have n1_ := Aside0.mk (Kd.R_below (by (with_reducible repeat (first | apply Kd.R_alloc | apply Kd.R_drewN | apply Kd.R_drew)); exact HO_109002.out) hb); have n2_ := Aside0.mk (Kd.N_elder' (by (with_reducible repeat (first | apply Kd.N_alloc | apply Kd.N_drewN | apply Kd.N_drew)); exact HO_117001.out) (Kd.R_base ho0) hb); have n3_ := Aside0.mk (Kd.R_below (by (with_reducible repeat (first | apply Kd.R_alloc | apply Kd.R_drewN | apply Kd.R_drew)); exact HO_117002.out) hb); have n4_ := Aside0.mk (Kd.R_lower ho0 (below_size (by repeat (first | (with_reducible first | exact HB.out | apply below_alloc | apply pw_below_drewN | apply below_drew1 | refine below_set ?_ GE108.out | refine below_set ?_ GE116.out) | exact HB.out)))); have n5_ := Aside0.mk (blk_below (g := gb108) (o := .cells #[.int .u64 t101, .slice Ao10 t102.length co10, u109002] 27 (0, 0)) (by (with_reducible repeat (first | refine blk_drewN ?_ _ | refine blk_drew ?_ | refine blk_alloc ?_ _)); exact BK108.out) hb); have n6_ := Aside0.mk (blk_below (g := gb116) (o := .cells #[.int .u64 t109, .slice Ao102 x117001_5.length co102, .slice Ao103 x117002_5.length co103] 27 (0, 0)) (by (with_reducible repeat (first | refine blk_drewN ?_ _ | refine blk_drew ?_ | refine blk_alloc ?_ _)); exact BK116.out) hb); have n7_ := Aside0.mk (below_step (by repeat (first | (with_reducible first | exact HB.out | apply below_alloc | apply pw_below_drewN | apply below_drew1 | refine below_set ?_ GE108.out | refine below_set ?_ GE116.out) | exact HB.out)) hb); clear HO_109001; clear HO_109002; clear HO_117001; clear HO_117002; clear BK108; clear BK116; clear HB; have HO_109001 := n0_; have HO_109002 := n1_; have HO_117001 := n2_; have HO_117002 := n3_; have HO134 := n4_; have BK108 := n5_; have BK116 := n6_; have HB := n7_; clear n0_ n1_ n2_ n3_ n4_ n5_ n6_ n7_; (try clear hb); (try clear hb2); (try clear hk); (try clear hi); (try clear ho0)) | ((with_reducible refine gate_callee (f := 9) rfl ?_); refine goesL_ (some 111) rfl rfl Tryd.func9 (by kernel_rfl) rfl #[] rfl (by (try simp only [List.map_toArray, List.map_cons, List.map_nil]); first | done | rfl | (simp only [List.length_drop, List.length_take]; rfl)) ?_; (with_reducible refine (wicketmanlaw16_known.calls  true _ A94.out (HGR.out.below rfl (by repeat (first | (with_reducible first | exact HB.out | apply below_alloc | apply pw_below_drewN | apply below_drew1 | refine below_set ?_ GE108.out | refine below_set ?_ GE116.out) | exact HB.out)))).mono ?_); rintro e w105 ⟨rfl, hb⟩; refine ⟨_, rfl, ?_⟩; have n0_ := Aside0.mk (Kd.N_below (by (with_reducible repeat (first | apply Kd.N_alloc | apply Kd.N_drewN | apply Kd.N_drew)); exact HO_109001.out) hb); have n1_ := Aside0.mk (Kd.R_below (by (with_reducible repeat (first | apply Kd.R_alloc | apply Kd.R_drewN | apply Kd.R_drew)); exact HO_109002.out) hb); have n2_ := Aside0.mk (Kd.N_below (by (with_reducible repeat (first | apply Kd.N_alloc | apply Kd.N_drewN | apply Kd.N_drew)); exact HO_117001.out) hb); have n3_ := Aside0.mk (Kd.R_below (by (with_reducible repeat (first | apply Kd.R_alloc | apply Kd.R_drewN | apply Kd.R_drew)); exact HO_117002.out) hb); have n4_ := Aside0.mk (Kd.R_below (by (with_reducible repeat (first | apply Kd.R_alloc | apply Kd.R_drewN | apply Kd.R_drew)); exact HO134.out) hb); have n5_ := Aside0.mk (blk_below (g := gb108) (o := .cells #[.int .u64 t101, .slice Ao10 t102.length co10, u109002] 27 (0, 0)) (by (with_reducible repeat (first | refine blk_drewN ?_ _ | refine blk_drew ?_ | refine blk_alloc ?_ _)); exact BK108.out) hb); have n6_ := Aside0.mk (blk_below (g := gb116) (o := .cells #[.int .u64 t109, .slice Ao102 x117001_5.length co102, .slice Ao103 x117002_5.length co103] 27 (0, 0)) (by (with_reducible repeat (first | refine blk_drewN ?_ _ | refine blk_drew ?_ | refine blk_alloc ?_ _)); exact BK116.out) hb); have n7_ := Aside0.mk (below_step (by repeat (first | (with_reducible first | exact HB.out | apply below_alloc | apply pw_below_drewN | apply below_drew1 | refine below_set ?_ GE108.out | refine below_set ?_ GE116.out) | exact HB.out)) hb); clear HO_109001; clear HO_109002; clear HO_117001; clear HO_117002; clear HO134; clear BK108; clear BK116; clear HB; have HO_109001 := n0_; have HO_109002 := n1_; have HO_117001 := n2_; have HO_117002 := n3_; have HO134 := n4_; have BK108 := n5_; have BK116 := n6_; have HB := n7_; clear n0_ n1_ n2_ n3_ n4_ n5_ n6_ n7_; (try clear hb); (try clear hb2); (try clear hk); (try clear hi); have hcz106_0 : w105.cell? ⟨gb108, 0, none⟩ = some (.int .u64 t101) := (blk_cell BK108.out 0).trans rfl; have hcz106_1 : w105.cell? ⟨gb108, 1, none⟩ = some (.slice Ao10 t102.length co10) := (blk_cell BK108.out 1).trans rfl; have hcz106_2 : w105.cell? ⟨gb108, 2, none⟩ = some (u109002) := (blk_cell BK108.out 2).trans rfl; have hfz106_0 := blk_frozen BK108.out 0; have hfz106_1 := blk_frozen BK108.out 1; have hfz106_2 := blk_frozen BK108.out 2; obtain ⟨Ao107, co107, eo107⟩ := Kd.R_slice HO_109002.out; subst eo107) | (go_at_call 11; (with_reducible refine (code_Right.calls t101 _ _ t102 _ _ x109002_5 true _ ?side1 ?side2 ?side3 ?side4 A96.out (HGR.out.below rfl (by repeat (first | (with_reducible first | exact HB.out | apply below_alloc | apply pw_below_drewN | apply below_drew1 | refine below_set ?_ GE108.out | refine below_set ?_ GE116.out) | exact HB.out)))).mono ?_); (case side1 => repeat (first | exact (Kd.N_reads' HO_109001.out).2.2 | (with_reducible refine Kd.C_alloc ?_ _) | (with_reducible refine Kd.C_drewN ?_ _) | (with_reducible refine Kd.C_drew ?_))); (case side2 => exact (Kd.N_reads' HO_109001.out).2.1); (case side3 => repeat (first | exact (Kd.R_reads' HO_109002.out).2.2 | (with_reducible refine Kd.C_alloc ?_ _) | (with_reducible refine Kd.C_drewN ?_ _) | (with_reducible refine Kd.C_drew ?_))); (case side4 => exact (Kd.R_reads' HO_109002.out).2.1); rintro e w108 ⟨rfl, hb⟩; have n0_ := Aside0.mk (Kd.N_below (by (with_reducible repeat (first | apply Kd.N_alloc | apply Kd.N_drewN | apply Kd.N_drew)); exact HO_109001.out) hb); have n1_ := Aside0.mk (Kd.R_below (by (with_reducible repeat (first | apply Kd.R_alloc | apply Kd.R_drewN | apply Kd.R_drew)); exact HO_109002.out) hb); have n2_ := Aside0.mk (Kd.N_below (by (with_reducible repeat (first | apply Kd.N_alloc | apply Kd.N_drewN | apply Kd.N_drew)); exact HO_117001.out) hb); have n3_ := Aside0.mk (Kd.R_below (by (with_reducible repeat (first | apply Kd.R_alloc | apply Kd.R_drewN | apply Kd.R_drew)); exact HO_117002.out) hb); have n4_ := Aside0.mk (Kd.R_below (by (with_reducible repeat (first | apply Kd.R_alloc | apply Kd.R_drewN | apply Kd.R_drew)); exact HO134.out) hb); have n5_ := Aside0.mk (blk_below (g := gb108) (o := .cells #[.int .u64 t101, .slice Ao10 t102.length co10, .slice Ao107 x109002_5.length co107] 27 (0, 0)) (by (with_reducible repeat (first | refine blk_drewN ?_ _ | refine blk_drew ?_ | refine blk_alloc ?_ _)); exact BK108.out) hb); have n6_ := Aside0.mk (blk_below (g := gb116) (o := .cells #[.int .u64 t109, .slice Ao102 x117001_5.length co102, .slice Ao103 x117002_5.length co103] 27 (0, 0)) (by (with_reducible repeat (first | refine blk_drewN ?_ _ | refine blk_drew ?_ | refine blk_alloc ?_ _)); exact BK116.out) hb); have n7_ := Aside0.mk (below_step (by repeat (first | (with_reducible first | exact HB.out | apply below_alloc | apply pw_below_drewN | apply below_drew1 | refine below_set ?_ GE108.out | refine below_set ?_ GE116.out) | exact HB.out)) hb); clear HO_109001; clear HO_109002; clear HO_117001; clear HO_117002; clear HO134; clear BK108; clear BK116; clear HB; have HO_109001 := n0_; have HO_109002 := n1_; have HO_117001 := n2_; have HO_117002 := n3_; have HO134 := n4_; have BK108 := n5_; have BK116 := n6_; have HB := n7_; clear n0_ n1_ n2_ n3_ n4_ n5_ n6_ n7_; (try clear hb); (try clear hb2); (try clear hk); (try clear hi); have hcz109_0 : w108.cell? ⟨gb116, 0, none⟩ = some (.int .u64 t109) := (blk_cell BK116.out 0).trans rfl; have hcz109_1 : w108.cell? ⟨gb116, 1, none⟩ = some (.slice Ao102 x117001_5.length co102) := (blk_cell BK116.out 1).trans rfl; have hcz109_2 : w108.cell? ⟨gb116, 2, none⟩ = some (.slice Ao103 x117002_5.length co103) := (blk_cell BK116.out 2).trans rfl; have hfz109_0 := blk_frozen BK116.out 0; have hfz109_1 := blk_frozen BK116.out 1; have hfz109_2 := blk_frozen BK116.out 2) | (go_at_call 11; (with_reducible refine (code_Right.calls t109 _ _ x117001_5 _ _ x117002_5 false _ ?side1 ?side2 ?side3 ?side4 A98.out (HGR.out.below rfl (by repeat (first | (with_reducible first | exact HB.out | apply below_alloc | apply pw_below_drewN | apply below_drew1 | refine below_set ?_ GE108.out | refine below_set ?_ GE116.out) | exact HB.out)))).mono ?_); (case side1 => repeat (first | exact (Kd.N_reads' HO_117001.out).2.2 | (with_reducible refine Kd.C_alloc ?_ _) | (with_reducible refine Kd.C_drewN ?_ _) | (with_reducible refine Kd.C_drew ?_))); (case side2 => exact (Kd.N_reads' HO_117001.out).2.1); (case side3 => repeat (first | exact (Kd.R_reads' HO_117002.out).2.2 | (with_reducible refine Kd.C_alloc ?_ _) | (with_reducible refine Kd.C_drewN ?_ _) | (with_reducible refine Kd.C_drew ?_))); (case side4 => exact (Kd.R_reads' HO_117002.out).2.1); rintro e w110 ⟨rfl, hb⟩; have n0_ := Aside0.mk (Kd.N_below (by (with_reducible repeat (first | apply Kd.N_alloc | apply Kd.N_drewN | apply Kd.N_drew)); exact HO_109001.out) hb); have n1_ := Aside0.mk (Kd.R_below (by (with_reducible repeat (first | apply Kd.R_alloc | apply Kd.R_drewN | apply Kd.R_drew)); exact HO_109002.out) hb); have n2_ := Aside0.mk (Kd.N_below (by (with_reducible repeat (first | apply Kd.N_alloc | apply Kd.N_drewN | apply Kd.N_drew)); exact HO_117001.out) hb); have n3_ := Aside0.mk (Kd.R_below (by (with_reducible repeat (first | apply Kd.R_alloc | apply Kd.R_drewN | apply Kd.R_drew)); exact HO_117002.out) hb); have n4_ := Aside0.mk (Kd.R_below (by (with_reducible repeat (first | apply Kd.R_alloc | apply Kd.R_drewN | apply Kd.R_drew)); exact HO134.out) hb); have n5_ := Aside0.mk (blk_below (g := gb108) (o := .cells #[.int .u64 t101, .slice Ao10 t102.length co10, .slice Ao107 x109002_5.length co107] 27 (0, 0)) (by (with_reducible repeat (first | refine blk_drewN ?_ _ | refine blk_drew ?_ | refine blk_alloc ?_ _)); exact BK108.out) hb); have n6_ := Aside0.mk (blk_below (g := gb116) (o := .cells #[.int .u64 t109, .slice Ao102 x117001_5.length co102, .slice Ao103 x117002_5.length co103] 27 (0, 0)) (by (with_reducible repeat (first | refine blk_drewN ?_ _ | refine blk_drew ?_ | refine blk_alloc ?_ _)); exact BK116.out) hb); have n7_ := Aside0.mk (below_step (by repeat (first | (with_reducible first | exact HB.out | apply below_alloc | apply pw_below_drewN | apply below_drew1 | refine below_set ?_ GE108.out | refine below_set ?_ GE116.out) | exact HB.out)) hb); clear HO_109001; clear HO_109002; clear HO_117001; clear HO_117002; clear HO134; clear BK108; clear BK116; clear HB; have HO_109001 := n0_; have HO_109002 := n1_; have HO_117001 := n2_; have HO_117002 := n3_; have HO134 := n4_; have BK108 := n5_; have BK116 := n6_; have HB := n7_; clear n0_ n1_ n2_ n3_ n4_ n5_ n6_ n7_; (try clear hb); (try clear hb2); (try clear hk); (try clear hi)))
      go_ret
      exact ⟨by first | rfl | (simp [errW_none, errW_some] <;> rfl) | (simp [*, errW_none, errW_some] <;> rfl), by repeat (first | (with_reducible first | exact HB.out | apply below_alloc | apply pw_below_drewN | apply below_drew1 | refine below_set ?_ GE108.out | refine below_set ?_ GE116.out) | exact HB.out)⟩
    ·replace c97 := Bool.eq_false_iff.mpr c97
     subst c97
     have H1 : (none) = some r := by rw [if_neg (show ¬ (false = true) by decide)] at H; exact H
     clear H
     have H := H1
     clear H1
     exact absurd H (by simp)
   ·replace c95 := Bool.eq_false_iff.mpr c95
    subst c95
    have H1 : (none) = some r := by rw [if_neg (show ¬ (false = true) by decide)] at H; exact H
    clear H
    have H := H1
    clear H1
    exact absurd H (by simp)

/-- THE ONE PURE STATEMENT of wicketmanlaw16_CodeRight: yours. -/
def wicketmanlaw16_CodeRight.Pure : Prop := ∀ (l0 : List Int) (a1 : Int) (a2 : Int), l0.length ≤ maxLen → l0.length * 1 ≤ 140737488351232 → (∀ x ∈ l0, (Lit.int .u8 x).wf = true) → (Lit.int .u8 a1).wf = true → (Lit.int .u8 a2).wf = true → ∃ k, wicketmanlaw16_CodeRight.f k l0 a1 a2 = some true
theorem wicketmanlaw16_CodeRight.walk (P : wicketmanlaw16_CodeRight.Pure) (a0 : Option Addr) (len0 cap0 : Nat) (z0 : List Int) (a1 : Int) (a2 : Int) (w : World) (w0 : (a0 = none ∧ len0 = 0 ∧ cap0 = 0 ∧ z0 = []) ∨ ∃ x, a0 = some x ∧ len0 ≤ cap0 ∧ cap0 ≤ maxLen ∧ z0.length = cap0 ∧ (∀ i, i < z0.length → w.cell? (x.add i) = some (.int .u8 (z0.getD i 0))) ∧ ∀ n ∈ z0, (Lit.int .u8 n).wf = true) (y0 : len0 * 1 ≤ 140737488351232) (w1 : (Lit.int .u8 a1).wf = true) (w2 : (Lit.int .u8 a2).wf = true) (hG_ : RootsIn w) :
  Calls Tryd.prog 3 #[.slice a0 len0 cap0, .int .u8 a1, .int .u8 a2] w fun e w' => e = .returned (.bool true) ∧ Below w.heap.size w w' := by
 obtain ⟨l0, rfl, hr0, hm0, hw0, hc0⟩ := ReadsInt.ofRowC w0
 obtain ⟨k, h⟩ := P l0 a1 a2 hm0 y0 hw0 w1 w2
 refine (wicketmanlaw16_CodeRight.calls k _ _ l0 a1 a2 true w (Kd.C_of_reads (d := (0 : Int)) (h1 := fun _ => rfl) hr0) hc0 h hG_).mono ?_
 rintro e w' ⟨rfl, hd⟩
 exact ⟨rfl, hd⟩

end Go.Proofs.YtnlhomgclplnhaaDoor.Pr
