import Derived.Test.YtnlhomgclplnhaaDoorProg
import Derived.Below
import Derived.Deep.Draws
import Derived.Deep.AppendLies
import Derived.Maps.AppendAt
import Derived.OwnWalk
import Derived.Laws.BytesArg
import Derived.Laws.MakeOwn
import Derived.Laws.OwnMore
import Derived.Deep.OwnRows
import Derived.Tactics
import Derived.Lib.ConvBytes
import Derived.Laws.Slices
import Derived.WalkKit
import Derived.KernelRfl
import Derived.RowKit3
import Derived.Deep.LoopGhost
import Derived.Deep.QuietTactic
import Derived.BigQuiet
import Derived.WideLaws
import Derived.Deep.DeepCutAuto
import Derived.Deep.CutBlock
import Derived.Deep.RegionHeld3
import Derived.Laws.Rows
import Derived.Lib.AppendStr
import Derived.ArgAppend
import Derived.Laws.IdiomCopy
import Derived.OrdersHeld
import Derived.Laws.BitsLemmas
import Derived.RowKit
import Derived.Test.YtnlhomgclplnhaaDoorWWords
import Derived.Test.YtnlhomgclplnhaaDoorWLast
import Derived.Test.YtnlhomgclplnhaaDoorWTab
import Derived.Test.YtnlhomgclplnhaaDoorWFour
import Derived.Test.YtnlhomgclplnhaaDoorWQPut
import Derived.Test.YtnlhomgclplnhaaDoorWApart
import Derived.Test.YtnlhomgclplnhaaDoorWArr
import Derived.Test.YtnlhomgclplnhaaDoorWZeros
import Derived.Test.YtnlhomgclplnhaaDoorWFoot
import Derived.Test.YtnlhomgclplnhaaDoorWKept
import Derived.Test.YtnlhomgclplnhaaDoorWShare
import Derived.Test.YtnlhomgclplnhaaDoorWN
import Derived.Test.YtnlhomgclplnhaaDoorWFootNe
import Derived.Test.YtnlhomgclplnhaaDoorWAt
import Derived.Test.YtnlhomgclplnhaaDoorWEqStruct
import Derived.Test.YtnlhomgclplnhaaDoorWRepsOne
import Derived.Test.YtnlhomgclplnhaaDoorWInv
import Derived.Test.YtnlhomgclplnhaaDoorWInvWords
import Derived.Test.YtnlhomgclplnhaaDoorWGuard
import Derived.Test.YtnlhomgclplnhaaDoorWNEv
import Derived.Test.YtnlhomgclplnhaaDoorWMore
import Derived.Still
import Derived.Deep.RegionLaw
import Derived.Lib.OthersKept
import Derived.StillTailTactics
import Derived.Outline
import Derived.Lib.MapLaws
import Derived.Lib.ValidLaws
import Derived.Test.YtnlhomgclplnhaaDoorShelf
import Derived.WalkSmall
-- Written for this claim by wip/myprint.py, this session's driver over the kit's print.py. Not trusted: Lean checks it.
namespace Go.Proofs.YtnlhomgclplnhaaDoor.Pr
open Go.RowKit Go.Proofs.YtnlhomgclplnhaaDoorW.PrintWords Go.Proofs.YtnlhomgclplnhaaDoorW.PrintLast Go.Proofs.YtnlhomgclplnhaaDoorW.PrintMore
attribute [local go_sem] max2_int min2_int max_two min_two max_three min_three max_four min_four   -- for this text's walks alone
set_option linter.unusedVariables false
set_option linter.unusedSimpArgs false



def errW : Option Int → Value
  | none => .nilIface
  | some c => .iface 0 (.int .i64 c)
theorem errW_none : errW none = .nilIface := rfl
theorem errW_some (c : Int) : errW (some c) = .iface 0 (.int .i64 c) := rfl

theorem info3 : (Tryd.prog.info? 3).map (fun i => (i.zero, i.size, i.bytes)) = some (some (.int .i64 0), 1, 8) := by kernel_rfl
theorem info5 : (Tryd.prog.info? 5).map (fun i => (i.zero, i.size, i.bytes)) = some (some (.int .u8 0), 1, 1) := by kernel_rfl
theorem info9 : (Tryd.prog.info? 9).map (fun i => (i.zero, i.size, i.bytes)) = some (some (.string ⟨#[]⟩), 1, 16) := by kernel_rfl
theorem info31 : (Tryd.prog.info? 31).map (fun i => (i.zero, i.size, i.bytes)) = some (some (.agg #[(.string ⟨#[]⟩), (.string ⟨#[]⟩), (.int .u64 0), (.int .u64 0), (.bool false)]), 5, 56) := by kernel_rfl
theorem info33 : (Tryd.prog.info? 33).map (fun i => (i.zero, i.size, i.bytes)) = some (some (.agg #[(.string ⟨#[]⟩), (.slice none 0 0), (.slice none 0 0), (.string ⟨#[]⟩), (.int .i64 0), (.int .u64 0)]), 6, 96) := by kernel_rfl
-- the values' own types
def rd_L1 (xs : List (List Int)) (i : Int) : (List Int) := xs.getD i.toNat ([] : List Int)
theorem at_L1 {w : World} {A : Option Addr} {n : Nat} {xs : List (List Int)} (h : Kd.C (Kd.slice 5 (Kd.int .u8)) w A n xs) (i : Int) (h0 : 0 ≤ i) (h1 : i < n) : ∃ ad A0 c0, A = some ad ∧ w.cell? (ad.add i.toNat) = some (.slice A0 (rd_L1 xs i).length c0) ∧ (rd_L1 xs i).length ≤ c0 ∧ (Kd.int .u8).C w A0 (rd_L1 xs i).length (rd_L1 xs i) := by
  obtain ⟨ad, c, e, _, hK, hc0⟩ := Kd.C_get h ([] : List Int) i h0 h1
  have hc : ∀ j u, c[j]? = some u → w.cell? (ad.add (i.toNat * 1 + j)) = some u := hc0
  obtain ⟨A0, c0, rfl, l0, g0⟩ := hK
  exact ⟨ad, A0, c0, e, by have hq := hc 0 _ rfl; rwa [Nat.mul_one, Nat.add_zero] at hq, l0, g0⟩

/-! #### struct type 33 -/
structure S33 where
  f0 : ByteArray
  f1 : (List Int)
  f2 : (List Int)
  f3 : ByteArray
  f4 : Int
  f5 : Int
def z33 : S33 := ⟨(⟨#[]⟩ : ByteArray), ([] : List Int), ([] : List Int), (⟨#[]⟩ : ByteArray), (0 : Int), (0 : Int)⟩
def k33 : Kd S33 := Kd.iso (Kd.pair Kd.string (Kd.pair (Kd.slice 5 (Kd.int .u8)) (Kd.pair (Kd.slice 5 (Kd.int .u8)) (Kd.pair Kd.string (Kd.pair (Kd.int .i64) (Kd.int .u64)))))) (fun x : S33 => (x.f0, x.f1, x.f2, x.f3, x.f4, x.f5))
theorem k33_open {w : World} {x : S33} {cs : List Value} (h : k33.K w x cs) : ∃ A1 c1 A2 c2, cs = [.string x.f0, .slice A1 x.f1.length c1, .slice A2 x.f2.length c2, .string x.f3, .int .i64 x.f4, .int .u64 x.f5] ∧ x.f1.length ≤ c1 ∧ (Kd.int .u8).C w A1 x.f1.length x.f1 ∧ x.f2.length ≤ c2 ∧ (Kd.int .u8).C w A2 x.f2.length x.f2 := by
  obtain ⟨_, _, rfl, rfl, ⟨_, _, rfl, ⟨A1, c1, rfl, l1, g1⟩, ⟨_, _, rfl, ⟨A2, c2, rfl, l2, g2⟩, ⟨_, _, rfl, rfl, ⟨_, _, rfl, rfl, rfl⟩⟩⟩⟩⟩ := h
  exact ⟨A1, c1, A2, c2, rfl, l1, g1, l2, g2⟩
theorem k33_openM {w : World} {base : Nat} {ok : Nat → Prop} {x : S33} {cs : List Value} (h : k33.M w base ok x cs) : ∃ v1 v2, cs = [.string x.f0, v1, v2, .string x.f3, .int .i64 x.f4, .int .u64 x.f5] ∧ (Kd.int .u8).R 5 w base ok v1 x.f1 ∧ (Kd.int .u8).R 5 w base ok v2 x.f2 := by
  obtain ⟨_, _, rfl, rfl, ⟨_, _, rfl, ⟨v1, rfl, g1⟩, ⟨_, _, rfl, ⟨v2, rfl, g2⟩, ⟨_, _, rfl, rfl, ⟨_, _, rfl, rfl, rfl⟩⟩⟩⟩⟩ := h
  exact ⟨v1, v2, rfl, g1, g2⟩
theorem k33_mk (w : World) (x : S33) {A1 : Option Addr} {c1 : Nat} (l1 : x.f1.length ≤ c1) (g1 : (Kd.int .u8).C w A1 x.f1.length x.f1) {A2 : Option Addr} {c2 : Nat} (l2 : x.f2.length ≤ c2) (g2 : (Kd.int .u8).C w A2 x.f2.length x.f2) : k33.K w x [.string x.f0, .slice A1 x.f1.length c1, .slice A2 x.f2.length c2, .string x.f3, .int .i64 x.f4, .int .u64 x.f5] := ⟨[.string x.f0], [.slice A1 x.f1.length c1, .slice A2 x.f2.length c2, .string x.f3, .int .i64 x.f4, .int .u64 x.f5], rfl, rfl, ⟨[.slice A1 x.f1.length c1], [.slice A2 x.f2.length c2, .string x.f3, .int .i64 x.f4, .int .u64 x.f5], rfl, ⟨A1, c1, rfl, l1, g1⟩, ⟨[.slice A2 x.f2.length c2], [.string x.f3, .int .i64 x.f4, .int .u64 x.f5], rfl, ⟨A2, c2, rfl, l2, g2⟩, ⟨[.string x.f3], [.int .i64 x.f4, .int .u64 x.f5], rfl, rfl, ⟨[.int .i64 x.f4], [.int .u64 x.f5], rfl, rfl, rfl⟩⟩⟩⟩⟩
theorem k33_mkM (w : World) (base : Nat) (ok : Nat → Prop) (x : S33) {v1 : Value} (g1 : (Kd.int .u8).R 5 w base ok v1 x.f1) {v2 : Value} (g2 : (Kd.int .u8).R 5 w base ok v2 x.f2) : k33.M w base ok x [.string x.f0, v1, v2, .string x.f3, .int .i64 x.f4, .int .u64 x.f5] := ⟨[.string x.f0], [v1, v2, .string x.f3, .int .i64 x.f4, .int .u64 x.f5], rfl, rfl, ⟨[v1], [v2, .string x.f3, .int .i64 x.f4, .int .u64 x.f5], rfl, ⟨v1, rfl, g1⟩, ⟨[v2], [.string x.f3, .int .i64 x.f4, .int .u64 x.f5], rfl, ⟨v2, rfl, g2⟩, ⟨[.string x.f3], [.int .i64 x.f4, .int .u64 x.f5], rfl, rfl, ⟨[.int .i64 x.f4], [.int .u64 x.f5], rfl, rfl, rfl⟩⟩⟩⟩⟩
theorem k33_openF {W : World} {ok : Nat → Prop} {x : S33} {cs : List Value} (h : Kd.FK k33 W ok x cs) : ∃ A1 c1 A2 c2, cs = [.string x.f0, .slice A1 x.f1.length c1, .slice A2 x.f2.length c2, .string x.f3, .int .i64 x.f4, .int .u64 x.f5] ∧ x.f1.length ≤ c1 ∧ Kd.F (Kd.int .u8) W ok A1 x.f1.length x.f1 ∧ x.f2.length ≤ c2 ∧ Kd.F (Kd.int .u8) W ok A2 x.f2.length x.f2 := by
  obtain ⟨A1, c1, A2, c2, rfl, l1, _, l2, _⟩ := k33_open (Kd.FK_now h)
  exact ⟨A1, c1, A2, c2, rfl, l1, (fun W' hW => by obtain ⟨A1_, c1_, A2_, c2_, he, l1_, g1_, l2_, g2_⟩ := k33_open (h W' hW); injection (Option.some.inj (show some (Value.slice A1 x.f1.length c1) = some (Value.slice A1_ x.f1.length c1_) from congrArg (fun l => l[1]?) he)) with ha_ _ _; rw [ha_]; exact g1_), l2, (fun W' hW => by obtain ⟨A1_, c1_, A2_, c2_, he, l1_, g1_, l2_, g2_⟩ := k33_open (h W' hW); injection (Option.some.inj (show some (Value.slice A2 x.f2.length c2) = some (Value.slice A2_ x.f2.length c2_) from congrArg (fun l => l[2]?) he)) with ha_ _ _; rw [ha_]; exact g2_)⟩
theorem k33_mkF (W : World) (ok : Nat → Prop) (x : S33) {A1 : Option Addr} {c1 : Nat} (l1 : x.f1.length ≤ c1) (g1 : Kd.F (Kd.int .u8) W ok A1 x.f1.length x.f1) {A2 : Option Addr} {c2 : Nat} (l2 : x.f2.length ≤ c2) (g2 : Kd.F (Kd.int .u8) W ok A2 x.f2.length x.f2) : Kd.FK k33 W ok x [.string x.f0, .slice A1 x.f1.length c1, .slice A2 x.f2.length c2, .string x.f3, .int .i64 x.f4, .int .u64 x.f5] := fun W2 hW => k33_mk W2 x l1 (g1 W2 hW) l2 (g2 W2 hW)
def rd_T33 (xs : List S33) (i : Int) : S33 := xs.getD i.toNat z33
theorem at_T33 {w : World} {A : Option Addr} {n : Nat} {xs : List S33} (h : Kd.C k33 w A n xs) (i : Int) (h0 : 0 ≤ i) (h1 : i < n) : ∃ ad A1 c1 A2 c2, A = some ad ∧ w.cell? (ad.add (i.toNat * 6)) = some (.string (rd_T33 xs i).f0) ∧ w.cell? ⟨(ad.add (i.toNat * 6)).block, (ad.add (i.toNat * 6)).off + 1, none⟩ = some (.slice A1 (rd_T33 xs i).f1.length c1) ∧ w.cell? ⟨(ad.add (i.toNat * 6)).block, (ad.add (i.toNat * 6)).off + 2, none⟩ = some (.slice A2 (rd_T33 xs i).f2.length c2) ∧ w.cell? ⟨(ad.add (i.toNat * 6)).block, (ad.add (i.toNat * 6)).off + 3, none⟩ = some (.string (rd_T33 xs i).f3) ∧ w.cell? ⟨(ad.add (i.toNat * 6)).block, (ad.add (i.toNat * 6)).off + 4, none⟩ = some (.int .i64 (rd_T33 xs i).f4) ∧ w.cell? ⟨(ad.add (i.toNat * 6)).block, (ad.add (i.toNat * 6)).off + 5, none⟩ = some (.int .u64 (rd_T33 xs i).f5) ∧ (rd_T33 xs i).f1.length ≤ c1 ∧ (Kd.int .u8).C w A1 (rd_T33 xs i).f1.length (rd_T33 xs i).f1 ∧ (rd_T33 xs i).f2.length ≤ c2 ∧ (Kd.int .u8).C w A2 (rd_T33 xs i).f2.length (rd_T33 xs i).f2 := by
  obtain ⟨ad, c, e, _, hK, hc0⟩ := Kd.C_get h z33 i h0 h1
  have hc : ∀ j u, c[j]? = some u → w.cell? (ad.add (i.toNat * 6 + j)) = some u := hc0
  obtain ⟨A1, c1, A2, c2, rfl, l1, g1, l2, g2⟩ := k33_open hK
  exact ⟨ad, A1, c1, A2, c2, e, hc 0 _ rfl, by rw [← add_field _ _ 1 (by omega)]; exact hc 1 _ rfl, by rw [← add_field _ _ 2 (by omega)]; exact hc 2 _ rfl, by rw [← add_field _ _ 3 (by omega)]; exact hc 3 _ rfl, by rw [← add_field _ _ 4 (by omega)]; exact hc 4 _ rfl, by rw [← add_field _ _ 5 (by omega)]; exact hc 5 _ rfl, l1, g1, l2, g2⟩

/-! #### struct type 31 -/
structure S31 where
  f0 : ByteArray
  f1 : ByteArray
  f2 : Int
  f3 : Int
  f4 : Bool
def z31 : S31 := ⟨(⟨#[]⟩ : ByteArray), (⟨#[]⟩ : ByteArray), (0 : Int), (0 : Int), false⟩
def k31 : Kd S31 := Kd.iso (Kd.pair Kd.string (Kd.pair Kd.string (Kd.pair (Kd.int .u64) (Kd.pair (Kd.int .u64) Kd.bool)))) (fun x : S31 => (x.f0, x.f1, x.f2, x.f3, x.f4))
theorem k31_open {w : World} {x : S31} {cs : List Value} (h : k31.K w x cs) : cs = [.string x.f0, .string x.f1, .int .u64 x.f2, .int .u64 x.f3, .bool x.f4] := by
  obtain ⟨_, _, rfl, rfl, ⟨_, _, rfl, rfl, ⟨_, _, rfl, rfl, ⟨_, _, rfl, rfl, rfl⟩⟩⟩⟩ := h
  exact rfl
theorem k31_openM {w : World} {base : Nat} {ok : Nat → Prop} {x : S31} {cs : List Value} (h : k31.M w base ok x cs) : cs = [.string x.f0, .string x.f1, .int .u64 x.f2, .int .u64 x.f3, .bool x.f4] := by
  obtain ⟨_, _, rfl, rfl, ⟨_, _, rfl, rfl, ⟨_, _, rfl, rfl, ⟨_, _, rfl, rfl, rfl⟩⟩⟩⟩ := h
  exact rfl
theorem k31_mk (w : World) (x : S31)  : k31.K w x [.string x.f0, .string x.f1, .int .u64 x.f2, .int .u64 x.f3, .bool x.f4] := ⟨[.string x.f0], [.string x.f1, .int .u64 x.f2, .int .u64 x.f3, .bool x.f4], rfl, rfl, ⟨[.string x.f1], [.int .u64 x.f2, .int .u64 x.f3, .bool x.f4], rfl, rfl, ⟨[.int .u64 x.f2], [.int .u64 x.f3, .bool x.f4], rfl, rfl, ⟨[.int .u64 x.f3], [.bool x.f4], rfl, rfl, rfl⟩⟩⟩⟩
theorem k31_mkM (w : World) (base : Nat) (ok : Nat → Prop) (x : S31)  : k31.M w base ok x [.string x.f0, .string x.f1, .int .u64 x.f2, .int .u64 x.f3, .bool x.f4] := ⟨[.string x.f0], [.string x.f1, .int .u64 x.f2, .int .u64 x.f3, .bool x.f4], rfl, rfl, ⟨[.string x.f1], [.int .u64 x.f2, .int .u64 x.f3, .bool x.f4], rfl, rfl, ⟨[.int .u64 x.f2], [.int .u64 x.f3, .bool x.f4], rfl, rfl, ⟨[.int .u64 x.f3], [.bool x.f4], rfl, rfl, rfl⟩⟩⟩⟩
theorem k31_mkF (W : World) (ok : Nat → Prop) (x : S31) : Kd.FK k31 W ok x [.string x.f0, .string x.f1, .int .u64 x.f2, .int .u64 x.f3, .bool x.f4] := fun W2 _ => k31_mk W2 x
def rd_T31 (xs : List S31) (i : Int) : S31 := xs.getD i.toNat z31
theorem at_T31 {w : World} {A : Option Addr} {n : Nat} {xs : List S31} (h : Kd.C k31 w A n xs) (i : Int) (h0 : 0 ≤ i) (h1 : i < n) : ∃ ad , A = some ad ∧ w.cell? (ad.add (i.toNat * 5)) = some (.string (rd_T31 xs i).f0) ∧ w.cell? ⟨(ad.add (i.toNat * 5)).block, (ad.add (i.toNat * 5)).off + 1, none⟩ = some (.string (rd_T31 xs i).f1) ∧ w.cell? ⟨(ad.add (i.toNat * 5)).block, (ad.add (i.toNat * 5)).off + 2, none⟩ = some (.int .u64 (rd_T31 xs i).f2) ∧ w.cell? ⟨(ad.add (i.toNat * 5)).block, (ad.add (i.toNat * 5)).off + 3, none⟩ = some (.int .u64 (rd_T31 xs i).f3) ∧ w.cell? ⟨(ad.add (i.toNat * 5)).block, (ad.add (i.toNat * 5)).off + 4, none⟩ = some (.bool (rd_T31 xs i).f4) := by
  obtain ⟨ad, c, e, _, hK, hc0⟩ := Kd.C_get h z31 i h0 h1
  have hc : ∀ j u, c[j]? = some u → w.cell? (ad.add (i.toNat * 5 + j)) = some u := hc0
  obtain rfl := k31_open hK
  exact ⟨ad, e, hc 0 _ rfl, by rw [← add_field _ _ 1 (by omega)]; exact hc 1 _ rfl, by rw [← add_field _ _ 2 (by omega)]; exact hc 2 _ rfl, by rw [← add_field _ _ 3 (by omega)]; exact hc 3 _ rfl, by rw [← add_field _ _ 4 (by omega)]; exact hc 4 _ rfl⟩

def rd_L8 (xs : List (List S33)) (i : Int) : (List S33) := xs.getD i.toNat ([] : List S33)
theorem at_L8 {w : World} {A : Option Addr} {n : Nat} {xs : List (List S33)} (h : Kd.C (Kd.slice 33 k33) w A n xs) (i : Int) (h0 : 0 ≤ i) (h1 : i < n) : ∃ ad A0 c0, A = some ad ∧ w.cell? (ad.add i.toNat) = some (.slice A0 (rd_L8 xs i).length c0) ∧ (rd_L8 xs i).length ≤ c0 ∧ k33.C w A0 (rd_L8 xs i).length (rd_L8 xs i) := by
  obtain ⟨ad, c, e, _, hK, hc0⟩ := Kd.C_get h ([] : List S33) i h0 h1
  have hc : ∀ j u, c[j]? = some u → w.cell? (ad.add (i.toNat * 1 + j)) = some u := hc0
  obtain ⟨A0, c0, rfl, l0, g0⟩ := hK
  exact ⟨ad, A0, c0, e, by have hq := hc 0 _ rfl; rwa [Nat.mul_one, Nat.add_zero] at hq, l0, g0⟩

def rd_L9 (xs : List (List S31)) (i : Int) : (List S31) := xs.getD i.toNat ([] : List S31)
theorem at_L9 {w : World} {A : Option Addr} {n : Nat} {xs : List (List S31)} (h : Kd.C (Kd.slice 31 k31) w A n xs) (i : Int) (h0 : 0 ≤ i) (h1 : i < n) : ∃ ad A0 c0, A = some ad ∧ w.cell? (ad.add i.toNat) = some (.slice A0 (rd_L9 xs i).length c0) ∧ (rd_L9 xs i).length ≤ c0 ∧ k31.C w A0 (rd_L9 xs i).length (rd_L9 xs i) := by
  obtain ⟨ad, c, e, _, hK, hc0⟩ := Kd.C_get h ([] : List S31) i h0 h1
  have hc : ∀ j u, c[j]? = some u → w.cell? (ad.add (i.toNat * 1 + j)) = some u := hc0
  obtain ⟨A0, c0, rfl, l0, g0⟩ := hK
  exact ⟨ad, A0, c0, e, by have hq := hc 0 _ rfl; rwa [Nat.mul_one, Nat.add_zero] at hq, l0, g0⟩

/-! #### struct type 27 -/
structure S27 where
  f0 : Int
  f1 : (List S33)
  f2 : (List S31)
def z27 : S27 := ⟨(0 : Int), ([] : List S33), ([] : List S31)⟩
def k27 : Kd S27 := Kd.iso (Kd.pair (Kd.int .u64) (Kd.pair (Kd.slice 33 k33) (Kd.slice 31 k31))) (fun x : S27 => (x.f0, x.f1, x.f2))
theorem k27_open {w : World} {x : S27} {cs : List Value} (h : k27.K w x cs) : ∃ A1 c1 A2 c2, cs = [.int .u64 x.f0, .slice A1 x.f1.length c1, .slice A2 x.f2.length c2] ∧ x.f1.length ≤ c1 ∧ k33.C w A1 x.f1.length x.f1 ∧ x.f2.length ≤ c2 ∧ k31.C w A2 x.f2.length x.f2 := by
  obtain ⟨_, _, rfl, rfl, ⟨_, _, rfl, ⟨A1, c1, rfl, l1, g1⟩, ⟨A2, c2, rfl, l2, g2⟩⟩⟩ := h
  exact ⟨A1, c1, A2, c2, rfl, l1, g1, l2, g2⟩
theorem k27_openM {w : World} {base : Nat} {ok : Nat → Prop} {x : S27} {cs : List Value} (h : k27.M w base ok x cs) : ∃ v1 v2, cs = [.int .u64 x.f0, v1, v2] ∧ k33.R 33 w base ok v1 x.f1 ∧ k31.R 31 w base ok v2 x.f2 := by
  obtain ⟨_, _, rfl, rfl, ⟨_, _, rfl, ⟨v1, rfl, g1⟩, ⟨v2, rfl, g2⟩⟩⟩ := h
  exact ⟨v1, v2, rfl, g1, g2⟩
theorem k27_mk (w : World) (x : S27) {A1 : Option Addr} {c1 : Nat} (l1 : x.f1.length ≤ c1) (g1 : k33.C w A1 x.f1.length x.f1) {A2 : Option Addr} {c2 : Nat} (l2 : x.f2.length ≤ c2) (g2 : k31.C w A2 x.f2.length x.f2) : k27.K w x [.int .u64 x.f0, .slice A1 x.f1.length c1, .slice A2 x.f2.length c2] := ⟨[.int .u64 x.f0], [.slice A1 x.f1.length c1, .slice A2 x.f2.length c2], rfl, rfl, ⟨[.slice A1 x.f1.length c1], [.slice A2 x.f2.length c2], rfl, ⟨A1, c1, rfl, l1, g1⟩, ⟨A2, c2, rfl, l2, g2⟩⟩⟩
theorem k27_mkM (w : World) (base : Nat) (ok : Nat → Prop) (x : S27) {v1 : Value} (g1 : k33.R 33 w base ok v1 x.f1) {v2 : Value} (g2 : k31.R 31 w base ok v2 x.f2) : k27.M w base ok x [.int .u64 x.f0, v1, v2] := ⟨[.int .u64 x.f0], [v1, v2], rfl, rfl, ⟨[v1], [v2], rfl, ⟨v1, rfl, g1⟩, ⟨v2, rfl, g2⟩⟩⟩
theorem k27_openF {W : World} {ok : Nat → Prop} {x : S27} {cs : List Value} (h : Kd.FK k27 W ok x cs) : ∃ A1 c1 A2 c2, cs = [.int .u64 x.f0, .slice A1 x.f1.length c1, .slice A2 x.f2.length c2] ∧ x.f1.length ≤ c1 ∧ Kd.F k33 W ok A1 x.f1.length x.f1 ∧ x.f2.length ≤ c2 ∧ Kd.F k31 W ok A2 x.f2.length x.f2 := by
  obtain ⟨A1, c1, A2, c2, rfl, l1, _, l2, _⟩ := k27_open (Kd.FK_now h)
  exact ⟨A1, c1, A2, c2, rfl, l1, (fun W' hW => by obtain ⟨A1_, c1_, A2_, c2_, he, l1_, g1_, l2_, g2_⟩ := k27_open (h W' hW); injection (Option.some.inj (show some (Value.slice A1 x.f1.length c1) = some (Value.slice A1_ x.f1.length c1_) from congrArg (fun l => l[1]?) he)) with ha_ _ _; rw [ha_]; exact g1_), l2, (fun W' hW => by obtain ⟨A1_, c1_, A2_, c2_, he, l1_, g1_, l2_, g2_⟩ := k27_open (h W' hW); injection (Option.some.inj (show some (Value.slice A2 x.f2.length c2) = some (Value.slice A2_ x.f2.length c2_) from congrArg (fun l => l[2]?) he)) with ha_ _ _; rw [ha_]; exact g2_)⟩
theorem k27_mkF (W : World) (ok : Nat → Prop) (x : S27) {A1 : Option Addr} {c1 : Nat} (l1 : x.f1.length ≤ c1) (g1 : Kd.F k33 W ok A1 x.f1.length x.f1) {A2 : Option Addr} {c2 : Nat} (l2 : x.f2.length ≤ c2) (g2 : Kd.F k31 W ok A2 x.f2.length x.f2) : Kd.FK k27 W ok x [.int .u64 x.f0, .slice A1 x.f1.length c1, .slice A2 x.f2.length c2] := fun W2 hW => k27_mk W2 x l1 (g1 W2 hW) l2 (g2 W2 hW)
def rd_T27 (xs : List S27) (i : Int) : S27 := xs.getD i.toNat z27
theorem at_T27 {w : World} {A : Option Addr} {n : Nat} {xs : List S27} (h : Kd.C k27 w A n xs) (i : Int) (h0 : 0 ≤ i) (h1 : i < n) : ∃ ad A1 c1 A2 c2, A = some ad ∧ w.cell? (ad.add (i.toNat * 3)) = some (.int .u64 (rd_T27 xs i).f0) ∧ w.cell? ⟨(ad.add (i.toNat * 3)).block, (ad.add (i.toNat * 3)).off + 1, none⟩ = some (.slice A1 (rd_T27 xs i).f1.length c1) ∧ w.cell? ⟨(ad.add (i.toNat * 3)).block, (ad.add (i.toNat * 3)).off + 2, none⟩ = some (.slice A2 (rd_T27 xs i).f2.length c2) ∧ (rd_T27 xs i).f1.length ≤ c1 ∧ k33.C w A1 (rd_T27 xs i).f1.length (rd_T27 xs i).f1 ∧ (rd_T27 xs i).f2.length ≤ c2 ∧ k31.C w A2 (rd_T27 xs i).f2.length (rd_T27 xs i).f2 := by
  obtain ⟨ad, c, e, _, hK, hc0⟩ := Kd.C_get h z27 i h0 h1
  have hc : ∀ j u, c[j]? = some u → w.cell? (ad.add (i.toNat * 3 + j)) = some u := hc0
  obtain ⟨A1, c1, A2, c2, rfl, l1, g1, l2, g2⟩ := k27_open hK
  exact ⟨ad, A1, c1, A2, c2, e, hc 0 _ rfl, by rw [← add_field _ _ 1 (by omega)]; exact hc 1 _ rfl, by rw [← add_field _ _ 2 (by omega)]; exact hc 2 _ rfl, l1, g1, l2, g2⟩

/-! #### struct type 45 -/
structure S45 where
  f0 : Int
  f1 : ByteArray
  f2 : ByteArray
  f3 : ByteArray
  f4 : (List Int)
  f5 : (List Int)
  f6 : ByteArray
def z45 : S45 := ⟨(0 : Int), (⟨#[]⟩ : ByteArray), (⟨#[]⟩ : ByteArray), (⟨#[]⟩ : ByteArray), ([] : List Int), ([] : List Int), (⟨#[]⟩ : ByteArray)⟩
def k45 : Kd S45 := Kd.iso (Kd.pair (Kd.int .i64) (Kd.pair Kd.string (Kd.pair Kd.string (Kd.pair Kd.string (Kd.pair (Kd.slice 5 (Kd.int .u8)) (Kd.pair (Kd.slice 5 (Kd.int .u8)) Kd.string)))))) (fun x : S45 => (x.f0, x.f1, x.f2, x.f3, x.f4, x.f5, x.f6))
theorem k45_open {w : World} {x : S45} {cs : List Value} (h : k45.K w x cs) : ∃ A4 c4 A5 c5, cs = [.int .i64 x.f0, .string x.f1, .string x.f2, .string x.f3, .slice A4 x.f4.length c4, .slice A5 x.f5.length c5, .string x.f6] ∧ x.f4.length ≤ c4 ∧ (Kd.int .u8).C w A4 x.f4.length x.f4 ∧ x.f5.length ≤ c5 ∧ (Kd.int .u8).C w A5 x.f5.length x.f5 := by
  obtain ⟨_, _, rfl, rfl, ⟨_, _, rfl, rfl, ⟨_, _, rfl, rfl, ⟨_, _, rfl, rfl, ⟨_, _, rfl, ⟨A4, c4, rfl, l4, g4⟩, ⟨_, _, rfl, ⟨A5, c5, rfl, l5, g5⟩, rfl⟩⟩⟩⟩⟩⟩ := h
  exact ⟨A4, c4, A5, c5, rfl, l4, g4, l5, g5⟩
theorem k45_openM {w : World} {base : Nat} {ok : Nat → Prop} {x : S45} {cs : List Value} (h : k45.M w base ok x cs) : ∃ v4 v5, cs = [.int .i64 x.f0, .string x.f1, .string x.f2, .string x.f3, v4, v5, .string x.f6] ∧ (Kd.int .u8).R 5 w base ok v4 x.f4 ∧ (Kd.int .u8).R 5 w base ok v5 x.f5 := by
  obtain ⟨_, _, rfl, rfl, ⟨_, _, rfl, rfl, ⟨_, _, rfl, rfl, ⟨_, _, rfl, rfl, ⟨_, _, rfl, ⟨v4, rfl, g4⟩, ⟨_, _, rfl, ⟨v5, rfl, g5⟩, rfl⟩⟩⟩⟩⟩⟩ := h
  exact ⟨v4, v5, rfl, g4, g5⟩
theorem k45_mk (w : World) (x : S45) {A4 : Option Addr} {c4 : Nat} (l4 : x.f4.length ≤ c4) (g4 : (Kd.int .u8).C w A4 x.f4.length x.f4) {A5 : Option Addr} {c5 : Nat} (l5 : x.f5.length ≤ c5) (g5 : (Kd.int .u8).C w A5 x.f5.length x.f5) : k45.K w x [.int .i64 x.f0, .string x.f1, .string x.f2, .string x.f3, .slice A4 x.f4.length c4, .slice A5 x.f5.length c5, .string x.f6] := ⟨[.int .i64 x.f0], [.string x.f1, .string x.f2, .string x.f3, .slice A4 x.f4.length c4, .slice A5 x.f5.length c5, .string x.f6], rfl, rfl, ⟨[.string x.f1], [.string x.f2, .string x.f3, .slice A4 x.f4.length c4, .slice A5 x.f5.length c5, .string x.f6], rfl, rfl, ⟨[.string x.f2], [.string x.f3, .slice A4 x.f4.length c4, .slice A5 x.f5.length c5, .string x.f6], rfl, rfl, ⟨[.string x.f3], [.slice A4 x.f4.length c4, .slice A5 x.f5.length c5, .string x.f6], rfl, rfl, ⟨[.slice A4 x.f4.length c4], [.slice A5 x.f5.length c5, .string x.f6], rfl, ⟨A4, c4, rfl, l4, g4⟩, ⟨[.slice A5 x.f5.length c5], [.string x.f6], rfl, ⟨A5, c5, rfl, l5, g5⟩, rfl⟩⟩⟩⟩⟩⟩
theorem k45_mkM (w : World) (base : Nat) (ok : Nat → Prop) (x : S45) {v4 : Value} (g4 : (Kd.int .u8).R 5 w base ok v4 x.f4) {v5 : Value} (g5 : (Kd.int .u8).R 5 w base ok v5 x.f5) : k45.M w base ok x [.int .i64 x.f0, .string x.f1, .string x.f2, .string x.f3, v4, v5, .string x.f6] := ⟨[.int .i64 x.f0], [.string x.f1, .string x.f2, .string x.f3, v4, v5, .string x.f6], rfl, rfl, ⟨[.string x.f1], [.string x.f2, .string x.f3, v4, v5, .string x.f6], rfl, rfl, ⟨[.string x.f2], [.string x.f3, v4, v5, .string x.f6], rfl, rfl, ⟨[.string x.f3], [v4, v5, .string x.f6], rfl, rfl, ⟨[v4], [v5, .string x.f6], rfl, ⟨v4, rfl, g4⟩, ⟨[v5], [.string x.f6], rfl, ⟨v5, rfl, g5⟩, rfl⟩⟩⟩⟩⟩⟩
theorem k45_openF {W : World} {ok : Nat → Prop} {x : S45} {cs : List Value} (h : Kd.FK k45 W ok x cs) : ∃ A4 c4 A5 c5, cs = [.int .i64 x.f0, .string x.f1, .string x.f2, .string x.f3, .slice A4 x.f4.length c4, .slice A5 x.f5.length c5, .string x.f6] ∧ x.f4.length ≤ c4 ∧ Kd.F (Kd.int .u8) W ok A4 x.f4.length x.f4 ∧ x.f5.length ≤ c5 ∧ Kd.F (Kd.int .u8) W ok A5 x.f5.length x.f5 := by
  obtain ⟨A4, c4, A5, c5, rfl, l4, _, l5, _⟩ := k45_open (Kd.FK_now h)
  exact ⟨A4, c4, A5, c5, rfl, l4, (fun W' hW => by obtain ⟨A4_, c4_, A5_, c5_, he, l4_, g4_, l5_, g5_⟩ := k45_open (h W' hW); injection (Option.some.inj (show some (Value.slice A4 x.f4.length c4) = some (Value.slice A4_ x.f4.length c4_) from congrArg (fun l => l[4]?) he)) with ha_ _ _; rw [ha_]; exact g4_), l5, (fun W' hW => by obtain ⟨A4_, c4_, A5_, c5_, he, l4_, g4_, l5_, g5_⟩ := k45_open (h W' hW); injection (Option.some.inj (show some (Value.slice A5 x.f5.length c5) = some (Value.slice A5_ x.f5.length c5_) from congrArg (fun l => l[5]?) he)) with ha_ _ _; rw [ha_]; exact g5_)⟩
theorem k45_mkF (W : World) (ok : Nat → Prop) (x : S45) {A4 : Option Addr} {c4 : Nat} (l4 : x.f4.length ≤ c4) (g4 : Kd.F (Kd.int .u8) W ok A4 x.f4.length x.f4) {A5 : Option Addr} {c5 : Nat} (l5 : x.f5.length ≤ c5) (g5 : Kd.F (Kd.int .u8) W ok A5 x.f5.length x.f5) : Kd.FK k45 W ok x [.int .i64 x.f0, .string x.f1, .string x.f2, .string x.f3, .slice A4 x.f4.length c4, .slice A5 x.f5.length c5, .string x.f6] := fun W2 hW => k45_mk W2 x l4 (g4 W2 hW) l5 (g5 W2 hW)
def rd_T45 (xs : List S45) (i : Int) : S45 := xs.getD i.toNat z45
theorem at_T45 {w : World} {A : Option Addr} {n : Nat} {xs : List S45} (h : Kd.C k45 w A n xs) (i : Int) (h0 : 0 ≤ i) (h1 : i < n) : ∃ ad A4 c4 A5 c5, A = some ad ∧ w.cell? (ad.add (i.toNat * 7)) = some (.int .i64 (rd_T45 xs i).f0) ∧ w.cell? ⟨(ad.add (i.toNat * 7)).block, (ad.add (i.toNat * 7)).off + 1, none⟩ = some (.string (rd_T45 xs i).f1) ∧ w.cell? ⟨(ad.add (i.toNat * 7)).block, (ad.add (i.toNat * 7)).off + 2, none⟩ = some (.string (rd_T45 xs i).f2) ∧ w.cell? ⟨(ad.add (i.toNat * 7)).block, (ad.add (i.toNat * 7)).off + 3, none⟩ = some (.string (rd_T45 xs i).f3) ∧ w.cell? ⟨(ad.add (i.toNat * 7)).block, (ad.add (i.toNat * 7)).off + 4, none⟩ = some (.slice A4 (rd_T45 xs i).f4.length c4) ∧ w.cell? ⟨(ad.add (i.toNat * 7)).block, (ad.add (i.toNat * 7)).off + 5, none⟩ = some (.slice A5 (rd_T45 xs i).f5.length c5) ∧ w.cell? ⟨(ad.add (i.toNat * 7)).block, (ad.add (i.toNat * 7)).off + 6, none⟩ = some (.string (rd_T45 xs i).f6) ∧ (rd_T45 xs i).f4.length ≤ c4 ∧ (Kd.int .u8).C w A4 (rd_T45 xs i).f4.length (rd_T45 xs i).f4 ∧ (rd_T45 xs i).f5.length ≤ c5 ∧ (Kd.int .u8).C w A5 (rd_T45 xs i).f5.length (rd_T45 xs i).f5 := by
  obtain ⟨ad, c, e, _, hK, hc0⟩ := Kd.C_get h z45 i h0 h1
  have hc : ∀ j u, c[j]? = some u → w.cell? (ad.add (i.toNat * 7 + j)) = some u := hc0
  obtain ⟨A4, c4, A5, c5, rfl, l4, g4, l5, g5⟩ := k45_open hK
  exact ⟨ad, A4, c4, A5, c5, e, hc 0 _ rfl, by rw [← add_field _ _ 1 (by omega)]; exact hc 1 _ rfl, by rw [← add_field _ _ 2 (by omega)]; exact hc 2 _ rfl, by rw [← add_field _ _ 3 (by omega)]; exact hc 3 _ rfl, by rw [← add_field _ _ 4 (by omega)]; exact hc 4 _ rfl, by rw [← add_field _ _ 5 (by omega)]; exact hc 5 _ rfl, by rw [← add_field _ _ 6 (by omega)]; exact hc 6 _ rfl, l4, g4, l5, g5⟩

end Go.Proofs.YtnlhomgclplnhaaDoor.Pr
namespace Go.Proofs.YtnlhomgclplnhaaDoor.E
end Go.Proofs.YtnlhomgclplnhaaDoor.E
namespace Go.Proofs.YtnlhomgclplnhaaDoor.Pr
end Go.Proofs.YtnlhomgclplnhaaDoor.Pr

/- A region that draws its order, by what holds of each operation's value: each operation is shown once, in whatever world of a class, from what holds of the values that it waits for. -/
namespace Go.Proofs.YtnlhomgclplnhaaDoor.E
open Go.RowKit
set_option linter.unusedVariables false
set_option linter.unusedSimpArgs false
section
variable {P : Program}
/-- What is asked of an operation's run: its value, and the world behind it. -/
def opUpon (P : Program) (F : Value → World → Prop) : Result Next → Prop
  | .ok (.value u) w' => F u w'
  | .ok .skip w' => F undef w'
  | .ok (.enter f args) w' => Calls P f args w' (fun e w'' => ∃ v, e = .returned v ∧ F v w'')
  | .ok (.row row args) w' => Rows P row args w' fun v w'' => F v w''
  | _ => False
def opVal (P : Program) (o : Oper) (a : Act) (w : World) (F : Value → World → Prop) : Prop := opUpon P F ((execOp a.eval o).run P w)
theorem wp_of_opVal {o : Oper} {a : Act} {w : World} {F : Value → World → Prop} {K : Act → World → Prop} {Q : Exit → Act → World → Prop} (h : ∀ v w', F v w' → K (a.put o.dst v) w') (hh : opVal P o a w F) : o.wp P a w K Q := by
  unfold opVal at hh
  unfold Oper.wp
  generalize (execOp a.eval o).run P w = r at *
  cases r with
  | ok n w' =>
    cases n <;> simp only [opUpon] at hh <;> simp only [Oper.upon]
    case value u => exact h _ _ hh
    case skip => exact h _ _ hh
    case enter f args => exact hh.mono fun e w'' ⟨v, he, hv⟩ => by subst he; exact h _ _ hv
    case row row args => exact Rows.mono hh fun v w'' hv => h _ _ hv
  | halt x w' => simp only [opUpon] at hh
def upd (us : Nat → Value) (j : Nat) (v : Value) : Nat → Value := fun i => if i = j then v else us i
/-- The frame, each operation's value laid in its slot. -/
def lay (a : Act) : List Oper → (Nat → Value) → Nat → Act
  | [], _, _ => a
  | o :: rest, us, k => lay (a.put o.dst (us k)) rest us (k + 1)
def dstsOk : List Oper → Bool
  | [] => true
  | o :: rest => rest.all (fun p => o.dst.isNone || p.dst != o.dst) && dstsOk rest
theorem put_put (a : Act) (d : Option Tmp) (u v : Value) : (a.put d u).put d v = a.put d v := by
  cases d with
  | none => rfl
  | some t => simp [Act.put]
theorem lay_comm (d : Option Tmp) (v : Value) : ∀ (l : List Oper) (a : Act) (us : Nat → Value) (k : Nat), (∀ p ∈ l, d.isNone = true ∨ p.dst ≠ d) → (lay a l us k).put d v = lay (a.put d v) l us k
  | [], a, us, k, h => rfl
  | o :: rest, a, us, k, h => by
    rw [lay, lay, lay_comm d v rest _ us (k + 1) (fun p hp => h p (List.mem_cons_of_mem _ hp))]
    congr 1
    refine (Act.put_comm a v (us k) (x := d) (y := o.dst) ?_).symm
    intro t ht
    rcases h o List.mem_cons_self with h1 | h1
    · rw [ht] at h1; cases h1
    · rw [ht] at h1; exact h1
theorem lay_congr : ∀ (l : List Oper) (a : Act) (us us' : Nat → Value) (k : Nat), (∀ i, k ≤ i → us i = us' i) → lay a l us k = lay a l us' k
  | [], a, us, us', k, h => rfl
  | o :: rest, a, us, us', k, h => by
    rw [lay, lay, h k (Nat.le_refl _)]
    exact lay_congr rest _ us us' (k + 1) (fun i hi => h i (by omega))
theorem lay_put (v : Value) : ∀ (l : List Oper) (a : Act) (us : Nat → Value) (k j : Nat) (o : Oper), dstsOk l = true → l[j]? = some o → (lay a l us k).put o.dst v = lay a l (upd us (k + j) v) k
  | [], a, us, k, j, o, hd, hj => by simp at hj
  | p :: rest, a, us, k, 0, o, hd, hj => by
    obtain rfl : p = o := by simpa using hj
    simp only [dstsOk, Bool.and_eq_true, List.all_eq_true, Bool.or_eq_true, bne_iff_ne] at hd
    rw [lay, lay, lay_comm p.dst v rest _ us (k + 1) hd.1, put_put]
    have e : upd us (k + 0) v k = v := by simp [upd]
    rw [e]
    refine lay_congr rest _ _ _ (k + 1) (fun i hi => ?_)
    simp only [upd]
    rw [if_neg (by omega)]
  | p :: rest, a, us, k, j + 1, o, hd, hj => by
    simp only [dstsOk, Bool.and_eq_true] at hd
    rw [lay, lay, lay_put v rest _ us (k + 1) j o hd.2 (by simpa using hj)]
    have e : upd us (k + (j + 1)) v k = us k := by simp only [upd]; rw [if_neg (by omega)]
    rw [e, show k + 1 + j = k + (j + 1) by omega]
theorem put_self (a : Act) (d : Option Tmp) : a.put d ((d.bind (a.tmps[·]?)).getD undef) = a := by
  cases d with
  | none => rfl
  | some t =>
    simp only [Act.put, Option.bind_some]
    congr 1
    apply Array.ext_getElem?
    intro i
    rw [Array.getElem?_setIfInBounds]
    split
    · rename_i h
      subst h
      split
      · rename_i h2
        rw [Array.getElem?_eq_getElem h2]; rfl
      · rename_i h2
        rw [Array.getElem?_eq_none (by omega)]
    · rfl
theorem lay_self (a : Act) : ∀ (l : List Oper) (us : Nat → Value) (k : Nat), (∀ j o, l[j]? = some o → us (k + j) = (o.dst.bind (a.tmps[·]?)).getD undef) → lay a l us k = a
  | [], us, k, h => rfl
  | o :: rest, us, k, h => by
    have h0 := h 0 o rfl
    rw [lay, show us k = _ from h0, put_self]
    exact lay_self a rest us (k + 1) (fun j p hj => by rw [show k + 1 + j = k + (j + 1) by omega]; exact h (j + 1) p (by simpa using hj))
/-- What holds of the values that an operation waits for. -/
def Deps (B : Nat → Value → World → Prop) (us : Nat → Value) (w : World) : List Edge → Prop
  | [] => True
  | e :: es => B e.on (us e.on) w ∧ Deps B us w es
theorem Deps_of {B : Nat → Value → World → Prop} {us : Nat → Value} {w : World} : ∀ {es : List Edge}, (∀ e ∈ es, B e.on (us e.on) w) → Deps B us w es
  | [], _ => trivial
  | e :: es, h => ⟨h e List.mem_cons_self, Deps_of (fun x hx => h x (List.mem_cons_of_mem _ hx))⟩
/-- Operation number j, met in whatever world of the class. -/
def StepAt (P : Program) (l : List Oper) (A : (Nat → Value) → Act) (C : World → Prop) (St : World → World → Prop) (B : Nat → Value → World → Prop) (j : Nat) (o : Oper) : Prop :=
  ∀ (us : Nat → Value) (w : World) (F : Value → World → Prop), C w → Deps B us w o.after.toList → (∀ v w', C w' → St w w' → B j v w' → F v w') →
    if Region.wanted o (yielded l.toArray (A us).tmps) = true then opVal P o (A us) w F else F undef w
def Steps (P : Program) (l : List Oper) (A : (Nat → Value) → Act) (C : World → Prop) (St : World → World → Prop) (B : Nat → Value → World → Prop) : Nat → List Oper → Prop
  | _, [] => True
  | j, o :: rest => StepAt P l A C St B j o ∧ Steps P l A C St B (j + 1) rest
theorem Steps.nil {l : List Oper} {A : (Nat → Value) → Act} {C : World → Prop} {St : World → World → Prop} {B : Nat → Value → World → Prop} {j : Nat} : Steps P l A C St B j [] := trivial
theorem Steps.cons {l : List Oper} {A : (Nat → Value) → Act} {C : World → Prop} {St : World → World → Prop} {B : Nat → Value → World → Prop} {j : Nat} {o : Oper} {rest : List Oper} (h : StepAt P l A C St B j o) (hr : Steps P l A C St B (j + 1) rest) : Steps P l A C St B j (o :: rest) := ⟨h, hr⟩
theorem Steps_at {l : List Oper} {A : (Nat → Value) → Act} {C : World → Prop} {St : World → World → Prop} {B : Nat → Value → World → Prop} : ∀ {m : List Oper} {k : Nat}, Steps P l A C St B k m → ∀ j o, m[j]? = some o → StepAt P l A C St B (k + j) o
  | [], k, h, j, o, hj => by simp at hj
  | p :: rest, k, h, 0, o, hj => by
    obtain rfl : p = o := by simpa using hj
    exact h.1
  | p :: rest, k, h, j + 1, o, hj => by
    rw [show k + (j + 1) = k + 1 + j by omega]
    exact Steps_at h.2 j o (by simpa using hj)
/-- Each operation waits for earlier ones alone, and all its waits bind. -/
def waitsBack : Nat → List Oper → Bool
  | _, [] => true
  | j, o :: rest => o.after.toList.all (fun e => Region.binds .any e && decide (e.on < j)) && waitsBack (j + 1) rest
theorem waitsBack_at : ∀ {m : List Oper} {k : Nat}, waitsBack k m = true → ∀ j o, m[j]? = some o → ∀ e ∈ o.after.toList, Region.binds .any e = true ∧ e.on < k + j
  | [], k, h, j, o, hj => by simp at hj
  | p :: rest, k, h, 0, o, hj => by
    obtain rfl : p = o := by simpa using hj
    simp only [waitsBack, Bool.and_eq_true, List.all_eq_true, decide_eq_true_eq] at h
    exact fun e he => h.1 e he
  | p :: rest, k, h, j + 1, o, hj => by
    simp only [waitsBack, Bool.and_eq_true] at h
    rw [show k + (j + 1) = k + 1 + j by omega]
    exact waitsBack_at h.2 j o (by simpa using hj)
def falses (l : Array Bool) : Nat := l.toList.count false
theorem count_set : ∀ (l : List Bool) (i : Nat), l[i]? = some false → (l.set i true).count false + 1 = l.count false
  | [], i, h => by simp at h
  | b :: l, 0, h => by
    obtain rfl : b = false := by simpa using h
    simp
  | b :: l, i + 1, h => by
    have := count_set l i (by simpa using h)
    rw [List.set_cons_succ, List.count_cons, List.count_cons]
    omega
theorem count_pos : ∀ (l : List Bool) (i : Nat), l[i]? = some false → 0 < l.count false := fun l i h => by
  have := count_set l i h
  omega
theorem wpAny_inv {l : List Oper} {a : Act} {C : World → Prop} {St : World → World → Prop} {B : Nat → Value → World → Prop} {Q : Exit → Act → World → Prop}
    (hdst : dstsOk l = true) (hback : waitsBack 0 l = true) (hSt : ∀ w, St w w) (hB : ∀ i v w w', B i v w → St w w' → B i v w') (hsteps : Steps P l (fun us => lay a l us 0) C St B 0 l)
    (hQ : ∀ us w, C w → (∀ i, i < l.length → B i (us i) w) → Q .normal (lay a l us 0) w) :
    ∀ (fuel : Nat) (listed : Array Bool) (us : Nat → Value) (w : World), listed.size = l.length → falses listed ≤ fuel → C w → (∀ i, listed.getD i false = true → B i (us i) w) → wpAny P .any l.toArray Q fuel listed (lay a l us 0) w := by
  have hlast : ∀ (listed : Array Bool), listed.size = l.length → Region.ready .any l.toArray listed = [] → ∀ j, j < l.length → listed.getD j false = true := by
    intro listed hs hr j
    induction j using Nat.strongRecOn with
    | _ j ih =>
      intro hj
      cases h : listed.getD j false with
      | true => rfl
      | false =>
        have hmem : j ∈ Region.ready .any l.toArray listed := by
          refine mem_ready.2 ⟨?_, l[j], ?_, fun e he hb => ?_⟩
          · have hlt : j < listed.size := by omega
            simp only [Array.getD_eq_getD_getElem?, Array.getElem?_eq_getElem hlt, Option.getD_some] at h ⊢
            exact h
          · simp [hj]
          · have hw := (waitsBack_at hback j l[j] (by simp [hj]) e (by simpa using he)).2
            exact ih e.on (by omega) (by omega)
        rw [hr] at hmem
        cases hmem
  intro fuel
  induction fuel with
  | zero =>
    intro listed us w hs hf hC hI
    have hall : ∀ j, j < l.length → listed.getD j false = true := by
      intro j hj
      cases h : listed.getD j false with
      | true => rfl
      | false =>
        have hlt : j < listed.size := by omega
        have h2 : listed.toList[j]? = some false := by
          simp only [Array.getD_eq_getD_getElem?, Array.getElem?_eq_getElem hlt, Option.getD_some] at h
          rw [Array.getElem?_toList, Array.getElem?_eq_getElem hlt, h]
        have := count_pos _ _ h2
        unfold falses at hf
        omega
    refine ⟨?_, hQ us w hC (fun i hi => hI i (hall i hi))⟩
    refine List.eq_nil_iff_forall_not_mem.2 fun j hj => ?_
    obtain ⟨h1, o, ho, _⟩ := mem_ready.1 hj
    have hjl : j < l.length := by have := (Array.getElem?_eq_some_iff.1 ho).1; simpa using this
    have h2 := hall j hjl
    have hlt : j < listed.size := by omega
    simp only [Array.getD_eq_getD_getElem?, Array.getElem?_eq_getElem hlt, Option.getD_some] at h1 h2
    rw [h1] at h2
    cases h2
  | succ fuel ih =>
    intro listed us w hs hf hC hI
    refine ⟨fun hr => hQ us w hC (fun i hi => hI i (hlast listed hs hr i hi)), fun i hi => ?_⟩
    obtain ⟨h1, o, ho, hafter⟩ := mem_ready.1 hi
    have ho' : l[i]? = some o := by simpa using ho
    have hil : i < l.length := (List.getElem?_eq_some_iff.1 ho').1
    have hst := Steps_at hsteps i o ho'
    rw [Nat.zero_add] at hst
    have hdep : Deps B us w o.after.toList := Deps_of fun e he => by
      have hb := (waitsBack_at hback i o ho' e he).1
      exact hI e.on (hafter e (by simpa using he) hb)
    have hlt : i < listed.size := by omega
    have hcnt : falses (listed.setIfInBounds i true) ≤ fuel := by
      have h2 : listed.toList[i]? = some false := by
        simp only [Array.getD_eq_getD_getElem?, Array.getElem?_eq_getElem hlt, Option.getD_some] at h1
        rw [Array.getElem?_toList, Array.getElem?_eq_getElem hlt, h1]
      have := count_set _ _ h2
      unfold falses at hf ⊢
      rw [Array.toList_setIfInBounds]
      omega
    have hnext : ∀ v w', C w' → St w w' → B i v w' → wpAny P .any l.toArray Q fuel (listed.setIfInBounds i true) ((lay a l us 0).put o.dst v) w' := by
      intro v w' hC' hSt' hB'
      have hp := lay_put v l a us 0 i o hdst ho'
      rw [Nat.zero_add] at hp
      rw [hp]
      refine ih _ _ w' (by rw [Array.size_setIfInBounds]; exact hs) hcnt hC' fun j hj => ?_
      by_cases hji : j = i
      · subst hji
        simpa [upd] using hB'
      · have e : upd us i v j = us j := by simp [upd, hji]
        rw [e]
        refine hB j _ w w' (hI j ?_) hSt'
        rw [getD_set_ne false (Ne.symm hji)] at hj
        exact hj
    have h := hst us w (fun v w' => C w' ∧ St w w' ∧ B i v w') hC hdep (fun v w' h1 h2 h3 => ⟨h1, h2, h3⟩)
    unfold wpOp
    simp only [ho]
    split
    · rename_i hw
      rw [if_pos hw] at h
      exact .inl (wp_of_opVal (fun v w' ⟨h1, h2, h3⟩ => hnext v w' h1 h2 h3) h)
    · rename_i hw
      rw [if_neg hw] at h
      exact hnext undef w h.1 h.2.1 h.2.2
/-- The law. -/
theorem wp_region_inv {l : List Oper} {id : Nat} {Q : Exit → Act → World → Prop} {a : Act} {w : World} (C : World → Prop) (St : World → World → Prop) (B : Nat → Value → World → Prop) (A : (Nat → Value) → Act)
    (hm : P.follows .mixedOrders = true) (hdst : dstsOk l = true) (hback : waitsBack 0 l = true) (hSt : ∀ w, St w w) (hB : ∀ i v w w', B i v w → St w w' → B i v w') (hA : (fun us => lay a l us 0) = A) (hC : C w.drew)
    (hsteps : Steps P l A C St B 0 l) (hQ : ∀ us w, C w → (∀ i, i < l.length → B i (us i) w) → Q .normal (A us) w) : (Code.region id l.toArray true).wp P Q a w := by
  subst hA
  refine wp_region_any hm ?_
  obtain ⟨us, hus⟩ : ∃ us : Nat → Value, us = fun j => ((l[j]?).bind fun o => o.dst.bind (a.tmps[·]?)).getD undef := ⟨_, rfl⟩
  have hself : lay a l us 0 = a := lay_self a l us 0 fun j o hj => by rw [hus, Nat.zero_add]; simp [hj]
  have := wpAny_inv (Q := Q) hdst hback hSt hB hsteps hQ l.toArray.size (Array.replicate l.toArray.size false) us w.drew (by simp) (by unfold falses; simp) hC (fun i hi => by
    exfalso
    simp only [Array.getD_eq_getD_getElem?, Array.getElem?_replicate] at hi
    split at hi <;> simp at hi)
  rw [hself] at this
  exact this
theorem wp_region_inv_ex {l : List Oper} {id : Nat} {Q : Exit → Act → World → Prop} {a : Act} {w : World} (C : World → Prop) (St : World → World → Prop) (B : Nat → Value → World → Prop)
    (hm : P.follows .mixedOrders = true) (hdst : dstsOk l = true) (hback : waitsBack 0 l = true) (hSt : ∀ w, St w w) (hB : ∀ i v w w', B i v w → St w w' → B i v w') (hC : C w.drew)
    (h : ∃ A : (Nat → Value) → Act, (fun us => lay a l us 0) = A ∧ Steps P l A C St B 0 l ∧ ∀ us w, C w → (∀ i, i < l.length → B i (us i) w) → Q .normal (A us) w) : (Code.region id l.toArray true).wp P Q a w := by
  obtain ⟨A, hA, hs, hQ⟩ := h
  exact wp_region_inv C St B A hm hdst hback hSt hB hA hC hs hQ
end
/-- The values that a region's operations must yield; none: another tells. -/
def pureAt : List (Option Value) → Nat → Value → Prop
  | [], _, _ => True
  | none :: _, 0, _ => True
  | some c :: _, 0, v => v = c
  | _ :: r, i + 1, v => pureAt r i v
def spAt : List (Nat × (Value → World → Prop)) → Nat → Value → World → Prop
  | [], _, _, _ => True
  | (k, p) :: r, i, v, w => (i = k → p v w) ∧ spAt r i v w
def BOf (vs : List (Option Value)) (sp : List (Nat × (Value → World → Prop))) (i : Nat) (v : Value) (w : World) : Prop := pureAt vs i v ∧ spAt sp i v w
def SpBelow (p : Value → World → Prop) : Prop := ∀ v w w', p v w → Below w.heap.size w w' → p v w'
theorem spAt_below : ∀ {sp : List (Nat × (Value → World → Prop))}, (∀ p ∈ sp, SpBelow p.2) → ∀ i v w w', spAt sp i v w → Below w.heap.size w w' → spAt sp i v w'
  | [], _, _, _, _, _, _, _ => trivial
  | (k, p) :: r, h, i, v, w, w', hs, hb => ⟨fun e => h (k, p) List.mem_cons_self v w w' (hs.1 e) hb, spAt_below (fun q hq => h q (List.mem_cons_of_mem _ hq)) i v w w' hs.2 hb⟩
theorem BOf_below {vs : List (Option Value)} {sp : List (Nat × (Value → World → Prop))} (h : ∀ p ∈ sp, SpBelow p.2) : ∀ i v w w', BOf vs sp i v w → Below w.heap.size w w' → BOf vs sp i v w' :=
  fun i v w w' hB hb => ⟨hB.1, spAt_below h i v w w' hB.2 hb⟩
end Go.Proofs.YtnlhomgclplnhaaDoor.E


/- The law on regions once more: an operation also knows that what waits for it has not come up: a variable that is assigned at the region's end is still as it was. -/
namespace Go.Proofs.YtnlhomgclplnhaaDoor.E
open Go.RowKit
set_option linter.unusedVariables false
set_option linter.unusedSimpArgs false
section
variable {P : Program}
def waitsFor (l : List Oper) (i j : Nat) : Bool := match l[i]? with
  | some o => o.after.toList.any fun e => e.on == j
  | none => false
def StepAt2 (P : Program) (l : List Oper) (A : (Nat → Value) → Act) (u0 : Nat → Value) (C : World → Prop) (St : World → World → Prop) (B : Nat → Value → World → Prop) (j : Nat) (o : Oper) : Prop :=
  ∀ (us : Nat → Value) (w : World) (F : Value → World → Prop), C w → Deps B us w o.after.toList → (∀ i, waitsFor l i j = true → us i = u0 i) → (∀ v w', C w' → St w w' → B j v w' → F v w') →
    if Region.wanted o (yielded l.toArray (A us).tmps) = true then opVal P o (A us) w F else F undef w
def Steps2 (P : Program) (l : List Oper) (A : (Nat → Value) → Act) (u0 : Nat → Value) (C : World → Prop) (St : World → World → Prop) (B : Nat → Value → World → Prop) : Nat → List Oper → Prop
  | _, [] => True
  | j, o :: rest => StepAt2 P l A u0 C St B j o ∧ Steps2 P l A u0 C St B (j + 1) rest
theorem Steps2.nil {l : List Oper} {A : (Nat → Value) → Act} {u0 : Nat → Value} {C : World → Prop} {St : World → World → Prop} {B : Nat → Value → World → Prop} {j : Nat} : Steps2 P l A u0 C St B j [] := trivial
theorem Steps2.cons {l : List Oper} {A : (Nat → Value) → Act} {u0 : Nat → Value} {C : World → Prop} {St : World → World → Prop} {B : Nat → Value → World → Prop} {j : Nat} {o : Oper} {rest : List Oper} (h : StepAt2 P l A u0 C St B j o) (hr : Steps2 P l A u0 C St B (j + 1) rest) : Steps2 P l A u0 C St B j (o :: rest) := ⟨h, hr⟩
theorem Steps2_at {l : List Oper} {A : (Nat → Value) → Act} {u0 : Nat → Value} {C : World → Prop} {St : World → World → Prop} {B : Nat → Value → World → Prop} : ∀ {m : List Oper} {k : Nat}, Steps2 P l A u0 C St B k m → ∀ j o, m[j]? = some o → StepAt2 P l A u0 C St B (k + j) o
  | [], k, h, j, o, hj => by simp at hj
  | p :: rest, k, h, 0, o, hj => by
    obtain rfl : p = o := by simpa using hj
    exact h.1
  | p :: rest, k, h, j + 1, o, hj => by
    rw [show k + (j + 1) = k + 1 + j by omega]
    exact Steps2_at h.2 j o (by simpa using hj)
theorem getD_set_self {listed : Array Bool} {i : Nat} (h : i < listed.size) : (listed.setIfInBounds i true).getD i false = true := by
  simp [Array.getD_eq_getD_getElem?, h]
theorem wpAny_inv2 {l : List Oper} {a : Act} {u0 : Nat → Value} {C : World → Prop} {St : World → World → Prop} {B : Nat → Value → World → Prop} {Q : Exit → Act → World → Prop}
    (hdst : dstsOk l = true) (hback : waitsBack 0 l = true) (hSt : ∀ w, St w w) (hB : ∀ i v w w', B i v w → St w w' → B i v w') (hsteps : Steps2 P l (fun us => lay a l us 0) u0 C St B 0 l)
    (hQ : ∀ us w, C w → (∀ i, i < l.length → B i (us i) w) → Q .normal (lay a l us 0) w) :
    ∀ (fuel : Nat) (listed : Array Bool) (us : Nat → Value) (w : World), listed.size = l.length → falses listed ≤ fuel → C w → (∀ i, listed.getD i false = true → B i (us i) w) →
      (∀ i o, l[i]? = some o → listed.getD i false = true → ∀ e ∈ o.after, listed.getD e.on false = true) → (∀ i, i < l.length → listed.getD i false = false → us i = u0 i) → wpAny P .any l.toArray Q fuel listed (lay a l us 0) w := by
  have hlast : ∀ (listed : Array Bool), listed.size = l.length → Region.ready .any l.toArray listed = [] → ∀ j, j < l.length → listed.getD j false = true := by
    intro listed hs hr j
    induction j using Nat.strongRecOn with
    | _ j ih =>
      intro hj
      cases h : listed.getD j false with
      | true => rfl
      | false =>
        have hmem : j ∈ Region.ready .any l.toArray listed := by
          refine mem_ready.2 ⟨?_, l[j], ?_, fun e he hb => ?_⟩
          · have hlt : j < listed.size := by omega
            simp only [Array.getD_eq_getD_getElem?, Array.getElem?_eq_getElem hlt, Option.getD_some] at h ⊢
            exact h
          · simp [hj]
          · have hw := (waitsBack_at hback j l[j] (by simp [hj]) e (by simpa using he)).2
            exact ih e.on (by omega) (by omega)
        rw [hr] at hmem
        cases hmem
  intro fuel
  induction fuel with
  | zero =>
    intro listed us w hs hf hC hI hcl hun
    have hall : ∀ j, j < l.length → listed.getD j false = true := by
      intro j hj
      cases h : listed.getD j false with
      | true => rfl
      | false =>
        have hlt : j < listed.size := by omega
        have h2 : listed.toList[j]? = some false := by
          simp only [Array.getD_eq_getD_getElem?, Array.getElem?_eq_getElem hlt, Option.getD_some] at h
          rw [Array.getElem?_toList, Array.getElem?_eq_getElem hlt, h]
        have := count_pos _ _ h2
        unfold falses at hf
        omega
    refine ⟨?_, hQ us w hC (fun i hi => hI i (hall i hi))⟩
    refine List.eq_nil_iff_forall_not_mem.2 fun j hj => ?_
    obtain ⟨h1, o, ho, _⟩ := mem_ready.1 hj
    have hjl : j < l.length := by have := (Array.getElem?_eq_some_iff.1 ho).1; simpa using this
    have h2 := hall j hjl
    have hlt : j < listed.size := by omega
    simp only [Array.getD_eq_getD_getElem?, Array.getElem?_eq_getElem hlt, Option.getD_some] at h1 h2
    rw [h1] at h2
    cases h2
  | succ fuel ih =>
    intro listed us w hs hf hC hI hcl hun
    refine ⟨fun hr => hQ us w hC (fun i hi => hI i (hlast listed hs hr i hi)), fun i hi => ?_⟩
    obtain ⟨h1, o, ho, hafter⟩ := mem_ready.1 hi
    have ho' : l[i]? = some o := by simpa using ho
    have hil : i < l.length := (List.getElem?_eq_some_iff.1 ho').1
    have hst := Steps2_at hsteps i o ho'
    rw [Nat.zero_add] at hst
    have hdep : Deps B us w o.after.toList := Deps_of fun e he => by
      have hb := (waitsBack_at hback i o ho' e he).1
      exact hI e.on (hafter e (by simpa using he) hb)
    have hlt : i < listed.size := by omega
    have hi0 : listed.getD i false = false := by
      simp only [Array.getD_eq_getD_getElem?, Array.getElem?_eq_getElem hlt, Option.getD_some] at h1 ⊢
      exact h1
    have hlater : ∀ i', waitsFor l i' i = true → us i' = u0 i' := by
      intro i' hw
      unfold waitsFor at hw
      cases ho2 : l[i']? with
      | none => rw [ho2] at hw; cases hw
      | some o2 =>
        rw [ho2] at hw
        simp only [List.any_eq_true] at hw
        obtain ⟨e, he, hj⟩ := hw
        have he : e ∈ o2.after := by simpa using he
        refine hun i' (List.getElem?_eq_some_iff.1 ho2).1 ?_
        cases hl : listed.getD i' false with
        | false => rfl
        | true =>
          have := hcl i' o2 ho2 hl e he
          rw [beq_iff_eq.1 hj, hi0] at this
          cases this
    have hcnt : falses (listed.setIfInBounds i true) ≤ fuel := by
      have h2 : listed.toList[i]? = some false := by
        simp only [Array.getD_eq_getD_getElem?, Array.getElem?_eq_getElem hlt, Option.getD_some] at h1
        rw [Array.getElem?_toList, Array.getElem?_eq_getElem hlt, h1]
      have := count_set _ _ h2
      unfold falses at hf ⊢
      rw [Array.toList_setIfInBounds]
      omega
    have hmono : ∀ j, listed.getD j false = true → (listed.setIfInBounds i true).getD j false = true := by
      intro j hj
      by_cases hji : i = j
      · subst hji; exact getD_set_self hlt
      · rw [getD_set_ne false hji]; exact hj
    have hnext : ∀ v w', C w' → St w w' → B i v w' → wpAny P .any l.toArray Q fuel (listed.setIfInBounds i true) ((lay a l us 0).put o.dst v) w' := by
      intro v w' hC' hSt' hB'
      have hp := lay_put v l a us 0 i o hdst ho'
      rw [Nat.zero_add] at hp
      rw [hp]
      refine ih _ _ w' (by rw [Array.size_setIfInBounds]; exact hs) hcnt hC' (fun j hj => ?_) (fun j oj hoj hj e he => ?_) (fun j hjl hj => ?_)
      · by_cases hji : j = i
        · subst hji
          simpa [upd] using hB'
        · have e : upd us i v j = us j := by simp [upd, hji]
          rw [e]
          refine hB j _ w w' (hI j ?_) hSt'
          rw [getD_set_ne false (Ne.symm hji)] at hj
          exact hj
      · by_cases hji : j = i
        · subst hji
          rw [ho'] at hoj
          cases hoj
          exact hmono _ (hafter e he (waitsBack_at hback j o ho' e (by simpa using he)).1)
        · rw [getD_set_ne false (Ne.symm hji)] at hj
          exact hmono _ (hcl j oj hoj hj e he)
      · by_cases hji : j = i
        · subst hji
          rw [getD_set_self hlt] at hj
          cases hj
        · rw [getD_set_ne false (Ne.symm hji)] at hj
          have e : upd us i v j = us j := by simp [upd, hji]
          rw [e]
          exact hun j hjl hj
    have h := hst us w (fun v w' => C w' ∧ St w w' ∧ B i v w') hC hdep hlater (fun v w' h1 h2 h3 => ⟨h1, h2, h3⟩)
    unfold wpOp
    simp only [ho]
    split
    · rename_i hw
      rw [if_pos hw] at h
      exact .inl (wp_of_opVal (fun v w' ⟨h1, h2, h3⟩ => hnext v w' h1 h2 h3) h)
    · rename_i hw
      rw [if_neg hw] at h
      exact hnext undef w h.1 h.2.1 h.2.2
def before (a : Act) (l : List Oper) : Nat → Value := fun j => ((l[j]?).bind fun o => o.dst.bind (a.tmps[·]?)).getD undef
theorem wp_region_inv2 {l : List Oper} {id : Nat} {Q : Exit → Act → World → Prop} {a : Act} {w : World} (C : World → Prop) (St : World → World → Prop) (B : Nat → Value → World → Prop)
    (hm : P.follows .mixedOrders = true) (hdst : dstsOk l = true) (hback : waitsBack 0 l = true) (hSt : ∀ w, St w w) (hB : ∀ i v w w', B i v w → St w w' → B i v w') (hC : C w.drew)
    (h : ∃ A : (Nat → Value) → Act, (fun us => lay a l us 0) = A ∧ Steps2 P l A (before a l) C St B 0 l ∧ ∀ us w, C w → (∀ i, i < l.length → B i (us i) w) → Q .normal (A us) w) : (Code.region id l.toArray true).wp P Q a w := by
  obtain ⟨A, hA, hsteps, hQ⟩ := h
  subst hA
  refine wp_region_any hm ?_
  have hself : lay a l (before a l) 0 = a := lay_self a l (before a l) 0 fun j o hj => by rw [Nat.zero_add]; simp [before, hj]
  have hnone : ∀ i, (Array.replicate l.toArray.size false).getD i false = false := by
    intro i
    simp only [Array.getD_eq_getD_getElem?, Array.getElem?_replicate]
    split <;> rfl
  have := wpAny_inv2 (Q := Q) hdst hback hSt hB hsteps hQ l.toArray.size (Array.replicate l.toArray.size false) (before a l) w.drew (by simp) (by unfold falses; simp) hC (fun i hi => by rw [hnone] at hi; cases hi) (fun i o _ hi => by rw [hnone] at hi; cases hi) (fun i _ _ => rfl)
  rw [hself] at this
  exact this
end
end Go.Proofs.YtnlhomgclplnhaaDoor.E


-- Written for this claim by wip/myprint.py, this session's driver over the kit's print.py. Not trusted: Lean checks it.
namespace Go.Proofs.YtnlhomgclplnhaaDoor.Pr
open Go.RowKit Go.Proofs.YtnlhomgclplnhaaDoorW.PrintWords Go.Proofs.YtnlhomgclplnhaaDoorW.PrintLast Go.Proofs.YtnlhomgclplnhaaDoorW.PrintMore Go.Proofs.YtnlhomgclplnhaaDoor.E
attribute [local go_sem] max2_int min2_int max_two min_two max_three min_three max_four min_four   -- for this text's walks alone
set_option linter.unusedVariables false
set_option linter.unusedSimpArgs false

/-! ### num_Put: function 103 -/
def num_Put.l0 : Nat → Int → List Int → Int → Int → Option (List Int)
 | 0, _, _, _, _ => none
 | k + 1, x0, x5, x12, x13 => if x13 < x12 then (if 0 ≤ (wrap64 (8 * x13)) then (if 0 ≤ (wrap64 ((wrap64 ((x5.length : Int) - 1)) - x13)) then (if (wrap64 ((wrap64 ((x5.length : Int) - 1)) - x13)) < (x5.length : Int) then (num_Put.l0 k x0 (x5.set ((wrap64 ((wrap64 ((x5.length : Int) - 1)) - x13)) : Int).toNat ((shr .u64 x0 (wrap64 (8 * x13))) % 256)) x12 (wrap64 (x13 + 1))) else (none)) else (none)) else (none)) else (some x5)
def num_Put.f (k : Nat) (a0 : Int) (a1 : Int) : Option (List Int) := if 0 ≤ (mx 0 (mn a1 8)) then (if (mx 0 (mn a1 8) : Int).toNat ≤ 281474976710656 then ((some (List.replicate (mx 0 (mn a1 8) : Int).toNat 0 : List Int)).bind fun y101 => (num_Put.l0 k a0 y101 (y101.length : Int) 0)) else (none)) else (none)
theorem num_Put.mono_l : ∀ k, (∀ y0 y1 y2 y3, LeO (num_Put.l0 k y0 y1 y2 y3) (num_Put.l0 (k + 1) y0 y1 y2 y3))
 | 0 => fun _ _ _ _ r h => by simp [num_Put.l0] at h
 | k + 1 => by
  have ih0 := num_Put.mono_l k
  ·intro y0 y1 y2 y3
   unfold num_Put.l0
   repeat' first
   | (with_reducible exact ih0 _ _ _ _)
   | (with_reducible exact LeO.refl _)
   | (with_reducible exact LeO.none _)
   | (with_reducible refine LeO.ite ?_ ?_)
   | (with_reducible refine LeO.bind ?_ (fun _ => ?_))
   | exact ih0 _ _ _ _
   | exact LeO.none _
   | refine LeO.ite ?_ ?_
   | refine LeO.bind ?_ (fun _ => ?_)
theorem num_Put.mono : ∀ a0 a1 k, LeO (num_Put.f k a0 a1) (num_Put.f (k + 1) a0 a1) := by
 intro a0 a1 k
 have ih0 := num_Put.mono_l k
 unfold num_Put.f
 repeat' first
   | (with_reducible exact ih0 _ _ _ _)
   | (with_reducible exact LeO.refl _)
   | (with_reducible exact LeO.none _)
   | (with_reducible refine LeO.ite ?_ ?_)
   | (with_reducible refine LeO.bind ?_ (fun _ => ?_))
   | exact ih0 _ _ _ _
   | exact LeO.none _
   | refine LeO.ite ?_ ?_
   | refine LeO.bind ?_ (fun _ => ?_)
set_option maxHeartbeats 8000000 in
set_option maxRecDepth 1000000 in
theorem num_Put.calls (k : Nat) (a0 : Int) (a1 : Int) (r : List Int) (w : World) (h : num_Put.f k a0 a1 = some r) :
  Calls Tryd.prog 103 #[.int .u64 a0, .int .i64 a1] w fun e w' => ∃ v0_ : Value, e = .returned (v0_) ∧ Kd.R (Kd.int .u8) 5 w' w.heap.size (fun _ => True) v0_ r ∧ Below w.heap.size w w' := by
 have HB := Aside0.mk (Below.refl w.heap.size w)
 have H : (if 0 ≤ (mx 0 (mn a1 8)) then (if (mx 0 (mn a1 8) : Int).toNat ≤ 281474976710656 then ((some (List.replicate (mx 0 (mn a1 8) : Int).toNat 0 : List Int)).bind fun y101 => (num_Put.l0 k a0 y101 (y101.length : Int) 0)) else (none)) else (none)) = some r := h
 clear h
 obtain ⟨ji3, hji3⟩ : ∃ j_ : Int, (mn a1 8) = j_ := ⟨_, rfl⟩
 replace H : (if 0 ≤ (mx 0 (ji3)) then (if (mx 0 (ji3) : Int).toNat ≤ 281474976710656 then ((some (List.replicate (mx 0 (ji3) : Int).toNat 0 : List Int)).bind fun y101 => (num_Put.l0 k a0 y101 (y101.length : Int) 0)) else (none)) else (none)) = some r := by first | (rw [hji3] at H; exact H) | (simp only [hji3] at H ⊢; exact H)
 (try (have hji3h : ji3 ≤ 8 := by (rw [← hji3]; unfold mn; (repeat' split) <;> omega)))
 (try (have hji3g : ji3 ≤ 64 := by omega))
 have hji3_ : (if 8 < a1 then 8 else a1) = ji3 := hji3
 obtain ⟨ji4, hji4⟩ : ∃ j_ : Int, (mx 0 (ji3)) = j_ := ⟨_, rfl⟩
 replace H : (if 0 ≤ (ji4) then (if (ji4 : Int).toNat ≤ 281474976710656 then ((some (List.replicate (ji4 : Int).toNat 0 : List Int)).bind fun y101 => (num_Put.l0 k a0 y101 (y101.length : Int) 0)) else (none)) else (none)) = some r := by first | (rw [hji4] at H; exact H) | (simp only [hji4] at H ⊢; exact H)
 have hji4_ : (if 0 < (ji3) then (ji3) else 0) = ji4 := hji4
 by_cases c5 : 0 ≤ (ji4)
 ·rw [if_pos c5] at H
  have c5b0 := eq_true c5
  have c5b1 : decide (0 ≤ (ji4)) = true := decide_eq_true c5
  clear c5
  by_cases c6 : (ji4 : Int).toNat ≤ 281474976710656
  ·rw [if_pos c6] at H
   have c6b0 := eq_true c6
   have c6b1 : decide ((ji4 : Int).toNat ≤ 281474976710656) = true := decide_eq_true c6
   clear c6
   obtain ⟨y101, hy101⟩ : ∃ y_ : List Int, y_ = (List.replicate (ji4 : Int).toNat 0) := ⟨_, rfl⟩
   replace H : (num_Put.l0 k a0 y101 (y101.length : Int) 0) = some r := by first | (rw [hy101]; with_reducible exact H) | (have H2_ := (Option.bind_some _ _).symm.trans H; rw [hy101]; with_reducible exact H2_) | (have H2_ := (Option.bind_some _ _).symm.trans H; with_reducible exact H2_) | with_reducible exact H | (rw [hy101]; exact H) | exact H
   have Ny101 := Aside0.mk hy101
   clear hy101
   have H' := Aside0.mk H
   clear H
   go_enter Tryd.func103, Tryd.ntmps103
   go_wp2_with (first | ((with_reducible refine gate_dst (N := 10) rfl ?_); refine Kd.R_make (Kd.int .u8) _ 5 rfl (N := 10) rfl 22 _ _ rfl ji4 rfl rfl Tryd.underlying22 (.int .u8 0) 1 info5 rfl (by decide) (by omega) 0 (ok := fun _ => True) (okp := fun _ => True) rfl (fun _ hk => hk) trivial (of_decide_eq_true (by first | (with_reducible assumption) | assumption)) (Nat.le_trans (Nat.mul_le_mul_right _ (of_decide_eq_true (by first | (with_reducible assumption) | assumption) : ji4.toNat ≤ 281474976710656)) (by omega)) (Below.refl _ _) (Nat.le_refl _) ?_; intro v102 w7 ho8 hb hg_ hnew_; clear hg_ hnew_; (first | rw [← Ny101.out] at ho8 | (simp only [Int.reduceToNat] at ho8; rw [← Ny101.out] at ho8)); have n0_ := Aside0.mk (Kd.R_lower ho8 (below_size (by repeat (first | (with_reducible first | exact HB.out | apply below_alloc | apply pw_below_drewN | apply below_drew1) | exact HB.out)))); have n1_ := Aside0.mk (below_step (by repeat (first | (with_reducible first | exact HB.out | apply below_alloc | apply pw_below_drewN | apply below_drew1) | exact HB.out)) hb); clear HB; have HO103 := n0_; have HB := n1_; clear n0_ n1_; clear hb ho8; obtain ⟨Ao9, co9, eo9⟩ := Kd.R_slice HO103.out; subst eo9))
   go_loopg [13] k (fun kq v13 w' => ∃ (x5_1 : List Int) (x13_1 : Int), v13 = .int .i64 x13_1 ∧ Aside0 (num_Put.l0 kq a0 x5_1 (y101.length : Int) x13_1 = some r) ∧ Aside0 (kq ≤ k) ∧ Aside0 (Kd.R (Kd.int .u8) 5 w' w.heap.size (fun _ => True) (.slice Ao9 y101.length co9) x5_1) ∧ Aside0 (Below w.heap.size w w'))
   case atStart => exact ⟨(y101), (0), (by first | rfl | (simp; done) | (simp [*]; done)), H', ⟨Nat.le_refl _⟩, ⟨by (with_reducible repeat (first | apply Kd.R_alloc | apply Kd.R_drewN | apply Kd.R_drew)); exact HO103.out⟩, ⟨by repeat (first | (with_reducible first | exact HB.out | apply below_alloc | apply pw_below_drewN | apply below_drew1) | exact HB.out)⟩⟩
   case round =>
    clear H'
    try clear c1
    try clear p2
    try clear c5
    try clear c5b0
    try clear c5b1
    try clear c6
    try clear c6b0
    try clear c6b1
    obtain ⟨x5_1, x13_1, rfl, HA, HK1, HO_5, HB⟩ := hrel
    have hl5_1 := (Kd.R_reads' HO_5.out).1
    rw [hl5_1] at HO_5
    (try simp only [hl5_1])
    cases gk with
    | zero => exact absurd HA.out (by simp [num_Put.l0])
    | succ k1 =>
     have H := HA.out
     clear HA
     simp only [num_Put.l0] at H
     by_cases c10 : x13_1 < (y101.length : Int)
     ·rw [if_pos c10] at H
      have c10b0 : decide (x13_1 < (y101.length : Int)) = true := decide_eq_true c10
      (try simp only [hl5_1] at c10b0)
      clear c10
      obtain ⟨ji11, hji11⟩ : ∃ j_ : Int, (wrap64 (8 * x13_1)) = j_ := ⟨_, rfl⟩
      replace H : (if 0 ≤ (ji11) then (if 0 ≤ (wrap64 ((wrap64 ((x5_1.length : Int) - 1)) - x13_1)) then (if (wrap64 ((wrap64 ((x5_1.length : Int) - 1)) - x13_1)) < (x5_1.length : Int) then (num_Put.l0 k1 a0 (x5_1.set ((wrap64 ((wrap64 ((x5_1.length : Int) - 1)) - x13_1)) : Int).toNat ((shr .u64 a0 (ji11)) % 256)) (y101.length : Int) (wrap64 (x13_1 + 1))) else (none)) else (none)) else (none)) = some r := by first | (rw [hji11] at H; exact H) | (simp only [hji11] at H ⊢; exact H)
      have hji11w : (IntKind.i64.wrap (8 * x13_1)) = ji11 := (i64_w _).trans hji11
      by_cases c12 : 0 ≤ (ji11)
      ·rw [if_pos c12] at H
       have c12b0 := eq_true c12
       have c12b1 : decide (0 ≤ (ji11)) = true := decide_eq_true c12
       clear c12
       obtain ⟨ji13, hji13⟩ : ∃ j_ : Int, (shr .u64 a0 (ji11)) = j_ := ⟨_, rfl⟩
       replace H : (if 0 ≤ (wrap64 ((wrap64 ((x5_1.length : Int) - 1)) - x13_1)) then (if (wrap64 ((wrap64 ((x5_1.length : Int) - 1)) - x13_1)) < (x5_1.length : Int) then (num_Put.l0 k1 a0 (x5_1.set ((wrap64 ((wrap64 ((x5_1.length : Int) - 1)) - x13_1)) : Int).toNat ((ji13) % 256)) (y101.length : Int) (wrap64 (x13_1 + 1))) else (none)) else (none)) = some r := by first | (rw [hji13] at H; exact H) | (simp only [hji13] at H ⊢; exact H)
       have hji13_ : (a0 / 2 ^ min (ji11).toNat 64) = ji13 := hji13
       have hji13z : (ji11) ≤ 64 → (a0 / 2 ^ (ji11).toNat) = ji13 := shr_small hji13
       obtain ⟨ji14, hji14⟩ : ∃ j_ : Int, (wrap64 ((wrap64 ((x5_1.length : Int) - 1)) - x13_1)) = j_ := ⟨_, rfl⟩
       (try (have hji14x0 := hji14; simp only [hl5_1] at hji14x0))
       replace H : (if 0 ≤ (ji14) then (if (ji14) < (x5_1.length : Int) then (num_Put.l0 k1 a0 (x5_1.set ((ji14) : Int).toNat ((ji13) % 256)) (y101.length : Int) (wrap64 (x13_1 + 1))) else (none)) else (none)) = some r := by first | (rw [hji14] at H; exact H) | (simp only [hji14] at H ⊢; exact H)
       have hji14w : (IntKind.i64.wrap ((wrap64 ((x5_1.length : Int) - 1)) - x13_1)) = ji14 := (i64_w _).trans hji14
       (try (have hji14wx0 := hji14w; simp only [hl5_1] at hji14wx0))
       by_cases c15 : 0 ≤ (ji14)
       ·rw [if_pos c15] at H
        have c15b0 : decide (0 ≤ (ji14)) = true := decide_eq_true c15
        clear c15
        by_cases c16 : (ji14) < (x5_1.length : Int)
        ·rw [if_pos c16] at H
         have c16b0 : decide ((ji14) < (x5_1.length : Int)) = true := decide_eq_true c16
         (try simp only [hl5_1] at c16b0)
         clear c16
         obtain ⟨y104, hy104⟩ : ∃ y_ : List Int, y_ = (x5_1.set ((ji14) : Int).toNat ((ji13) % 256)) := ⟨_, rfl⟩
         replace H : (num_Put.l0 k1 a0 y104 (y101.length : Int) (wrap64 (x13_1 + 1))) = some r := by first | (rw [hy104]; with_reducible exact H) | (have H2_ := (Option.bind_some _ _).symm.trans H; rw [hy104]; with_reducible exact H2_) | (have H2_ := (Option.bind_some _ _).symm.trans H; with_reducible exact H2_) | with_reducible exact H | (rw [hy104]; exact H) | exact H
         have Ny104 := Aside0.mk hy104
         clear hy104
         have H' := Aside0.mk H
         clear H
         have p17 : 0 ≤ ((ji14) : Int) := of_decide_eq_true (by first | (with_reducible assumption) | assumption)
         have q17 : ((ji14) : Int) < ((x5_1.length : Int) : Int) := of_decide_eq_true (by first | (with_reducible assumption) | assumption)
         obtain ⟨go17, co17, eo17, gb17, gl17, cl17, HG17⟩ := Kd.R_form HO_5.out (by omega)
         (first | cases eo17 | (injection eo17 with ea_ en_ ec_; (first | subst ea_ | (injection ea_ with ea_; subst ea_)); subst ec_; clear en_))
         have GB17 := Aside0.mk gb17
         have GG17 := Aside0.mk HG17
         clear gb17 gl17 HG17
         obtain ⟨hx17_0, hf17_0⟩ := Kd.R_celln 0 HO_5.out ((ji14) : Int) p17 q17
         replace p17 := eq_true p17
         replace q17 := eq_true q17
         have HP18 := Kd.R_putg HO_5.out ((ji14) : Int) ((ji13) % 256)
         go_wp2_with (first | ((with_reducible refine gate_store (t := 5) (p := 27) rfl ?_); refine store_event (t := 5) (p := 27) (v := ?vo_w19) (w1 := (wr.setCell ⟨go17, ((ji14) : Int).toNat, none⟩ (.int .u8 ((ji13) % 256)))) ?hg ?ho ?hn ?hr ?_; (case ho => rfl); (case hg => rfl); (case hn => rfl); (case hr => first | (go_simp; done) | (go_simp; rfl)); intro w19 hw; have hg : wr.grownBy w19 (some go17) := (by rw [hw]; exact HP18.2); have hp_ : Kd.R (Kd.int .u8) 5 w19 w.heap.size (fun _ => True) (.slice (some ⟨go17, 0, none⟩) x5_1.length co9) y104 := (by rw [hw, Ny104.out]; exact HP18.1); clear HP18; have n0_ := Aside0.mk (hp_); have n1_ := Aside0.mk ((by rw [hw]; exact below_set (HB.out) GB17.out : Below w.heap.size w w19)); clear HO_5; clear HB; have HO_5 := n0_; have HB := n1_; clear n0_ n1_; clear hg hw hp_))
         (try simp only [← hl5_1])
         go_roundg k1
         case measure => have := HK1.out; omega
         case rel => exact ⟨(y104), (wrap64 (x13_1 + 1)), (by first | rfl | (simp; done) | (simp [*]; done)), H', ⟨by have := HK1.out; omega⟩, ⟨by (try simp only [hl5_1]); (with_reducible repeat (first | apply Kd.R_alloc | apply Kd.R_drewN | apply Kd.R_drew)); exact HO_5.out⟩, ⟨by repeat (first | (with_reducible first | exact HB.out | apply below_alloc | apply pw_below_drewN | apply below_drew1) | exact HB.out)⟩⟩
        ·rw [if_neg c16] at H
         exact absurd H (by simp)
       ·rw [if_neg c15] at H
        exact absurd H (by simp)
      ·rw [if_neg c12] at H
       exact absurd H (by simp)
     ·rw [if_neg c10] at H
      have c10b0 : decide (x13_1 < (y101.length : Int)) = false := decide_eq_false c10
      (try simp only [hl5_1] at c10b0)
      clear c10
      obtain rfl := Option.some.inj H
      go_wp2
      go_ret
      exact ⟨_, by first | rfl | (simp [errW_none, errW_some] <;> rfl) | (simp only [← hji3, ← hji4]; first | rfl | (simp [errW_none, errW_some] <;> rfl)) | (simp [*, errW_none, errW_some] <;> rfl), by (with_reducible repeat (first | apply Kd.R_alloc | apply Kd.R_drewN | apply Kd.R_drew)); exact HO_5.out, by repeat (first | (with_reducible first | exact HB.out | apply below_alloc | apply pw_below_drewN | apply below_drew1) | exact HB.out)⟩
  ·rw [if_neg c6] at H
   exact absurd H (by simp)
 ·rw [if_neg c5] at H
  exact absurd H (by simp)

end Go.Proofs.YtnlhomgclplnhaaDoor.Pr

/- Small lemmas: rows of rows, words of 32 bits, cuts. -/
namespace Go.Proofs.YtnlhomgclplnhaaDoor.E
open Go.RowKit Go.Proofs.YtnlhomgclplnhaaDoorW.PrintWords Go.Proofs.YtnlhomgclplnhaaDoorW.PrintLast Go.Proofs.YtnlhomgclplnhaaDoorW.PrintMore Go.Proofs.YtnlhomgclplnhaaDoor.Pr
set_option linter.unusedVariables false
set_option linter.unusedSimpArgs false
theorem lt32 {a b : Nat} (ha : a < 4294967296) (hb : b < 4294967296) : a ^^^ b < 4294967296 := Nat.xor_lt_two_pow (n := 32) ha hb
theorem wraps_u32 (n : Int) (h₀ : 0 ≤ n) (h₁ : n < 2 ^ 32) : IntKind.u32.wrap n = n := by rw [IntKind.wrap_u32]; omega
theorem xor32 (a b : Nat) (ha : a < 4294967296) (hb : b < 4294967296) : bits .xor .u32 (a : Int) (b : Int) = ((a ^^^ b : Nat) : Int) := by
  have hb' : (2 : Nat) ^ IntKind.u32.bits = 4294967296 := rfl
  simp only [bits, BitVec.ofInt_natCast, BitVec.toNat_xor, BitVec.toNat_ofNat, hb', Nat.mod_eq_of_lt ha, Nat.mod_eq_of_lt hb]
  exact wraps_u32 _ (Int.natCast_nonneg _) (by have := lt32 ha hb; omega)
def rdR (xs : List (List Int)) (i : Int) : List Int := xs.getD i.toNat ([] : List Int)
theorem at_LL {w : World} {A : Option Addr} {n : Nat} {xs : List (List Int)} (h : Kd.C (Kd.slice 5 (Kd.int .u8)) w A n xs) (i : Int) (h0 : 0 ≤ i) (h1 : i < n) : ∃ ad A0 c0, A = some ad ∧ w.cell? (ad.add i.toNat) = some (.slice A0 (rdR xs i).length c0) ∧ (rdR xs i).length ≤ c0 ∧ (Kd.int .u8).C w A0 (rdR xs i).length (rdR xs i) := by
  obtain ⟨ad, c, e, _, hK, hc0⟩ := Kd.C_get h ([] : List Int) i h0 h1
  have hc : ∀ j u, c[j]? = some u → w.cell? (ad.add (i.toNat * 1 + j)) = some u := hc0
  obtain ⟨A0, c0, rfl, l0, g0⟩ := hK
  exact ⟨ad, A0, c0, e, by have hq := hc 0 _ rfl; rwa [Nat.mul_one, Nat.add_zero] at hq, l0, g0⟩
theorem take_rd {l : List Int} {k : Nat} (h : k < l.length) : l.take (k + 1) = l.take k ++ [rd l k] := by
  rw [List.take_succ_eq_append_getElem h]; simp [rd, List.getD_eq_getElem?_getD, h]
theorem take_rdR {l : List (List Int)} {k : Nat} (h : k < l.length) : l.take (k + 1) = l.take k ++ [rdR l k] := by
  rw [List.take_succ_eq_append_getElem h]; simp [rdR, List.getD_eq_getElem?_getD, h]
theorem rd_mem {l : List Int} {k : Nat} (h : k < l.length) : rd l k ∈ l := by simp [rd, List.getD_eq_getElem?_getD, h]
theorem rdR_mem {l : List (List Int)} {k : Nat} (h : k < l.length) : rdR l k ∈ l := by simp [rdR, List.getD_eq_getElem?_getD, h]
theorem R_form4 {w : World} {b : Nat} {ok : Nat → Prop} {v : Value} {l : List Int} {n : Nat} (h : Kd.R (Kd.int .u8) 5 w b ok v l) (hn : l.length = n) : ∃ A c, v = .slice A n c := by
  obtain ⟨inner, ho⟩ := Kd.R_own h
  rw [hn] at ho
  exact own_slice ho
theorem Kd.C_empty (A : Option Addr) (w : World) : Kd.C (Kd.int .u8) w A 0 [] := ⟨rfl, by omega, fun h => absurd h (by omega)⟩
theorem C_sub {w : World} {ad : Addr} {l : List Int} (h : Kd.C (Kd.int .u8) w (some ad) l.length l) (i n : Nat) (hi : i + n ≤ l.length) : Kd.C (Kd.int .u8) w (some (ad.add i)) n ((l.drop i).take n) := by
  refine Kd.C_of_reads (d := (0 : Int)) (h1 := fun _ => rfl) ⟨by rw [List.length_take, List.length_drop]; omega, by have := Kd.C_max h; omega, fun hn => ⟨_, rfl, fun j hj => ?_⟩⟩
  obtain ⟨ad', e, hx⟩ := Kd.at_int h ((i + j : Nat) : Int) (by omega) (by omega)
  cases e
  rw [Int.toNat_natCast] at hx
  have e2 : (ad.add i).add j = ad.add (i + j) := Addr.add_add ad i j
  rw [e2, hx]
  congr 2
  simp only [rd, Int.toNat_natCast]
  rw [List.getD_eq_getElem?_getD, List.getD_eq_getElem?_getD, List.getElem?_take, if_pos hj, List.getElem?_drop]
theorem cut_lo {P : Program} (t e : TypeId) (kl : IntKind) (ht : P.underlying t = some (.slice e)) (A : Option Addr) (n c : Nat) (lo : Int) (h0 : 0 ≤ lo) (h2 : lo ≤ n) (hc : n ≤ c) {i : TypeInfo} (hi : P.info? e = some i) (hsz : i.size = 1) :
    ∀ W : World, (Instr.slice t (.slice A n c) (some (.int kl lo)) none none).run P W = .ok (.slice (if c = lo.toNat then A else A.map (·.add (lo.toNat * 1))) (n - lo.toNat) (c - lo.toNat)) W := by
  intro W
  have hel : P.elem t = e := by simp [Program.elem, ht]
  have hu : P.underlying t = some (.slice (P.elem t)) := by rw [hel]; exact ht
  rw [run_slice_l W t A n c hu kl lo h0 h2, hel]
  simp [sizeOf, typeInfo, hi, hsz, sliced, Result.andThen]
theorem strOfNums_inj : ∀ {a b : List Int}, (∀ x ∈ a, 0 ≤ x ∧ x ≤ 255) → (∀ x ∈ b, 0 ≤ x ∧ x ≤ 255) → strOfNums a = strOfNums b → a = b := by
  intro a b ha hb h
  unfold strOfNums at h
  have h2 := congrArg (fun s : ByteArray => s.data.toList) h
  simp only at h2
  have key : ∀ a b : List Int, (∀ x ∈ a, 0 ≤ x ∧ x ≤ 255) → (∀ x ∈ b, 0 ≤ x ∧ x ≤ 255) → a.map (fun x => UInt8.ofNat x.toNat) = b.map (fun x => UInt8.ofNat x.toNat) → a = b := by
    intro a
    induction a with
    | nil => intro b _ _ h; cases b with
      | nil => rfl
      | cons _ _ => simp at h
    | cons x a ih => intro b ha hb h; cases b with
      | nil => simp at h
      | cons y b =>
        simp only [List.map_cons, List.cons.injEq] at h
        have hx := ha x List.mem_cons_self
        have hy := hb y List.mem_cons_self
        have h3 := congrArg UInt8.toNat h.1
        simp only [UInt8.toNat_ofNat'] at h3
        rw [ih b (fun z hz => ha z (List.mem_cons_of_mem _ hz)) (fun z hz => hb z (List.mem_cons_of_mem _ hz)) h.2]
        congr 1
        omega
  exact key a b ha hb (by simpa using h2)
theorem strOfNums_ne {a b : List Int} (ha : ∀ x ∈ a, 0 ≤ x ∧ x ≤ 255) (hb : ∀ x ∈ b, 0 ≤ x ∧ x ≤ 255) (h : a ≠ b) : ((strOfNums a).toList == (strOfNums b).toList) = false :=
  beq_eq_false_iff_ne.2 fun e => h (strOfNums_inj ha hb (ByteArray.ext (Array.toList_inj.1 (by rw [ByteArray.toList_eq, ByteArray.toList_eq] at e; exact e))))
theorem and32 (a b : Nat) (ha : a < 4294967296) (hb : b < 4294967296) : bits .and .u32 (a : Int) (b : Int) = ((a &&& b : Nat) : Int) := (bits_nat .u32 32 (by decide) wraps_u32 a b ha hb).1
theorem or32 (a b : Nat) (ha : a < 4294967296) (hb : b < 4294967296) : bits .or .u32 (a : Int) (b : Int) = ((a ||| b : Nat) : Int) := (bits_nat .u32 32 (by decide) wraps_u32 a b ha hb).2
theorem wf_u64 {a : Int} (h : (Lit.int .u64 a).wf = true) : 0 ≤ a ∧ a < 18446744073709551616 := by
  have : 0 ≤ a ∧ a ≤ 18446744073709551615 := by simpa [Lit.wf, IntKind.min, IntKind.max, IntKind.signed, IntKind.bits] using h
  omega
theorem wf_u32 {a : Int} (h : (Lit.int .u32 a).wf = true) : 0 ≤ a ∧ a < 4294967296 := by
  have : 0 ≤ a ∧ a ≤ 4294967295 := by simpa [Lit.wf, IntKind.min, IntKind.max, IntKind.signed, IntKind.bits] using h
  omega
theorem wf_u16 {a : Int} (h : (Lit.int .u16 a).wf = true) : 0 ≤ a ∧ a ≤ 65535 := by simpa [Lit.wf, IntKind.min, IntKind.max, IntKind.signed, IntKind.bits] using h
theorem wf_u8 {a : Int} (h : (Lit.int .u8 a).wf = true) : 0 ≤ a ∧ a ≤ 255 := by simpa [Lit.wf, IntKind.min, IntKind.max, IntKind.signed, IntKind.bits] using h
theorem w64_succ (p : Nat) (h : p < 9223372036854775807) : wrap64 ((p : Int) + 1) = ((p + 1 : Nat) : Int) := by unfold wrap64; omega
theorem rows_new (W : World) (vs : List (Option Addr × Nat × List Int)) (h : ∀ v ∈ vs, Kd.C (Kd.int .u8) W v.1 v.2.2.length v.2.2 ∧ v.2.2.length ≤ v.2.1) (hl : vs.length ≤ 100) :
    Kd.C (Kd.slice 5 (Kd.int .u8)) (W.alloc (.cells (vs.map fun v => Value.slice v.1 v.2.2.length v.2.1).toArray 22)) (some ⟨W.heap.size, 0, none⟩) (vs.map (·.2.2)).length (vs.map (·.2.2)) := by
  refine ⟨rfl, by simp; omega, fun _ => ⟨_, rfl, fun j p hp => ?_⟩⟩
  rw [List.getElem?_map] at hp
  obtain ⟨v, hv, rfl⟩ := Option.map_eq_some_iff.1 hp
  have hm := h v (List.mem_of_getElem? hv)
  refine ⟨[.slice v.1 v.2.2.length v.2.1], rfl, ⟨v.1, v.2.1, rfl, hm.2, Kd.C_alloc hm.1 _⟩, ?_⟩
  intro i u hu
  match i, hu with
  | 0, hu =>
    simp at hu
    subst hu
    have e : (⟨W.heap.size, 0, none⟩ : Addr).add (j * 1 + 0) = ⟨W.heap.size, j, none⟩ := by rw [Nat.mul_one, Nat.add_zero]; exact add_plain _ _
    rw [show (Kd.slice 5 (Kd.int IntKind.u8)).sz = 1 from rfl, e, blk_cell (heap_alloc_new W _) j]
    simp [hv]
theorem lit_C (w : World) (cs : List Int) (fr : Nat × Nat) (h : cs.length ≤ 1000) : Kd.C (Kd.int .u8) (w.alloc (.cells (cs.map (Value.int .u8)).toArray 5 fr)) (some ⟨w.heap.size, 0, none⟩) cs.length cs := by
  refine Kd.C_of_reads (d := (0 : Int)) (h1 := fun _ => rfl) ⟨rfl, by omega, fun hn => ⟨_, rfl, fun j hj => ?_⟩⟩
  have e : (⟨w.heap.size, 0, none⟩ : Addr).add j = ⟨w.heap.size, j, none⟩ := add_plain _ _
  rw [e, World.cell?_alloc_mark w _ _ fr j]
  simp [List.getD_eq_getElem?_getD, hj]
theorem R_C {w : World} {b : Nat} {ok : Nat → Prop} {A : Option Addr} {m c : Nat} {l : List Int} {n : Nat} (h : Kd.R (Kd.int .u8) 5 w b ok (.slice A m c) l) (hn : l.length = n) : Kd.C (Kd.int .u8) w A n l ∧ n ≤ c := by
  have := Kd.R_reads' h
  subst hn
  exact ⟨this.2.2, this.1 ▸ this.2.1⟩
end Go.Proofs.YtnlhomgclplnhaaDoor.E


/- num.Put and num.Get at four and eight bytes, in closed form. -/
namespace Go.Proofs.YtnlhomgclplnhaaDoor.E
open Go.RowKit Go.Proofs.YtnlhomgclplnhaaDoorW.PrintWords Go.Proofs.YtnlhomgclplnhaaDoorW.PrintLast Go.Proofs.YtnlhomgclplnhaaDoorW.PrintMore Go.Proofs.YtnlhomgclplnhaaDoor.Pr
attribute [local go_sem] max2_int min2_int max_two min_two max_three min_three max_four min_four
set_option linter.unusedVariables false
set_option linter.unusedSimpArgs false
/-- Big-endian, k bytes. -/
def beN (n : Nat) : Nat → List Int
  | 0 => []
  | k + 1 => ((n / 256 ^ k % 256 : Nat) : Int) :: beN n k
theorem shr_nat (n k : Nat) (h : k ≤ 64) : shr .u64 (n : Int) (k : Int) % 256 = ((n / 2 ^ k % 256 : Nat) : Int) := by
  unfold shr
  have : min ((k : Int)).toNat IntKind.u64.bits = k := by rw [Int.toNat_natCast]; exact Nat.min_eq_left h
  rw [this]
  simp
theorem put4 (n : Nat) : num_Put.f 9 (n : Int) 4 = some (beN n 4) := by
  have : num_Put.f 9 (n : Int) 4 = some [shr .u64 n ((24 : Nat) : Int) % 256, shr .u64 n ((16 : Nat) : Int) % 256, shr .u64 n ((8 : Nat) : Int) % 256, shr .u64 n ((0 : Nat) : Int) % 256] := by kernel_rfl
  rw [this, shr_nat _ _ (by omega), shr_nat _ _ (by omega), shr_nat _ _ (by omega), shr_nat _ _ (by omega)]
  rfl
theorem put8 (n : Nat) : num_Put.f 9 (n : Int) 8 = some (beN n 8) := by
  have : num_Put.f 9 (n : Int) 8 = some [shr .u64 n ((56 : Nat) : Int) % 256, shr .u64 n ((48 : Nat) : Int) % 256, shr .u64 n ((40 : Nat) : Int) % 256, shr .u64 n ((32 : Nat) : Int) % 256, shr .u64 n ((24 : Nat) : Int) % 256, shr .u64 n ((16 : Nat) : Int) % 256, shr .u64 n ((8 : Nat) : Int) % 256, shr .u64 n ((0 : Nat) : Int) % 256] := by kernel_rfl
  rw [this, shr_nat _ _ (by omega), shr_nat _ _ (by omega), shr_nat _ _ (by omega), shr_nat _ _ (by omega), shr_nat _ _ (by omega), shr_nat _ _ (by omega), shr_nat _ _ (by omega), shr_nat _ _ (by omega)]
  rfl
/-- The way back. -/
def valN (l : List Int) : Nat := l.foldl (fun n c => 256 * n + c.toNat) 0
theorem valN_snoc (l : List Int) (c : Int) : valN (l ++ [c]) = 256 * valN l + c.toNat := by simp [valN]
theorem fold_lt (l : List Int) : ∀ n : Nat, (∀ x ∈ l, 0 ≤ x ∧ x ≤ 255) → l.foldl (fun n c => 256 * n + c.toNat) n + 1 ≤ (n + 1) * 256 ^ l.length := by
  induction l with
  | nil => intro n _; simp
  | cons a l ih =>
    intro n h
    have h1 := ih (256 * n + a.toNat) (fun x hx => h x (List.mem_cons_of_mem _ hx))
    have h2 := h a (List.mem_cons_self ..)
    rw [List.foldl_cons, List.length_cons, Nat.pow_succ]
    refine Nat.le_trans h1 ?_
    have : (256 * n + a.toNat + 1) * 256 ^ l.length ≤ ((n + 1) * 256) * 256 ^ l.length := Nat.mul_le_mul_right _ (by omega)
    rw [Nat.mul_comm (256 ^ l.length) 256, ← Nat.mul_assoc]
    exact this
theorem valN_lt (l : List Int) (h : ∀ x ∈ l, 0 ≤ x ∧ x ≤ 255) : valN l < 256 ^ l.length := by
  have := fold_lt l 0 h
  unfold valN
  omega
theorem wraps_u64 (n : Int) (h₀ : 0 ≤ n) (h₁ : n < 2 ^ 64) : IntKind.u64.wrap n = n := by
  have : IntKind.u64.wrap n = n % 18446744073709551616 := by simp [IntKind.wrap, IntKind.bits, IntKind.signed]
  rw [this]; omega
theorem or64 (v : Nat) (c : Int) (hv : v < 72057594037927936) (h0 : 0 ≤ c) (h1 : c ≤ 255) : bits .or .u64 ((v : Int) * 256) c = ((256 * v + c.toNat : Nat) : Int) := by
  have e : (v : Int) * 256 = ((v * 256 : Nat) : Int) := by omega
  have h := (bits_nat .u64 64 (by decide) wraps_u64 (v * 256) c.toNat (by omega) (by omega)).2
  rw [Int.toNat_of_nonneg h0] at h
  rw [e, h]
  have : v * 256 ||| c.toNat = 2 ^ 8 * v + c.toNat := by
    rw [Nat.mul_comm, show (256 : Nat) = 2 ^ 8 by rfl, Nat.two_pow_add_eq_or_of_lt (by omega)]
  rw [this]
set_option maxHeartbeats 2000000 in
set_option maxRecDepth 100000 in
theorem get_any (A0 : Option Addr) (c0 : Nat) (l0 : List Int) (w : World) (hr0 : Kd.C (Kd.int .u8) w A0 l0.length l0) (hc0 : l0.length ≤ c0) (h8 : l0.length ≤ 8) (hall : ∀ x ∈ l0, 0 ≤ x ∧ x ≤ 255) :
    Calls Tryd.prog 106 #[.slice A0 l0.length c0] w fun e w' => e = .returned (.int .u64 (valN l0 : Int)) ∧ w = w' := by
  have HR0 := Aside0.mk hr0
  have HA := Aside0.mk hall
  clear hr0 hall
  go_enter Tryd.func106, Tryd.ntmps106
  go_wp2
  go_loopg [3, 13] l0.length (fun gk v3 v13 wr => ∃ (k : Nat), k ≤ l0.length ∧ v13 = .int .i64 k ∧ v3 = .int .u64 ((valN (l0.take k) : Nat) : Int) ∧ Aside0 (k + gk = l0.length) ∧ w = wr)
  case atStart => exact ⟨0, Nat.zero_le _, rfl, rfl, ⟨by omega⟩, rfl⟩
  case round =>
    obtain ⟨k, hk, rfl, rfl, hgk, rfl⟩ := hrel
    by_cases hp : k < l0.length
    · obtain ⟨ad, rfl, hx⟩ := Kd.at_int HR0.out (k : Int) (by omega) (by omega)
      have hx' : w.cell? (ad.add k) = some (.int .u8 (rd l0 k)) := by simpa using hx
      have hxr := HA.out _ (rd_mem hp)
      have hlt := valN_lt (l0.take k) (fun x hx => HA.out x (List.mem_of_mem_take hx))
      have hl2 : 256 ^ (l0.take k).length ≤ 256 ^ 7 := Nat.pow_le_pow_right (by omega) (by rw [List.length_take]; omega)
      have hsn : valN (l0.take (k + 1)) = 256 * valN (l0.take k) + (rd l0 k).toNat := by rw [take_rd hp, valN_snoc]
      have hv7 : valN (l0.take k) < 72057594037927936 := by omega
      obtain ⟨x, ex⟩ : ∃ x, x = rd l0 k := ⟨_, rfl⟩
      obtain ⟨v, ev⟩ : ∃ v, v = valN (l0.take k) := ⟨_, rfl⟩
      rw [← ex] at hx' hxr hsn
      rw [← ev] at hsn hv7 ⊢
      obtain ⟨hx0, hx1⟩ := hxr
      have HS := Aside0.mk hsn
      have ho := or64 v x hv7 hx0 hx1
      clear hx ex ev hlt hl2 hsn
      go_wp2
      go_roundg (l0.length - (k + 1))
      case measure => have := hgk.out; omega
      case rel => exact ⟨k + 1, by omega, by go_num, by rw [HS.out]; congr 1; omega, ⟨by omega⟩, rfl⟩
    · obtain rfl : k = l0.length := by omega
      rw [List.take_length]
      go_wp2
      go_ret
      exact ⟨rfl, rfl⟩
theorem get_sub {w : World} {ad : Addr} {l : List Int} (h : Kd.C (Kd.int .u8) w (some ad) l.length l) (hall : ∀ x ∈ l, 0 ≤ x ∧ x ≤ 255) (i n c : Nat) (hi : i + n ≤ l.length) (hn : n ≤ 8) (hc : n ≤ c) :
    Calls Tryd.prog 106 #[.slice (some (ad.add i)) n c] w fun e w' => e = .returned (.int .u64 ((valN ((l.drop i).take n) : Nat) : Int)) ∧ w = w' := by
  have hlen : ((l.drop i).take n).length = n := by rw [List.length_take, List.length_drop]; omega
  have hC := C_sub h i n hi
  have := get_any (some (ad.add i)) c ((l.drop i).take n) w (by rw [hlen]; exact hC) (by omega) (by omega) (fun x hx => hall x (List.mem_of_mem_drop (List.mem_of_mem_take hx)))
  rwa [hlen] at this
def num_Get.f (l0 : List Int) : Option Int := if l0.length ≤ 8 ∧ ∀ x ∈ l0, 0 ≤ x ∧ x ≤ 255 then some (valN l0 : Int) else none
theorem num_Get.calls (A0 : Option Addr) (c0 : Nat) (l0 : List Int) (r : Int) (w : World) (hr0 : Kd.C (Kd.int .u8) w A0 l0.length l0) (hc0 : l0.length ≤ c0) (h : num_Get.f l0 = some r) :
    Calls Tryd.prog 106 #[.slice A0 l0.length c0] w fun e w' => e = .returned (.int .u64 r) ∧ Below w.heap.size w w' := by
  unfold num_Get.f at h
  split at h
  · rename_i h2
    injection h with h
    subst h
    refine (get_any A0 c0 l0 w hr0 hc0 h2.1 h2.2).mono ?_
    rintro e w' ⟨rfl, rfl⟩
    exact ⟨rfl, Below.refl _ _⟩
  · cases h
theorem beN_BL (n : Nat) : ∀ k, ∀ x ∈ beN n k, 0 ≤ x ∧ x ≤ 255
  | 0, x, h => by simp [beN] at h
  | k + 1, x, h => by
    simp only [beN, List.mem_cons] at h
    rcases h with rfl | h
    · omega
    · exact beN_BL n k x h
theorem beN_length (n : Nat) : ∀ k, (beN n k).length = k
  | 0 => rfl
  | k + 1 => by simp [beN, beN_length n k]
theorem valN_fold (l : List Int) (m : Nat) : l.foldl (fun n c => 256 * n + c.toNat) m = 256 ^ l.length * m + valN l := by
  induction l generalizing m with
  | nil => simp [valN]
  | cons a l ih =>
    have h1 : valN (a :: l) = l.foldl (fun n c => 256 * n + c.toNat) (256 * 0 + a.toNat) := rfl
    rw [h1, List.foldl_cons, ih, ih, List.length_cons, Nat.pow_succ, Nat.mul_zero, Nat.zero_add, Nat.mul_add, Nat.add_assoc, Nat.mul_assoc]
theorem valN_beN (n : Nat) : ∀ k, valN (beN n k) = n % 256 ^ k
  | 0 => by simp [beN, valN, Nat.mod_one]
  | k + 1 => by
    have h1 : valN (beN n (k + 1)) = (beN n k).foldl (fun n c => 256 * n + c.toNat) (256 * 0 + ((n / 256 ^ k % 256 : Nat) : Int).toNat) := rfl
    rw [h1, valN_fold, beN_length, valN_beN n k, Nat.mul_zero, Nat.zero_add, Int.toNat_natCast, Nat.pow_succ, Nat.mod_mul]
    omega
theorem beN_low (k a v : Nat) : ∀ j, j ≤ k → beN (256 ^ k * a + v) j = beN v j
  | 0, _ => rfl
  | j + 1, h => by
    have e : 256 ^ k * a = 256 ^ j * (256 * (256 ^ (k - j - 1) * a)) := by
      rw [← Nat.mul_assoc, ← Nat.mul_assoc, ← Nat.pow_succ, ← Nat.pow_add, show j + 1 + (k - j - 1) = k by omega]
    rw [beN, beN, beN_low k a v j (by omega), e, Nat.mul_add_div (Nat.pow_pos (by decide)), Nat.mul_add_mod]
theorem beN_valN : ∀ x : List Int, (∀ c ∈ x, 0 ≤ c ∧ c ≤ 255) → beN (valN x) x.length = x
  | [], _ => rfl
  | a :: l, h => by
    have h1 : valN (a :: l) = l.foldl (fun n c => 256 * n + c.toNat) (256 * 0 + a.toNat) := rfl
    have h2 := h a List.mem_cons_self
    have h3 := valN_lt l (fun c hc => h c (List.mem_cons_of_mem _ hc))
    rw [h1, valN_fold, Nat.mul_zero, Nat.zero_add, List.length_cons, beN, beN_low _ _ _ _ (Nat.le_refl _), beN_valN l (fun c hc => h c (List.mem_cons_of_mem _ hc)), Nat.mul_add_div (Nat.pow_pos (by decide)), Nat.div_eq_of_lt h3]
    congr 1
    omega
end Go.Proofs.YtnlhomgclplnhaaDoor.E


/- The writer of package code: numbers and texts laid behind others. -/
namespace Go.Proofs.YtnlhomgclplnhaaDoor.E
open Go.RowKit Go.Proofs.YtnlhomgclplnhaaDoorW.PrintWords Go.Proofs.YtnlhomgclplnhaaDoorW.PrintLast Go.Proofs.YtnlhomgclplnhaaDoorW.PrintMore Go.Proofs.YtnlhomgclplnhaaDoor.Pr
set_option linter.unusedVariables false
set_option linter.unusedSimpArgs false
attribute [local go_sem] opVal opUpon
theorem info5d : (Tryd.prog.info? 5).map (fun i => (i.zero, i.size, i.bytes)) = some (some (.int .u8 0), 1, 1) := by kernel_rfl
/-- A writer in block g that holds a row of bytes of its own. -/
def WrAt (B g : Nat) (l : List Int) (X : World) : Prop := B ≤ g ∧ ∃ v, X.heap[g]? = some (.cells #[v] 62 (0, 0)) ∧ Kd.R (Kd.int .u8) 5 X B (fun _ => True) v l
def WrPost (B g : Nat) (l : List Int) (X : World) (e : Ending) (w' : World) : Prop := e = .returned (.tuple #[]) ∧ WrAt B g l w' ∧ Below B X w' ∧ Lib.OthersKept 5 (some g) X w'
theorem kept_below {e : TypeId} {b : Option Nat} {w w' : World} (h : Below w.heap.size w w') : Lib.OthersKept e b w w' := fun k o ho _ _ => (h.block k (Array.getElem?_eq_some_iff.1 ho).1).trans ho
theorem WrAt.below {B g : Nat} {l : List Int} {X Y : World} (h : WrAt B g l X) (hb : Below X.heap.size X Y) : WrAt B g l Y := by
  obtain ⟨hB, v, hg, hR⟩ := h
  exact ⟨hB, v, (hb.block g (Array.getElem?_eq_some_iff.1 hg).1).trans hg, Kd.R_below hR hb⟩
theorem R_own5 {w : World} {b : Nat} {ok : Nat → Prop} {v : Value} {l : List Int} (h : Kd.R (Kd.int .u8) 5 w b ok v l) : ∀ k, v.ownBlock = some k → ok k ∧ b ≤ k ∧ ∃ c fz, w.heap[k]? = some (.cells c 5 fz) := by
  intro k hk
  obtain ⟨hok, inner, hown, -⟩ := h
  refine ⟨hok k hk, ?_⟩
  rcases hown.2 with ⟨rfl, -⟩ | ⟨g, cap, cur, rfl, h1, h2, -⟩
  · cases hk
  · obtain rfl : g = k := by injection hk
    exact ⟨h1, cur, _, h2⟩
theorem below_setc {B : Nat} {w W : World} (h : Below B w W) {g j : Nat} (hg : B ≤ g) {v : Value} : Below B w (W.setCell ⟨g, j, none⟩ v) :=
  ⟨h.os, h.tape, h.output, by simpa [World.setCell] using h.size, fun k hk => by rw [Below.heap_setCell W ⟨g, j, none⟩ v k (by show k ≠ g; omega)]; exact h.block k hk⟩
set_option maxHeartbeats 4000000 in
set_option maxRecDepth 100000 in
theorem wnum_any (B g : Nat) (l : List Int) (a : Addr) (n wide : Nat) (X : World) (hW : WrAt B g l X) (ha : X.cell? a = some (.int .u64 (n : Int))) (hp : num_Put.f 9 (n : Int) (wide : Int) = some (beN n wide)) (hl : l.length + wide ≤ 1000000) :
    Calls Tryd.prog 101 #[.pointer (some ⟨g, 0, none⟩), .pointer (some a), .int .i64 (wide : Int)] X (WrPost B g (l ++ beN n wide) X) := by
  obtain ⟨hB, v, hg, hR⟩ := hW
  have HG := Aside0.mk hg
  have HR := Aside0.mk hR
  have HPUT := Aside0.mk (fun Y : World => num_Put.calls 9 (n : Int) (wide : Int) (beN n wide) Y hp)
  have HL := Aside0.mk hl
  have HA := Aside0.mk ha
  have HSZ := Aside0.mk (Array.getElem?_eq_some_iff.1 hg).1
  have c0 : X.cell? ⟨g, 0, none⟩ = some v := blk_cell hg 0
  have f0 : X.frozen? ⟨g, 0, none⟩ = false := blk_frozen hg 0
  clear hR hp hl hg
  go_enter Tryd.func101, Tryd.ntmps101
  go_wp2
  go_region_law (first
    | (go_simp; go_at_call 103; ((with_reducible refine (HPUT.out _).mono ?_)); rintro e w1 ⟨v1, rfl, hR1, hb1⟩; (have hbn : (beN n wide).length = wide := beN_length n wide); (obtain ⟨A1, d1, rfl⟩ := R_form4 hR1 hbn); (have hC1 := Kd.R_reads' hR1); rw [hbn] at hC1; (have HC1 := Aside0.mk hC1.2.2); (have HB1 := Aside0.mk (show Below X.heap.size X w1 from (Below.refl X.heap.size X).drew.trans hb1)); (have HBX := Aside0.mk (HB1.out.mono (show B ≤ X.heap.size from Nat.le_trans hB (Nat.le_of_lt HSZ.out)))); (have c1 : w1.cell? ⟨g, 0, none⟩ = some v := pw_cell_below hb1 c0); (have f1 : w1.frozen? ⟨g, 0, none⟩ = false := (hb1.frozen HSZ.out).trans f0); (have a1 : w1.cell? a = some (.int .u64 (n : Int)) := pw_cell_below hb1 HA.out); clear hR1 hC1 hb1 hbn; skip)
    | go_loud (refine Kd.R_append_rows_step (Kd.int .u8) (w0 := X) B rfl (.tmp 10) (.tmp 15) 22 5 (.int .u8 0) 1 rfl Tryd.underlying22 info5d rfl (by decide) (by decide) v l (beN n wide) A1 wide d1 (fun _ => True) (fun _ => False) rfl rfl (Kd.R_below HR.out HB1.out) HC1.out (fun _ _ h => h) (fun _ h => h.elim) (fun _ _ => trivial) HBX.out (Nat.le_trans hB (Nat.le_trans (Nat.le_of_lt HSZ.out) HBX.out.size)) (by have := HL.out; rw [Nat.mul_one]; omega) ?_); intro v2 w2 hR2 hb2 hg2 hat2; (have hg1 := (HB1.out.block g HSZ.out).trans HG.out); (have hg3 := (hg2.block g (Array.getElem?_eq_some_iff.1 hg1).1 (Kd.R_ne (Kd.R_below HR.out HB1.out) hg1 (by decide))).trans hg1); (have c2 : w2.cell? ⟨g, 0, none⟩ = some v := blk_cell hg3 0); (have f2 : w2.frozen? ⟨g, 0, none⟩ = false := blk_frozen hg3 0); (obtain ⟨A2, d2, rfl⟩ := R_form4 hR2 rfl); (have HR2 := Aside0.mk hR2); (have HB2 := Aside0.mk hb2); (have HK2 := Aside0.mk ((kept_below (e := 5) (b := some g) HB1.out).grown hg2 (fun q hq => (R_own5 (Kd.R_below HR.out HB1.out) q hq).2.2))); (have HG3 := Aside0.mk hg3); clear hR2 hb2 hg2 hat2 hg1 hg3)
  all_goals
    go_wp2
    go_end0
    refine ⟨rfl, ⟨hB, _, by have h := blk_set HG3.out 0 (.slice A2 (l ++ beN n wide).length d2); simpa using h, Kd.R_set HR2.out HG3.out (by decide) 0 _⟩, below_setc HB2.out hB, HK2.out.setCell ⟨g, 0, none⟩ rfl _⟩
section
variable {P : Program} {ops : Array Oper} {o : Oper} {a : Act} {Q : Exit → Act → World → Prop} {Kc : Act → World → Prop}
/-- append(row, text...), in a region that draws. -/
theorem R_append_str_step {w0 W : World} (base : Nat) (hw : Region.wanted o (yielded ops a.tmps) = true) (s x : Operand) (t u e : TypeId)
    (ho : o.op = .call { callee := .builtin .append, args := #[s, x], argTypes := #[t, u] })
    (ht : P.underlying t = some (.slice e)) (hu : P.underlying u = some .string) (hinfo : (P.info? e).map (fun i => (i.zero, i.size, i.bytes)) = some (some (.int .u8 0), 1, 1))
    (v : Value) (xs : List Int) (y : ByteArray) (hs : a.eval s = v) (hx : a.eval x = .string y)
    (HO : Kd.R (Kd.int .u8) e W base (fun _ => True) v xs) (HB : Below base w0 W) (hbase : base ≤ W.heap.size) (hl : xs.length + y.size ≤ 1000000)
    (h : ∀ v1 w1, Kd.R (Kd.int .u8) e w1 base (fun _ => True) v1 (xs ++ bytesOf y) → Below base w0 w1 → W.grownBy w1 v.ownBlock → Kc (a.put o.dst v1) w1) :
    if Region.wanted o (yielded ops a.tmps) = true then Oper.wp P o a W Kc Q else Kc (a.put o.dst undef) W := by
  obtain ⟨i0, hi, hzz⟩ := Option.map_eq_some_iff.1 hinfo
  simp only [Prod.mk.injEq] at hzz
  obtain ⟨hz0, hz1, hz2⟩ := hzz
  have hown := Kd.own_of_R (enc := Value.int .u8) (h1 := fun _ => rfl) HO
  obtain ⟨v1, w1, hr1, h1, hg, -⟩ := Lib.run_append_own_string W base t u o.type e i0 ht hu hi hz0 hz1 hz2 v xs.length _ hown y (by simp only [maxLen]; omega) (by omega) hbase
  have hR : Kd.R (Kd.int .u8) e w1 base (fun _ => True) v1 (xs ++ bytesOf y) := by
    refine Kd.R_of_own (enc := Value.int .u8) ?_ (fun _ _ => trivial)
    have hl2 : (xs ++ bytesOf y).length = xs.length + y.size := by rw [List.length_append, bytesOf_length]
    have hc : encs (Value.int .u8) (xs ++ bytesOf y) = encs (Value.int .u8) xs ++ Lib.strCells y := by
      rw [encs_append]
      congr 1
      simp [encs, bytesOf, Lib.strCells]
    rw [hl2, hc]
    exact h1
  rw [if_pos hw]
  unfold Oper.wp execOp
  simp only [ho, resolve, invoke, builtin, Sem.run_bind, Sem.run_pure, Result.andThen_ok, List.map_toArray, List.map_cons, List.map_nil, hs, hx, hr1]
  exact h v1 w1 hR (HB.grown hg hbase (own_base hown)) hg
end
theorem put1 (n : Nat) : num_Put.f 9 (n : Int) 1 = some (beN n 1) := by
  have : num_Put.f 9 (n : Int) 1 = some [shr .u64 n ((0 : Nat) : Int) % 256] := by kernel_rfl
  rw [this, shr_nat _ _ (by omega)]
  rfl
theorem put2 (n : Nat) : num_Put.f 9 (n : Int) 2 = some (beN n 2) := by
  have : num_Put.f 9 (n : Int) 2 = some [shr .u64 n ((8 : Nat) : Int) % 256, shr .u64 n ((0 : Nat) : Int) % 256] := by kernel_rfl
  rw [this, shr_nat _ _ (by omega), shr_nat _ _ (by omega)]
  rfl
/-- A text as the chapter lays it. -/
def strB (s : ByteArray) : List Int := beN s.size 2 ++ bytesOf s
theorem strB_len (s : ByteArray) : (strB s).length = 2 + s.size := by rw [strB, List.length_append, beN_length, bytesOf_length]
theorem WrPost.trans {B g : Nat} {l m : List Int} {X Y : World} {e : Ending} {w' : World} (h : WrPost B g l X e Y) (k : WrPost B g m Y e w') : WrPost B g m X e w' :=
  ⟨k.1, k.2.1, h.2.2.1.trans k.2.2.1, h.2.2.2.trans k.2.2.2⟩
set_option maxHeartbeats 4000000 in
set_option maxRecDepth 100000 in
theorem wtext_any (B g : Nat) (l : List Int) (a : Addr) (s : ByteArray) (X : World) (hW : WrAt B g l X) (ha : X.cell? a = some (.string s)) (hk : ∀ Y, Lib.OthersKept 5 (some g) X Y → Y.cell? a = some (.string s)) (hl : l.length + s.size ≤ 900000) :
    Calls Tryd.prog 102 #[.pointer (some ⟨g, 0, none⟩), .pointer (some a)] X (WrPost B g (l ++ strB s) X) := by
  have HSZ := Aside0.mk (show s.size ≤ 900000 by omega)
  have HL := Aside0.mk hl
  have HK := Aside0.mk hk
  have HW := Aside0.mk hW
  have hc : ((s.size : Nat) : Int) % 18446744073709551616 = (s.size : Int) := by omega
  have hcv := wraps_u64 (s.size : Int) (by omega) (by omega)
  have hW1 := hW.below (below_alloc (Below.refl _ X) (.cells #[.int .u64 (s.size : Int)] 23))
  have hn1 : (X.alloc (.cells #[.int .u64 (s.size : Int)] 23)).cell? ⟨X.heap.size, 0, none⟩ = some (.int .u64 (s.size : Int)) := blk_cell (heap_alloc_new X _) 0
  have HNUM : Aside0 (Calls Tryd.prog 101 #[.pointer (some ⟨g, 0, none⟩), .pointer (some ⟨X.heap.size, 0, none⟩), .int .i64 2] (X.alloc (.cells #[.int .u64 (s.size : Int)] 23)) (WrPost B g (l ++ beN s.size 2) (X.alloc (.cells #[.int .u64 (s.size : Int)] 23)))) := ⟨wnum_any B g l ⟨X.heap.size, 0, none⟩ s.size 2 _ hW1 hn1 (put2 s.size) (by omega)⟩
  clear hl hk hW hW1 hn1
  go_enter Tryd.func102, Tryd.ntmps102
  go_wp2_with (go_at_call 101; ((with_reducible refine (HNUM.out).mono ?_)))
  rintro e w1 ⟨rfl, ⟨hB, v, hg, hR⟩, hb1, hk1⟩
  have hkX : Lib.OthersKept 5 (some g) X w1 := (kept_below (e := 5) (b := some g) (below_alloc (Below.refl _ X) (.cells #[.int .u64 (s.size : Int)] 23))).trans hk1
  have hbX : Below B X w1 := by
    have hBX := HW.out.1
    obtain ⟨-, v0, hg0, -⟩ := HW.out
    have hs0 := (Array.getElem?_eq_some_iff.1 hg0).1
    exact ((Below.refl B X).alloc (Nat.le_trans hBX (Nat.le_of_lt hs0)) _).trans hb1
  have a1 := HK.out w1 hkX
  have c1 : w1.cell? ⟨g, 0, none⟩ = some v := blk_cell hg 0
  have f1 : w1.frozen? ⟨g, 0, none⟩ = false := blk_frozen hg 0
  have HG := Aside0.mk hg
  have HR := Aside0.mk hR
  have HBX := Aside0.mk hbX
  have HKX := Aside0.mk hkX
  have HLT := Aside0.mk (show B ≤ w1.heap.size from Nat.le_trans hB (Nat.le_of_lt (Array.getElem?_eq_some_iff.1 hg).1))
  obtain ⟨N, hN⟩ : ∃ N, N = (l ++ beN s.size 2 ++ bytesOf s).length := ⟨_, rfl⟩
  have HN := Aside0.mk hN
  clear hg hR hb1 hk1 hkX hbX HNUM hN
  go_wp2
  go_region_law (refine R_append_str_step (w0 := X) B rfl (.tmp 16) (.tmp 19) 22 9 5 rfl Tryd.underlying22 Tryd.underlying9 info5d v (l ++ beN s.size 2) s rfl rfl (Kd.R_below HR.out (Below.refl _ _).drew) HBX.out.drew HLT.out (by have := HL.out; rw [List.length_append, beN_length]; omega) ?_; intro v2 w2 hR2 hb2 hg2; (have hg1 := HG.out); (have hg3 := (hg2.block g (Array.getElem?_eq_some_iff.1 hg1).1 (Kd.R_ne (Kd.R_below HR.out (Below.refl _ _).drew) hg1 (by decide))).trans hg1); (have c2 : w2.cell? ⟨g, 0, none⟩ = some v := blk_cell hg3 0); (have f2 : w2.frozen? ⟨g, 0, none⟩ = false := blk_frozen hg3 0); (obtain ⟨A2, d2, rfl⟩ := R_form4 hR2 HN.out.symm); (have HR2 := Aside0.mk hR2); (have HB2 := Aside0.mk hb2); (have HK2 := Aside0.mk ((HKX.out.drew).grown hg2 (fun q hq => (R_own5 (Kd.R_below HR.out (Below.refl _ _).drew) q hq).2.2))); (have HG3 := Aside0.mk hg3); clear hR2 hb2 hg2 hg1 hg3)
  all_goals
    go_wp2
    go_end0
    refine ⟨rfl, ⟨hB, _, by have h := blk_set HG3.out 0 (.slice A2 N d2); simpa using h, ?_⟩, below_setc HB2.out hB, HK2.out.setCell ⟨g, 0, none⟩ rfl _⟩
    rw [strB, ← List.append_assoc]
    exact Kd.R_set HR2.out HG3.out (by decide) 0 _
end Go.Proofs.YtnlhomgclplnhaaDoor.E


/- The writer of package code behind its interface: small numbers, rows of bytes, a change. -/
namespace Go.Proofs.YtnlhomgclplnhaaDoor.E
open Go.RowKit Go.Proofs.YtnlhomgclplnhaaDoorW.PrintWords Go.Proofs.YtnlhomgclplnhaaDoorW.PrintLast Go.Proofs.YtnlhomgclplnhaaDoorW.PrintMore Go.Proofs.YtnlhomgclplnhaaDoor.Pr
set_option linter.unusedVariables false
set_option linter.unusedSimpArgs false
attribute [local go_sem] opVal opUpon
theorem setCell_id {w : World} {a : Addr} {v : Value} (h : w.cell? a = some v) : w.setCell a v = w := by
  have hh : (w.setCell a v).heap = w.heap := by
    apply Array.ext_getElem?
    intro i
    simp only [World.setCell, Array.getElem?_modify]
    by_cases e : a.block = i
    · subst e
      rw [if_pos rfl]
      unfold World.cell? at h
      cases ho : w.heap[a.block]? with
      | none => rfl
      | some o =>
        rw [ho] at h
        cases o with
        | cells c t fr =>
          simp only at h
          split at h
          · cases h
          · rename_i hs
            simp only [Option.map_some, if_neg hs]
            congr 2
            apply Array.ext_getElem?
            intro j
            rw [Array.getElem?_setIfInBounds]
            split
            · rename_i ej
              subst ej
              rw [if_pos (Array.getElem?_eq_some_iff.1 h).1, h]
            · rfl
        | _ => first | rfl | cases h
    · rw [if_neg e]
  cases w
  simp only [World.setCell] at hh ⊢
  rw [hh]
theorem below_step' {B : Nat} {w x y : World} (h : Below B w x) (k : Below x.heap.size x y) (hB : B ≤ w.heap.size) : Below B w y := h.trans (k.mono (Nat.le_trans hB h.size))
theorem bytesOf_str (H : List Int) (h : ∀ x ∈ H, 0 ≤ x ∧ x ≤ 255) : bytesOf (strOfNums H) = H := by
  unfold bytesOf strOfNums
  simp only
  induction H with
  | nil => rfl
  | cons x t ih =>
    have hx := h x List.mem_cons_self
    have := ih (fun y hy => h y (List.mem_cons_of_mem _ hy))
    simp only [List.map_cons, List.map_map, List.cons.injEq] at this ⊢
    refine ⟨?_, this⟩
    show ((UInt8.ofNat x.toNat).toNat : Int) = x
    rw [UInt8.toNat_ofNat']
    omega
/-- The writer's methods, and the reader's. -/
theorem wNilN (a : Addr) (w : World) : (nilAhead 258 60 (.pointer (some a)) "wicketman/code.num").run Tryd.prog w = .ok (some false) w := by kernel_rfl
theorem wNilT (a : Addr) (w : World) : (nilAhead 258 60 (.pointer (some a)) "wicketman/code.text").run Tryd.prog w = .ok (some false) w := by kernel_rfl
theorem wMetN (a : Addr) (w : World) : (method 258 60 (.pointer (some a)) "wicketman/code.num").run Tryd.prog w = .ok (101, .pointer (some a)) w := by kernel_rfl
theorem wMetT (a : Addr) (w : World) : (method 258 60 (.pointer (some a)) "wicketman/code.text").run Tryd.prog w = .ok (102, .pointer (some a)) w := by kernel_rfl
theorem kept_cell {g : Nat} {X Y : World} (h : Lib.OthersKept 5 (some g) X Y) {b : Nat} {cs : Array Value} {T : Nat} {fr : Nat × Nat} (hb : X.heap[b]? = some (.cells cs T fr)) (hT : T ≠ 5) (hg : b ≠ g) : Y.heap[b]? = some (.cells cs T fr) :=
  h b _ hb (fun e => hg (by injection e)) (fun c fz e => hT (by injection e))
set_option maxHeartbeats 4000000 in
set_option maxRecDepth 100000 in
theorem wsmall_any (B g : Nat) (l : List Int) (b off T : Nat) (cs : Array Value) (n wide : Nat) (X : World) (hW : WrAt B g l X) (hb : X.heap[b]? = some (.cells cs T (0, 0))) (hT : T ≠ 5) (hbg : b ≠ g) (hc : cs[off]? = some (.int .i64 (n : Int))) (hn : n ≤ 1000000)
    (hp : num_Put.f 9 (n : Int) (wide : Int) = some (beN n wide)) (hl : l.length + wide ≤ 1000000) :
    Calls Tryd.prog 56 #[.iface 60 (.pointer (some ⟨g, 0, none⟩)), .pointer (some ⟨b, off, none⟩), .int .i64 (wide : Int)] X (WrPost B g (l ++ beN n wide) X) := by
  have HK := Aside0.mk (fun (Y : World) (h : Lib.OthersKept 5 (some g) X Y) => kept_cell h hb hT hbg)
  have HC := Aside0.mk hc
  have HW := Aside0.mk hW
  have HN := Aside0.mk hn
  have a0 : X.cell? ⟨b, off, none⟩ = some (.int .i64 (n : Int)) := by rw [cell_of_row X b off cs T (0, 0) hb]; exact hc
  have HLT := Aside0.mk (Array.getElem?_eq_some_iff.1 hb).1
  have hW1 := hW.below (below_alloc (Below.refl _ X) (.cells #[.int .u64 (n : Int)] 23))
  have hn1 : (X.alloc (.cells #[.int .u64 (n : Int)] 23)).cell? ⟨X.heap.size, 0, none⟩ = some (.int .u64 (n : Int)) := blk_cell (heap_alloc_new X _) 0
  have HNEW := Aside0.mk (heap_alloc_new X (.cells #[.int .u64 (n : Int)] 23))
  have HNUM : Aside0 (Calls Tryd.prog 101 #[.pointer (some ⟨g, 0, none⟩), .pointer (some ⟨X.heap.size, 0, none⟩), .int .i64 (wide : Int)] (X.alloc (.cells #[.int .u64 (n : Int)] 23)) (WrPost B g (l ++ beN n wide) (X.alloc (.cells #[.int .u64 (n : Int)] 23)))) := ⟨wnum_any B g l ⟨X.heap.size, 0, none⟩ n wide _ hW1 hn1 hp hl⟩
  have q1 := wNilN
  have q2 := wMetN
  have hcv := wraps_u64 (n : Int) (by omega) (by omega)
  have hcm : ((n : Nat) : Int) % 18446744073709551616 = (n : Int) := by omega
  have hw64 : wrap64 (n : Int) = (n : Int) := by unfold wrap64; omega
  clear hW hW1 hn1 hp hl hb hc hn
  go_enter Tryd.func56, Tryd.ntmps56
  go_wp2_with (go_at_call 101; ((with_reducible refine (HNUM.out).mono ?_)))
  rintro e w1 ⟨rfl, hWr, hb1, hk1⟩
  have hkX : Lib.OthersKept 5 (some g) X w1 := (kept_below (e := 5) (b := some g) (below_alloc (Below.refl _ X) (.cells #[.int .u64 (n : Int)] 23))).trans hk1
  have hlt := (Array.getElem?_eq_some_iff.1 HW.out.2.choose_spec.1).1
  have hbX : Below B X w1 := ((Below.refl B X).alloc (Nat.le_trans HW.out.1 (Nat.le_of_lt hlt)) _).trans hb1
  have hbl := HK.out w1 hkX
  have a1 : w1.cell? ⟨b, off, none⟩ = some (.int .i64 (n : Int)) := by rw [cell_of_row w1 b off cs T (0, 0) hbl]; exact HC.out
  have fz : w1.frozen? ⟨b, off, none⟩ = false := by simp [World.frozen?, hbl]
  have n1 : w1.cell? ⟨X.heap.size, 0, none⟩ = some (.int .u64 (n : Int)) := blk_cell (kept_cell hk1 HNEW.out (by decide) (by omega)) 0
  have HWR := Aside0.mk hWr
  have HBX := Aside0.mk hbX
  have HKX := Aside0.mk hkX
  have HA1 := Aside0.mk a1
  clear hWr hb1 hk1 hkX hbX hbl HNUM hlt HNEW HK HC
  go_wp2
  go_end0
  rw [setCell_id HA1.out]
  exact ⟨rfl, HWR.out, HBX.out, HKX.out⟩
/-- A row of bytes has been laid; the slice in its place is another one. -/
structure RowKept (B g : Nat) (b off n : Nat) (cs : Array Value) (T : Nat) (X w' : World) : Prop where
  below : Below B X w'
  box : ∃ A c, w'.heap[b]? = some (.cells (cs.setIfInBounds off (.slice A n c)) T (0, 0))
  other : ∀ k o, X.heap[k]? = some o → k ≠ g → k ≠ b → (∀ (c : Array Value) (fz : Nat × Nat), o ≠ .cells c 5 fz) → w'.heap[k]? = some o
def WRowPost (B g : Nat) (l : List Int) (b off n : Nat) (cs : Array Value) (T : Nat) (X : World) (e : Ending) (w' : World) : Prop :=
  e = .returned (.tuple #[]) ∧ WrAt B g l w' ∧ RowKept B g b off n cs T X w'
set_option maxHeartbeats 4000000 in
set_option maxRecDepth 100000 in
theorem wrow_any (B g : Nat) (l : List Int) (b off T : Nat) (cs : Array Value) (A : Option Addr) (n c : Nat) (bs : List Int) (X : World) (hW : WrAt B g l X) (hb : X.heap[b]? = some (.cells cs T (0, 0))) (hT : T ≠ 5) (hbg : b ≠ g) (hBb : B ≤ b)
    (hc : cs[off]? = some (.slice A n c)) (hC : Kd.C (Kd.int .u8) X A n bs) (hbs : ∀ x ∈ bs, 0 ≤ x ∧ x ≤ 255) (hl : l.length + n ≤ 900000) :
    Calls Tryd.prog 55 #[.iface 60 (.pointer (some ⟨g, 0, none⟩)), .pointer (some ⟨b, off, none⟩)] X (WRowPost B g (l ++ (beN n 2 ++ bs)) b off n cs T X) := by
  have hn : bs.length = n := Kd.C_len hC
  have hsz : (strOfNums bs).size = n := by rw [strOfNums_size]; exact hn
  have hstr : strB (strOfNums bs) = beN n 2 ++ bs := by rw [strB, hsz, bytesOf_str bs hbs]
  have hst := Kd.C_string (P := Tryd.prog) (c := c) Tryd.underlying22 Tryd.underlying5 Tryd.underlying9 hC
  obtain ⟨s, hs⟩ : ∃ s, s = strOfNums bs := ⟨_, rfl⟩
  rw [← hs] at hsz hstr hst
  have HK := Aside0.mk (fun (Y : World) (h : Lib.OthersKept 5 (some g) X Y) => kept_cell h hb hT hbg)
  have HC := Aside0.mk hc
  have HW := Aside0.mk hW
  have a0 : X.cell? ⟨b, off, none⟩ = some (.slice A n c) := by rw [cell_of_row X b off cs T (0, 0) hb]; exact hc
  have HLT := Aside0.mk (Array.getElem?_eq_some_iff.1 hb).1
  have HLG := Aside0.mk (Array.getElem?_eq_some_iff.1 hW.2.choose_spec.1).1
  have hba := below_alloc (Below.refl X.heap.size X) (.cells #[.string s] 9)
  have hW1 := hW.below hba
  have HNEW := Aside0.mk (heap_alloc_new X (.cells #[.string s] 9))
  have hn1 : (X.alloc (.cells #[.string s] 9)).cell? ⟨X.heap.size, 0, none⟩ = some (.string s) := blk_cell HNEW.out 0
  have HTX : Aside0 (Calls Tryd.prog 102 #[.pointer (some ⟨g, 0, none⟩), .pointer (some ⟨X.heap.size, 0, none⟩)] (X.alloc (.cells #[.string s] 9)) (WrPost B g (l ++ (beN n 2 ++ bs)) (X.alloc (.cells #[.string s] 9)))) := ⟨by
    rw [← hstr]
    exact wtext_any B g l ⟨X.heap.size, 0, none⟩ s _ hW1 hn1 (fun Y hY => blk_cell (kept_cell hY HNEW.out (by decide) (by have := HLG.out; omega)) 0) (by omega)⟩
  have HKA := Aside0.mk (kept_below (e := 5) (b := some g) hba)
  have HSZ := Aside0.mk hsz
  have q1 := wNilT
  have q2 := wMetT
  have hcv := fun W : World => print_bytes (P := Tryd.prog) 9 22 5 Tryd.underlying9 Tryd.underlying22 Tryd.underlying5 s W
  have HBg := Aside0.mk hW.1
  clear hW hW1 hn1 hl hb hc hC hs hstr hsz hba hn
  go_enter Tryd.func55, Tryd.ntmps55
  go_wp2_with (go_at_call 102; ((with_reducible refine (HTX.out).mono ?_)))
  rintro e w1 ⟨rfl, hWr, hb1, hk1⟩
  have hkX : Lib.OthersKept 5 (some g) X w1 := HKA.out.trans hk1
  have hbX : Below B X w1 := ((Below.refl B X).alloc (Nat.le_trans HBg.out (Nat.le_of_lt HLG.out)) _).trans hb1
  have hbl := HK.out w1 hkX
  have n1 : w1.cell? ⟨X.heap.size, 0, none⟩ = some (.string s) := blk_cell (kept_cell hk1 HNEW.out (by decide) (by have := HLG.out; omega)) 0
  have hsz1 : X.heap.size ≤ w1.heap.size := by
    have := (Array.getElem?_eq_some_iff.1 hbl).1
    have h2 := (Array.getElem?_eq_some_iff.1 (kept_cell hk1 HNEW.out (by decide) (by have := HLG.out; omega))).1
    omega
  have hbw : Below w1.heap.size w1 (Lib.bytesWorld w1 5 s) := bytes_below (Below.refl _ w1) (Nat.le_refl _) 5 s
  have hbl2 := (hbw.block b (Array.getElem?_eq_some_iff.1 hbl).1).trans hbl
  have a2 : (Lib.bytesWorld w1 5 s).cell? ⟨b, off, none⟩ = some (.slice A n c) := by rw [cell_of_row _ b off cs T (0, 0) hbl2]; exact HC.out
  have f2 : (Lib.bytesWorld w1 5 s).frozen? ⟨b, off, none⟩ = false := by simp [World.frozen?, hbl2]
  have HWR := Aside0.mk (hWr.below hbw)
  have HBX := Aside0.mk (below_step' hbX hbw (Nat.le_trans HBg.out (Nat.le_of_lt HLG.out)))
  have HKX := Aside0.mk (hkX.trans (kept_below hbw))
  have HBL := Aside0.mk hbl2
  clear hWr hb1 hk1 hkX hbX hbl hbl2 hbw HTX HNEW HK HC
  go_wp2
  go_end0
  rw [HSZ.out]
  obtain ⟨hB2, v, hg, hR⟩ := HWR.out
  refine ⟨rfl, ⟨hB2, v, (Below.heap_setCell _ ⟨b, off, none⟩ _ g (by show g ≠ b; exact fun e => hbg e.symm)).trans hg, Kd.R_set hR HBL.out (fun q hq e => hT (e.symm.trans ((List.mem_cons.1 hq).elim id (fun h => by cases h)))) off _⟩, ⟨below_setc HBX.out hBb, ⟨_, _, blk_set HBL.out off _⟩, fun k o hk hkg hkb ho => (Below.heap_setCell _ ⟨b, off, none⟩ _ k hkb).trans (HKX.out k o hk (fun e => hkg (by injection e)) ho)⟩⟩
end Go.Proofs.YtnlhomgclplnhaaDoor.E


/- The writer of package code: a change. -/
namespace Go.Proofs.YtnlhomgclplnhaaDoor.E
open Go.RowKit Go.Proofs.YtnlhomgclplnhaaDoorW.PrintWords Go.Proofs.YtnlhomgclplnhaaDoorW.PrintLast Go.Proofs.YtnlhomgclplnhaaDoorW.PrintMore Go.Proofs.YtnlhomgclplnhaaDoor.Pr
set_option linter.unusedVariables false
set_option linter.unusedSimpArgs false
attribute [local go_sem] opVal opUpon
theorem wtext_box (B g : Nat) (l : List Int) (b off T : Nat) (cs : Array Value) (s : ByteArray) (X : World) (hW : WrAt B g l X) (hb : X.heap[b]? = some (.cells cs T (0, 0))) (hT : T ≠ 5) (hbg : b ≠ g) (hc : cs[off]? = some (.string s)) (hl : l.length + s.size ≤ 900000) :
    Calls Tryd.prog 102 #[.pointer (some ⟨g, 0, none⟩), .pointer (some ⟨b, off, none⟩)] X (WrPost B g (l ++ strB s) X) :=
  wtext_any B g l ⟨b, off, none⟩ s X hW (by rw [cell_of_row X b off cs T (0, 0) hb]; exact hc) (fun Y hY => by rw [cell_of_row Y b off cs T (0, 0) (kept_cell hY hb hT hbg)]; exact hc) hl
/-- A change as the chapter lays it. -/
def opB (kind : Nat) (s1 s2 s3 : ByteArray) (r4 r5 : List Int) (s6 : ByteArray) : List Int :=
  beN kind 1 ++ strB s1 ++ strB s2 ++ strB s3 ++ (beN r4.length 2 ++ r4) ++ (beN r5.length 2 ++ r5) ++ strB s6
theorem WrAt.drew {B g : Nat} {l : List Int} {X : World} (h : WrAt B g l X) : WrAt B g l X.drew := h.below (Below.refl _ _).drew
set_option maxHeartbeats 8000000 in
set_option maxRecDepth 100000 in
theorem wop_any (B g : Nat) (b : Nat) (kind : Nat) (s1 s2 s3 : ByteArray) (A4 : Option Addr) (n4 c4 : Nat) (r4 : List Int) (A5 : Option Addr) (n5 c5 : Nat) (r5 : List Int) (s6 : ByteArray) (X : World) (hW : WrAt B g [] X)
    (hb : X.heap[b]? = some (.cells #[.int .i64 (kind : Int), .string s1, .string s2, .string s3, .slice A4 n4 c4, .slice A5 n5 c5, .string s6] 45 (0, 0))) (hbg : b ≠ g) (hBb : B ≤ b)
    (hC4 : ∀ Y, Below B X Y → Kd.C (Kd.int .u8) Y A4 n4 r4) (hb4 : ∀ x ∈ r4, 0 ≤ x ∧ x ≤ 255) (hC5 : ∀ Y, Below B X Y → Kd.C (Kd.int .u8) Y A5 n5 r5) (hb5 : ∀ x ∈ r5, 0 ≤ x ∧ x ≤ 255) (hk : kind ≤ 255)
    (hl : s1.size + s2.size + s3.size + n4 + n5 + s6.size ≤ 800000) :
    Calls Tryd.prog 43 #[.iface 60 (.pointer (some ⟨g, 0, none⟩)), .pointer (some ⟨b, 0, none⟩)] X fun e w' => e = .returned (.tuple #[]) ∧ WrAt B g (opB kind s1 s2 s3 r4 r5 s6) w' ∧ Below B X w' := by
  have q1 := wNilT
  have q2 := wMetT
  have hmf : ∀ (fn : Fn) (first cap : Array Value) (w : World), (Instr.makeFunc fn first cap).run Tryd.prog w = .ok (.func fn first cap) w := fun _ _ _ _ => rfl
  have hn4 : r4.length = n4 := Kd.C_len (hC4 X (Below.refl _ _))
  have hn5 : r5.length = n5 := Kd.C_len (hC5 X (Below.refl _ _))
  have HL := Aside0.mk hl
  have HC4 := Aside0.mk (And.intro hC4 (And.intro hb4 hn4))
  have HC5 := Aside0.mk (And.intro hC5 (And.intro hb5 hn5))
  have HBG := Aside0.mk (And.intro hbg hBb)
  obtain ⟨L0, hL0⟩ : ∃ L, L = ([] : List Int) ++ beN kind 1 := ⟨_, rfl⟩
  have e0 : L0.length = 1 := by rw [hL0]; rfl
  have HS : Aside0 (Calls Tryd.prog 56 #[.iface 60 (.pointer (some ⟨g, 0, none⟩)), .pointer (some ⟨b, 0, none⟩), .int .i64 1] X (WrPost B g L0 X)) := ⟨by
    rw [hL0]
    exact wsmall_any B g [] b 0 45 _ kind 1 X hW hb (by decide) hbg rfl (by omega) (put1 kind) (by decide)⟩
  have HB := Aside0.mk hb
  have E0 := Aside0.mk e0
  have HL0 := Aside0.mk hL0
  clear hW hb hbg hC4 hC5 hb4 hb5 hl hL0 e0 hn4 hn5 hk
  go_enter Tryd.func43, Tryd.ntmps43
  go_wp2_with (go_at_call 56; ((with_reducible refine (HS.out).mono ?_)))
  rintro e w1 ⟨rfl, hW1, hb1, hk1⟩
  have HW1 := Aside0.mk hW1
  have HX1 := Aside0.mk hb1
  have HB1 := Aside0.mk (kept_cell hk1 HB.out (by decide) HBG.out.1)
  clear hW1 hb1 hk1 HS

  obtain ⟨L1, hL1⟩ : ∃ L, L = L0 ++ strB s1 := ⟨_, rfl⟩
  have E1 := Aside0.mk (show L1.length = L0.length + (2 + s1.size) by rw [hL1, List.length_append, strB_len])
  have HT1 : Aside0 (Calls Tryd.prog 102 #[.pointer (some ⟨g, 0, none⟩), .pointer (some ⟨b, 1, none⟩)] w1.drew (WrPost B g L1 w1.drew)) := ⟨by
    rw [hL1]
    exact wtext_box B g L0 b 1 45 _ s1 w1.drew HW1.out.drew HB1.out (by decide) HBG.out.1 rfl (by have := E0.out; have := HL.out; omega)⟩
  have HL1 := Aside0.mk hL1
  clear hL1
  go_wp2
  go_still_tail 7, (by kernel_rfl)
  change wpList _ _ _ _ _ w1.drew
  go_wp2_with (go_at_call 102; ((with_reducible refine (HT1.out).mono ?_)))
  rintro e w2 ⟨rfl, hW, hb, hk⟩
  have HW2 := Aside0.mk hW
  have HX2 := Aside0.mk (HX1.out.drew.trans hb)
  have HB2 := Aside0.mk (kept_cell hk (show w1.drew.heap[b]? = _ from HB1.out) (by decide) HBG.out.1)
  clear hW hb hk HT1
  obtain ⟨L2, hL2⟩ : ∃ L, L = L1 ++ strB s2 := ⟨_, rfl⟩
  have E2 := Aside0.mk (show L2.length = L1.length + (2 + s2.size) by rw [hL2, List.length_append, strB_len])
  have HT2 : Aside0 (Calls Tryd.prog 102 #[.pointer (some ⟨g, 0, none⟩), .pointer (some ⟨b, 2, none⟩)] w2.drew (WrPost B g L2 w2.drew)) := ⟨by
    rw [hL2]
    exact wtext_box B g L1 b 2 45 _ s2 w2.drew HW2.out.drew HB2.out (by decide) HBG.out.1 rfl (by have := E0.out; have := E1.out; have := HL.out; omega)⟩
  have HL2 := Aside0.mk hL2
  clear hL2
  go_wp2
  go_still_tail 7, (by kernel_rfl)
  change wpList _ _ _ _ _ w2.drew
  go_wp2_with (go_at_call 102; ((with_reducible refine (HT2.out).mono ?_)))
  rintro e w3 ⟨rfl, hW, hb, hk⟩
  have HW3 := Aside0.mk hW
  have HX3 := Aside0.mk (HX2.out.drew.trans hb)
  have HB3 := Aside0.mk (kept_cell hk (show w2.drew.heap[b]? = _ from HB2.out) (by decide) HBG.out.1)
  clear hW hb hk HT2
  obtain ⟨L3, hL3⟩ : ∃ L, L = L2 ++ strB s3 := ⟨_, rfl⟩
  have E3 := Aside0.mk (show L3.length = L2.length + (2 + s3.size) by rw [hL3, List.length_append, strB_len])
  have HT3 : Aside0 (Calls Tryd.prog 102 #[.pointer (some ⟨g, 0, none⟩), .pointer (some ⟨b, 3, none⟩)] w3.drew (WrPost B g L3 w3.drew)) := ⟨by
    rw [hL3]
    exact wtext_box B g L2 b 3 45 _ s3 w3.drew HW3.out.drew HB3.out (by decide) HBG.out.1 rfl (by have := E0.out; have := E1.out; have := E2.out; have := HL.out; omega)⟩
  have HL3 := Aside0.mk hL3
  clear hL3
  go_wp2
  go_still_tail 7, (by kernel_rfl)
  change wpList _ _ _ _ _ w3.drew
  go_wp2_with (go_at_call 102; ((with_reducible refine (HT3.out).mono ?_)))
  rintro e w4 ⟨rfl, hW, hb, hk⟩
  have HW4 := Aside0.mk hW
  have HX4 := Aside0.mk (HX3.out.drew.trans hb)
  have HB4 := Aside0.mk (kept_cell hk (show w3.drew.heap[b]? = _ from HB3.out) (by decide) HBG.out.1)
  clear hW hb hk HT3
  obtain ⟨L4, hL4⟩ : ∃ L, L = L3 ++ (beN n4 2 ++ r4) := ⟨_, rfl⟩
  have E4 := Aside0.mk (show L4.length = L3.length + (2 + n4) by rw [hL4, List.length_append, List.length_append, beN_length, HC4.out.2.2])
  have HT4 := Aside0.mk (wrow_any B g L3 b 4 45 _ A4 n4 _ r4 w4 HW4.out HB4.out (by decide) HBG.out.1 HBG.out.2 rfl (HC4.out.1 _ HX4.out) HC4.out.2.1 (by have := E0.out; have := E1.out; have := E2.out; have := E3.out; have := HL.out; omega))
  rw [← hL4] at HT4
  have HL4 := Aside0.mk hL4
  clear hL4
  go_wp2_with (go_at_call 55; ((with_reducible refine (HT4.out).mono ?_)))
  rintro e w5 ⟨rfl, hW, hbb, ⟨Aq4, cq4, hbx⟩, -⟩
  have HW5 := Aside0.mk hW
  have HX5 := Aside0.mk (HX4.out.trans hbb)
  simp only [List.setIfInBounds_toArray, List.set_cons_zero, List.set_cons_succ] at hbx
  have HB5 := Aside0.mk hbx
  clear hW hbb hbx HT4
  obtain ⟨L5, hL5⟩ : ∃ L, L = L4 ++ (beN n5 2 ++ r5) := ⟨_, rfl⟩
  have E5 := Aside0.mk (show L5.length = L4.length + (2 + n5) by rw [hL5, List.length_append, List.length_append, beN_length, HC5.out.2.2])
  have HT5 := Aside0.mk (wrow_any B g L4 b 5 45 _ A5 n5 _ r5 w5 HW5.out HB5.out (by decide) HBG.out.1 HBG.out.2 rfl (HC5.out.1 _ HX5.out) HC5.out.2.1 (by have := E0.out; have := E1.out; have := E2.out; have := E3.out; have := E4.out; have := HL.out; omega))
  rw [← hL5] at HT5
  have HL5 := Aside0.mk hL5
  clear hL5
  go_wp2_with (go_at_call 55; ((with_reducible refine (HT5.out).mono ?_)))
  rintro e w6 ⟨rfl, hW, hbb, ⟨Aq5, cq5, hbx⟩, -⟩
  have HW6 := Aside0.mk hW
  have HX6 := Aside0.mk (HX5.out.trans hbb)
  simp only [List.setIfInBounds_toArray, List.set_cons_zero, List.set_cons_succ] at hbx
  have HB6 := Aside0.mk hbx
  clear hW hbb hbx HT5
  obtain ⟨L6, hL6⟩ : ∃ L, L = L5 ++ strB s6 := ⟨_, rfl⟩
  have E6 := Aside0.mk (show L6.length = L5.length + (2 + s6.size) by rw [hL6, List.length_append, strB_len])
  have HT6 : Aside0 (Calls Tryd.prog 102 #[.pointer (some ⟨g, 0, none⟩), .pointer (some ⟨b, 6, none⟩)] w6.drew (WrPost B g L6 w6.drew)) := ⟨by
    rw [hL6]
    exact wtext_box B g L5 b 6 45 _ s6 w6.drew HW6.out.drew HB6.out (by decide) HBG.out.1 rfl (by have := E0.out; have := E1.out; have := E2.out; have := E3.out; have := E4.out; have := E5.out; have := HL.out; omega)⟩
  have HL6 := Aside0.mk hL6
  clear hL6
  go_wp2
  go_still_tail 7, (by kernel_rfl)
  change wpList _ _ _ _ _ w6.drew
  go_wp2_with (go_at_call 102; ((with_reducible refine (HT6.out).mono ?_)))
  rintro e w7 ⟨rfl, hW, hb, hk⟩
  have HW7 := Aside0.mk hW
  have HX7 := Aside0.mk (HX6.out.drew.trans hb)
  have HB7 := Aside0.mk (kept_cell hk (show w6.drew.heap[b]? = _ from HB6.out) (by decide) HBG.out.1)
  clear hW hb hk HT6
  go_wp2
  go_end0
  refine ⟨rfl, ?_, HX7.out⟩
  have e : opB kind s1 s2 s3 r4 r5 s6 = L6 := by rw [HL6.out, HL5.out, HL4.out, HL3.out, HL2.out, HL1.out, HL0.out, opB, HC4.out.2.2, HC5.out.2.2, List.nil_append]
  rw [e]
  exact HW7.out
end Go.Proofs.YtnlhomgclplnhaaDoor.E


/- Texts, plain: how many runes; what stands in a page; what a name, a password, a note may be. -/
namespace Go.Proofs.YtnlhomgclplnhaaDoor.E
open Go.Lib
set_option linter.unusedVariables false
set_option linter.unusedSimpArgs false
abbrev Bs := List UInt8
/-- No rune begins there. -/
def badL (l : Bs) : Prop := (decodeL l).1 = 65533 ∧ (decodeL l).2 = 1
instance (l : Bs) : Decidable (badL l) := by unfold badL; exact inferInstance
def wid (l : Bs) : Nat := (decodeL l).2
def run1 (l : Bs) : Nat := (decodeL l).1
theorem wid_pos (l : Bs) : 1 ≤ wid l := decodeL_width l
theorem wid_le (l : Bs) (h : l ≠ []) : wid l ≤ l.length := decodeL_le l h
theorem drop_lt (l : Bs) (h : l ≠ []) : (l.drop (wid l)).length < l.length := by
  have := wid_pos l; have := List.length_pos_iff.2 h; rw [List.length_drop]; omega
theorem L_ind {P : Bs → Prop} (h0 : P []) (h1 : ∀ l, l ≠ [] → P (l.drop (wid l)) → P l) : ∀ l, P l := by
  have key : ∀ n (l : Bs), l.length ≤ n → P l := by
    intro n
    induction n with
    | zero => intro l hl; obtain rfl : l = [] := List.eq_nil_of_length_eq_zero (by omega); exact h0
    | succ n ih =>
      intro l hl
      by_cases hne : l = []
      · rw [hne]; exact h0
      · exact h1 l hne (ih _ (by have := drop_lt l hne; omega))
  exact fun l => key l.length l (Nat.le_refl _)
/-- What decoding gives: four ways, and none. -/
theorem shapeL (l : Bs) (hne : l ≠ []) :
    (badL l ∧ wid l = 1) ∨
    (¬ badL l ∧ wid l = 1 ∧ (l.getD 0 0).toNat < 128 ∧ run1 l = (l.getD 0 0).toNat) ∨
    (¬ badL l ∧ wid l = 2 ∧ 1 < l.length ∧ 192 ≤ (l.getD 0 0).toNat ∧ (l.getD 0 0).toNat / 32 = 6 ∧ (l.getD 1 0).toNat / 64 = 2 ∧ 128 ≤ run1 l ∧ run1 l = (l.getD 0 0).toNat % 32 * 64 + (l.getD 1 0).toNat % 64) ∨
    (¬ badL l ∧ wid l = 3 ∧ 2 < l.length ∧ 192 ≤ (l.getD 0 0).toNat ∧ (l.getD 0 0).toNat / 16 = 14 ∧ (l.getD 1 0).toNat / 64 = 2 ∧ (l.getD 2 0).toNat / 64 = 2 ∧ 2048 ≤ run1 l ∧ (run1 l < 55296 ∨ 57344 ≤ run1 l) ∧ run1 l = (l.getD 0 0).toNat % 16 * 4096 + (l.getD 1 0).toNat % 64 * 64 + (l.getD 2 0).toNat % 64) ∨
    (¬ badL l ∧ wid l = 4 ∧ 3 < l.length ∧ 192 ≤ (l.getD 0 0).toNat ∧ (l.getD 0 0).toNat / 8 = 30 ∧ (l.getD 1 0).toNat / 64 = 2 ∧ (l.getD 2 0).toNat / 64 = 2 ∧ (l.getD 3 0).toNat / 64 = 2 ∧ 65536 ≤ run1 l ∧ run1 l ≤ 1114111 ∧ run1 l = (l.getD 0 0).toNat % 8 * 262144 + (l.getD 1 0).toNat % 64 * 4096 + (l.getD 2 0).toNat % 64 * 64 + (l.getD 3 0).toNat % 64) := by
  unfold badL wid run1
  rw [decodeL_N]
  rcases decodeN_shape l.length (l.getD 0 0).toNat (l.getD 1 0).toNat (l.getD 2 0).toNat (l.getD 3 0).toNat with ⟨c, e⟩ | ⟨c1, c2, c3, cv, e⟩ | ⟨c1, c2, c3, c4, cv, cs, e⟩ | ⟨c1, c2, c3, c4, c5, cv, cw, e⟩ | e
  · right; left; rw [e]; exact ⟨by dsimp only; omega, rfl, c, rfl⟩
  · right; right; left; rw [e]; exact ⟨by dsimp only; omega, rfl, c2, by omega, c1, c3, cv, rfl⟩
  · right; right; right; left; rw [e]; exact ⟨by dsimp only; omega, rfl, c2, by omega, c1, c3, c4, cv, cs, rfl⟩
  · right; right; right; right; rw [e]; exact ⟨by dsimp only; omega, rfl, c2, by omega, c1, c3, c4, c5, cv, cw, rfl⟩
  · left; rw [e]; exact ⟨⟨rfl, rfl⟩, rfl⟩
theorem dN1 {n b0 b1 b2 b3 : Nat} (h : b0 < 128) : decodeN n b0 b1 b2 b3 = (b0, 1) := by unfold decodeN; rw [if_pos h]
theorem dN2 {n b0 b1 b2 b3 : Nat} (h : b0 / 32 = 6) (hn : 1 < n) (h1 : b1 / 64 = 2) (hv : 128 ≤ b0 % 32 * 64 + b1 % 64) : decodeN n b0 b1 b2 b3 = (b0 % 32 * 64 + b1 % 64, 2) := by
  unfold decodeN; rw [if_neg (by omega), if_pos ⟨h, hn, h1⟩, if_pos hv]
theorem dN3 {n b0 b1 b2 b3 : Nat} (h : b0 / 16 = 14) (hn : 2 < n) (h1 : b1 / 64 = 2) (h2 : b2 / 64 = 2) (hv : 2048 ≤ b0 % 16 * 4096 + b1 % 64 * 64 + b2 % 64) (hs : b0 % 16 * 4096 + b1 % 64 * 64 + b2 % 64 < 55296 ∨ 57344 ≤ b0 % 16 * 4096 + b1 % 64 * 64 + b2 % 64) :
    decodeN n b0 b1 b2 b3 = (b0 % 16 * 4096 + b1 % 64 * 64 + b2 % 64, 3) := by
  unfold decodeN; rw [if_neg (by omega), if_neg (by omega), if_pos ⟨h, ⟨by omega, h1⟩, hn, h2⟩, if_pos ⟨hv, by omega⟩]
theorem dN4 {n b0 b1 b2 b3 : Nat} (h : b0 / 8 = 30) (hn : 3 < n) (h1 : b1 / 64 = 2) (h2 : b2 / 64 = 2) (h3 : b3 / 64 = 2) (hv : 65536 ≤ b0 % 8 * 262144 + b1 % 64 * 4096 + b2 % 64 * 64 + b3 % 64) (hs : b0 % 8 * 262144 + b1 % 64 * 4096 + b2 % 64 * 64 + b3 % 64 ≤ 1114111) :
    decodeN n b0 b1 b2 b3 = (b0 % 8 * 262144 + b1 % 64 * 4096 + b2 % 64 * 64 + b3 % 64, 4) := by
  unfold decodeN; rw [if_neg (by omega), if_neg (by omega), if_neg (by omega), if_pos ⟨h, ⟨by omega, h1⟩, ⟨by omega, h2⟩, hn, h3⟩, if_pos ⟨hv, by omega⟩]
/-- A whole rune in front stays what it is, whatever stands behind it: of a list that agrees so far. -/
theorem dec_of (l m : Bs) (hne : l ≠ []) (hb : ¬ badL l) (hlen : wid l ≤ m.length) (hag : ∀ i, i < wid l → m.getD i 0 = l.getD i 0) : decodeL m = decodeL l := by
  rcases shapeL l hne with ⟨h, -⟩ | ⟨-, w, h0, hr⟩ | ⟨-, w, hn, -, h0, h1, hv, hr⟩ | ⟨-, w, hn, -, h0, h1, h2, hv, hs, hr⟩ | ⟨-, w, hn, -, h0, h1, h2, h3, hv, hs, hr⟩
  · exact absurd h hb
  · rw [w] at hag hlen
    rw [decodeL_N m, decodeL_N l, hag 0 (by omega), dN1 h0, dN1 h0]
  · rw [w] at hag hlen
    rw [hr] at hv
    rw [decodeL_N m, decodeL_N l, hag 0 (by omega), hag 1 (by omega), dN2 h0 hlen h1 hv, dN2 h0 hn h1 hv]
  · rw [w] at hag hlen
    rw [hr] at hv hs
    rw [decodeL_N m, decodeL_N l, hag 0 (by omega), hag 1 (by omega), hag 2 (by omega), dN3 h0 hlen h1 h2 hv hs, dN3 h0 hn h1 h2 hv hs]
  · rw [w] at hag hlen
    rw [hr] at hv hs
    rw [decodeL_N m, decodeL_N l, hag 0 (by omega), hag 1 (by omega), hag 2 (by omega), hag 3 (by omega), dN4 h0 hlen h1 h2 h3 hv hs, dN4 h0 hn h1 h2 h3 hv hs]
theorem getD_app (s t : Bs) (i : Nat) (h : i < s.length) : (s ++ t).getD i 0 = s.getD i 0 := by
  rw [List.getD_eq_getElem?_getD, List.getD_eq_getElem?_getD, List.getElem?_append_left h]
theorem dec_app (s t : Bs) (hne : s ≠ []) (hb : ¬ badL s) : decodeL (s ++ t) = decodeL s := by
  have hw := wid_le s hne
  exact dec_of s (s ++ t) hne hb (by rw [List.length_append]; omega) (fun i hi => getD_app s t i (by omega))
theorem dec_take (l r : Bs) (hne : l ≠ []) (hb : ¬ badL l) : decodeL (l.take (wid l) ++ r) = decodeL l := by
  have hw := wid_le l hne
  refine dec_of l _ hne hb (by rw [List.length_append, List.length_take]; omega) (fun i hi => ?_)
  rw [getD_app _ _ _ (by rw [List.length_take]; omega), List.getD_eq_getElem?_getD, List.getD_eq_getElem?_getD, List.getElem?_take, if_pos hi]
theorem app_ne {s t : Bs} (h : s ≠ []) : s ++ t ≠ [] := by simp [h]
/-- Before a byte that is none's no rune goes over it. -/
theorem dec_ff (s t : Bs) (hne : s ≠ []) (hb : ¬ badL (s ++ 255 :: t)) : wid (s ++ 255 :: t) ≤ s.length := by
  have hl := List.length_pos_iff.2 hne
  have hg : ∀ i, i = s.length → (s ++ 255 :: t).getD i 0 = 255 := by
    intro i hi
    rw [hi, List.getD_eq_getElem?_getD, List.getElem?_append_right (Nat.le_refl _)]
    simp
  have h255 : (255 : UInt8).toNat = 255 := rfl
  rcases shapeL _ (app_ne (t := 255 :: t) hne) with ⟨h, -⟩ | ⟨-, w, h0, hr⟩ | ⟨-, w, hn, -, h0, h1, hv, hr⟩ | ⟨-, w, hn, -, h0, h1, h2, hv, hs, hr⟩ | ⟨-, w, hn, -, h0, h1, h2, h3, hv, hs, hr⟩
  · exact absurd h hb
  · omega
  · rw [w]
    by_cases e : s.length = 1
    · rw [hg 1 e.symm, h255] at h1; omega
    · omega
  · rw [w]
    by_cases e : s.length = 1
    · rw [hg 1 e.symm, h255] at h1; omega
    · by_cases e2 : s.length = 2
      · rw [hg 2 e2.symm, h255] at h2; omega
      · omega
  · rw [w]
    by_cases e : s.length = 1
    · rw [hg 1 e.symm, h255] at h1; omega
    · by_cases e2 : s.length = 2
      · rw [hg 2 e2.symm, h255] at h2; omega
      · by_cases e3 : s.length = 3
        · rw [hg 3 e3.symm, h255] at h3; omega
        · omega
theorem bad_ff (t : Bs) : badL (255 :: t) := by
  rcases shapeL (255 :: t) (by simp) with ⟨h, -⟩ | ⟨-, w, h0, hr⟩ | ⟨-, w, hn, -, h0, h1, hv, hr⟩ | ⟨-, w, hn, -, h0, h1, h2, hv, hs, hr⟩ | ⟨-, w, hn, -, h0, h1, h2, h3, hv, hs, hr⟩
  · exact h
  all_goals (exfalso; simp only [List.getD_cons_zero] at h0; have : (255 : UInt8).toNat = 255 := rfl; omega)

/-! ### how many runes -/
def runGo : Nat → Bs → Option Nat
  | 0, _ => some 0
  | n + 1, l => if l = [] then some 0 else if badL l then none else (runGo n (l.drop (wid l))).map (· + 1)
def runesL (l : Bs) : Option Nat := runGo l.length l
theorem runGo_nil : ∀ n, runGo n [] = some 0
  | 0 => rfl
  | _ + 1 => by simp [runGo]
theorem runGo_fuel : ∀ (n m : Nat) (l : Bs), l.length ≤ n → l.length ≤ m → runGo n l = runGo m l
  | 0, m, l, hn, _ => by
    obtain rfl : l = [] := List.eq_nil_of_length_eq_zero (by omega)
    rw [runGo_nil, runGo_nil]
  | n + 1, 0, l, _, hm => by
    obtain rfl : l = [] := List.eq_nil_of_length_eq_zero (by omega)
    rw [runGo_nil, runGo_nil]
  | n + 1, m + 1, l, hn, hm => by
    unfold runGo
    by_cases hne : l = []
    · rw [if_pos hne, if_pos hne]
    · have := drop_lt l hne
      rw [if_neg hne, if_neg hne, runGo_fuel n m (l.drop (wid l)) (by omega) (by omega)]
theorem runesL_nil : runesL [] = some 0 := rfl
theorem runesL_step (l : Bs) (hne : l ≠ []) : runesL l = if badL l then none else (runesL (l.drop (wid l))).map (· + 1) := by
  have hl := List.length_pos_iff.2 hne
  have := drop_lt l hne
  obtain ⟨n, hn⟩ : ∃ n, l.length = n + 1 := ⟨l.length - 1, by omega⟩
  unfold runesL
  rw [hn]
  show (if l = [] then some 0 else _) = _
  rw [if_neg hne, runGo_fuel n (l.drop (wid l)).length _ (by omega) (Nat.le_refl _)]
theorem runesL_bad (l : Bs) (hne : l ≠ []) (h : badL l) : runesL l = none := by rw [runesL_step l hne, if_pos h]
theorem runesL_ok (l : Bs) (hne : l ≠ []) (h : ¬ badL l) : runesL l = (runesL (l.drop (wid l))).map (· + 1) := by rw [runesL_step l hne, if_neg h]
theorem runesL_le : ∀ (l : Bs) (n : Nat), runesL l = some n → n ≤ l.length := by
  intro l
  refine L_ind (P := fun l => ∀ n, runesL l = some n → n ≤ l.length) ?_ ?_ l
  · intro n h; cases h; exact Nat.zero_le _
  · intro l hne ih n h
    rw [runesL_step l hne] at h
    split at h
    · cases h
    · obtain ⟨m, hm, rfl⟩ := Option.map_eq_some_iff.1 h
      have := ih m hm
      have := drop_lt l hne
      omega
theorem valid_runes (l : Bs) : validD l = (runesL l).isSome := by
  refine L_ind (P := fun l => validD l = (runesL l).isSome) rfl ?_ l
  intro l hne ih
  rw [validD_step l hne, runesL_step l hne]
  by_cases h : badL l
  · rw [if_pos h]
    have h2 : (decodeL l).1 = 65533 ∧ (decodeL l).2 = 1 := h
    rw [if_pos h2]; rfl
  · rw [if_neg h]
    have h2 : ¬ ((decodeL l).1 = 65533 ∧ (decodeL l).2 = 1) := h
    rw [if_neg h2]
    rw [show (decodeL l).2 = wid l from rfl, ih]
    cases runesL (l.drop (wid l)) <;> rfl
theorem drop_app (s t : Bs) (k : Nat) (h : k ≤ s.length) : (s ++ t).drop k = s.drop k ++ t := by
  rw [List.drop_append_of_le_length h]
theorem wid_app (s t : Bs) (hne : s ≠ []) (hb : ¬ badL s) : wid (s ++ t) = wid s := by unfold wid; rw [dec_app s t hne hb]
theorem bad_app (s t : Bs) (hne : s ≠ []) (hb : ¬ badL s) : ¬ badL (s ++ t) := by unfold badL; rw [dec_app s t hne hb]; exact hb
/-- Two texts, one behind the other. -/
theorem runes_app (s t : Bs) (n : Nat) (h : runesL s = some n) : runesL (s ++ t) = (runesL t).map (· + n) := by
  revert n
  refine L_ind (P := fun s => ∀ n, runesL s = some n → runesL (s ++ t) = (runesL t).map (· + n)) ?_ ?_ s
  · intro n h
    cases h
    rw [List.nil_append]
    cases runesL t <;> rfl
  · intro s hne ih n h
    rw [runesL_step s hne] at h
    split at h
    · cases h
    · rename_i hb
      obtain ⟨m, hm, rfl⟩ := Option.map_eq_some_iff.1 h
      rw [runesL_ok _ (app_ne hne) (bad_app s t hne hb), wid_app s t hne hb, drop_app s t _ (wid_le s hne), ih m hm]
      cases runesL t with
      | none => rfl
      | some x => simp only [Option.map_some, Option.some.injEq]; omega
theorem runes_ff (s t : Bs) : runesL (s ++ 255 :: t) = none := by
  have key : ∀ n (s : Bs), s.length ≤ n → runesL (s ++ 255 :: t) = none := by
    intro n
    induction n with
    | zero =>
      intro s hs
      obtain rfl : s = [] := List.eq_nil_of_length_eq_zero (by omega)
      exact runesL_bad _ (by simp) (bad_ff t)
    | succ n ih =>
      intro s hs
      by_cases hne : s = []
      · rw [hne]; exact runesL_bad _ (by simp) (bad_ff t)
      · by_cases hb : badL (s ++ 255 :: t)
        · exact runesL_bad _ (app_ne hne) hb
        · have hw := dec_ff s t hne hb
          have hp := wid_pos (s ++ 255 :: t)
          rw [runesL_ok _ (app_ne hne) hb, drop_app s _ _ hw, ih _ (by rw [List.length_drop]; omega)]
          rfl
  exact key _ s (Nat.le_refl _)
theorem getD0_cons (a : UInt8) (r : Bs) : (a :: r).getD 0 0 = a := rfl
theorem ascii_step (a : UInt8) (r : Bs) (h : a.toNat < 128) : ¬ badL (a :: r) ∧ wid (a :: r) = 1 ∧ run1 (a :: r) = a.toNat := by
  have e : decodeL (a :: r) = (a.toNat, 1) := by rw [decodeL_N, getD0_cons, dN1 h]
  refine ⟨?_, ?_, ?_⟩
  · unfold badL; rw [e]; dsimp only; omega
  · unfold wid; rw [e]
  · unfold run1; rw [e]
theorem runes_cons (a : UInt8) (r : Bs) (h : a.toNat < 128) : runesL (a :: r) = (runesL r).map (· + 1) := by
  obtain ⟨hb, hw, -⟩ := ascii_step a r h
  rw [runesL_ok _ (by simp) hb, hw]
  rfl
theorem runes_ascii : ∀ (l r : Bs), (∀ b ∈ l, b.toNat < 128) → runesL (l ++ r) = (runesL r).map (· + l.length)
  | [], r, _ => by rw [List.nil_append]; cases runesL r <;> rfl
  | a :: l, r, h => by
    rw [List.cons_append, runes_cons a _ (h a List.mem_cons_self), runes_ascii l r (fun b hb => h b (List.mem_cons_of_mem _ hb))]
    cases runesL r with
    | none => rfl
    | some x => simp only [Option.map_some, Option.some.injEq, List.length_cons]; omega

/-! ### what stands in a page -/
def piece (l : Bs) : Bs :=
  if run1 l = 38 then [38, 97, 109, 112, 59]
  else if run1 l = 60 then [38, 108, 116, 59]
  else if run1 l = 62 then [38, 103, 116, 59]
  else if run1 l = 34 then [38, 35, 51, 52, 59]
  else if run1 l = 39 then [38, 35, 51, 57, 59]
  else if badL l then [63] else l.take (wid l)
def escGo : Nat → Bs → Bs
  | 0, _ => []
  | n + 1, l => if l = [] then [] else piece l ++ escGo n (l.drop (wid l))
def escL (l : Bs) : Bs := escGo l.length l
theorem escGo_nil : ∀ n, escGo n [] = []
  | 0 => rfl
  | _ + 1 => by simp [escGo]
theorem escGo_fuel : ∀ (n m : Nat) (l : Bs), l.length ≤ n → l.length ≤ m → escGo n l = escGo m l
  | 0, m, l, hn, _ => by
    obtain rfl : l = [] := List.eq_nil_of_length_eq_zero (by omega)
    rw [escGo_nil, escGo_nil]
  | n + 1, 0, l, _, hm => by
    obtain rfl : l = [] := List.eq_nil_of_length_eq_zero (by omega)
    rw [escGo_nil, escGo_nil]
  | n + 1, m + 1, l, hn, hm => by
    unfold escGo
    by_cases hne : l = []
    · rw [if_pos hne, if_pos hne]
    · have := drop_lt l hne
      rw [if_neg hne, if_neg hne, escGo_fuel n m (l.drop (wid l)) (by omega) (by omega)]
theorem escL_nil : escL [] = [] := rfl
theorem escL_step (l : Bs) (hne : l ≠ []) : escL l = piece l ++ escL (l.drop (wid l)) := by
  have hl := List.length_pos_iff.2 hne
  have := drop_lt l hne
  obtain ⟨n, hn⟩ : ∃ n, l.length = n + 1 := ⟨l.length - 1, by omega⟩
  unfold escL
  rw [hn]
  show (if l = [] then [] else _) = _
  rw [if_neg hne, escGo_fuel n (l.drop (wid l)).length _ (by omega) (Nat.le_refl _)]
/-- A piece: a sign's name; or a mark for what is none; or what stood there. -/
theorem piece_cases (l : Bs) (hne : l ≠ []) :
    (wid l = 1 ∧ ¬ badL l ∧ (l.getD 0 0).toNat = run1 l ∧ (run1 l = 38 ∧ piece l = [38, 97, 109, 112, 59] ∨ run1 l = 60 ∧ piece l = [38, 108, 116, 59] ∨ run1 l = 62 ∧ piece l = [38, 103, 116, 59] ∨ run1 l = 34 ∧ piece l = [38, 35, 51, 52, 59] ∨ run1 l = 39 ∧ piece l = [38, 35, 51, 57, 59])) ∨
    (badL l ∧ wid l = 1 ∧ piece l = [63]) ∨
    (¬ badL l ∧ run1 l ≠ 38 ∧ run1 l ≠ 60 ∧ run1 l ≠ 62 ∧ run1 l ≠ 34 ∧ run1 l ≠ 39 ∧ piece l = l.take (wid l) ∧ (wid l = 1 ∧ (l.getD 0 0).toNat = run1 l ∧ run1 l < 128 ∨ 2 ≤ wid l ∧ 128 ≤ run1 l ∧ ∀ i, i < wid l → 128 ≤ (l.getD i 0).toNat)) := by
  have hlow : run1 l < 128 → ¬ badL l ∧ wid l = 1 ∧ (l.getD 0 0).toNat = run1 l := by
    intro hlt
    rcases shapeL l hne with ⟨⟨h, h'⟩, -⟩ | ⟨hb, w, h0, hr⟩ | ⟨-, w, hn, -, h0, h1, hv, hr⟩ | ⟨-, w, hn, -, h0, h1, h2, hv, hs, hr⟩ | ⟨-, w, hn, -, h0, h1, h2, h3, hv, hs, hr⟩
    · unfold run1 at hlt; omega
    · exact ⟨hb, w, hr.symm⟩
    all_goals omega
  by_cases e1 : run1 l = 38
  · left; obtain ⟨a, b, c⟩ := hlow (by omega); exact ⟨b, a, c, .inl ⟨e1, by unfold piece; rw [if_pos e1]⟩⟩
  by_cases e2 : run1 l = 60
  · left; obtain ⟨a, b, c⟩ := hlow (by omega); exact ⟨b, a, c, .inr (.inl ⟨e2, by unfold piece; rw [if_neg e1, if_pos e2]⟩)⟩
  by_cases e3 : run1 l = 62
  · left; obtain ⟨a, b, c⟩ := hlow (by omega); exact ⟨b, a, c, .inr (.inr (.inl ⟨e3, by unfold piece; rw [if_neg e1, if_neg e2, if_pos e3]⟩))⟩
  by_cases e4 : run1 l = 34
  · left; obtain ⟨a, b, c⟩ := hlow (by omega); exact ⟨b, a, c, .inr (.inr (.inr (.inl ⟨e4, by unfold piece; rw [if_neg e1, if_neg e2, if_neg e3, if_pos e4]⟩)))⟩
  by_cases e5 : run1 l = 39
  · left; obtain ⟨a, b, c⟩ := hlow (by omega); exact ⟨b, a, c, .inr (.inr (.inr (.inr ⟨e5, by unfold piece; rw [if_neg e1, if_neg e2, if_neg e3, if_neg e4, if_pos e5]⟩)))⟩
  right
  by_cases hb : badL l
  · left; exact ⟨hb, hb.2, by unfold piece; rw [if_neg e1, if_neg e2, if_neg e3, if_neg e4, if_neg e5, if_pos hb]⟩
  · right
    refine ⟨hb, e1, e2, e3, e4, e5, by unfold piece; rw [if_neg e1, if_neg e2, if_neg e3, if_neg e4, if_neg e5, if_neg hb], ?_⟩
    rcases shapeL l hne with ⟨h, -⟩ | ⟨-, w, h0, hr⟩ | ⟨-, w, hn, hb0, h0, h1, hv, hr⟩ | ⟨-, w, hn, hb0, h0, h1, h2, hv, hs, hr⟩ | ⟨-, w, hn, hb0, h0, h1, h2, h3, hv, hs, hr⟩
    · exact absurd h hb
    · left; exact ⟨w, hr.symm, by omega⟩
    · right; refine ⟨by omega, hv, fun i hi => ?_⟩
      match i, (show i < 2 by omega) with
      | 0, _ => omega
      | 1, _ => omega
    · right; refine ⟨by omega, by omega, fun i hi => ?_⟩
      match i, (show i < 3 by omega) with
      | 0, _ => omega
      | 1, _ => omega
      | 2, _ => omega
    · right; refine ⟨by omega, by omega, fun i hi => ?_⟩
      match i, (show i < 4 by omega) with
      | 0, _ => omega
      | 1, _ => omega
      | 2, _ => omega
      | 3, _ => omega
theorem piece_long (l : Bs) (hne : l ≠ []) : wid l ≤ (piece l).length ∧ (piece l = l.take (wid l) ∨ badL l ∨ wid l < (piece l).length) := by
  have hw := wid_le l hne
  rcases piece_cases l hne with ⟨w, -, -, ⟨-, e⟩ | ⟨-, e⟩ | ⟨-, e⟩ | ⟨-, e⟩ | ⟨-, e⟩⟩ | ⟨hb, w, e⟩ | ⟨-, -, -, -, -, -, e, -⟩
  · rw [e, w]; exact ⟨by decide, .inr (.inr (by decide))⟩
  · rw [e, w]; exact ⟨by decide, .inr (.inr (by decide))⟩
  · rw [e, w]; exact ⟨by decide, .inr (.inr (by decide))⟩
  · rw [e, w]; exact ⟨by decide, .inr (.inr (by decide))⟩
  · rw [e, w]; exact ⟨by decide, .inr (.inr (by decide))⟩
  · rw [e, w]; exact ⟨Nat.le_refl _, .inr (.inl hb)⟩
  · rw [e, List.length_take]; exact ⟨by omega, .inl rfl⟩
theorem piece_le (l : Bs) (hne : l ≠ []) : (piece l).length ≤ 5 * wid l := by
  have hw := wid_le l hne
  have hp := wid_pos l
  rcases piece_cases l hne with ⟨w, -, -, ⟨-, e⟩ | ⟨-, e⟩ | ⟨-, e⟩ | ⟨-, e⟩ | ⟨-, e⟩⟩ | ⟨hb, w, e⟩ | ⟨-, -, -, -, -, -, e, -⟩
  all_goals (rw [e]; first | (rw [List.length_take]; omega) | (simp only [List.length_cons, List.length_nil]; omega))
theorem esc_long (l : Bs) : l.length ≤ (escL l).length := by
  refine L_ind (P := fun l => l.length ≤ (escL l).length) (Nat.le_refl _) ?_ l
  intro l hne ih
  rw [escL_step l hne, List.length_append]
  rw [List.length_drop] at ih
  have := (piece_long l hne).1
  have := wid_le l hne
  omega
theorem esc_le (l : Bs) : (escL l).length ≤ 5 * l.length := by
  refine L_ind (P := fun l => (escL l).length ≤ 5 * l.length) (Nat.le_refl _) ?_ l
  intro l hne ih
  rw [escL_step l hne, List.length_append]
  rw [List.length_drop] at ih
  have := piece_le l hne
  have := wid_le l hne
  omega
theorem piece_app (s t : Bs) (hne : s ≠ []) (hb : ¬ badL s) : piece (s ++ t) = piece s := by
  have hw := wid_le s hne
  have e : run1 (s ++ t) = run1 s := by unfold run1; rw [dec_app s t hne hb]
  have e2 : (s ++ t).take (wid (s ++ t)) = s.take (wid s) := by rw [wid_app s t hne hb, List.take_append_of_le_length hw]
  have e3 := bad_app s t hne hb
  unfold piece
  rw [e, e2, if_neg hb, if_neg e3]
/-- Of two texts, one behind the other, each a whole one, it is both. -/
theorem esc_app (s t : Bs) (h : runesL s ≠ none) : escL (s ++ t) = escL s ++ escL t := by
  revert h
  refine L_ind (P := fun s => runesL s ≠ none → escL (s ++ t) = escL s ++ escL t) ?_ ?_ s
  · intro _; rfl
  · intro s hne ih h
    rw [runesL_step s hne] at h
    split at h
    · exact absurd rfl h
    · rename_i hb
      have h' : runesL (s.drop (wid s)) ≠ none := by intro h2; rw [h2] at h; exact h rfl
      rw [escL_step _ (app_ne hne), escL_step s hne, piece_app s t hne hb, wid_app s t hne hb, drop_app s t _ (wid_le s hne), ih h', List.append_assoc]
/-- A piece is UTF-8, and at least one rune. -/
theorem piece_runes (l r : Bs) (hne : l ≠ []) : ∃ k, 1 ≤ k ∧ runesL (piece l ++ r) = (runesL r).map (· + k) := by
  rcases piece_cases l hne with ⟨w, -, -, ⟨-, e⟩ | ⟨-, e⟩ | ⟨-, e⟩ | ⟨-, e⟩ | ⟨-, e⟩⟩ | ⟨hb, w, e⟩ | ⟨hb, -, -, -, -, -, e, -⟩
  · rw [e]; exact ⟨_, by decide, runes_ascii _ r (by decide)⟩
  · rw [e]; exact ⟨_, by decide, runes_ascii _ r (by decide)⟩
  · rw [e]; exact ⟨_, by decide, runes_ascii _ r (by decide)⟩
  · rw [e]; exact ⟨_, by decide, runes_ascii _ r (by decide)⟩
  · rw [e]; exact ⟨_, by decide, runes_ascii _ r (by decide)⟩
  · rw [e]; exact ⟨_, by decide, runes_ascii _ r (by decide)⟩
  · refine ⟨1, Nat.le_refl _, ?_⟩
    have hw := wid_le l hne
    have hp := wid_pos l
    have hd := dec_take l r hne hb
    have hne2 : l.take (wid l) ++ r ≠ [] := by
      intro h
      have := congrArg List.length h
      rw [List.length_append, List.length_take] at this
      simp only [List.length_nil] at this
      omega
    have hb2 : ¬ badL (l.take (wid l) ++ r) := by unfold badL; rw [hd]; exact hb
    have hw2 : wid (l.take (wid l) ++ r) = wid l := by unfold wid; rw [show decodeL (List.take (decodeL l).2 l ++ r) = decodeL l from hd]
    rw [e, runesL_ok _ hne2 hb2, hw2]
    congr 2
    rw [List.drop_append_of_le_length (by rw [List.length_take]; omega), List.drop_eq_nil_of_le (by rw [List.length_take]; omega), List.nil_append]
theorem esc_runes (l : Bs) : ∃ k, runesL (escL l) = some k ∧ ∀ n, runesL l = some n → n ≤ k := by
  refine L_ind (P := fun l => ∃ k, runesL (escL l) = some k ∧ ∀ n, runesL l = some n → n ≤ k) ?_ ?_ l
  · exact ⟨0, rfl, fun n h => by cases h; exact Nat.le_refl _⟩
  · intro l hne ⟨k, hk, ih⟩
    obtain ⟨j, hj, e⟩ := piece_runes l (escL (l.drop (wid l))) hne
    refine ⟨k + j, by rw [escL_step l hne, e, hk]; rfl, fun n h => ?_⟩
    rw [runesL_step l hne] at h
    split at h
    · cases h
    · obtain ⟨m, hm, rfl⟩ := Option.map_eq_some_iff.1 h
      have := ih m hm
      omega
theorem sign_ok (l : Bs) (h : ∀ b ∈ l, b.toNat ≠ 60 ∧ b.toNat ≠ 62 ∧ b.toNat ≠ 34 ∧ b.toNat ≠ 39) : ∀ b ∈ l, b.toNat ≠ 60 ∧ b.toNat ≠ 62 ∧ b.toNat ≠ 34 ∧ b.toNat ≠ 39 := h
/-- Nothing of a page's signs is left. -/
theorem esc_signs (l : Bs) : ∀ b ∈ escL l, b.toNat ≠ 60 ∧ b.toNat ≠ 62 ∧ b.toNat ≠ 34 ∧ b.toNat ≠ 39 := by
  refine L_ind (P := fun l => ∀ b ∈ escL l, b.toNat ≠ 60 ∧ b.toNat ≠ 62 ∧ b.toNat ≠ 34 ∧ b.toNat ≠ 39) ?_ ?_ l
  · intro b hb; cases hb
  · intro l hne ih b hb
    rw [escL_step l hne] at hb
    rcases List.mem_append.1 hb with hb | hb
    · rcases piece_cases l hne with ⟨w, -, -, ⟨-, e⟩ | ⟨-, e⟩ | ⟨-, e⟩ | ⟨-, e⟩ | ⟨-, e⟩⟩ | ⟨-, w, e⟩ | ⟨-, n1, n2, n3, n4, n5, e, hh⟩
      · rw [e] at hb; exact sign_ok _ (by decide) b hb
      · rw [e] at hb; exact sign_ok _ (by decide) b hb
      · rw [e] at hb; exact sign_ok _ (by decide) b hb
      · rw [e] at hb; exact sign_ok _ (by decide) b hb
      · rw [e] at hb; exact sign_ok _ (by decide) b hb
      · rw [e] at hb; exact sign_ok _ (by decide) b hb
      · rw [e] at hb
        obtain ⟨i, hi, rfl⟩ := List.getElem_of_mem hb
        have hi2 : i < wid l ∧ i < l.length := by rw [List.length_take] at hi; omega
        have eg : (l.take (wid l))[i] = l.getD i 0 := by
          rw [List.getElem_take, List.getD_eq_getElem?_getD, List.getElem?_eq_getElem hi2.2]; rfl
        rw [eg]
        rcases hh with ⟨w, h0, h128⟩ | ⟨w, h128, h0⟩
        · obtain rfl : i = 0 := by omega
          omega
        · have := h0 i hi2.1
          omega
    · exact ih b hb
theorem esc_same (l : Bs) (h : runesL l ≠ none) : escL l = l ∨ l.length < (escL l).length := by
  revert h
  refine L_ind (P := fun l => runesL l ≠ none → escL l = l ∨ l.length < (escL l).length) ?_ ?_ l
  · intro _; left; rfl
  · intro l hne ih h
    rw [runesL_step l hne] at h
    split at h
    · exact absurd rfl h
    · rename_i hb
      have h' : runesL (l.drop (wid l)) ≠ none := by intro h2; rw [h2] at h; exact h rfl
      have hw := wid_le l hne
      have hlong := esc_long (l.drop (wid l))
      rw [escL_step l hne, List.length_append]
      rw [List.length_drop] at hlong
      rcases piece_long l hne with ⟨hp, hq | hq | hq⟩
      · rcases ih h' with hh | hh
        · left; rw [hq, hh, List.take_append_drop]
        · right; rw [List.length_drop] at hh; omega
      · exact absurd hq hb
      · right; omega

/-! ### names, passwords, notes -/
def letterB (n : Nat) : Bool := decide (97 ≤ n) && decide (n ≤ 122)
def nameMay (i n : Nat) : Bool := letterB n || (decide (0 < i) && (n == 95 || (decide (48 ≤ n) && decide (n ≤ 57))))
def passMay (i n : Nat) : Bool := decide (32 ≤ n) && n != 127
def noteMay (i n : Nat) : Bool := (decide (32 ≤ n) || n == 10) && n != 127
def allGo (may : Nat → Nat → Bool) : Nat → Nat → Bs → Bool
  | 0, _, _ => true
  | n + 1, i, l => if l = [] then true else may i (run1 l) && allGo may n (i + wid l) (l.drop (wid l))
def allR (may : Nat → Nat → Bool) (i : Nat) (l : Bs) : Bool := allGo may l.length i l
theorem allGo_nil (may : Nat → Nat → Bool) : ∀ n i, allGo may n i [] = true
  | 0, _ => rfl
  | _ + 1, _ => by simp [allGo]
theorem allGo_fuel (may : Nat → Nat → Bool) : ∀ (n m i : Nat) (l : Bs), l.length ≤ n → l.length ≤ m → allGo may n i l = allGo may m i l
  | 0, m, i, l, hn, _ => by
    obtain rfl : l = [] := List.eq_nil_of_length_eq_zero (by omega)
    rw [allGo_nil, allGo_nil]
  | n + 1, 0, i, l, _, hm => by
    obtain rfl : l = [] := List.eq_nil_of_length_eq_zero (by omega)
    rw [allGo_nil, allGo_nil]
  | n + 1, m + 1, i, l, hn, hm => by
    unfold allGo
    by_cases hne : l = []
    · rw [if_pos hne, if_pos hne]
    · have := drop_lt l hne
      rw [if_neg hne, if_neg hne, allGo_fuel may n m _ (l.drop (wid l)) (by omega) (by omega)]
theorem allR_nil (may : Nat → Nat → Bool) (i : Nat) : allR may i [] = true := rfl
theorem allR_step (may : Nat → Nat → Bool) (i : Nat) (l : Bs) (hne : l ≠ []) : allR may i l = (may i (run1 l) && allR may (i + wid l) (l.drop (wid l))) := by
  have hl := List.length_pos_iff.2 hne
  have := drop_lt l hne
  obtain ⟨n, hn⟩ : ∃ n, l.length = n + 1 := ⟨l.length - 1, by omega⟩
  unfold allR
  rw [hn]
  show (if l = [] then true else _) = _
  rw [if_neg hne, allGo_fuel may n (l.drop (wid l)).length _ _ (by omega) (Nat.le_refl _)]
/-- The same byte by byte, from place i on. -/
def allB (may : Nat → Nat → Bool) : Nat → Bs → Bool
  | _, [] => true
  | i, b :: l => may i b.toNat && allB may (i + 1) l
theorem allB_drop (may : Nat → Nat → Bool) : ∀ (k i : Nat) (l : Bs), k ≤ l.length → (∀ j, j < k → may (i + j) (l.getD j 0).toNat = true) → allB may i l = allB may (i + k) (l.drop k)
  | 0, i, l, _, _ => by simp
  | k + 1, i, [], h, _ => by simp at h
  | k + 1, i, b :: l, h, hm => by
    have h0 : may i b.toNat = true := hm 0 (by omega)
    rw [allB, h0, Bool.true_and, allB_drop may k (i + 1) l (by simpa using h) (fun j hj => by have := hm (j + 1) (by omega); rw [List.getD_cons_succ] at this; rwa [show i + 1 + j = i + (j + 1) by omega]), List.drop_succ_cons]
    congr 1
    omega
theorem head_getD : ∀ (l : Bs), l ≠ [] → l = l.getD 0 0 :: l.drop 1
  | [], h => absurd rfl h
  | _ :: _, _ => rfl
/-- Where only what is below 128 hangs on the sign, runes and bytes say the same. -/
theorem allR_high (may : Nat → Nat → Bool) (hm : ∀ i n, 128 ≤ n → may i n = true) : ∀ (l : Bs) (i : Nat), runesL l ≠ none → allR may i l = allB may i l := by
  intro l
  refine L_ind (P := fun l => ∀ i, runesL l ≠ none → allR may i l = allB may i l) ?_ ?_ l
  · intro i _; rfl
  · intro l hne ih i h
    rw [runesL_step l hne] at h
    split at h
    · exact absurd rfl h
    · rename_i hb
      have h' : runesL (l.drop (wid l)) ≠ none := by intro h2; rw [h2] at h; exact h rfl
      rw [allR_step may i l hne, ih _ h']
      have hw := wid_le l hne
      rcases shapeL l hne with ⟨hb2, -⟩ | ⟨-, w, h0, hr⟩ | ⟨-, w, hn, hb0, h0, h1, hv, hr⟩ | ⟨-, w, hn, hb0, h0, h1, h2, hv, hs, hr⟩ | ⟨-, w, hn, hb0, h0, h1, h2, h3, hv, hs, hr⟩
      · exact absurd hb2 hb
      · rw [w, hr]
        conv => rhs; rw [head_getD l hne, allB]
      · rw [hm i _ (by omega), Bool.true_and]
        refine (allB_drop may _ i l hw (fun j hj => hm _ _ ?_)).symm
        match j, (show j < 2 by omega) with
        | 0, _ => omega
        | 1, _ => omega
      · rw [hm i _ (by omega), Bool.true_and]
        refine (allB_drop may _ i l hw (fun j hj => hm _ _ ?_)).symm
        match j, (show j < 3 by omega) with
        | 0, _ => omega
        | 1, _ => omega
        | 2, _ => omega
      · rw [hm i _ (by omega), Bool.true_and]
        refine (allB_drop may _ i l hw (fun j hj => hm _ _ ?_)).symm
        match j, (show j < 4 by omega) with
        | 0, _ => omega
        | 1, _ => omega
        | 2, _ => omega
        | 3, _ => omega
/-- Where nothing from 128 on may be, runes and bytes say the same. -/
theorem allR_low (may : Nat → Nat → Bool) (hm : ∀ i n, 128 ≤ n → may i n = false) : ∀ (l : Bs) (i : Nat), ((runesL l).isSome && allR may i l) = allB may i l := by
  intro l
  refine L_ind (P := fun l => ∀ i, ((runesL l).isSome && allR may i l) = allB may i l) ?_ ?_ l
  · intro i; rfl
  · intro l hne ih i
    have hno : ∀ b : Bool, 128 ≤ (l.getD 0 0).toNat → (b && (may i (run1 l) && allR may (i + wid l) (l.drop (wid l)))) = allB may i l ∨ may i (run1 l) = true ∧ b = true := by
      intro b h
      have : allB may i l = false := by conv => lhs; rw [head_getD l hne, allB, hm i _ h, Bool.false_and]
      rw [this]
      cases b <;> cases may i (run1 l) <;> simp
    rw [allR_step may i l hne, runesL_step l hne]
    by_cases hb : badL l
    · rw [if_pos hb]
      by_cases h128 : 128 ≤ (l.getD 0 0).toNat
      · rcases hno (none : Option Nat).isSome h128 with h | ⟨-, h⟩
        · exact h
        · cases h
      · have := ascii_step (l.getD 0 0) (l.drop 1) (by omega)
        rw [← head_getD l hne] at this
        exact absurd hb this.1
    · rw [if_neg hb]
      have hiw := ih (i + wid l)
      rcases shapeL l hne with ⟨hb2, -⟩ | ⟨-, w, h0, hr⟩ | ⟨-, w, hn, hb0, h0, h1, hv, hr⟩ | ⟨-, w, hn, hb0, h0, h1, h2, hv, hs, hr⟩ | ⟨-, w, hn, hb0, h0, h1, h2, h3, hv, hs, hr⟩
      · exact absurd hb2 hb
      · have e : allB may i l = (may i (run1 l) && allB may (i + wid l) (l.drop (wid l))) := by
          rw [w, hr]
          conv => lhs; rw [head_getD l hne, allB]
        rw [e, ← hiw, Option.isSome_map]
        cases (runesL (l.drop (wid l))).isSome <;> cases may i (run1 l) <;> rfl
      all_goals
        rcases hno ((runesL (l.drop (wid l))).map (· + 1)).isSome (by omega) with h | ⟨h, -⟩
        · exact h
        · rw [hm i _ (by omega)] at h; cases h
theorem nameMay_high (i n : Nat) (h : 128 ≤ n) : nameMay i n = false := by
  unfold nameMay letterB
  rw [decide_eq_false (p := n ≤ 122) (by omega), decide_eq_false (p := n ≤ 57) (by omega), show (n == 95) = false by rw [beq_eq_false_iff_ne]; omega]
  simp
theorem passMay_high (i n : Nat) (h : 128 ≤ n) : passMay i n = true := by
  unfold passMay
  rw [decide_eq_true (p := 32 ≤ n) (by omega), show (n != 127) = true by rw [bne_iff_ne]; omega]; rfl
theorem noteMay_high (i n : Nat) (h : 128 ≤ n) : noteMay i n = true := by
  unfold noteMay
  rw [decide_eq_true (p := 32 ≤ n) (by omega), show (n != 127) = true by rw [bne_iff_ne]; omega]; rfl
def nameL (l : Bs) : Bool := decide (1 ≤ l.length) && decide (l.length ≤ 20) && allB nameMay 0 l
def passL (l : Bs) : Bool := decide (1 ≤ l.length) && decide (l.length ≤ 60) && ((runesL l).isSome && allB passMay 0 l)
def noteL (l : Bs) : Bool := decide (l.length ≤ 200) && ((runesL l).isSome && allB noteMay 0 l)
theorem name_all (l : Bs) : (validD l && allR nameMay 0 l) = allB nameMay 0 l := by rw [valid_runes, allR_low nameMay nameMay_high l 0]
theorem pass_all (l : Bs) : (validD l && allR passMay 0 l) = ((runesL l).isSome && allB passMay 0 l) := by
  rw [valid_runes]
  cases h : runesL l with
  | none => rfl
  | some n => rw [allR_high passMay passMay_high l 0 (by rw [h]; simp)]
theorem note_all (l : Bs) : (validD l && allR noteMay 0 l) = ((runesL l).isSome && allB noteMay 0 l) := by
  rw [valid_runes]
  cases h : runesL l with
  | none => rfl
  | some n => rw [allR_high noteMay noteMay_high l 0 (by rw [h]; simp)]
theorem allB_app (may : Nat → Nat → Bool) : ∀ (s t : Bs) (i : Nat), allB may i (s ++ t) = (allB may i s && allB may (i + s.length) t)
  | [], t, i => by simp [allB]
  | b :: s, t, i => by
    rw [List.cons_append, allB, allB, allB_app may s t (i + 1), Bool.and_assoc]
    congr 3
    simp only [List.length_cons]; omega
theorem allB_mono {p q : Nat → Nat → Bool} (h : ∀ i n, p i n = true → q i n = true) : ∀ (l : Bs) (i j : Nat), (∀ k n, p (i + k) n = true → q (j + k) n = true) → allB p i l = true → allB q j l = true
  | [], _, _, _, _ => rfl
  | b :: l, i, j, hk, hp => by
    simp only [allB, Bool.and_eq_true] at hp ⊢
    exact ⟨hk 0 _ hp.1, allB_mono h l (i + 1) (j + 1) (fun k n hn => by have := hk (k + 1) n (by rwa [show i + (k + 1) = i + 1 + k by omega]); rwa [show j + (k + 1) = j + 1 + k by omega] at this) hp.2⟩
theorem nameMay_pass (i n : Nat) (h : nameMay i n = true) : passMay i n = true ∧ n < 128 := by
  unfold nameMay letterB at h
  unfold passMay
  simp only [Bool.or_eq_true, Bool.and_eq_true, decide_eq_true_eq, beq_iff_eq, bne_iff_ne] at h ⊢
  omega
theorem passMay_note (i n : Nat) (h : passMay i n = true) : noteMay i n = true := by
  unfold passMay at h
  unfold noteMay
  simp only [Bool.or_eq_true, Bool.and_eq_true, decide_eq_true_eq, beq_iff_eq, bne_iff_ne] at h ⊢
  exact ⟨.inl h.1, h.2⟩
theorem ascii_of_name : ∀ (l : Bs) (i : Nat), allB nameMay i l = true → ∀ b ∈ l, b.toNat < 128
  | [], _, _, b, hb => by cases hb
  | a :: l, i, h, b, hb => by
    simp only [allB, Bool.and_eq_true] at h
    rcases List.mem_cons.1 hb with rfl | hb
    · exact (nameMay_pass i _ h.1).2
    · exact ascii_of_name l (i + 1) h.2 b hb
theorem name_pass {l : Bs} (h : nameL l = true) : passL l = true := by
  unfold nameL at h
  unfold passL
  simp only [Bool.and_eq_true, decide_eq_true_eq] at h ⊢
  have := runes_ascii l [] (ascii_of_name l 0 h.2)
  rw [List.append_nil] at this
  refine ⟨⟨h.1.1, by omega⟩, by rw [this]; rfl, allB_mono (fun i n hn => (nameMay_pass i n hn).1) l 0 0 (fun k n hn => (nameMay_pass _ n hn).1) h.2⟩
theorem pass_note {l : Bs} (h : passL l = true) : noteL l = true := by
  unfold passL at h
  unfold noteL
  simp only [Bool.and_eq_true, decide_eq_true_eq] at h ⊢
  exact ⟨by omega, h.2.1, allB_mono (fun i n hn => passMay_note i n hn) l 0 0 (fun k n hn => passMay_note _ n hn) h.2.2⟩
theorem runes_rep (n : Nat) (b : UInt8) (hb : b.toNat < 128) : runesL (List.replicate n b) = some n := by
  have := runes_ascii (List.replicate n b) [] (fun x hx => by rw [List.eq_of_mem_replicate hx]; exact hb)
  rw [List.append_nil, List.length_replicate] at this
  rw [this]
  show some (0 + n) = some n
  rw [Nat.zero_add]
theorem allB_rep (may : Nat → Nat → Bool) (b : UInt8) (h : ∀ i, may i b.toNat = true) : ∀ (n i : Nat), allB may i (List.replicate n b) = true
  | 0, _ => rfl
  | n + 1, i => by rw [List.replicate_succ, allB, h, allB_rep may b h n]; rfl
theorem nameL_rep (n : Nat) : nameL (List.replicate n 97) = (decide (1 ≤ n) && decide (n ≤ 20)) := by
  unfold nameL
  rw [allB_rep nameMay 97 (fun i => rfl), List.length_replicate, Bool.and_true]
theorem passL_rep (n : Nat) : passL (List.replicate n 97) = (decide (1 ≤ n) && decide (n ≤ 60)) := by
  unfold passL
  rw [allB_rep passMay 97 (fun i => rfl), runes_rep n 97 (by decide), List.length_replicate]
  simp
theorem noteL_rep (n : Nat) : noteL (List.replicate n 97) = decide (n ≤ 200) := by
  unfold noteL
  rw [allB_rep noteMay 97 (fun i => rfl), runes_rep n 97 (by decide), List.length_replicate]
  simp
theorem noteL_rep_nl (n : Nat) : noteL (List.replicate n 97 ++ [10]) = decide (n < 200) := by
  unfold noteL
  rw [allB_app, allB_rep noteMay 97 (fun i => rfl), runes_app _ _ n (runes_rep n 97 (by decide)), List.length_append, List.length_replicate, List.length_singleton]
  have e : (runesL [10]) = some 1 := by decide
  rw [e]
  have e2 : ∀ i, allB noteMay i [10] = true := fun i => rfl
  rw [e2]
  simp [Nat.lt_iff_add_one_le]
theorem passL_nl (l : Bs) : passL (l ++ [10]) = false := by
  unfold passL
  rw [allB_app]
  have e2 : ∀ i, allB passMay i [10] = false := fun i => rfl
  rw [e2]
  simp
theorem nameL_back {l : Bs} {b : UInt8} (h : ∀ i, nameMay i b.toNat = false) : nameL (l ++ [b]) = false := by
  unfold nameL
  rw [allB_app]
  have e2 : ∀ i, allB nameMay i [b] = false := fun i => by rw [allB, h]; rfl
  rw [e2]
  simp
theorem nameL_front {l : Bs} {b : UInt8} (h : nameMay 0 b.toNat = false) : nameL (b :: l) = false := by
  unfold nameL
  rw [allB, h]
  simp
theorem nameL_take {l : Bs} (k : Nat) (hk : 1 ≤ k) (hl : k ≤ l.length) (h : nameL l = true) : nameL (l.take k) = true := by
  unfold nameL at h ⊢
  simp only [Bool.and_eq_true, decide_eq_true_eq] at h ⊢
  have e := allB_app nameMay (l.take k) (l.drop k) 0
  rw [List.take_append_drop, h.2] at e
  have e := e.symm
  rw [Bool.and_eq_true] at e
  rw [List.length_take]
  exact ⟨⟨by omega, by omega⟩, e.1⟩
theorem nameL_head {l : Bs} (h : nameL l = true) : 97 ≤ (l.getD 0 0).toNat ∧ (l.getD 0 0).toNat ≤ 122 := by
  unfold nameL at h
  simp only [Bool.and_eq_true, decide_eq_true_eq] at h
  have hne : l ≠ [] := List.length_pos_iff.1 h.1.1
  rw [head_getD l hne, allB, Bool.and_eq_true] at h
  have := h.2.1
  unfold nameMay letterB at this
  simpa using this
end Go.Proofs.YtnlhomgclplnhaaDoor.E


/- text.Runes, all, Name, Pass, Note: walked. -/
namespace Go.Proofs.YtnlhomgclplnhaaDoor.E
open Go.RowKit Go.Lib Go.Proofs.YtnlhomgclplnhaaDoorW.PrintWords Go.Proofs.YtnlhomgclplnhaaDoorW.PrintLast Go.Proofs.YtnlhomgclplnhaaDoorW.PrintMore Go.Proofs.YtnlhomgclplnhaaDoor.Pr
set_option linter.unusedVariables false
set_option linter.unusedSimpArgs false
/-- The library's two tables read as they were laid. -/
def RootsIn (w : World) : Prop := Lib.Utf8Tabs 0 1 w
theorem RootsIn.below {w w' : World} {n : Nat} (h : RootsIn w) (hn : n = w.heap.size) (hb : Below n w w') : RootsIn w' := by
  subst hn
  exact Utf8Tabs_below h hb
def strL (s : ByteArray) : Bs := s.data.toList
theorem strL_len (s : ByteArray) : (strL s).length = s.size := by unfold strL; rw [Array.length_toList]; rfl
theorem dec_at (s : ByteArray) (p : Nat) : (Utf8.decode s p).2 = wid ((strL s).drop p) ∧ (Utf8.decode s p).1 = run1 ((strL s).drop p) := by
  unfold wid run1 strL
  rw [decodeL_drop]
  exact ⟨rfl, rfl⟩
theorem drop_ne {s : ByteArray} {p : Nat} (h : p < s.size) : (strL s).drop p ≠ [] := by
  intro e
  have := congrArg List.length e
  rw [List.length_drop, strL_len] at this
  simp at this
  omega
theorem drop_end {s : ByteArray} {p : Nat} (h : ¬ p < s.size) : (strL s).drop p = [] := List.drop_eq_nil_of_le (by rw [strL_len]; omega)
def RunesPost (o : Option Nat) (w : World) (e : Ending) (w' : World) : Prop := e = .returned (.tuple #[.int .i64 ((o.getD 0 : Nat) : Int), .bool o.isSome]) ∧ Below w.heap.size w w'
def BoolIs (b : Bool) (w : World) (e : Ending) (w' : World) : Prop := e = .returned (.bool b) ∧ Below w.heap.size w w'
def RunesAt (s : ByteArray) (n : Nat) (p k : Nat) : Prop := ∃ j, runesL ((strL s).drop p) = some j ∧ k + j = n
/-- What a rune may be: a function of the place and the rune. -/
def MayIs (F : FuncId) (may : Nat → Nat → Bool) : Prop := ∀ (i n : Nat) (W : World), i ≤ 140737488351232 → n ≤ 1114111 → Calls Tryd.prog F #[.int .i64 (i : Int), .int .i32 (n : Int)] W fun e w' => e = .returned (.bool (may i n)) ∧ Drawn0 W w'
def MayPost (b : Bool) (W : World) (e : Ending) (w' : World) : Prop := e = .returned (.bool b) ∧ Below W.heap.size W w'
theorem rune_le2 (l : Bs) : run1 l ≤ 1114111 := decodeL_rune l
set_option maxHeartbeats 2000000 in
set_option maxRecDepth 100000 in
theorem all_name (may : Nat → Nat → Bool) (hF : MayIs 60 may) (s : ByteArray) (w : World) (hs : s.size ≤ 140737488351232) (hG : RootsIn w) :
    Calls Tryd.prog 59 #[.string s, .func (.func 60) #[] #[]] w (BoolIs (validD (strL s) && allR may 0 (strL s)) w) := by
  have hv := Tryd.utf8_ValidString s w (by omega) hG
  cases hr : validD (strL s) with
  | false =>
    have hv2 : Calls Tryd.prog 75 #[.string s] w (BoolIs false w) := hv.mono (by rintro e w' ⟨rfl, hb⟩; exact ⟨by rw [show validD s.data.toList = false from hr], hb⟩)
    have HV := Aside0.mk hv2
    clear hv hr hv2 hG hF
    go_enter Tryd.func59, Tryd.ntmps59
    go_wp2_with (go_at_call 75; ((with_reducible refine (HV.out).mono ?_); rintro e w1 ⟨rfl, hb1⟩); have HB1 := Aside0.mk hb1; clear hb1)
    go_ret
    exact ⟨rfl, HB1.out⟩
  | true =>
    have hv2 : Calls Tryd.prog 75 #[.string s] w (BoolIs true w) := hv.mono (by rintro e w' ⟨rfl, hb⟩; exact ⟨by rw [show validD s.data.toList = true from hr], hb⟩)
    have HV := Aside0.mk hv2
    rw [Bool.true_and]
    obtain ⟨ANS, hA⟩ : ∃ ANS, allR may 0 (strL s) = ANS := ⟨_, rfl⟩
    rw [hA]
    have H0 : Aside0 (allR may 0 ((strL s).drop 0) = ANS) := ⟨hA⟩
    have HF := Aside0.mk hF
    clear hv hr hv2 hG hF hA
    go_enter Tryd.func59, Tryd.ntmps59
    go_wp2_with (go_at_call 75; ((with_reducible refine (HV.out).mono ?_); rintro e w1 ⟨rfl, hb1⟩); have HB1 := Aside0.mk hb1; clear hb1)
    go_loopw [] (fun wr => ∃ (p : Nat), wr.heap[w1.heap.size]? = some (.stringIter s p) ∧ Aside0 (allR may p ((strL s).drop p) = ANS) ∧ Below w1.heap.size w1 wr) (fun wr => s.size - wr.iterPos w1.heap.size)
    case atStart => exact ⟨0, by simpa using World.iter_heap w1 s 0, H0, by simpa [World.iter] using (Below.refl _ w1).alloc (Nat.le_refl _) _⟩
    case round =>
      obtain ⟨p, hit, hH, hbw⟩ := hrel
      have hsz : w1.heap.size < wr.heap.size := (Array.getElem?_eq_some_iff.1 hit).1
      by_cases hp : p < s.size
      · have hnx : ∀ ty, (Instr.next (.pointer (some ⟨w1.heap.size, 0, none⟩)) true ty).run Tryd.prog wr = _ := fun ty => Lib.run_next_any_at wr w1.heap.size s p ty hit hp
        have hit2 := Lib.iterAt_heap wr w1.heap.size s p (p + (Utf8.decode s p).2) hit
        have hbw2 := Lib.below_iterAt hbw (k := w1.heap.size) (by omega) s (p + (Utf8.decode s p).2)
        have hw := wid_pos ((strL s).drop p)
        rw [← (dec_at s p).1] at hw
        have hmay := HF.out p (Utf8.decode s p).1 (wr.iterAt w1.heap.size s (p + (Utf8.decode s p).2)) (by omega) (by rw [(dec_at s p).2]; exact rune_le2 _)
        have hstep : (may p (Utf8.decode s p).1 && allR may (p + (Utf8.decode s p).2) ((strL s).drop (p + (Utf8.decode s p).2))) = ANS := by
          rw [(dec_at s p).1, (dec_at s p).2, ← List.drop_drop, ← allR_step may p _ (drop_ne hp)]
          exact hH.out
        have hms : ∀ n, s.size - ((wr.iterAt w1.heap.size s (p + (Utf8.decode s p).2)).drewN n).iterPos w1.heap.size < s.size - wr.iterPos w1.heap.size := by
          intro n
          have e1 : ((wr.iterAt w1.heap.size s (p + (Utf8.decode s p).2)).drewN n).iterPos w1.heap.size = p + (Utf8.decode s p).2 := by simp [World.iterPos, hit2]
          have e2 : wr.iterPos w1.heap.size = p := by simp [World.iterPos, hit]
          rw [e1, e2]
          omega
        have HM := Aside0.mk hms
        cases hm : may p (Utf8.decode s p).1 with
        | true =>
          rw [hm] at hmay hstep
          rw [Bool.true_and] at hstep
          have HMAY := Aside0.mk hmay
          have H2 := Aside0.mk hstep
          clear hmay hstep hms hm hH
          go_wp2_with (go_at_call 60; ((with_reducible refine (HMAY.out).mono ?_); rintro e w' ⟨rfl, ⟨n, rfl⟩⟩))
          go_roundw
          case rel => exact ⟨_, hit2, H2, pw_below_drewN hbw2 n⟩
          case measure => exact HM.out n
        | false =>
          rw [hm] at hmay hstep
          rw [Bool.false_and] at hstep
          subst hstep
          have HMAY := Aside0.mk hmay
          clear hmay hms hm hH
          go_wp2_with (go_at_call 60; ((with_reducible refine (HMAY.out).mono ?_); rintro e w' ⟨rfl, ⟨n, rfl⟩⟩))
          go_ret
          exact ⟨rfl, below_step HB1.out (pw_below_drewN hbw2 n)⟩
      · have hnx : ∀ ty, (Instr.next (.pointer (some ⟨w1.heap.size, 0, none⟩)) true ty).run Tryd.prog wr = _ := fun ty => Lib.run_next_end_at wr w1.heap.size s p ty hit hp
        have hans : ANS = true := by rw [← hH.out, drop_end hp, allR_nil]
        subst hans
        clear hH
        go_wp2
        go_ret
        exact ⟨rfl, below_step HB1.out hbw⟩
set_option maxHeartbeats 2000000 in
set_option maxRecDepth 100000 in
theorem all_note (may : Nat → Nat → Bool) (hF : MayIs 61 may) (s : ByteArray) (w : World) (hs : s.size ≤ 140737488351232) (hG : RootsIn w) :
    Calls Tryd.prog 59 #[.string s, .func (.func 61) #[] #[]] w (BoolIs (validD (strL s) && allR may 0 (strL s)) w) := by
  have hv := Tryd.utf8_ValidString s w (by omega) hG
  cases hr : validD (strL s) with
  | false =>
    have hv2 : Calls Tryd.prog 75 #[.string s] w (BoolIs false w) := hv.mono (by rintro e w' ⟨rfl, hb⟩; exact ⟨by rw [show validD s.data.toList = false from hr], hb⟩)
    have HV := Aside0.mk hv2
    clear hv hr hv2 hG hF
    go_enter Tryd.func59, Tryd.ntmps59
    go_wp2_with (go_at_call 75; ((with_reducible refine (HV.out).mono ?_); rintro e w1 ⟨rfl, hb1⟩); have HB1 := Aside0.mk hb1; clear hb1)
    go_ret
    exact ⟨rfl, HB1.out⟩
  | true =>
    have hv2 : Calls Tryd.prog 75 #[.string s] w (BoolIs true w) := hv.mono (by rintro e w' ⟨rfl, hb⟩; exact ⟨by rw [show validD s.data.toList = true from hr], hb⟩)
    have HV := Aside0.mk hv2
    rw [Bool.true_and]
    obtain ⟨ANS, hA⟩ : ∃ ANS, allR may 0 (strL s) = ANS := ⟨_, rfl⟩
    rw [hA]
    have H0 : Aside0 (allR may 0 ((strL s).drop 0) = ANS) := ⟨hA⟩
    have HF := Aside0.mk hF
    clear hv hr hv2 hG hF hA
    go_enter Tryd.func59, Tryd.ntmps59
    go_wp2_with (go_at_call 75; ((with_reducible refine (HV.out).mono ?_); rintro e w1 ⟨rfl, hb1⟩); have HB1 := Aside0.mk hb1; clear hb1)
    go_loopw [] (fun wr => ∃ (p : Nat), wr.heap[w1.heap.size]? = some (.stringIter s p) ∧ Aside0 (allR may p ((strL s).drop p) = ANS) ∧ Below w1.heap.size w1 wr) (fun wr => s.size - wr.iterPos w1.heap.size)
    case atStart => exact ⟨0, by simpa using World.iter_heap w1 s 0, H0, by simpa [World.iter] using (Below.refl _ w1).alloc (Nat.le_refl _) _⟩
    case round =>
      obtain ⟨p, hit, hH, hbw⟩ := hrel
      have hsz : w1.heap.size < wr.heap.size := (Array.getElem?_eq_some_iff.1 hit).1
      by_cases hp : p < s.size
      · have hnx : ∀ ty, (Instr.next (.pointer (some ⟨w1.heap.size, 0, none⟩)) true ty).run Tryd.prog wr = _ := fun ty => Lib.run_next_any_at wr w1.heap.size s p ty hit hp
        have hit2 := Lib.iterAt_heap wr w1.heap.size s p (p + (Utf8.decode s p).2) hit
        have hbw2 := Lib.below_iterAt hbw (k := w1.heap.size) (by omega) s (p + (Utf8.decode s p).2)
        have hw := wid_pos ((strL s).drop p)
        rw [← (dec_at s p).1] at hw
        have hmay := HF.out p (Utf8.decode s p).1 (wr.iterAt w1.heap.size s (p + (Utf8.decode s p).2)) (by omega) (by rw [(dec_at s p).2]; exact rune_le2 _)
        have hstep : (may p (Utf8.decode s p).1 && allR may (p + (Utf8.decode s p).2) ((strL s).drop (p + (Utf8.decode s p).2))) = ANS := by
          rw [(dec_at s p).1, (dec_at s p).2, ← List.drop_drop, ← allR_step may p _ (drop_ne hp)]
          exact hH.out
        have hms : ∀ n, s.size - ((wr.iterAt w1.heap.size s (p + (Utf8.decode s p).2)).drewN n).iterPos w1.heap.size < s.size - wr.iterPos w1.heap.size := by
          intro n
          have e1 : ((wr.iterAt w1.heap.size s (p + (Utf8.decode s p).2)).drewN n).iterPos w1.heap.size = p + (Utf8.decode s p).2 := by simp [World.iterPos, hit2]
          have e2 : wr.iterPos w1.heap.size = p := by simp [World.iterPos, hit]
          rw [e1, e2]
          omega
        have HM := Aside0.mk hms
        cases hm : may p (Utf8.decode s p).1 with
        | true =>
          rw [hm] at hmay hstep
          rw [Bool.true_and] at hstep
          have HMAY := Aside0.mk hmay
          have H2 := Aside0.mk hstep
          clear hmay hstep hms hm hH
          go_wp2_with (go_at_call 61; ((with_reducible refine (HMAY.out).mono ?_); rintro e w' ⟨rfl, ⟨n, rfl⟩⟩))
          go_roundw
          case rel => exact ⟨_, hit2, H2, pw_below_drewN hbw2 n⟩
          case measure => exact HM.out n
        | false =>
          rw [hm] at hmay hstep
          rw [Bool.false_and] at hstep
          subst hstep
          have HMAY := Aside0.mk hmay
          clear hmay hms hm hH
          go_wp2_with (go_at_call 61; ((with_reducible refine (HMAY.out).mono ?_); rintro e w' ⟨rfl, ⟨n, rfl⟩⟩))
          go_ret
          exact ⟨rfl, below_step HB1.out (pw_below_drewN hbw2 n)⟩
      · have hnx : ∀ ty, (Instr.next (.pointer (some ⟨w1.heap.size, 0, none⟩)) true ty).run Tryd.prog wr = _ := fun ty => Lib.run_next_end_at wr w1.heap.size s p ty hit hp
        have hans : ANS = true := by rw [← hH.out, drop_end hp, allR_nil]
        subst hans
        clear hH
        go_wp2
        go_ret
        exact ⟨rfl, below_step HB1.out hbw⟩
end Go.Proofs.YtnlhomgclplnhaaDoor.E


/- text.Runes, Name, Pass, Note, Escape, in the print's form. -/
namespace Go.Proofs.YtnlhomgclplnhaaDoor.E
open Go.RowKit Go.Lib Go.Proofs.YtnlhomgclplnhaaDoorW.PrintWords Go.Proofs.YtnlhomgclplnhaaDoorW.PrintLast Go.Proofs.YtnlhomgclplnhaaDoorW.PrintMore Go.Proofs.YtnlhomgclplnhaaDoor.Pr
set_option linter.unusedVariables false
set_option linter.unusedSimpArgs false
theorem ret_bool {a b : Bool} (h : a = b) : Ending.returned (.bool a) = .returned (.bool b) := by rw [h]
set_option maxHeartbeats 2000000 in
set_option maxRecDepth 100000 in
theorem may_name : MayIs 60 nameMay := by
  intro i n W hi hn
  obtain ⟨b, hb⟩ : ∃ b, b = nameMay i n := ⟨_, rfl⟩
  rw [← hb]
  have HB := Aside0.mk hb
  clear hb
  go_enter Tryd.func60, Tryd.ntmps60
  go_wp2
  all_goals go_ret
  all_goals (refine ⟨?_, ⟨0, rfl⟩⟩)
  all_goals (rw [HB.out]; refine ret_bool ?_; unfold nameMay; unfold letterB; rw [Bool.eq_iff_iff]; simp only [Bool.and_eq_true, Bool.or_eq_true, decide_eq_true_eq, beq_iff_eq, bne_iff_ne, ne_eq, true_iff, false_iff, Bool.false_eq_true]; omega)
set_option maxHeartbeats 2000000 in
set_option maxRecDepth 100000 in
theorem may_note : MayIs 61 noteMay := by
  intro i n W hi hn
  obtain ⟨b, hb⟩ : ∃ b, b = noteMay i n := ⟨_, rfl⟩
  rw [← hb]
  have HB := Aside0.mk hb
  clear hb
  go_enter Tryd.func61, Tryd.ntmps61
  go_wp2
  all_goals go_ret
  all_goals (refine ⟨?_, ⟨0, rfl⟩⟩)
  all_goals (rw [HB.out]; refine ret_bool ?_; unfold noteMay;  rw [Bool.eq_iff_iff]; simp only [Bool.and_eq_true, Bool.or_eq_true, decide_eq_true_eq, beq_iff_eq, bne_iff_ne, ne_eq, true_iff, false_iff, Bool.false_eq_true]; omega)
def text_Name.f (s : ByteArray) : Option Bool := if s.size ≤ 140737488351232 then some (nameL (strL s)) else none
theorem name_def (s : ByteArray) : nameL (strL s) = (decide (1 ≤ s.size) && (decide (s.size ≤ 20) && (validD (strL s) && allR nameMay 0 (strL s)))) := by
  rw [name_all]
  unfold nameL
  rw [strL_len]
  rw [Bool.and_assoc]
set_option maxHeartbeats 2000000 in
set_option maxRecDepth 100000 in
theorem text_Name.calls (s : ByteArray) (r : Bool) (w : World) (h : text_Name.f s = some r) (hG : RootsIn w) :
    Calls Tryd.prog 31 #[.string s] w fun e w' => e = .returned (.bool r) ∧ Below w.heap.size w w' := by
  unfold text_Name.f at h
  split at h
  case isFalse => cases h
  case isTrue hs =>
  have h := Option.some.inj h
  rw [name_def] at h
  have hall := all_name nameMay may_name s w hs hG
  obtain ⟨V, hV⟩ : ∃ V, V = (validD (strL s) && allR nameMay 0 (strL s)) := ⟨_, rfl⟩
  rw [← hV] at h hall
  have HALL := Aside0.mk hall
  clear hall hV hG
  by_cases h0 : s.size = 0
  · have e0 : s.toList = [] := List.eq_nil_of_length_eq_zero (by rw [ByteArray.toList_eq, Array.length_toList]; exact h0)
    have e1 : (s.toList.isEmpty) = true := by rw [e0]; rfl
    rw [h0] at h
    have h : r = false := by rw [← h]; rfl
    subst h
    clear HALL h0
    go_enter Tryd.func31, Tryd.ntmps31
    go_wp2
    go_ret
    exact ⟨rfl, Below.refl _ _⟩
  have e0 : ¬ s.toList = [] := fun e => h0 (by have := congrArg List.length e; rw [ByteArray.toList_eq, Array.length_toList] at this; exact this)
  have e1 : (s.toList.isEmpty) = false := by cases hq : s.toList with | nil => exact absurd hq e0 | cons _ _ => rfl
  rw [decide_eq_true (show 1 ≤ s.size by omega), Bool.true_and] at h
  by_cases h1 : s.size ≤ 20
  · have g1 : (s.size : Int) ≤ 20 := by omega
    rw [decide_eq_true h1, Bool.true_and] at h
    subst h
    go_enter Tryd.func31, Tryd.ntmps31
    go_wp2_with (go_at_call 59; ((with_reducible refine (HALL.out).mono ?_); rintro e w1 ⟨rfl, hb1⟩); have HB1 := Aside0.mk hb1; clear hb1)
    go_ret
    exact ⟨rfl, HB1.out⟩
  · have g1 : ¬ (s.size : Int) ≤ 20 := by omega
    rw [decide_eq_false h1, Bool.false_and] at h
    subst h
    clear HALL
    go_enter Tryd.func31, Tryd.ntmps31
    go_wp2
    go_ret
    exact ⟨rfl, Below.refl _ _⟩
def text_Pass.f (s : ByteArray) : Option Bool := if s.size ≤ 140737488351232 then some (passL (strL s)) else none
theorem pass_def (s : ByteArray) : passL (strL s) = (decide (1 ≤ s.size) && (decide (s.size ≤ 60) && (validD (strL s) && allR passMay 0 (strL s)))) := by
  rw [pass_all]
  unfold passL
  rw [strL_len]
  rw [Bool.and_assoc]
def text_Note.f (s : ByteArray) : Option Bool := if s.size ≤ 140737488351232 then some (noteL (strL s)) else none
theorem note_def (s : ByteArray) : noteL (strL s) = ((decide (s.size ≤ 200) && (validD (strL s) && allR noteMay 0 (strL s)))) := by
  rw [note_all]
  unfold noteL
  rw [strL_len]
set_option maxHeartbeats 2000000 in
set_option maxRecDepth 100000 in
theorem text_Note.calls (s : ByteArray) (r : Bool) (w : World) (h : text_Note.f s = some r) (hG : RootsIn w) :
    Calls Tryd.prog 32 #[.string s] w fun e w' => e = .returned (.bool r) ∧ Below w.heap.size w w' := by
  unfold text_Note.f at h
  split at h
  case isFalse => cases h
  case isTrue hs =>
  have h := Option.some.inj h
  rw [note_def] at h
  have hall := all_note noteMay may_note s w hs hG
  obtain ⟨V, hV⟩ : ∃ V, V = (validD (strL s) && allR noteMay 0 (strL s)) := ⟨_, rfl⟩
  rw [← hV] at h hall
  have HALL := Aside0.mk hall
  clear hall hV hG
  by_cases h1 : s.size ≤ 200
  · have g1 : (s.size : Int) ≤ 200 := by omega
    rw [decide_eq_true h1, Bool.true_and] at h
    subst h
    go_enter Tryd.func32, Tryd.ntmps32
    go_wp2_with (go_at_call 59; ((with_reducible refine (HALL.out).mono ?_); rintro e w1 ⟨rfl, hb1⟩); have HB1 := Aside0.mk hb1; clear hb1)
    go_ret
    exact ⟨rfl, HB1.out⟩
  · have g1 : ¬ (s.size : Int) ≤ 200 := by omega
    rw [decide_eq_false h1, Bool.false_and] at h
    subst h
    clear HALL
    go_enter Tryd.func32, Tryd.ntmps32
    go_wp2
    go_ret
    exact ⟨rfl, Below.refl _ _⟩
def text_Runes.f (s : ByteArray) : Option (Int × Bool) := if s.size ≤ 140737488351232 then some (((runesL (strL s)).getD 0 : Nat), (runesL (strL s)).isSome) else none
theorem strCells_of (l : Bs) : Lib.strCells ⟨l.toArray⟩ = Lib.byteCells l := by
  simp [Lib.strCells, Lib.byteCells]
theorem err_take (l : Bs) (hne : l ≠ []) (hr : run1 l = 65533) (hb : ¬ badL l) : l.take (wid l) = [239, 191, 189] ∧ wid l = 3 := by
  rcases shapeL l hne with ⟨h, -⟩ | ⟨-, w, h0, hr2⟩ | ⟨-, w, hn, -, h0, h1, hv, hr2⟩ | ⟨-, w, hn, -, h0, h1, h2, hv, hs, hr2⟩ | ⟨-, w, hn, -, h0, h1, h2, h3, hv, hs, hr2⟩
  · exact absurd h hb
  · omega
  · omega
  · refine ⟨?_, w⟩
    rw [w, takeC l hn]
    have a0 : l.getD 0 0 = 239 := by rw [← UInt8.toNat_inj]; show _ = 239; omega
    have a1 : l.getD 1 0 = 191 := by rw [← UInt8.toNat_inj]; show _ = 191; omega
    have a2 : l.getD 2 0 = 189 := by rw [← UInt8.toNat_inj]; show _ = 189; omega
    rw [a0, a1, a2]
  · omega
theorem err_bad (l t : Bs) (h : l = 239 :: 191 :: 189 :: t) : ¬ badL l := by
  subst h
  unfold badL
  rw [decodeL_N]
  have e0 : ((239 : UInt8) :: 191 :: 189 :: t).getD 0 0 = 239 := rfl
  have e1 : ((239 : UInt8) :: 191 :: 189 :: t).getD 1 0 = 191 := rfl
  have e2 : ((239 : UInt8) :: 191 :: 189 :: t).getD 2 0 = 189 := rfl
  rw [e0, e1, e2, dN3 (by decide) (by simp) (by decide) (by decide) (by decide) (by decide)]
  decide
theorem prefix_err (s : ByteArray) (p : Nat) (hp : p < s.size) (hr : run1 ((strL s).drop p) = 65533) : Lib.hasPrefix (s.extract p s.size).data.toList (⟨#[239, 191, 189]⟩ : ByteArray).data.toList = decide (¬ badL ((strL s).drop p)) := by
  have hx : (s.extract p s.size).data.toList = (strL s).drop p := by
    have := strL_len s
    unfold strL at this ⊢
    rw [ByteArray.data_extract, Array.toList_extract, List.extract_eq_take_drop]
    rw [List.take_of_length_le]
    rw [List.length_drop, this]; omega
  rw [hx]
  show List.isPrefixOf [239, 191, 189] ((strL s).drop p) = _
  by_cases hb : badL ((strL s).drop p)
  · rw [decide_eq_false (fun h => h hb)]
    rw [Bool.eq_false_iff]
    intro h
    rw [List.isPrefixOf_iff_prefix] at h
    obtain ⟨t, ht⟩ := h
    exact err_bad _ t ht.symm hb
  · rw [decide_eq_true hb]
    have ht := (err_take _ (drop_ne hp) hr hb).1
    rw [List.isPrefixOf_iff_prefix]
    exact ⟨((strL s).drop p).drop (wid ((strL s).drop p)), by
      have := List.take_append_drop (wid ((strL s).drop p)) ((strL s).drop p)
      rw [ht] at this
      exact this⟩
theorem cells_err : Lib.runeCells 65533 = Lib.byteCells [239, 191, 189] := by rfl
theorem bytes_enc (l : Bs) (hne : l ≠ []) (hb : ¬ badL l) : Lib.runeCells (run1 l : Int) = Lib.byteCells (l.take (wid l)) := by
  rw [← Lib.byteCells_encodeRune]
  congr 1
  exact encode_decode l hne hb
def text_Escape.f (s : ByteArray) : Option ByteArray := if s.size ≤ 1000000000 then some ⟨(escL (strL s)).toArray⟩ else none
end Go.Proofs.YtnlhomgclplnhaaDoor.E


-- Written for this claim by wip/myprint.py, this session's driver over the kit's print.py. Not trusted: Lean checks it.
namespace Go.Proofs.YtnlhomgclplnhaaDoor.Pr
open Go.RowKit Go.Proofs.YtnlhomgclplnhaaDoorW.PrintWords Go.Proofs.YtnlhomgclplnhaaDoorW.PrintLast Go.Proofs.YtnlhomgclplnhaaDoorW.PrintMore Go.Proofs.YtnlhomgclplnhaaDoor.E
attribute [local go_sem] max2_int min2_int max_two min_two max_three min_three max_four min_four   -- for this text's walks alone
set_option linter.unusedVariables false
set_option linter.unusedSimpArgs false

/-! ### hexa_half: function 76 -/
def hexa_half.j0 : Nat → Int → Bool → Option (Int × Bool)
 | 0, _, _ => none
 | k + 1, x0, x4 => if x4 = true then (some ((wrap32 (x0 - 48)) % 256, true)) else (if x0 ≥ 97 then (if x0 ≤ 102 then (some ((((wrap32 (x0 - 97)) % 256) + 10) % 256, true)) else (some (0, false))) else (some (0, false)))
def hexa_half.f (k : Nat) (a0 : Int) : Option (Int × Bool) := if a0 ≥ 48 then (hexa_half.j0 k a0 (decide (a0 ≤ 57))) else (hexa_half.j0 k a0 false)
theorem hexa_half.mono_l : ∀ k, (∀ y0 y1, LeO (hexa_half.j0 k y0 y1) (hexa_half.j0 (k + 1) y0 y1))
 | 0 => fun _ _ r h => by simp [hexa_half.j0] at h
 | k + 1 => by
  have ih0 := hexa_half.mono_l k
  ·intro y0 y1
   unfold hexa_half.j0
   repeat' first
   | (with_reducible exact ih0 _ _)
   | (with_reducible exact LeO.refl _)
   | (with_reducible exact LeO.none _)
   | (with_reducible refine LeO.ite ?_ ?_)
   | (with_reducible refine LeO.bind ?_ (fun _ => ?_))
   | exact ih0 _ _
   | exact LeO.none _
   | refine LeO.ite ?_ ?_
   | refine LeO.bind ?_ (fun _ => ?_)
theorem hexa_half.mono : ∀ a0 k, LeO (hexa_half.f k a0) (hexa_half.f (k + 1) a0) := by
 intro a0 k
 have ih0 := hexa_half.mono_l k
 unfold hexa_half.f
 repeat' first
   | (with_reducible exact ih0 _ _)
   | (with_reducible exact LeO.refl _)
   | (with_reducible exact LeO.none _)
   | (with_reducible refine LeO.ite ?_ ?_)
   | (with_reducible refine LeO.bind ?_ (fun _ => ?_))
   | exact ih0 _ _
   | exact LeO.none _
   | refine LeO.ite ?_ ?_
   | refine LeO.bind ?_ (fun _ => ?_)
set_option maxHeartbeats 8000000 in
set_option maxRecDepth 1000000 in
theorem hexa_half.calls (k : Nat) (a0 : Int) (r1 : Int) (r2 : Bool) (w : World) (h : hexa_half.f k a0 = some (r1, r2)) :
  Calls Tryd.prog 76 #[.int .i32 a0] w fun e w' => e = .returned (.tuple #[.int .u8 r1, .bool r2]) ∧ Drawn0 w w' := by
 have H : (if a0 ≥ 48 then (hexa_half.j0 k a0 (decide (a0 ≤ 57))) else (hexa_half.j0 k a0 false)) = some (r1, r2) := h
 clear h
 have HC2 := Aside0.mk H
 clear H
 go_enter Tryd.func76, Tryd.ntmps76
 go_upto_region 1 with (fail)
 go_cut [4] (fun v4 wc => ∃ (kq : Nat) (x4_1 : Bool), v4 = .bool x4_1 ∧ Aside0 (hexa_half.j0 kq a0 x4_1 = some (r1, r2)) ∧ Aside0 (kq ≤ k) ∧ Drawn0 w wc)
 case first =>
  have H := HC2.out
  clear HC2
  by_cases c3 : a0 ≥ 48
  ·rw [if_pos c3] at H
   have c3b0 : decide (48 ≤ a0) = true := decide_eq_true c3
   clear c3
   (first | rw [c3b0] | (simp only [i64_w, i32_w]; rw [c3b0]) | skip)
   have H' := Aside0.mk H
   clear H
   go_wp2
   go_meet
   case rel => exact ⟨_, (decide (a0 ≤ 57)), (by first | rfl | (simp; done) | (simp [*]; done)), H', ⟨by first | omega | exact Nat.le_refl _⟩, by repeat (first | exact Drawn0.refl _ | apply Drawn0.step)⟩
  ·rw [if_neg c3] at H
   have c3b0 : decide (48 ≤ a0) = false := decide_eq_false c3
   clear c3
   (first | rw [c3b0] | (simp only [i64_w, i32_w]; rw [c3b0]) | skip)
   have H' := Aside0.mk H
   clear H
   go_wp2
   go_meet
   case rel => exact ⟨_, (false), (by first | rfl | (simp; done) | (simp [*]; done)), H', ⟨by first | omega | exact Nat.le_refl _⟩, by repeat (first | exact Drawn0.refl _ | apply Drawn0.step)⟩
 case rest =>
  clear HC2
  try clear p2
  try clear c3
  try clear c3b0
  obtain ⟨kq, x4_1, rfl, HA, HJ1, ⟨mc1, rfl⟩⟩ := hcut
  cases kq with
  | zero => exact absurd HA.out (by simp [hexa_half.j0])
  | succ kj1 =>
   have H := HA.out
   clear HA
   simp only [hexa_half.j0] at H
   by_cases c4 : x4_1 = true
   ·subst c4
    have H1 : (some ((wrap32 (a0 - 48)) % 256, true)) = some (r1, r2) := by rw [if_pos rfl] at H; exact H
    clear H
    have H := H1
    clear H1
    simp only [Option.some.injEq, Prod.mk.injEq] at H
    obtain ⟨rfl, rfl⟩ := H
    go_wp2
    go_ret2
    exact ⟨by first | rfl | (simp; done) | (simp [*]; done), by repeat (first | exact Drawn0.refl _ | apply Drawn0.step)⟩
   ·replace c4 := Bool.eq_false_iff.mpr c4
    subst c4
    have H1 : (if a0 ≥ 97 then (if a0 ≤ 102 then (some ((((wrap32 (a0 - 97)) % 256) + 10) % 256, true)) else (some (0, false))) else (some (0, false))) = some (r1, r2) := by rw [if_neg (show ¬ (false = true) by decide)] at H; exact H
    clear H
    have H := H1
    clear H1
    by_cases c5 : a0 ≥ 97
    ·rw [if_pos c5] at H
     have c5b0 : decide (97 ≤ a0) = true := decide_eq_true c5
     clear c5
     by_cases c6 : a0 ≤ 102
     ·rw [if_pos c6] at H
      have c6b0 : decide (a0 ≤ 102) = true := decide_eq_true c6
      clear c6
      simp only [Option.some.injEq, Prod.mk.injEq] at H
      obtain ⟨rfl, rfl⟩ := H
      go_wp2
      go_ret2
      exact ⟨by first | rfl | (simp; done) | (simp [*]; done), by repeat (first | exact Drawn0.refl _ | apply Drawn0.step)⟩
     ·rw [if_neg c6] at H
      have c6b0 : decide (a0 ≤ 102) = false := decide_eq_false c6
      clear c6
      simp only [Option.some.injEq, Prod.mk.injEq] at H
      obtain ⟨rfl, rfl⟩ := H
      go_wp2
      go_ret2
      exact ⟨by first | rfl | (simp; done) | (simp [*]; done), by repeat (first | exact Drawn0.refl _ | apply Drawn0.step)⟩
    ·rw [if_neg c5] at H
     have c5b0 : decide (97 ≤ a0) = false := decide_eq_false c5
     clear c5
     simp only [Option.some.injEq, Prod.mk.injEq] at H
     obtain ⟨rfl, rfl⟩ := H
     go_wp2
     go_ret2
     exact ⟨by first | rfl | (simp; done) | (simp [*]; done), by repeat (first | exact Drawn0.refl _ | apply Drawn0.step)⟩

end Go.Proofs.YtnlhomgclplnhaaDoor.Pr

/- The contracts of hexa.Text and hexa.Bytes, typed by hand, in the form of the printed ones. -/
namespace Go.Proofs.YtnlhomgclplnhaaDoor.E
open Go.RowKit Go.Proofs.YtnlhomgclplnhaaDoorW.PrintWords Go.Proofs.YtnlhomgclplnhaaDoorW.PrintLast Go.Proofs.YtnlhomgclplnhaaDoorW.PrintMore Go.Proofs.YtnlhomgclplnhaaDoor.Pr
set_option linter.unusedVariables false
set_option linter.unusedSimpArgs false

/-- A digit's sign. -/
def dg (c : Int) : Int := if c < 10 then 48 + c else 87 + c
def hexL (l : List Int) : List Int := l.flatMap fun c => [dg (c / 16), dg (c % 16)]
def toB (l : List Int) : List UInt8 := l.map fun c => UInt8.ofNat c.toNat
theorem dg_range {c : Int} (h0 : 0 ≤ c) (h1 : c < 16) : 0 ≤ dg c ∧ dg c ≤ 255 := by unfold dg; split <;> omega
theorem sixteen (P : Int → Prop) (h : ∀ m : Fin 16, P (m.val : Int)) {n : Int} (h0 : 0 ≤ n) (h1 : n < 16) : P n := by
  have := h ⟨n.toNat, by omega⟩
  simpa [Int.toNat_of_nonneg h0] using this
theorem dg_at : ∀ (n : Int) (h0 : 0 ≤ n) (h1 : n < 16), ∀ (h : n.toNat < (⟨#[48, 49, 50, 51, 52, 53, 54, 55, 56, 57, 97, 98, 99, 100, 101, 102]⟩ : ByteArray).size), (((⟨#[48, 49, 50, 51, 52, 53, 54, 55, 56, 57, 97, 98, 99, 100, 101, 102]⟩ : ByteArray)[n.toNat]'h).toNat : Int) = dg n := by
  intro n h0 h1
  refine sixteen (fun n => ∀ h : n.toNat < (⟨#[48, 49, 50, 51, 52, 53, 54, 55, 56, 57, 97, 98, 99, 100, 101, 102]⟩ : ByteArray).size, (((⟨#[48, 49, 50, 51, 52, 53, 54, 55, 56, 57, 97, 98, 99, 100, 101, 102]⟩ : ByteArray)[n.toNat]'h).toNat : Int) = dg n) ?_ h0 h1
  decide
theorem cells_step (l : List Int) (y : Int) (h0 : 0 ≤ y) (h1 : y ≤ 255) : Lib.byteCells (toB (l ++ [y])) = Lib.byteCells (toB l) ++ [.int .u8 y] := by
  simp only [toB, List.map_append, List.map_cons, List.map_nil, Lib.byteCells]
  congr 3
  simp
  omega
theorem hexL_step (l : List Int) (k : Nat) (h : k < l.length) : hexL (l.take (k + 1)) = hexL (l.take k) ++ [dg (rd l k / 16)] ++ [dg (rd l k % 16)] := by
  have : l.take (k + 1) = l.take k ++ [rd l k] := by
    rw [List.take_succ_eq_append_getElem h]; simp [rd, List.getD_eq_getElem?_getD, h]
  rw [this]; simp [hexL]
theorem hexL_length (l : List Int) : (hexL l).length = 2 * l.length := by
  induction l with
  | nil => rfl
  | cons a l ih => simp [hexL] at ih ⊢; omega
theorem toB_length (l : List Int) : (toB l).length = l.length := by simp [toB]

def hexa_Text.f (l0 : List Int) : Option ByteArray := if (∀ x ∈ l0, 0 ≤ x ∧ x ≤ 255) ∧ l0.length ≤ 70368744177664 then some ⟨(toB (hexL l0)).toArray⟩ else none
/-- What a sign means; below nought: nothing. -/
def hv (c : Int) : Int := if 48 ≤ c ∧ c ≤ 57 then c - 48 else if 97 ≤ c ∧ c ≤ 102 then c - 87 else -1
theorem hv_range (c : Int) : -1 ≤ hv c ∧ hv c ≤ 15 := by unfold hv; split; omega; split <;> omega
theorem hv_ascii (c : Int) (h : 0 ≤ hv c) : 0 ≤ c ∧ c < 128 := by unfold hv at h; split at h; omega; split at h <;> omega
theorem half_yes (r : Int) (w : World) (h : 0 ≤ hv r) :
    Calls Tryd.prog 76 #[.int .i32 r] w fun e w' => e = .returned (.tuple #[.int .u8 (hv r), .bool true]) ∧ Drawn0 w w' := by
  refine hexa_half.calls 1 r _ _ w ?_
  unfold hv at h
  unfold hexa_half.f hexa_half.j0
  by_cases h1 : 48 ≤ r ∧ r ≤ 57
  · rw [if_pos h1.1]; simp [h1, hv, wrap32]; omega
  · rw [if_neg h1] at h
    by_cases h2 : 97 ≤ r ∧ r ≤ 102
    · have h3 : ¬ r ≤ 57 := by omega
      rw [if_pos (by omega)]; simp [h1, h2, h3, hv, wrap32]; omega
    · rw [if_neg h2] at h; omega
theorem half_no (r : Int) (w : World) (h : hv r < 0) :
    Calls Tryd.prog 76 #[.int .i32 r] w fun e w' => e = .returned (.tuple #[.int .u8 0, .bool false]) ∧ Drawn0 w w' := by
  refine hexa_half.calls 1 r _ _ w ?_
  unfold hv at h
  unfold hexa_half.f hexa_half.j0
  by_cases h1 : 48 ≤ r ∧ r ≤ 57
  · rw [if_pos h1] at h; omega
  · rw [if_neg h1] at h
    by_cases h2 : 97 ≤ r ∧ r ≤ 102
    · rw [if_pos h2] at h; omega
    · split
      · have : ¬ r ≤ 57 := by omega
        simp [this]; omega
      · simp; omega
/-- Two signs are one byte. -/
def pairs : List Int → List Int
  | a :: b :: l => (16 * hv a + hv b) :: pairs l
  | _ => []
theorem pairs_append : ∀ (l m : List Int), l.length % 2 = 0 → pairs (l ++ m) = pairs l ++ pairs m
  | [], m, _ => rfl
  | [a], m, h => by simp at h
  | a :: b :: l, m, h => by
    show pairs (a :: b :: (l ++ m)) = _
    simp only [pairs, List.cons_append]
    rw [pairs_append l m (by simp at h; omega)]
theorem pairs_length : ∀ (l : List Int), (pairs l).length = l.length / 2
  | [] => rfl
  | [a] => by simp [pairs]
  | a :: b :: l => by simp only [pairs, List.length_cons]; rw [pairs_length l]; omega
def hexa_Bytes.f (s : ByteArray) : Option (List Int × Bool) :=
  if s.size ≤ 140737488351232 then some (if (bytesOf s).all (fun c => decide (0 ≤ hv c)) = true ∧ s.size % 2 = 0 then (pairs (bytesOf s), true) else ([], false)) else none
theorem or16 : ∀ a b : Fin 16, bits BinOp.or .u8 ((a.val : Int) * 16 % 256) (b.val : Int) = 16 * (a.val : Int) + (b.val : Int) := by decide +kernel
theorem or16' (a b : Int) (ha : 0 ≤ a) (ha2 : a < 16) (hb : 0 ≤ b) (hb2 : b < 16) : bits BinOp.or .u8 (a * 16 % 256) b = 16 * a + b := by
  have := or16 ⟨a.toNat, by omega⟩ ⟨b.toNat, by omega⟩
  simpa [Int.toNat_of_nonneg ha, Int.toNat_of_nonneg hb] using this
/-- Where the rune's value is a digit's, it is a byte's own. -/
theorem decode_hv (s : ByteArray) (k : Nat) (hp : k < s.size) : (0 ≤ hv (Utf8.decode s k).1 ∧ 0 ≤ hv (bt s k) ∧ ((Utf8.decode s k).1 : Int) = bt s k ∧ (Utf8.decode s k).2 = 1) ∨ (hv (Utf8.decode s k).1 < 0 ∧ hv (bt s k) < 0) := by
  have hb : bt s k = ((s[k]'hp).toNat : Int) := by simp [bt, hp]
  by_cases ha : (s[k]'hp).toNat < 128
  · rw [decode_ascii s k hp ha]
    simp only [hb]
    by_cases h : 0 ≤ hv ((s[k]'hp).toNat : Int)
    · exact .inl ⟨h, h, trivial, trivial⟩
    · exact .inr ⟨by omega, by omega⟩
  · refine .inr ⟨?_, ?_⟩
    · have := (decode_high s k hp (by omega)).1
      rcases Int.lt_or_le (hv (Utf8.decode s k).1) 0 with h | h
      · exact h
      · have := hv_ascii _ h; omega
    · rcases Int.lt_or_le (hv (bt s k)) 0 with h | h
      · exact h
      · have := hv_ascii _ h; omega
theorem rd_bytes (s : ByteArray) (k : Nat) (h : k < s.size) : (bytesOf s).take (k + 1) = (bytesOf s).take k ++ [bt s k] := by
  have hl : k < (bytesOf s).length := by rw [bytesOf_length]; exact h
  rw [List.take_succ_eq_append_getElem hl, ← rd_bytesOf]
  simp [rd, List.getD_eq_getElem?_getD, hl]
/-- What the loop has done behind k signs. -/
structure HB (s : ByteArray) (k : Nat) (up : Int) (odd : Bool) (out : List Int) : Prop where
  hex : ∀ c ∈ (bytesOf s).take k, 0 ≤ hv c
  le : k ≤ s.size
  odd' : odd = decide (k % 2 = 1)
  upr : 0 ≤ up ∧ up < 16
  upl : k % 2 = 1 → (bytesOf s).take k = (bytesOf s).take (k - 1) ++ [bt s (k - 1 : Nat)] ∧ up = hv (bt s (k - 1 : Nat))
  out' : out = pairs ((bytesOf s).take (k - k % 2))
theorem HB.start (s : ByteArray) : HB s 0 0 false [] := ⟨by simp, Nat.zero_le _, rfl, by omega, by simp, by simp [pairs]⟩
theorem HB.even {s : ByteArray} {k : Nat} {up : Int} {out : List Int} (h : HB s k up false out) (hp : k < s.size) (hh : 0 ≤ hv (bt s k)) : HB s (k + 1) (hv (bt s k)) true out := by
  have he : k % 2 = 0 := by have := h.odd'; simp at this; omega
  have hr := hv_range (bt s k)
  refine ⟨?_, hp, by simp; omega, by omega, ?_, ?_⟩
  · intro c hc
    rw [rd_bytes s k hp] at hc
    rcases List.mem_append.1 hc with hc | hc
    · exact h.hex c hc
    · simp at hc; subst hc; exact hh
  · intro _
    refine ⟨?_, rfl⟩
    exact rd_bytes s k hp
  · have e1 : k + 1 - (k + 1) % 2 = k - k % 2 := by omega
    rw [e1]; exact h.out'
theorem HB.odds {s : ByteArray} {k : Nat} {up : Int} {out : List Int} (h : HB s k up true out) (hp : k < s.size) (hh : 0 ≤ hv (bt s k)) : HB s (k + 1) (hv (bt s k)) false (out ++ [16 * up + hv (bt s k)]) := by
  have he : k % 2 = 1 := by have := h.odd'; simp at this; omega
  have hr := hv_range (bt s k)
  refine ⟨?_, hp, by simp; omega, by omega, by omega, ?_⟩
  · intro c hc
    rw [rd_bytes s k hp] at hc
    rcases List.mem_append.1 hc with hc | hc
    · exact h.hex c hc
    · simp at hc; subst hc; exact hh
  · have e1 : k + 1 - (k + 1) % 2 = k + 1 := by omega
    have e2 : k - k % 2 = k - 1 := by omega
    obtain ⟨h1, h2⟩ := h.upl he
    rw [e1, rd_bytes s k hp, h1, h.out', e2, List.append_assoc, pairs_append _ _ (by rw [List.length_take, bytesOf_length]; omega), h2]
    rfl
theorem info5 : (Tryd.prog.info? 5).map (fun i => (i.zero, i.size, i.bytes)) = some (some (.int .u8 0), 1, 1) := by kernel_rfl
set_option maxHeartbeats 2000000 in
set_option maxRecDepth 100000 in
theorem hexa_Bytes.calls (s : ByteArray) (r1 : List Int) (r2 : Bool) (w : World) (h : hexa_Bytes.f s = some (r1, r2)) :
    Calls Tryd.prog 62 #[.string s] w fun e w' => ∃ v0_ : Value, e = .returned (.tuple #[v0_, .bool r2]) ∧ Kd.R (Kd.int .u8) 5 w' w.heap.size (fun _ => True) v0_ r1 ∧ Below w.heap.size w w' := by
  unfold hexa_Bytes.f at h
  have hs : s.size ≤ 140737488351232 := by
    rcases Nat.lt_or_ge 140737488351232 s.size with h' | h'
    · rw [if_neg (by omega)] at h; cases h
    · exact h'
  rw [if_pos hs] at h
  have HH := Aside0.mk h
  clear h
  obtain ⟨i0, hi, hz0, hz1, hz2⟩ := info_parts info5
  go_enter Tryd.func62, Tryd.ntmps62
  go_wp2
  go_loopw [4, 5, 6] (fun v4 v5 v6 wr => ∃ (k : Nat) (up : Int) (odd : Bool) (out : List Int), wr.heap[w.heap.size]? = some (.stringIter s k) ∧ wr.ownsRow (w.heap.size + 1) 5 1 v4 out.length (nums .u8 out) ∧ v5 = .int .u8 up ∧ v6 = .bool odd ∧ Aside0 (HB s k up odd out) ∧ Below w.heap.size w wr) (fun _ _ _ wr => s.size - wr.iterPos w.heap.size)
  case atStart =>
    exact ⟨0, 0, false, [], by simpa using World.iter_heap w s 0, own_nil _ _ _ _, rfl, rfl, ⟨HB.start s⟩, by simpa [World.iter] using (Below.refl _ w).alloc (Nat.le_refl _) _⟩
  case round =>
    obtain ⟨k, up, odd, out, hit, hown, rfl, rfl, hH, hbw⟩ := hrel
    have hsz : w.heap.size < wr.heap.size := (Array.getElem?_eq_some_iff.1 hit).1
    by_cases hp : k < s.size
    · have hnx : ∀ ty, (Instr.next (.pointer (some ⟨w.heap.size, 0, none⟩)) true ty).run Tryd.prog wr = _ := fun ty => Lib.run_next_any_at wr w.heap.size s k ty hit hp
      have hd1 := decode_le s k
      rcases decode_hv s k hp with ⟨hh, hb, hd, hd2⟩ | ⟨hh, hb⟩
      · rw [hd2] at hnx
        have hit2 := Lib.iterAt_heap wr w.heap.size s k (k + 1) hit
        have hbw2 := Lib.below_iterAt hbw (k := w.heap.size) (by omega) s (k + 1)
        have hsz2 : (wr.iterAt w.heap.size s (k + 1)).heap.size = wr.heap.size := Lib.iterAt_size ..
        have hown2 := ownsRow_iterAt hown (k := w.heap.size) (by omega) s (k + 1)
        cases odd with
        | false =>
          have H2 := Aside0.mk (HB.even hH.out hp hb)
          rw [hd] at hh hnx
          clear hd hd2 hown hH
          go_wp2_with (go_at_call 76; refine (half_yes _ _ hh).mono ?_; rintro e w' ⟨rfl, ⟨n, rfl⟩⟩)
          go_roundw
          case rel => exact ⟨k + 1, _, true, out, hit2, pw_own_below hown2 (pw_below_drewN (Below.refl _ _) n), rfl, rfl, H2, pw_below_drewN hbw2 n⟩
          case measure =>
            have e1 : ((wr.iterAt w.heap.size s (k + 1)).drewN n).iterPos w.heap.size = k + 1 := by simp [World.iterPos, hit2]
            have e2 : wr.iterPos w.heap.size = k := by simp [World.iterPos, hit]
            rw [e1, e2]; omega
        | true =>
          have H2 := Aside0.mk (HB.odds hH.out hp hb)
          have ho := or16' up (hv (bt s k)) hH.out.upr.1 hH.out.upr.2 hb (by have := hv_range (bt s k); omega)
          rw [hd] at hh hnx
          have hlen : out.length ≤ s.size := by rw [hH.out.out', pairs_length, List.length_take, bytesOf_length]; omega
          clear hd hd2 hown hH
          go_wp2_with (first | (go_at_call 76; refine (half_yes _ _ hh).mono ?_; rintro e w' ⟨rfl, ⟨n, rfl⟩⟩) | (at_builtin; refine wpList_append_own _ rfl _ _ 22 rfl (w.heap.size + 1) 5 i0 (.int .u8 0) 1 1 Tryd.underlying22 hi hz0 hz1 hz2 rfl (by decide) _ _ _ rfl ((pw_own_below hown2 (pw_below_drewN (Below.refl _ _) n)).alloc _) ⟨wr.heap.size, 0, none⟩ 1 1 [.int .u8 (16 * up + hv (bt s k))] rfl rfl ?c1 ?c2 ?c3 ?c4 ?c5 ?_))
          case c1 =>
            intro j u hj
            have h9 := cell_one_new ((wr.iterAt w.heap.size s (k + 1)).drewN n) (.int .u8 (16 * up + hv (bt s k))) 5 j u hj
            rw [show ((wr.iterAt w.heap.size s (k + 1)).drewN n).heap.size = wr.heap.size from hsz2] at h9
            exact h9
          case c2 => intro u hu; simp at hu; subst hu; rfl
          case c3 => unfold maxLen; omega
          case c4 => omega
          case c5 => simp; omega
          intro v1 w2 hown1 hgrow _
          have hown3 : w2.ownsRow (w.heap.size + 1) 5 1 v1 (out ++ [16 * up + hv (bt s k)]).length (nums .u8 (out ++ [16 * up + hv (bt s k)])) := by simpa [nums] using hown1
          have hit3 : w2.heap[w.heap.size]? = some (.stringIter s (k + 1)) := by
            rw [hgrow.block w.heap.size (by simp; omega) (fun e => by have := own_base hown2 w.heap.size e.symm; omega), Lib.alloc_old _ _ _ (by show w.heap.size < (wr.iterAt w.heap.size s (k + 1)).heap.size; omega)]
            exact hit2
          have hbw3 : Below w.heap.size w w2 := ((pw_below_drewN hbw2 n).alloc (by show w.heap.size ≤ (wr.iterAt w.heap.size s (k + 1)).heap.size; omega) _).grown hgrow (by simp; omega) (fun b e => by have := own_base hown2 b e; omega)
          clear hown1 hgrow hown2
          obtain ⟨A1, cc, rfl⟩ := own_slice hown3
          go_wp2
          go_roundw
          case rel => exact ⟨k + 1, _, false, _, hit3, hown3, rfl, rfl, H2, hbw3⟩
          case measure =>
            have e1 : w2.iterPos w.heap.size = k + 1 := by simp [World.iterPos, hit3]
            have e2 : wr.iterPos w.heap.size = k := by simp [World.iterPos, hit]
            rw [e1, e2]; omega
      · have hbw2 := Lib.below_iterAt hbw (k := w.heap.size) (by omega) s (k + (Utf8.decode s k).2)
        have hr : r1 = [] ∧ r2 = false := by
          have h0 := HH.out
          have hn : ¬ (bytesOf s).all (fun c => decide (0 ≤ hv c)) = true := by
            intro ha
            have := List.all_eq_true.1 ha (bt s k) (by
              have h1 : k < (bytesOf s).length := by rw [bytesOf_length]; exact hp
              rw [← rd_bytesOf]; simp [rd, List.getD_eq_getElem?_getD, h1])
            simp at this; omega
          rw [if_neg (fun h => hn h.1)] at h0
          simpa [eq_comm] using h0
        obtain ⟨rfl, rfl⟩ := hr
        clear hown hH HH hit
        go_wp2_with (go_at_call 76; refine (half_no _ _ hh).mono ?_; rintro e w' ⟨rfl, ⟨n, rfl⟩⟩)
        go_ret2
        exact ⟨_, rfl, Kd.R_nil _ _ _ _ _, pw_below_drewN hbw2 n⟩
    · have hnx : ∀ ty, (Instr.next (.pointer (some ⟨w.heap.size, 0, none⟩)) true ty).run Tryd.prog wr = _ := fun ty => Lib.run_next_end_at wr w.heap.size s k ty hit hp
      obtain rfl : k = s.size := by have := hH.out.le; omega
      have hT := hH.out.hex
      rw [List.take_of_length_le (by rw [bytesOf_length]; exact Nat.le_refl _)] at hT
      have hall : (bytesOf s).all (fun c => decide (0 ≤ hv c)) = true := by rw [List.all_eq_true]; intro c hc; simpa using hT c hc
      have hodd := hH.out.odd'
      have hout := hH.out.out'
      clear hT hH
      obtain ⟨A1, cc, rfl⟩ := own_slice hown
      cases odd with
      | true =>
        have hr : r1 = [] ∧ r2 = false := by
          have h0 := HH.out
          rw [if_neg (fun h => by simp at hodd; omega)] at h0
          simpa [eq_comm] using h0
        obtain ⟨rfl, rfl⟩ := hr
        clear hodd hout hown HH hall hit
        go_wp2
        go_ret2
        exact ⟨_, rfl, Kd.R_nil _ _ _ _ _, hbw⟩
      | false =>
        have hz : s.size % 2 = 0 := by simp at hodd; omega
        have hr : r1 = out ∧ r2 = true := by
          have h0 := HH.out
          rw [if_pos ⟨hall, hz⟩] at h0
          rw [hz, Nat.sub_zero, List.take_of_length_le (by rw [bytesOf_length]; exact Nat.le_refl _)] at hout
          rw [hout]
          simpa [eq_comm] using h0
        obtain ⟨rfl, rfl⟩ := hr
        have hR : Kd.R (Kd.int .u8) 5 wr w.heap.size (fun _ => True) (.slice A1 r1.length cc) r1 := Kd.R_lower (Kd.R_of_own hown (fun _ _ => trivial)) (Nat.le_succ _)
        clear hodd hout hown HH hall hz hit
        go_wp2
        go_ret2
        exact ⟨_, rfl, hR, hbw⟩
attribute [local go_sem] max2_int min2_int max_two min_two max_three min_three max_four min_four
theorem bapp (a b : List UInt8) : (⟨a.toArray⟩ : ByteArray) ++ ⟨b.toArray⟩ = ⟨(a ++ b).toArray⟩ := by
  apply ByteArray.ext
  rw [ByteArray.data_append]
  simp
theorem dig_ext : ∀ (n : Int) (h0 : 0 ≤ n) (h1 : n < 16), ((⟨#[48, 49, 50, 51, 52, 53, 54, 55, 56, 57, 97, 98, 99, 100, 101, 102]⟩ : ByteArray).extract n.toNat (n + 1).toNat) = ⟨[UInt8.ofNat (dg n).toNat].toArray⟩ := by
  intro n h0 h1
  refine sixteen (fun n => ((⟨#[48, 49, 50, 51, 52, 53, 54, 55, 56, 57, 97, 98, 99, 100, 101, 102]⟩ : ByteArray).extract n.toNat (n + 1).toNat) = ⟨[UInt8.ofNat (dg n).toNat].toArray⟩) ?_ h0 h1
  decide
theorem toB_append (l m : List Int) : toB (l ++ m) = toB l ++ toB m := by simp [toB]
theorem text_step (l : List Int) (k : Nat) (h : k < l.length) (a b : Int) (ha : a = rd l k / 16) (hb : b = rd l k % 16) (h0 : 0 ≤ rd l k) (h1 : rd l k ≤ 255) :
    (⟨(toB (hexL (l.take k))).toArray⟩ : ByteArray) ++ (⟨#[48, 49, 50, 51, 52, 53, 54, 55, 56, 57, 97, 98, 99, 100, 101, 102]⟩ : ByteArray).extract a.toNat (a + 1).toNat ++ (⟨#[48, 49, 50, 51, 52, 53, 54, 55, 56, 57, 97, 98, 99, 100, 101, 102]⟩ : ByteArray).extract b.toNat (b + 1).toNat = ⟨(toB (hexL (l.take (k + 1)))).toArray⟩ := by
  rw [dig_ext a (by omega) (by omega), dig_ext b (by omega) (by omega), bapp, bapp, hexL_step l k h, toB_append, toB_append, ha, hb]
  rfl
set_option maxHeartbeats 2000000 in
set_option maxRecDepth 100000 in
theorem wicketmanref05_Text.any (A0 : Option Addr) (c0 : Nat) (l0 : List Int) (w : World) (hr0 : Kd.C (Kd.int .u8) w A0 l0.length l0) (hc0 : l0.length ≤ c0) (hall : ∀ x ∈ l0, 0 ≤ x ∧ x ≤ 255) (hlen : l0.length ≤ 70368744177664) :
    Calls Tryd.prog 50 #[.slice A0 l0.length c0] w fun e w' => e = .returned (.string ⟨(toB (hexL l0)).toArray⟩) ∧ Drawn0 w w' := by
  have HR0 := Aside0.mk hr0
  have HA := Aside0.mk hall
  clear hr0 hall
  go_enter Tryd.func50, Tryd.ntmps50
  go_wp2
  go_loopg [3, 4] (l0.length) (fun gk v3 v4 w' => ∃ (k : Nat), k ≤ l0.length ∧ v4 = .int .i64 k ∧ v3 = .string ⟨(toB (hexL (l0.take k))).toArray⟩ ∧ Aside0 (k + gk = l0.length) ∧ Drawn0 w w')
  case atStart => 
    exact ⟨0, Nat.zero_le _, rfl, rfl, ⟨by omega⟩, Drawn0.refl _⟩
  case round =>
    obtain ⟨k, hk, rfl, rfl, hgk, ⟨m1, rfl⟩⟩ := hrel
    by_cases hp : k < l0.length
    · obtain ⟨ad, rfl, hx⟩ := Kd.at_int (Kd.C_below HR0.out (pw_below_drewN (Below.refl _ w) m1)) (k : Int) (by omega) (by omega)
      have hx' : w.cell? (ad.add k) = some (.int .u8 (rd l0 k)) := by simpa using hx
      obtain ⟨x, ex⟩ : ∃ x, x = rd l0 k := ⟨_, rfl⟩
      rw [← ex] at hx'
      have hx0 : 0 ≤ x ∧ x ≤ 255 := by
        rw [ex]; apply HA.out; simp [rd, List.getD_eq_getElem?_getD, hp]
      clear hx
      have EX := Aside0.mk ex
      clear ex
      obtain ⟨h0, h1⟩ := hx0
      obtain ⟨S, hS⟩ : ∃ S, S = (⟨(toB (hexL (l0.take k))).toArray⟩ : ByteArray) := ⟨_, rfl⟩
      have hln : S.size ≤ 140737488355328 := by
        rw [hS]; show (toB (hexL (l0.take k))).toArray.size ≤ _; rw [List.size_toArray, toB_length, hexL_length, List.length_take]; omega
      rw [← hS]
      have HS := Aside0.mk hS
      clear hS
      obtain ⟨a, ea, ha0, ha1, ea2⟩ : ∃ a : Int, IntKind.u8.wrap (x.tdiv 16) = a ∧ 0 ≤ a ∧ a < 16 ∧ a = x / 16 := by
        refine ⟨x / 16, ?_, by omega, by omega, rfl⟩
        rw [Int.tdiv_eq_ediv_of_nonneg h0]; show (x / 16) % 256 = _; omega
      obtain ⟨b, eb, hb0, hb1, eb2⟩ : ∃ b : Int, x.tmod 16 = b ∧ 0 ≤ b ∧ b < 16 ∧ b = x % 16 := by
        refine ⟨x % 16, ?_, by omega, by omega, rfl⟩
        rw [Int.tmod_eq_emod_of_nonneg h0]
      have eb3 : IntKind.u8.wrap b = b := by show b % 256 = _; omega
      have ea4 : IntKind.u8.wrap (a + 1) = a + 1 := by show (a + 1) % 256 = _; omega
      have eb4 : IntKind.u8.wrap (b + 1) = b + 1 := by show (b + 1) % 256 = _; omega
      have ea5 : a ≤ a + 1 := by omega
      have ea6 : a + 1 ≤ 16 := by omega
      have ea7 : 0 ≤ a + 1 := by omega
      have eb5 : b ≤ b + 1 := by omega
      have eb6 : b + 1 ≤ 16 := by omega
      have eb7 : 0 ≤ b + 1 := by omega
      have EA := Aside0.mk ea2
      have EB := Aside0.mk eb2
      clear ea2 eb2 h0 h1 ha1 hb1
      go_wp2
      go_quiet (fail)
      have hfin : S ++ (⟨#[48, 49, 50, 51, 52, 53, 54, 55, 56, 57, 97, 98, 99, 100, 101, 102]⟩ : ByteArray).extract a.toNat (a + 1).toNat ++ (⟨#[48, 49, 50, 51, 52, 53, 54, 55, 56, 57, 97, 98, 99, 100, 101, 102]⟩ : ByteArray).extract b.toNat (b + 1).toNat = ⟨(toB (hexL (l0.take (k + 1)))).toArray⟩ := by
        have hx1 : 0 ≤ rd l0 k ∧ rd l0 k ≤ 255 := by apply HA.out; simp [rd, List.getD_eq_getElem?_getD, hp]
        rw [HS.out]; exact text_step l0 k hp a b (by rw [EA.out, EX.out]) (by rw [EB.out, EX.out]) hx1.1 hx1.2
      rw [hfin]
      clear ea eb eb3 ea4 eb4 hfin
      go_wp2
      go_roundg (l0.length - (k + 1))
      case measure => have := hgk.out; omega
      case rel => exact ⟨k + 1, by omega, by go_num, rfl, ⟨by omega⟩, ⟨⟨_, rfl⟩⟩⟩
    · obtain rfl : k = l0.length := by omega
      rw [List.take_length]
      go_wp2
      go_ret
      exact ⟨rfl, ⟨⟨_, rfl⟩⟩⟩
def wicketmanref05_Text.f (l0 : List Int) : Option ByteArray := hexa_Text.f l0
theorem wicketmanref05_Text.calls (A0 : Option Addr) (c0 : Nat) (l0 : List Int) (r : ByteArray) (w : World) (hr0 : Kd.C (Kd.int .u8) w A0 l0.length l0) (hc0 : l0.length ≤ c0) (h : wicketmanref05_Text.f l0 = some r) :
    Calls Tryd.prog 50 #[.slice A0 l0.length c0] w fun e w' => e = .returned (.string r) ∧ Below w.heap.size w w' := by
  unfold wicketmanref05_Text.f hexa_Text.f at h
  split at h
  · rename_i h2
    injection h with h
    subst h
    exact (wicketmanref05_Text.any A0 c0 l0 w hr0 hc0 h2.1 h2.2).mono fun _ _ h => ⟨h.1, h.2.below⟩
  · cases h
end Go.Proofs.YtnlhomgclplnhaaDoor.E


-- Written for this claim by wip/myprint.py, this session's driver over the kit's print.py. Not trusted: Lean checks it.
namespace Go.Proofs.YtnlhomgclplnhaaDoor.Pr
open Go.RowKit Go.Proofs.YtnlhomgclplnhaaDoorW.PrintWords Go.Proofs.YtnlhomgclplnhaaDoorW.PrintLast Go.Proofs.YtnlhomgclplnhaaDoorW.PrintMore Go.Proofs.YtnlhomgclplnhaaDoor.E
attribute [local go_sem] max2_int min2_int max_two min_two max_three min_three max_four min_four   -- for this text's walks alone
set_option linter.unusedVariables false
set_option linter.unusedSimpArgs false

/-! ### hexa_ID: function 33 -/
def hexa_ID.f (a0 : ByteArray) : Option (Bool) := (hexa_Bytes.f a0).bind fun bt101 => (if bt101.2 = true then (some ((bt101.1.length : Int) == 32)) else (some false))
set_option maxHeartbeats 8000000 in
set_option maxRecDepth 1000000 in
theorem hexa_ID.calls (a0 : ByteArray) (r : Bool) (w : World) (h : hexa_ID.f a0 = some r) :
  Calls Tryd.prog 33 #[.string a0] w fun e w' => e = .returned (.bool r) ∧ Below w.heap.size w w' := by
 have HB := Aside0.mk (Below.refl w.heap.size w)
 have H : ((hexa_Bytes.f a0).bind fun bt101 => (if bt101.2 = true then (some ((bt101.1.length : Int) == 32)) else (some false))) = some r := h
 clear h
 replace H := Option.bind_eq_some_iff.mp H
 obtain ⟨⟨t101, t102⟩, A20, H⟩ := H
 replace H : (if t102 = true then (some ((t101.length : Int) == 32)) else (some false)) = some r := H
 have A2 := Aside0.mk A20
 clear A20
 by_cases c3 : t102 = true
 ·subst c3
  have H1 : (some ((t101.length : Int) == 32)) = some r := by rw [if_pos rfl] at H; exact H
  clear H
  have H := H1
  clear H1
  obtain rfl := Option.some.inj H
  go_enter Tryd.func33, Tryd.ntmps33
  go_wp2_with (first | ((with_reducible refine gate_callee (f := 62) rfl ?_); refine goesL_ (some 7) rfl rfl Tryd.func62 (by kernel_rfl) rfl #[.string a0] rfl (by (try simp only [List.map_toArray, List.map_cons, List.map_nil]); first | done | rfl | (simp only [List.length_drop, List.length_take]; rfl)) ?_; (with_reducible refine (hexa_Bytes.calls a0 t101 true _ A2.out).mono ?_); rintro e w4 ⟨v103, rfl, ho0, hb⟩; refine ⟨_, rfl, ?_⟩; have n0_ := Aside0.mk (Kd.R_lower ho0 (below_size (by repeat (first | (with_reducible first | exact HB.out | apply below_alloc | apply pw_below_drewN | apply below_drew1) | exact HB.out)))); have n1_ := Aside0.mk (below_step (by repeat (first | (with_reducible first | exact HB.out | apply below_alloc | apply pw_below_drewN | apply below_drew1) | exact HB.out)) hb); clear HB; have HO104 := n0_; have HB := n1_; clear n0_ n1_; (try clear hb); (try clear hb2); (try clear hk); (try clear hi); (try clear ho0); obtain ⟨Ao5, co5, eo5⟩ := Kd.R_slice HO104.out; subst eo5))
  go_ret
  exact ⟨by first | rfl | (simp [errW_none, errW_some] <;> rfl) | (simp [*, errW_none, errW_some] <;> rfl), by repeat (first | (with_reducible first | exact HB.out | apply below_alloc | apply pw_below_drewN | apply below_drew1) | exact HB.out)⟩
 ·replace c3 := Bool.eq_false_iff.mpr c3
  subst c3
  have H1 : (some false) = some r := by rw [if_neg (show ¬ (false = true) by decide)] at H; exact H
  clear H
  have H := H1
  clear H1
  obtain rfl := Option.some.inj H
  go_enter Tryd.func33, Tryd.ntmps33
  go_wp2_with (first | ((with_reducible refine gate_callee (f := 62) rfl ?_); refine goesL_ (some 7) rfl rfl Tryd.func62 (by kernel_rfl) rfl #[.string a0] rfl (by (try simp only [List.map_toArray, List.map_cons, List.map_nil]); first | done | rfl | (simp only [List.length_drop, List.length_take]; rfl)) ?_; (with_reducible refine (hexa_Bytes.calls a0 t101 false _ A2.out).mono ?_); rintro e w6 ⟨v103, rfl, ho0, hb⟩; refine ⟨_, rfl, ?_⟩; have n0_ := Aside0.mk (Kd.R_lower ho0 (below_size (by repeat (first | (with_reducible first | exact HB.out | apply below_alloc | apply pw_below_drewN | apply below_drew1) | exact HB.out)))); have n1_ := Aside0.mk (below_step (by repeat (first | (with_reducible first | exact HB.out | apply below_alloc | apply pw_below_drewN | apply below_drew1) | exact HB.out)) hb); clear HB; have HO104 := n0_; have HB := n1_; clear n0_ n1_; (try clear hb); (try clear hb2); (try clear hk); (try clear hi); (try clear ho0)))
  go_ret
  exact ⟨by first | rfl | (simp [errW_none, errW_some] <;> rfl) | (simp [*, errW_none, errW_some] <;> rfl), by repeat (first | (with_reducible first | exact HB.out | apply below_alloc | apply pw_below_drewN | apply below_drew1) | exact HB.out)⟩

end Go.Proofs.YtnlhomgclplnhaaDoor.Pr
