/- An ideal maker asked inside a statement that draws its order: what holds at any step of it. -/
import Derived.Test.YtlddionmkblioaaDoorMacB
namespace Go.Proofs.YtlddionmkblioaaDoor.Pure
open Go.RowKit Go.Proofs.YtlddionmkblioaaDoorW.PrintWords Go.Proofs.YtlddionmkblioaaDoorW.PrintLast Go.Proofs.YtlddionmkblioaaDoorW.PrintMore Go.Proofs.YtlddionmkblioaaDoor.Pr Go.Proofs.YtlddionmkblioaaDoor.E
theorem grown_trans {X Y Z : World} {r : Option Nat} (h : X.grownBy Y r) (k : Y.grownBy Z r) : X.grownBy Z r :=
  ⟨k.os.trans h.os, k.tape.trans h.tape, k.output.trans h.output, Nat.le_trans h.size k.size, fun i hi hr => (k.block i (Nat.lt_of_lt_of_le hi h.size) hr).trans (h.block i hi hr)⟩
theorem grown_below {X Y : World} (h : Below X.heap.size X Y) (r : Option Nat) : X.grownBy Y r := ⟨h.os, h.tape, h.output, h.size, fun k hk _ => h.block k hk⟩
/-- A row of bytes is not where the map is. -/
theorem ne_map {w : World} {b : Nat} {es : Array MapEntry} {clock : Nat} (hg : w.heap[b]? = some (.map es clock)) {A : Option Addr} {l : List Int} {n : Nat} (h : Kd.C (Kd.int .u8) w A n l) : ∀ ad, A = some ad → 0 < n → ad.block ≠ b := by
  intro ad e hn hbl
  obtain ⟨ad', e', hx⟩ := Kd.at_int h 0 (by omega) (by omega)
  rw [e] at e'
  injection e' with e'
  subst e'
  have e0 : ad.add (0 : Int).toNat = ad := rfl
  rw [e0] at hx
  unfold World.cell? at hx
  rw [hbl, hg] at hx
  cases hx
theorem C_made {p b : Nat} {m : List (List Int)} {X Y : World} (hI : IdealS p b m X) {A : Option Addr} {l : List Int} {n : Nat} (h : Kd.C (Kd.int .u8) X A n l) (hg : X.grownBy Y (some b)) : Kd.C (Kd.int .u8) Y A n l := by
  obtain ⟨es, clock, h1, -⟩ := hI.2
  exact Kd.C_keep (0 : Int) h ⟨hg.size, fun i hi hne _ => hg.block i hi (fun e => hne (by injection e))⟩ (ne_map h1 h)
def MkC (p b : Nat) (m : List (List Int)) (x : List Int) (X0 X : World) : Prop := X0.grownBy X (some b) ∧ (IdealS p b m X ∨ IdealS p b (addM m x) X)
def MkSt (p b : Nat) (m : List (List Int)) (x : List Int) (X Y : World) : Prop := X.grownBy Y (some b) ∧ (IdealS p b (addM m x) X → IdealS p b (addM m x) Y)
def MkV (p b : Nat) (m : List (List Int)) (x : List Int) (v : Value) (w : World) : Prop :=
  ∃ g d, v = .slice (some ⟨g, 0, none⟩) 32 d ∧ 32 ≤ d ∧ g ≠ b ∧ Kd.C (Kd.int .u8) w (some ⟨g, 0, none⟩) 32 (codeM m x) ∧ IdealS p b (addM m x) w
def BMk (vs : List (Option Value)) (p b : Nat) (m : List (List Int)) (x : List Int) (j i : Nat) (v : Value) (w : World) : Prop := pureAt vs i v ∧ (i = j → MkV p b m x v w)
theorem MkSt.refl {p b : Nat} {m : List (List Int)} {x : List Int} (X : World) : MkSt p b m x X X := ⟨grown_below (Below.refl _ _) _, id⟩
theorem BMk_st {vs : List (Option Value)} {p b : Nat} {m : List (List Int)} {x : List Int} {j : Nat} : ∀ i v w w', BMk vs p b m x j i v w → MkSt p b m x w w' → BMk vs p b m x j i v w' :=
  fun i v w w' hB hs => ⟨hB.1, fun e => by
    obtain ⟨g, d, hv, hd, hg, hC, hI⟩ := hB.2 e
    exact ⟨g, d, hv, hd, hg, C_made hI hC hs.1, hs.2 hI⟩⟩
theorem addM_twice (m : List (List Int)) (x : List Int) : addM (addM m x) x = addM m x := if_pos (icode_mem (icode_add_self m x))
theorem codeM_twice (m : List (List Int)) (x : List Int) : codeM (addM m x) x = codeM m x := by
  show (icode (addM m x) x).getD _ = _
  rw [icode_add_self]
  rfl
theorem mk_step (p b : Nat) (m : List (List Int)) (x : List Int) (A1 : Option Addr) (c1 : Nat) (W X0 X : World) (hC : MkC p b m x X0 X) (hpb : p ≠ b) (hM : ByteRows m) (hW : Below W.heap.size W X0) (hbW : W.heap.size ≤ b)
    (hr1 : Kd.C (Kd.int .u8) W A1 x.length x) (hc1 : x.length ≤ c1) (hb1 : ∀ y ∈ x, 0 ≤ y ∧ y ≤ 255) (hl1 : x.length ≤ 900000) (hn : m.Nodup) (hml : m.length < 999999) (hG : RootsIn W) :
    Calls Tryd.prog 53 #[.pointer (some ⟨p, 0, none⟩), .slice A1 x.length c1] X fun e w' => ∃ v, e = .returned v ∧ MkV p b m x v w' ∧ MkC p b m x X0 w' ∧ MkSt p b m x X w' := by
  have hWX : Below W.heap.size W X := hW.grown hC.1 hW.size (fun k hk => by injection hk with hk; omega)
  have key : ∀ m', IdealS p b m' X → ByteRows m' → m'.Nodup → m'.length < 1000000 → codeM m' x = codeM m x → addM m' x = addM m x → Calls Tryd.prog 53 #[.pointer (some ⟨p, 0, none⟩), .slice A1 x.length c1] X fun e w' => ∃ v, e = .returned v ∧ MkV p b m x v w' ∧ MkC p b m x X0 w' ∧ MkSt p b m x X w' := by
    intro m' hI hM' hn' hl' hc ha
    refine (imake_any p b m' A1 c1 x X hI hpb hM' (Kd.C_below hr1 hWX) hc1 hb1 hl1 hn' hl' (hG.below rfl hWX)).mono ?_
    rintro e w' ⟨v, rfl, hnr, hI', hgr⟩
    obtain ⟨g, d, rfl, hg, hd, hCC⟩ := NewRow_form hnr
    have h32 := (codeM_len m' x).1
    rw [h32] at hd hCC ⊢
    rw [hc] at hCC
    rw [ha] at hI'
    exact ⟨_, rfl, ⟨g, d, rfl, hd, (by have := hI.lt.2; omega), hCC, hI'⟩, ⟨grown_trans hC.1 hgr, .inr hI'⟩, ⟨hgr, fun _ => hI'⟩⟩
  rcases hC.2 with hI | hI
  · exact key m hI hM hn (by omega) rfl rfl
  · exact key (addM m x) hI (addM_rows hM hb1 hl1) (addM_nodup hn) (by have := addM_len m x; omega) (codeM_twice m x) (addM_twice m x)
/-- The law between two rounds: the program's maker and the document's have made the same texts. -/
structure IdInv (p b tb base : Nat) (L0 : List (List Int)) (W : World) (m : List (List Int)) (A2 A3 : Option Addr) (c2 c3 : Nat) (X : World) : Prop where
  ideal : IdealS p b m X
  ref : RefS base m A2 A3 c2 c3 X
  rows : ByteRows m
  nodup : m.Nodup
  sub : ∀ y ∈ m, y ∈ L0
  cell : X.heap[tb]? = some (.cells #[.slice none 0 0, .bool true, .slice A2 m.length c2, .slice A3 m.length c3] 32 (0, 0))
  below : Below W.heap.size W X
theorem IdInv.to {p b tb base : Nat} {L0 : List (List Int)} {W : World} {m : List (List Int)} {A2 A3 : Option Addr} {c2 c3 : Nat} {X Y : World} (h : IdInv p b tb base L0 W m A2 A3 c2 c3 X) (hb : Below X.heap.size X Y) : IdInv p b tb base L0 W m A2 A3 c2 c3 Y :=
  ⟨h.ideal.below hb, h.ref.below hb, h.rows, h.nodup, h.sub, (hb.block tb (Array.getElem?_eq_some_iff.1 h.cell).1).trans h.cell, below_step h.below hb⟩
/-- Both makers prove a message the same. -/
theorem both_prove {p b tb base : Nat} {L0 : List (List Int)} {W : World} {m : List (List Int)} {A2 A3 : Option Addr} {c2 c3 : Nat} {X0 : World} (h : IdInv p b tb base L0 W m A2 A3 c2 c3 X0) (hpb : p ≠ b)
    (A0 : Option Addr) (c0 : Nat) (x : List Int) (hr0 : Kd.C (Kd.int .u8) W A0 x.length x) (hc0 : x.length ≤ c0) (hb0 : ∀ y ∈ x, 0 ≤ y ∧ y ≤ 255) (hl0 : x.length ≤ 900000)
    (A1 : Option Addr) (c1 n : Nat) (y : List Int) (hn : n = y.length) (hr1 : Kd.C (Kd.int .u8) X0 A1 y.length y) (hc1 : y.length ≤ c1) (hb1 : ∀ z ∈ y, 0 ≤ z ∧ z ≤ 255) (X : World) (hX : Below X0.heap.size X0 X) :
    Calls Tryd.prog 54 #[.pointer (some ⟨p, 0, none⟩), .slice A0 x.length c0, .slice A1 n c1] X (BoolPost (decide (icode m x = some y)) X) ∧
    Calls Tryd.prog 8 #[.agg #[.slice none 0 0, .bool true, .slice A2 m.length c2, .slice A3 m.length c3], .slice A0 x.length c0, .slice A1 n c1] X (BoolPost (decide (icode m x = some y)) X) := by
  subst hn
  have hI := h.to hX
  have hx := Kd.C_below hr0 hI.below
  have hy := Kd.C_below hr1 hX
  obtain ⟨hS, hn2, hC, hn3⟩ := hI.ref.reads
  refine ⟨iprove_any p b m A0 c0 x X hI.ideal hpb hI.rows hx hc0 hb0 hl0 A1 c1 y hy hc1 hb1, ?_⟩
  have := rprove_any m.reverse (codesM m).reverse A2 A3 m.length c2 c3 X hS hC hn2 hn3 (fun r hr => hI.rows r (List.mem_reverse.1 hr)) (fun r hr => by
    have := codesM_rows m r (List.mem_reverse.1 hr)
    exact ⟨this.2, by rw [this.1]; decide⟩) (List.length_reverse ..) (by rw [List.length_reverse, codesM_len]) A0 c0 x hx hc0 hb0 A1 c1 y hy hc1 hb1
  rw [pair_icode hI.nodup x y] at this
  exact this
end Go.Proofs.YtlddionmkblioaaDoor.Pure

