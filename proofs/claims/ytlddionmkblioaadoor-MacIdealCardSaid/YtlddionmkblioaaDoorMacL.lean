/- What the laws of chapter 3 share: makers behind an interface, rows that are spoilt. -/
import Derived.Test.YtlddionmkblioaaDoorMacM
namespace Go.Proofs.YtlddionmkblioaaDoor.Pure
open Go.RowKit Go.Proofs.YtlddionmkblioaaDoorW.PrintWords Go.Proofs.YtlddionmkblioaaDoorW.PrintLast Go.Proofs.YtlddionmkblioaaDoorW.PrintMore Go.Proofs.YtlddionmkblioaaDoor.Pr Go.Proofs.YtlddionmkblioaaDoor.E
set_option linter.unusedVariables false
set_option linter.unusedSimpArgs false
def RowBPost (P : List Int) (X : World) (e : Ending) (w' : World) : Prop := ∃ v, e = .returned v ∧ RowB P v w' ∧ Below X.heap.size X w'
theorem rowb_of {F : FuncId} {args : Array Value} {X : World} {P : List Int} (h : Calls Tryd.prog F args X fun e w' => ∃ v, e = .returned v ∧ Kd.R (Kd.int .u8) 5 w' X.heap.size (fun _ => True) v P ∧ Below X.heap.size X w') : Calls Tryd.prog F args X (RowBPost P X) :=
  h.mono fun e w' ⟨v, he, hv, hb⟩ => ⟨v, he, RowB.of_R hv, hb⟩
theorem rowb_new {F : FuncId} {args : Array Value} {X : World} {P : List Int} (h : Calls Tryd.prog F args X (NewPost P X)) : Calls Tryd.prog F args X (RowBPost P X) :=
  h.mono fun e w' ⟨v, he, hv, hb⟩ => ⟨v, he, hv.rowB, hb⟩
theorem iNilM (a : Addr) (w : World) : (nilAhead 190 40 (.pointer (some a)) "Make").run Tryd.prog w = .ok (some false) w := by kernel_rfl
theorem iNilP (a : Addr) (w : World) : (nilAhead 190 40 (.pointer (some a)) "Prove").run Tryd.prog w = .ok (some false) w := by kernel_rfl
theorem iMetM (a : Addr) (w : World) : (method 190 40 (.pointer (some a)) "Make").run Tryd.prog w = .ok (53, .pointer (some a)) w := by kernel_rfl
theorem iMetP (a : Addr) (w : World) : (method 190 40 (.pointer (some a)) "Prove").run Tryd.prog w = .ok (54, .pointer (some a)) w := by kernel_rfl
theorem newrow_cells {n0 : Nat} {H : List Int} {g d : Nat} {n : Nat} {w : World} (h : NewRow n0 H (.slice (some ⟨g, 0, none⟩) n d) w) (hn : n = H.length) :
    n0 ≤ g ∧ ∃ lo hi cells, w.heap[g]? = some (.cells cells 5 (lo, hi)) ∧ (hi = 0 ∨ H.length ≤ lo) ∧ H.length ≤ d ∧ Kd.C (Kd.int .u8) w (some ⟨g, 0, none⟩) H.length H := by
  obtain ⟨g', d', lo, hi, cells, e, h1, h2, h3, h4, h5⟩ := h
  injection e with e1 e2 e3
  injection e1 with e1
  injection e1 with e1
  subst e1 e3
  exact ⟨h1, lo, hi, cells, h2, h3, h4, h5⟩
theorem newrow_spoil {n0 : Nat} {H : List Int} {g d : Nat} {w : World} (h : NewRow n0 H (.slice (some ⟨g, 0, none⟩) H.length d) w) (j : Nat) (hj : j < H.length) (V : Int) :
    w.cell? ⟨g, j, none⟩ = some (.int .u8 (H.getD j 0)) ∧ w.frozen? ⟨g, j, none⟩ = false ∧ Kd.C (Kd.int .u8) (w.setCell ⟨g, j, none⟩ (.int .u8 V)) (some ⟨g, 0, none⟩) H.length (H.set j V) := by
  obtain ⟨-, lo, hi, cells, hg, hfr, hd, hC⟩ := newrow_cells h rfl
  have hcell : ∀ i, i < H.length → w.cell? ⟨g, i, none⟩ = some (.int .u8 (H.getD i 0)) := by
    intro i hi2
    obtain ⟨ad, e, hx⟩ := Kd.at_int hC (i : Int) (by omega) (by omega)
    cases e
    rw [Int.toNat_natCast, add_plain] at hx
    rw [hx]
    simp [rd]
  have hmax := Kd.C_max hC
  refine ⟨hcell j hj, ?_, ?_⟩
  · simp only [World.frozen?, hg]
    rw [Bool.and_eq_false_iff]
    simp only [decide_eq_false_iff_not]
    omega
  · have hs : (w.setCell ⟨g, j, none⟩ (.int .u8 V)).heap[g]? = some (.cells (cells.setIfInBounds j (.int .u8 V)) 5 (lo, hi)) := by simp [World.setCell, Array.getElem?_modify, hg]
    refine Kd.C_of_reads (d := (0 : Int)) (h1 := fun _ => rfl) ⟨by rw [List.length_set], by omega, fun hn => ⟨_, rfl, fun i hi2 => ?_⟩⟩
    have hci := hcell i hi2
    rw [cell_of_row w g i cells 5 (lo, hi) hg] at hci
    rw [add_plain, cell_of_row _ g i _ 5 (lo, hi) hs, Array.getElem?_setIfInBounds]
    have hlt : i < cells.size := (Array.getElem?_eq_some_iff.1 hci).1
    rw [List.getD_eq_getElem?_getD, List.getElem?_set]
    by_cases e : j = i
    · subst e
      rw [if_pos rfl, if_pos hlt, if_pos rfl, if_pos hj]
      rfl
    · rw [if_neg e, if_neg e, hci, List.getD_eq_getElem?_getD]
theorem bits1 (q : Nat) (h : q < 8) : ((2 : Int) ^ q % 256) = ((2 ^ q : Nat) : Int) ∧ 2 ^ q < 256 ∧ 0 < 2 ^ q := by
  have hc : q = 0 ∨ q = 1 ∨ q = 2 ∨ q = 3 ∨ q = 4 ∨ q = 5 ∨ q = 6 ∨ q = 7 := by omega
  rcases hc with rfl | rfl | rfl | rfl | rfl | rfl | rfl | rfl <;> decide
/-- With a bit another one, a row is another one. -/
theorem bit_ne (H : List Int) (hH : ∀ x ∈ H, 0 ≤ x ∧ x ≤ 255) (j q : Nat) (hj : j < H.length) (hq : q < 8) :
    H ≠ H.set j (bits .xor .u8 (H.getD j 0) (2 ^ q % 256)) ∧ ∀ x ∈ H.set j (bits .xor .u8 (H.getD j 0) (2 ^ q % 256)), 0 ≤ x ∧ x ≤ 255 := by
  have hHj := hH (H.getD j 0) (by rw [List.getD_eq_getElem?_getD, List.getElem?_eq_getElem hj]; exact List.getElem_mem _)
  obtain ⟨y, hy⟩ : ∃ y : Nat, H.getD j 0 = (y : Int) := ⟨(H.getD j 0).toNat, by omega⟩
  have hy256 : y < 256 := by omega
  have hpw := bits1 q hq
  have hV : bits .xor .u8 (H.getD j 0) (2 ^ q % 256) = ((y ^^^ 2 ^ q : Nat) : Int) := by rw [hy, hpw.1, xor8 y _ hy256 hpw.2.1]
  have hV256 : y ^^^ 2 ^ q < 256 := Nat.xor_lt_two_pow (n := 8) hy256 hpw.2.1
  rw [hV]
  refine ⟨fun e => ?_, fun x hx => ?_⟩
  · have h1 : H.getD j 0 = (H.set j ((y ^^^ 2 ^ q : Nat) : Int)).getD j 0 := by rw [← e]
    rw [List.getD_eq_getElem?_getD (l := H.set j _), List.getElem?_set, if_pos rfl, if_pos hj, Option.getD_some, hy] at h1
    have h2 : y = y ^^^ 2 ^ q := by omega
    have h3 : (y ^^^ 2 ^ q) ^^^ y = 0 := by rw [← h2]; exact Nat.xor_self _
    rw [Nat.xor_comm y, Nat.xor_assoc, Nat.xor_self, Nat.xor_zero] at h3
    omega
  · rcases List.mem_or_eq_of_mem_set hx with h | h
    · exact hH x h
    · rw [h]; omega
/-- A text made bytes again: a row of its own. -/
theorem conv_row (H : List Int) (hb : ∀ x ∈ H, 0 ≤ x ∧ x ≤ 255) (hl : H.length ≤ 1000000) (X : World) :
    (convert 9 24 (.string (strOfNums H))).run Tryd.prog X = .ok (.slice (some ⟨X.heap.size, 0, none⟩) H.length (grownCap X H.length 0 5)) (Lib.bytesWorld X 5 (strOfNums H)) ∧ RowB H (.slice (some ⟨X.heap.size, 0, none⟩) H.length (grownCap X H.length 0 5)) (Lib.bytesWorld X 5 (strOfNums H)) ∧ Below X.heap.size X (Lib.bytesWorld X 5 (strOfNums H)) := by
  have h := NewRow.conv X H hb hl
  exact ⟨conv9 X H, h.1.rowB, h.2⟩
end Go.Proofs.YtlddionmkblioaaDoor.Pure

