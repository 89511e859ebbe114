/- The document's ideal maker proves what the program's does; how many texts are made. -/
import Derived.Test.YtlddionmkblioaaDoorMacR
namespace Go.Proofs.YtlddionmkblioaaDoor.Pure
open Go.RowKit Go.Proofs.YtlddionmkblioaaDoorW.PrintWords Go.Proofs.YtlddionmkblioaaDoorW.PrintLast Go.Proofs.YtlddionmkblioaaDoorW.PrintMore Go.Proofs.YtlddionmkblioaaDoor.Pr Go.Proofs.YtlddionmkblioaaDoor.E
theorem pairFrom_iff (made codes : List (List Int)) (x y : List Int) : ∀ (k i : Nat), pairFrom made codes x y i k = true ↔ ∃ j, i ≤ j ∧ j < i + k ∧ rdR made j = x ∧ rdR codes j = y
  | 0, i => by
    constructor
    · intro h; cases h
    · rintro ⟨j, h1, h2, -⟩; omega
  | k + 1, i => by
    have ih := pairFrom_iff made codes x y k (i + 1)
    simp only [pairFrom, Bool.or_eq_true, Bool.and_eq_true, decide_eq_true_eq, ih]
    constructor
    · rintro (⟨h1, h2⟩ | ⟨j, h1, h2, h3⟩)
      · exact ⟨i, Nat.le_refl _, by omega, h1, h2⟩
      · exact ⟨j, by omega, by omega, h3⟩
    · rintro ⟨j, h1, h2, h3, h4⟩
      by_cases e : j = i
      · subst e; exact .inl ⟨h3, h4⟩
      · exact .inr ⟨j, by omega, by omega, h3, h4⟩
theorem pair_icode {m : List (List Int)} (hn : m.Nodup) (x y : List Int) : pairFrom m.reverse (codesM m).reverse x y 0 m.length = decide (icode m x = some y) := by
  rw [Bool.eq_iff_iff, pairFrom_iff, decide_eq_true_eq]
  constructor
  · rintro ⟨j, -, h2, rfl, rfl⟩
    exact icode_at m hn j (by omega)
  · intro h
    have hx : x ∈ m := icode_mem h
    obtain ⟨i, hi, e⟩ := List.getElem_of_mem (List.mem_reverse.2 hx)
    rw [List.length_reverse] at hi
    have e2 : rdR m.reverse i = x := by
      simp only [rdR, Int.toNat_natCast, List.getD_eq_getElem?_getD]
      rw [List.getElem?_eq_getElem (by rw [List.length_reverse]; exact hi)]
      exact e
    have h3 := icode_at m hn i hi
    rw [e2, h] at h3
    exact ⟨i, Nat.zero_le _, by omega, e2, (Option.some.inj h3).symm⟩
theorem nodup_len : ∀ (m l : List (List Int)), m.Nodup → (∀ x ∈ m, x ∈ l) → m.length ≤ l.length
  | [], l, _, _ => Nat.zero_le _
  | x :: m, l, hn, h => by
    have hn2 := List.nodup_cons.1 hn
    have hx := h x (List.mem_cons_self ..)
    have ih := nodup_len m (l.erase x) hn2.2 (fun y hy => (List.mem_erase_of_ne (fun e => hn2.1 (by rw [← e]; exact hy))).2 (h y (List.mem_cons_of_mem _ hy)))
    rw [List.length_erase_of_mem hx] at ih
    have := List.length_pos_of_mem hx
    rw [List.length_cons]
    omega
theorem addM_sub {m l : List (List Int)} {x : List Int} (h : ∀ y ∈ m, y ∈ l) (hx : x ∈ l) : ∀ y ∈ addM m x, y ∈ l := by
  unfold addM
  split
  · exact h
  · intro y hy
    rcases List.mem_cons.1 hy with rfl | hy
    · exact hx
    · exact h y hy
theorem heap_set4 {w : World} {g k : Nat} (h : k ≠ g) (v0 v1 v2 v3 : Value) : ((((w.setCell ⟨g, 0, none⟩ v0).setCell ⟨g, 1, none⟩ v1).setCell ⟨g, 2, none⟩ v2).setCell ⟨g, 3, none⟩ v3).heap[k]? = w.heap[k]? := by
  rw [Below.heap_setCell _ ⟨g, 3, none⟩ v3 k h, Below.heap_setCell _ ⟨g, 2, none⟩ v2 k h, Below.heap_setCell _ ⟨g, 1, none⟩ v1 k h, Below.heap_setCell _ ⟨g, 0, none⟩ v0 k h]
/-- A row of bytes does not lie in the record's own block. -/
theorem ne_record {w : World} {g t : Nat} {A0 A2 A3 : Option Addr} {n0 n2 n3 d0 d2 d3 : Nat} {b : Bool} (hg : w.heap[g]? = some (.cells #[.slice A0 n0 d0, .bool b, .slice A2 n2 d2, .slice A3 n3 d3] t (0, 0)))
    {A : Option Addr} {l : List Int} {n : Nat} (h : Kd.C (Kd.int .u8) w A n l) : ∀ ad, A = some ad → 0 < n → ad.block ≠ g := by
  intro ad e hn hbl
  obtain ⟨ad', e', hx⟩ := Kd.at_int h 0 (by omega) (by omega)
  rw [e] at e'
  injection e' with e'
  subst e'
  have e0 : ad.add (0 : Int).toNat = ad := rfl
  rw [e0] at hx
  unfold World.cell? at hx
  rw [hbl, hg] at hx
  simp only at hx
  split at hx
  · cases hx
  · match h2 : ad.off with
    | 0 => rw [h2] at hx; cases hx
    | 1 => rw [h2] at hx; cases hx
    | 2 => rw [h2] at hx; cases hx
    | 3 => rw [h2] at hx; cases hx
    | j + 4 => rw [h2] at hx; simp at hx
theorem C_set4 {w : World} {g t : Nat} {A0 A2 A3 : Option Addr} {n0 n2 n3 d0 d2 d3 : Nat} {b : Bool} (hg : w.heap[g]? = some (.cells #[.slice A0 n0 d0, .bool b, .slice A2 n2 d2, .slice A3 n3 d3] t (0, 0)))
    {A : Option Addr} {l : List Int} {n : Nat} (h : Kd.C (Kd.int .u8) w A n l) (v0 v1 v2 v3 : Value) :
    Kd.C (Kd.int .u8) ((((w.setCell ⟨g, 0, none⟩ v0).setCell ⟨g, 1, none⟩ v1).setCell ⟨g, 2, none⟩ v2).setCell ⟨g, 3, none⟩ v3) A n l :=
  Kd.C_keep (0 : Int) h (((((KeepBut.refl w g none).set_ 0 v0).set_ 1 v1).set_ 2 v2).set_ 3 v3) (ne_record hg h)
/-- Nothing made: the record as the law begins it. -/
theorem RefS_nil (X : World) : RefS X.heap.size [] none none 0 0 X := ⟨Kd.R_nil _ _ _ _ _, Kd.R_nil _ _ _ _ _, Nat.le_refl _⟩
end Go.Proofs.YtlddionmkblioaaDoor.Pure

