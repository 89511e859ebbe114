/- A slice of rows of bytes that comes in, opened once more: each row is no longer than its weight allows. -/
import Derived.Test.YtlddionmkblioaaDoorMacM
import Derived.SizedLaws
import Derived.Deep.Grids
namespace Go.Proofs.YtlddionmkblioaaDoor.E
open Go.ChangeShapes Go.WideShapes Go.Deep Go.Proofs.YtlddionmkblioaaDoorW.PrintWords
variable {H : Type} {enc : TypeId × Value → H} {P : Program} {W : World}
theorem row_intsW {t e : TypeId} {fuel : Nat} {v : Value} {x : DataW H × List MemPlace} (ht : P.underlying t = some (.slice e)) (he : P.underlying e = some (.int .u8)) (hc : P.cellsOf e = 1) (hB : P.bytesOf e = 1) (h : DataW.trod enc P W 0 (fun _ => true) true fuel t [v] = some x) :
    ∃ (A : Option Addr) (c : Nat) (zs : List Int), v = .slice A zs.length c ∧ zs.length ≤ c ∧ Kd.C (Kd.int .u8) W A zs.length zs ∧ (∀ n ∈ zs, 0 ≤ n ∧ n ≤ 255) ∧ zs.length + 1 ≤ Rows.uptoBulk x.1 ∧ ∀ M, (∀ n ∈ x.1.weights P t, n ≤ M) → zs.length ≤ M := by
  rcases open_ints ht he hc h with ⟨hcs, rfl⟩ | ⟨a, len, cap, zs, hcs, hb, hl, hm, hz, rfl, hcell, hwz⟩
  · obtain rfl : v = .slice none 0 0 := by simpa using hcs
    exact ⟨none, 0, [], rfl, Nat.le_refl _, ⟨rfl, by decide, fun h => absurd h (by decide)⟩, fun n hn => (by cases hn), bulk_one _, fun M _ => Nat.zero_le M⟩
  · obtain rfl : v = .slice (some a) len cap := by simpa using hcs
    have hzl : zs.length = cap := by simpa using hz
    have htl : (zs.take len).length = len := by rw [List.length_take]; omega
    refine ⟨some a, cap, zs.take len, by rw [htl], by omega, ?_, ?_, ?_, ?_⟩
    · rw [htl]
      refine ⟨htl, by unfold maxLen at hm; omega, fun _ => ⟨a, rfl, fun j p hj => ⟨[.int .u8 p], rfl, rfl, fun i u hu => ?_⟩⟩⟩
      have hj2 : j < len := by have := (List.getElem?_eq_some_iff.1 hj).1; omega
      have hi : i = 0 := by have := (List.getElem?_eq_some_iff.1 hu).1; simpa using this
      subst hi
      obtain rfl : Value.int .u8 p = u := by simpa using hu
      have h1 := hcell j (by omega)
      have h2 : zs.getD j 0 = p := by
        rw [List.getElem?_take_of_lt hj2] at hj
        rw [List.getD_eq_getElem?_getD, hj]; rfl
      have h3 : a.add (j * (Kd.int IntKind.u8).sz + 0) = a.add j := by rw [Nat.add_zero, show (Kd.int IntKind.u8).sz = 1 from rfl, Nat.mul_one]
      rw [h3, h1, h2]
    · intro n hn
      have := hwz n (List.mem_of_mem_take hn)
      simpa [Lit.wf, IntKind.min, IntKind.max, IntKind.signed, IntKind.bits] using this
    · show _ ≤ Rows.uptoBulk (DataW.slice _ _)
      have := bulk_len (lits (H := H) IntKind.u8 (zs.take len))
      have h4 : (lits (H := H) IntKind.u8 (zs.take len)).length = (zs.take len).length := by simp [lits]
      simp only [Rows.uptoBulk]
      omega
    · intro M hM
      have h1 := hM _ (by simp only [DataW.weights, ht]; exact List.mem_cons_self)
      have h2 : (lits (H := H) IntKind.u8 (zs.take len)).length = (zs.take len).length := by simp [lits]
      rw [hB, Nat.mul_one, h2] at h1
      omega
theorem weights_mem_all {e : TypeId} {x : DataW H} {n : Nat} (hn : n ∈ x.weights P e) : ∀ {l : List (DataW H)}, x ∈ l → n ∈ DataW.weightsAll P e l
  | [], h => by cases h
  | y :: r, h => by
    simp only [DataW.weightsAll, List.mem_append]
    rcases List.mem_cons.1 h with rfl | h
    · exact Or.inl hn
    · exact Or.inr (weights_mem_all hn h)
theorem open_rowsW {t e b : TypeId} {a : Option Addr} {len cap : Nat} {d : DataW H} {ps : List MemPlace} (ht : P.underlying t = some (.slice e)) (hte : P.underlying e = some (.slice b)) (hb : P.underlying b = some (.int .u8)) (hce : P.cellsOf e = 1) (hcb : P.cellsOf b = 1) (hBb : P.bytesOf b = 1)
    (h : DataW.Trod enc P W 0 (fun _ => true) true t (.slice a len cap) d ps) :
    ∃ rows : List (List Int), rows.length = len ∧ len ≤ cap ∧ Kd.C (Kd.slice b (Kd.int .u8)) W a rows.length rows ∧ (∀ r ∈ rows, ∀ n ∈ r, 0 ≤ n ∧ n ≤ 255) ∧ (rows.map fun l => 1 + l.length).sum ≤ Rows.uptoBulk d ∧ ∀ M, (∀ n ∈ d.weights P t, n ≤ M) → ∀ r ∈ rows, r.length ≤ M := by
  obtain ⟨fuel, hf⟩ := h
  rcases open_slice1 ht hce hf with ⟨hcs, hx⟩ | ⟨ad, l, c, m, n, V, D, Pl, hcs, _, hl, hm, hmm, hx, hv⟩
  · simp [Value.cells] at hcs
    obtain ⟨rfl, rfl, rfl⟩ := hcs
    exact ⟨[], rfl, Nat.le_refl _, ⟨rfl, by decide, fun h => absurd h (by decide)⟩, fun r hr => (by cases hr), by simp, fun M _ r hr => (by cases hr)⟩
  · simp [Value.cells] at hcs
    obtain ⟨rfl, rfl, rfl⟩ := hcs
    obtain ⟨rfl, _⟩ := Prod.mk.inj hx
    have hmc : m = cap := by simpa using hmm
    obtain ⟨f, hfr⟩ := choose_lt (α := List Int) (n := len) (p := fun i zs => ∃ (A : Option Addr) (c : Nat), V i = .slice A zs.length c ∧ zs.length ≤ c ∧ Kd.C (Kd.int .u8) W A zs.length zs ∧ (∀ n ∈ zs, 0 ≤ n ∧ n ≤ 255) ∧ zs.length + 1 ≤ Rows.uptoBulk (D i) ∧ ∀ M, (∀ n ∈ (D i).weights P e, n ≤ M) → zs.length ≤ M) (fun i hi => by
      obtain ⟨h1, h2⟩ := hv i (by omega)
      obtain ⟨A, c, zs, h3⟩ := row_intsW hte hb hcb hBb h2
      exact ⟨zs, A, c, h3⟩)
    have hlen : ((List.range len).map f).length = len := by simp
    refine ⟨(List.range len).map f, hlen, hl, ?_, ?_, ?_, ?_⟩
    · rw [hlen]
      refine ⟨hlen, by unfold maxLen at hm; omega, fun _ => ⟨ad, rfl, fun j p hj => ?_⟩⟩
      have hj2 : j < len := by have := (List.getElem?_eq_some_iff.1 hj).1; omega
      obtain rfl : f j = p := by
        rw [List.getElem?_map, List.getElem?_range hj2] at hj
        simpa using hj
      obtain ⟨A, c, h1, h2, h3, _⟩ := hfr j hj2
      refine ⟨[V j], rfl, ⟨A, c, by rw [h1], h2, h3⟩, fun i u hu => ?_⟩
      have hi : i = 0 := by have := (List.getElem?_eq_some_iff.1 hu).1; simpa using this
      subst hi
      obtain rfl : V j = u := by simpa using hu
      have h3 : ad.add (j * (Kd.slice b (Kd.int IntKind.u8)).sz + 0) = ad.add j := by rw [Nat.add_zero, show (Kd.slice b (Kd.int IntKind.u8)).sz = 1 from rfl, Nat.mul_one]
      rw [h3]
      exact (hv j (by omega)).1
    · intro r hr
      obtain ⟨i, hi, rfl⟩ := List.mem_map.1 hr
      obtain ⟨_, _, _, _, _, h, _, _⟩ := hfr i (List.mem_range.1 hi)
      exact h
    · have key : ∀ ls : List Nat, (∀ i ∈ ls, i < len) → ((ls.map f).map fun l => 1 + l.length).sum ≤ Rows.uptoBulkAll (ls.map D) := by
        intro ls
        induction ls with
        | nil => intro _; simp
        | cons i ls ih =>
          intro h
          obtain ⟨_, _, _, _, _, _, h5, _⟩ := hfr i (h i List.mem_cons_self)
          have := ih fun j hj => h j (List.mem_cons_of_mem _ hj)
          simp only [List.map_cons, List.sum_cons, Rows.uptoBulkAll]
          omega
      have := key (List.range len) (fun i hi => List.mem_range.1 hi)
      simp only [Rows.uptoBulk]
      omega
    · intro M hM r hr
      obtain ⟨i, hi, rfl⟩ := List.mem_map.1 hr
      have hil := List.mem_range.1 hi
      obtain ⟨_, _, _, _, _, _, _, h6⟩ := hfr i hil
      refine h6 M (fun n hn => hM n ?_)
      simp only [DataW.weights, ht, List.mem_cons, List.mem_append]
      exact Or.inr (Or.inl (weights_mem_all hn (List.mem_map.2 ⟨i, List.mem_range.2 hil, rfl⟩)))
theorem row_inW {t e : TypeId} {A : Option Addr} {len c : Nat} {d : DataW H} {ps : List MemPlace} (ht : P.underlying t = some (.slice e)) (he : P.underlying e = some (.int .u8)) (hc : P.cellsOf e = 1) (hB : P.bytesOf e = 1) (h : DataW.Trod enc P W 0 (fun _ => true) true t (.slice A len c) d ps) :
    ∃ l : List Int, len ≤ c ∧ Kd.C (Kd.int .u8) W A l.length l ∧ (∀ n ∈ l, 0 ≤ n ∧ n ≤ 255) ∧ l.length = len := by
  obtain ⟨fuel, hf⟩ := h
  obtain ⟨A', c', zs, hv, hl, hC, hb, _⟩ := row_intsW ht he hc hB (v := .slice A len c) (by simpa [Value.cells] using hf)
  injection hv with e1 e2 e3
  subst e1; subst e2; subst e3
  exact ⟨zs, hl, hC, hb, rfl⟩
/-- A row of truths that comes in. -/
theorem bools_in {t e : TypeId} {A : Option Addr} {len c : Nat} {d : DataW H} {ps : List MemPlace} (ht : P.underlying t = some (.slice e)) (he : P.underlying e = some .bool) (hc : P.cellsOf e = 1) (h : DataW.Trod enc P W 0 (fun _ => true) true t (.slice A len c) d ps) :
    ∃ l : List Bool, len ≤ c ∧ Kd.C Kd.bool W A l.length l ∧ l.length = len := by
  obtain ⟨fuel, hf⟩ := h
  rcases open_bools ht he hc hf with ⟨hcs, -⟩ | ⟨ad, l, cap, B, hcs, -, hl, hm, -, hcell⟩
  · simp [Value.cells] at hcs
    obtain ⟨rfl, rfl, rfl⟩ := hcs
    exact ⟨[], Nat.le_refl _, ⟨rfl, by decide, fun h => absurd h (by decide)⟩, rfl⟩
  · simp [Value.cells] at hcs
    obtain ⟨rfl, rfl, rfl⟩ := hcs
    have hlen : ((List.range len).map B).length = len := by simp
    refine ⟨(List.range len).map B, hl, ?_, hlen⟩
    refine Kd.C_of_reads (d := false) (h1 := fun _ => rfl) ⟨rfl, by rw [hlen]; unfold maxLen at hm; omega, fun _ => ⟨ad, rfl, fun i hi => ?_⟩⟩
    rw [hlen] at hi
    rw [hcell i (by omega)]
    simp [List.getD_eq_getElem?_getD, hi]
end Go.Proofs.YtlddionmkblioaaDoor.E

