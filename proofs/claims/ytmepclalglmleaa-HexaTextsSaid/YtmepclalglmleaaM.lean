/- Plain lemmas on digits: what hexa.Text and hexa.Bytes answer, as lists of numbers. -/
import Derived.Test.YtmepclalglmleaaE1
import Derived.Test.YtmepclalglmleaaF15
namespace Go.Proofs.Ytmepclalglmleaa.E
open Go.RowKit Go.Proofs.YtmepclalglmleaaW.PrintWords Go.Proofs.YtmepclalglmleaaW.PrintLast Go.Proofs.YtmepclalglmleaaW.PrintMore Go.Proofs.Ytmepclalglmleaa.Pr

/-- Bytes: numbers from 0 to 255. -/
def BL (l : List Int) : Prop := ∀ x ∈ l, 0 ≤ x ∧ x ≤ 255
theorem BL.of_wf {l : List Int} (h : ∀ x ∈ l, (Lit.int .u8 x).wf = true) : BL l := by
  intro x hx
  have := h x hx
  simp [Lit.wf] at this
  have h1 : IntKind.u8.min = 0 := rfl
  have h2 : IntKind.u8.max = 255 := rfl
  omega
theorem u8_wf {x : Int} (h : (Lit.int .u8 x).wf = true) : 0 ≤ x ∧ x ≤ 255 := by
  simp [Lit.wf] at h
  have h1 : IntKind.u8.min = 0 := rfl
  have h2 : IntKind.u8.max = 255 := rfl
  omega
theorem BL.append {a b : List Int} (ha : BL a) (hb : BL b) : BL (a ++ b) := by
  intro x hx; rcases List.mem_append.1 hx with h | h; exact ha x h; exact hb x h
theorem BL.take {a : List Int} (ha : BL a) (n : Nat) : BL (a.take n) := fun x hx => ha x (List.mem_of_mem_take hx)
theorem BL.drop {a : List Int} (ha : BL a) (n : Nat) : BL (a.drop n) := fun x hx => ha x (List.mem_of_mem_drop hx)
theorem BL.zeros (n : Nat) : BL (List.replicate n 0) := by intro x hx; have := List.eq_of_mem_replicate hx; omega
theorem bytesOf_BL (s : ByteArray) : BL (bytesOf s) := by
  intro x hx
  obtain ⟨b, _, rfl⟩ := List.mem_map.1 hx
  have := b.toNat_lt
  omega
theorem bytesOf_toB {l : List Int} (h : BL l) : bytesOf ⟨(toB l).toArray⟩ = l := by
  induction l with
  | nil => rfl
  | cons a l ih =>
    have h1 := h a (List.mem_cons_self ..)
    have h2 := ih (fun x hx => h x (List.mem_cons_of_mem _ hx))
    simp only [bytesOf, toB, List.map_cons] at h2 ⊢
    rw [h2]
    congr 1
    simp
    omega
theorem toB_bytesOf (s : ByteArray) : (⟨(toB (bytesOf s)).toArray⟩ : ByteArray) = s := by
  apply ByteArray.ext
  simp only [toB, bytesOf, List.map_map]
  have : ((fun c : Int => UInt8.ofNat c.toNat) ∘ fun b : UInt8 => (b.toNat : Int)) = id := by
    funext b; simp
  rw [this, List.map_id]
theorem size_toB (l : List Int) : (⟨(toB l).toArray⟩ : ByteArray).size = l.length := by
  show (toB l).toArray.size = _
  rw [List.size_toArray, toB_length]
theorem bytesOf_append (a b : ByteArray) : bytesOf (a ++ b) = bytesOf a ++ bytesOf b := by
  simp [bytesOf, ByteArray.data_append]
theorem bytesOf_inj {a b : ByteArray} (h : bytesOf a = bytesOf b) : a = b := by rw [← toB_bytesOf a, h, toB_bytesOf]
theorem bytesOf_extract (s : ByteArray) (i j : Nat) : bytesOf (s.extract i j) = (bytesOf s).extract i j := by
  simp [bytesOf, ByteArray.data_extract, List.extract, List.map_take, List.map_drop]
theorem strOfNums_eq (l : List Int) : strOfNums l = ⟨(toB l).toArray⟩ := by
  apply ByteArray.ext
  simp [strOfNums, toB]
theorem hexL_BL {l : List Int} (h : BL l) : BL (hexL l) := by
  induction l with
  | nil => intro x hx; simp [hexL] at hx
  | cons a l ih =>
    have h1 := h a (List.mem_cons_self ..)
    have h2 := ih (fun x hx => h x (List.mem_cons_of_mem _ hx))
    intro x hx
    simp only [hexL, List.flatMap_cons, List.mem_append] at hx
    rcases hx with hx | hx
    · have r1 := dg_range (c := a / 16) (by omega) (by omega)
      have r2 := dg_range (c := a % 16) (by omega) (by omega)
      simp at hx; rcases hx with rfl | rfl <;> omega
    · exact h2 x hx
theorem hv_dg {d : Int} (h0 : 0 ≤ d) (h1 : d < 16) : hv (dg d) = d := by
  unfold hv dg
  by_cases h : d < 10
  · rw [if_pos h, if_pos (by omega)]; omega
  · rw [if_neg h, if_neg (by omega), if_pos (by omega)]; omega
theorem dg_hv {c : Int} (h : 0 ≤ hv c) : dg (hv c) = c := by
  unfold hv at h ⊢
  unfold dg
  by_cases h1 : 48 ≤ c ∧ c ≤ 57
  · rw [if_pos h1, if_pos (by omega)]; omega
  · rw [if_neg h1] at h ⊢
    by_cases h2 : 97 ≤ c ∧ c ≤ 102
    · rw [if_pos h2, if_neg (by omega)]; omega
    · rw [if_neg h2] at h; omega
theorem pairs_hexL {l : List Int} (h : BL l) : pairs (hexL l) = l := by
  induction l with
  | nil => rfl
  | cons a l ih =>
    have h1 := h a (List.mem_cons_self ..)
    have h2 := ih (fun x hx => h x (List.mem_cons_of_mem _ hx))
    show pairs (dg (a / 16) :: dg (a % 16) :: hexL l) = _
    simp only [pairs]
    rw [h2, hv_dg (by omega) (by omega), hv_dg (by omega) (by omega)]
    congr 1; omega
theorem hexL_hex {l : List Int} (h : BL l) : ∀ c ∈ hexL l, 0 ≤ hv c := by
  induction l with
  | nil => intro x hx; simp [hexL] at hx
  | cons a l ih =>
    have h1 := h a (List.mem_cons_self ..)
    have h2 := ih (fun x hx => h x (List.mem_cons_of_mem _ hx))
    intro x hx
    simp only [hexL, List.flatMap_cons, List.mem_append] at hx
    rcases hx with hx | hx
    · simp at hx
      rcases hx with rfl | rfl
      · rw [hv_dg (by omega) (by omega)]; omega
      · rw [hv_dg (by omega) (by omega)]; omega
    · exact h2 x hx
theorem hexL_pairs : ∀ (l : List Int), l.length % 2 = 0 → (∀ c ∈ l, 0 ≤ hv c) → hexL (pairs l) = l
  | [], _, _ => rfl
  | [a], h, _ => by simp at h
  | a :: b :: l, h, hh => by
    have ha := hh a (by simp)
    have hb := hh b (by simp)
    have ra := hv_range a
    have rb := hv_range b
    have ih := hexL_pairs l (by simp at h; omega) (fun c hc => hh c (by simp [hc]))
    simp only [pairs, hexL, List.flatMap_cons] at ih ⊢
    rw [ih]
    have e1 : (16 * hv a + hv b) / 16 = hv a := by omega
    have e2 : (16 * hv a + hv b) % 16 = hv b := by omega
    rw [e1, e2, dg_hv ha, dg_hv hb]; rfl
theorem pairs_BL : ∀ (l : List Int), (∀ c ∈ l, 0 ≤ hv c) → BL (pairs l)
  | [], _ => by intro x hx; simp [pairs] at hx
  | [a], _ => by intro x hx; simp [pairs] at hx
  | a :: b :: l, hh => by
    have ha := hh a (by simp)
    have hb := hh b (by simp)
    have ra := hv_range a
    have rb := hv_range b
    have ih := pairs_BL l (fun c hc => hh c (by simp [hc]))
    intro x hx
    simp only [pairs, List.mem_cons] at hx
    rcases hx with rfl | hx
    · omega
    · exact ih x hx
def T (l : List Int) : ByteArray := ⟨(toB (hexL l)).toArray⟩
theorem text_f {l : List Int} (h : BL l) (hl : l.length ≤ 70368744177664) : hexa_Text.f l = some (T l) := if_pos ⟨h, hl⟩
theorem size_T (l : List Int) : (T l).size = 2 * l.length := by rw [T, size_toB, hexL_length]
theorem bytesOf_T {l : List Int} (h : BL l) : bytesOf (T l) = hexL l := bytesOf_toB (hexL_BL h)
def okB (L : List Int) : Prop := (∀ c ∈ L, 0 ≤ hv c) ∧ L.length % 2 = 0
theorem bytes_yes {s : ByteArray} (hs : s.size ≤ 140737488351232) (h : okB (bytesOf s)) : hexa_Bytes.f s = some (pairs (bytesOf s), true) := by
  unfold hexa_Bytes.f
  rw [if_pos hs, if_pos]
  refine ⟨?_, by rw [← bytesOf_length]; exact h.2⟩
  rw [List.all_eq_true]; intro c hc; simpa using h.1 c hc
theorem bytes_no {s : ByteArray} (hs : s.size ≤ 140737488351232) (h : ¬ okB (bytesOf s)) : hexa_Bytes.f s = some ([], false) := by
  unfold hexa_Bytes.f
  rw [if_pos hs, if_neg]
  rintro ⟨h1, h2⟩
  refine h ⟨?_, by rw [bytesOf_length]; exact h2⟩
  rw [List.all_eq_true] at h1; intro c hc; simpa using h1 c hc
theorem okB_T {l : List Int} (h : BL l) : okB (bytesOf (T l)) := by
  rw [bytesOf_T h]; exact ⟨hexL_hex h, by rw [hexL_length]; omega⟩
theorem bytes_T {l : List Int} (h : BL l) (hl : l.length ≤ 1000000) : hexa_Bytes.f (T l) = some (l, true) := by
  rw [bytes_yes (by rw [size_T]; omega) (okB_T h), bytesOf_T h, pairs_hexL h]
theorem text_pairs {s : ByteArray} (h : okB (bytesOf s)) : T (pairs (bytesOf s)) = s := by
  rw [T, hexL_pairs _ h.2 h.1, toB_bytesOf]
theorem T_append (a b : List Int) : T (a ++ b) = T a ++ T b := by
  simp only [T, hexL, List.flatMap_append, toB_append]; rw [← bapp]
theorem known_true : wicketmanlaw05_known.f = some true := by decide +kernel
end Go.Proofs.Ytmepclalglmleaa.E
