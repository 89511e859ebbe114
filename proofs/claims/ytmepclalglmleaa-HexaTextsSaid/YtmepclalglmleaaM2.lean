/- More plain lemmas on digits: rows out of texts, one sign turned, and the reference's way back. -/
import Derived.Test.YtmepclalglmleaaM
import Derived.Test.YtmepclalglmleaaF22
import Derived.Test.YtmepclalglmleaaF19
import Derived.Test.YtmepclalglmleaaF38
namespace Go.Proofs.Ytmepclalglmleaa.E
open Go.RowKit Go.Proofs.YtmepclalglmleaaW.PrintWords Go.Proofs.YtmepclalglmleaaW.PrintLast Go.Proofs.YtmepclalglmleaaW.PrintMore Go.Proofs.Ytmepclalglmleaa.Pr
set_option linter.unusedVariables false
set_option linter.unusedSimpArgs false
instance decOk (L : List Int) : Decidable (okB L) := inferInstanceAs (Decidable (_ ∧ _))
theorem put_ok {L : List Int} (h : okB L) (i : Nat) (hi : i < L.length) (c : Int) : okB (L.take i ++ [c] ++ L.drop (i + 1)) ↔ 0 ≤ hv c := by
  constructor
  · intro k; exact k.1 c (by simp)
  · intro k
    refine ⟨?_, ?_⟩
    · intro x hx
      simp only [List.mem_append, List.mem_singleton] at hx
      rcases hx with (hx | rfl) | hx
      · exact h.1 x (List.mem_of_mem_take hx)
      · exact k
      · exact h.1 x (List.mem_of_mem_drop hx)
    · simp only [List.length_append, List.length_take, List.length_drop, List.length_singleton]
      have := h.2
      omega
theorem bytes_front (t : ByteArray) (i : Nat) : bytesOf (t.extract 0 i) = (bytesOf t).take i := by rw [bytesOf_extract]; simp [List.extract]
theorem bytes_rest (t : ByteArray) (i : Nat) : bytesOf (t.extract i t.size) = (bytesOf t).drop i := by
  rw [bytesOf_extract, List.extract, List.take_of_length_le]; rw [List.length_drop, bytesOf_length]; exact Nat.le_refl _
theorem size_front (t : ByteArray) (i : Nat) (h : i ≤ t.size) : (t.extract 0 i).size = i := by rw [ByteArray.size_extract, Nat.min_eq_left h, Nat.sub_zero]
theorem size_rest (t : ByteArray) (i : Nat) : (t.extract i t.size).size = t.size - i := by rw [ByteArray.size_extract, Nat.min_self]
theorem size_one (c : Int) : (strOfNums [c]).size = 1 := by rw [strOfNums_eq, size_toB]; rfl
theorem sums (t : ByteArray) (hs : t.size ≤ 1000) (i : Nat) (hi : i < t.size) (c : Int) : ((t.extract 0 i).size + (strOfNums [c]).size ≤ 9223372036854775807) ∧ ((t.extract 0 i ++ strOfNums [c]).size + (t.extract (i + 1) t.size).size ≤ 9223372036854775807) ∧ ((t.extract 0 i ++ strOfNums [c]) ++ t.extract (i + 1) t.size).size = t.size := by
  have h1 := size_front t i (by omega)
  have h2 := size_rest t (i + 1)
  have h3 := size_one c
  have h4 := @ByteArray.size_append (t.extract 0 i) (strOfNums [c])
  have h5 := @ByteArray.size_append (t.extract 0 i ++ strOfNums [c]) (t.extract (i + 1) t.size)
  rw [h1] at h4 ⊢
  rw [h4, h3, h2] at h5
  rw [h2, h4, h3, h5]
  omega
theorem T_inj {a b : List Int} (ha : BL a) (hb : BL b) (h : T a = T b) : a = b := by
  have := congrArg bytesOf h
  rw [bytesOf_T ha, bytesOf_T hb] at this
  rw [← pairs_hexL ha, ← pairs_hexL hb, this]
theorem str_inj {a b : List Int} (ha : BL a) (hb : BL b) (h : strOfNums a = strOfNums b) : a = b := by
  rw [strOfNums_eq, strOfNums_eq] at h
  have := congrArg bytesOf h
  rwa [bytesOf_toB ha, bytesOf_toB hb] at this
theorem toList_inj {a b : ByteArray} (h : a.toList = b.toList) : a = b := by
  rw [ByteArray.toList_eq, ByteArray.toList_eq] at h
  exact ByteArray.ext (Array.toList_inj.1 h)
theorem beq_list (a b : ByteArray) : (a.toList == b.toList) = decide (a = b) := by
  rw [Bool.eq_iff_iff, beq_iff_eq, decide_eq_true_iff]
  exact ⟨toList_inj, fun h => by rw [h]⟩
theorem ID_yes {s : ByteArray} (hs : s.size ≤ 140737488351232) (h : okB (bytesOf s)) : hexa_ID.f s = some (((pairs (bytesOf s)).length : Int) == 32) := by
  unfold hexa_ID.f
  rw [bytes_yes hs h, Option.bind_some, if_pos rfl]
theorem ID_no {s : ByteArray} (hs : s.size ≤ 140737488351232) (h : ¬ okB (bytesOf s)) : hexa_ID.f s = some false := by
  unfold hexa_ID.f
  rw [bytes_no hs h, Option.bind_some]; rfl
theorem ID_T {l : List Int} (h : BL l) (hl : l.length ≤ 1000000) : hexa_ID.f (T l) = some ((l.length : Int) == 32) := by
  unfold hexa_ID.f
  rw [bytes_T h hl, Option.bind_some, if_pos rfl]
theorem Of_yes {l : List Int} (h : BL l) (hl : l.length = 32) : hexa_Of.f l = some (T l, true) := by
  unfold hexa_Of.f
  rw [if_pos (by omega), text_f h (by omega), Option.bind_some]
theorem Of_no {l : List Int} (hl : l.length ≠ 32) : hexa_Of.f l = some (⟨#[]⟩, false) := by
  unfold hexa_Of.f
  rw [if_neg (by omega)]
theorem digit256 : ∀ c : Fin 256, wicketmanref05_digit.f 20 (c.val : Int) = some (hv (c.val : Int)) := by decide +kernel
theorem digit_f {k : Nat} (hk : 20 ≤ k) {c : Int} (h0 : 0 ≤ c) (h1 : c ≤ 255) : wicketmanref05_digit.f k c = some (hv c) := by
  have h := digit256 ⟨c.toNat, by omega⟩
  simp only [Int.toNat_of_nonneg h0] at h
  exact at_rounds (g := fun k => wicketmanref05_digit.f k c) (fun k => wicketmanref05_digit.mono c k) hk h
/-- The reference's way back, sign by sign. -/
def unh : List Int → List Int → List Int × Bool
  | out, a :: b :: l => if hv a < 0 ∨ hv b < 0 then ([], false) else unh (out ++ [16 * hv a + hv b]) l
  | _, [_] => ([], false)
  | out, [] => (out, true)
theorem unh_eq : ∀ (l out : List Int), unh out l = if okB l then (out ++ pairs l, true) else ([], false)
  | [], out => by rw [unh, if_pos ⟨by simp, rfl⟩]; simp [pairs]
  | [a], out => by rw [unh, if_neg]; rintro ⟨_, h⟩; simp at h
  | a :: b :: l, out => by
    rw [unh, unh_eq l]
    by_cases h : hv a < 0 ∨ hv b < 0
    · rw [if_pos h, if_neg]
      rintro ⟨k, _⟩
      have := k a (by simp)
      have := k b (by simp)
      omega
    · rw [if_neg h]
      by_cases k : okB l
      · rw [if_pos k, if_pos]
        · simp [pairs]
        · refine ⟨?_, by have := k.2; simp; omega⟩
          intro c hc
          simp at hc
          rcases hc with rfl | rfl | hc
          · omega
          · omega
          · exact k.1 c hc
      · rw [if_neg k, if_neg]
        rintro ⟨k1, k2⟩
        exact k ⟨fun c hc => k1 c (by simp [hc]), by simp at k2; omega⟩
theorem drop_two {s : ByteArray} {i : Nat} (h : i + 1 < s.size) : (bytesOf s).drop i = bt s i :: bt s (i + 1 : Nat) :: (bytesOf s).drop (i + 2) := by
  have hl := bytesOf_length s
  have e1 : bt s i = (bytesOf s)[i]'(by omega) := by rw [← rd_bytesOf]; simp [rd, List.getD_eq_getElem?_getD, show i < (bytesOf s).length by omega]
  have e2 : bt s (i + 1 : Nat) = (bytesOf s)[i + 1]'(by omega) := by rw [← rd_bytesOf]; simp only [rd, Int.toNat_natCast]; simp [List.getD_eq_getElem?_getD, show i + 1 < (bytesOf s).length by omega]
  rw [e1, e2, List.drop_eq_getElem_cons (by omega), List.drop_eq_getElem_cons (i := i + 1) (by omega)]
theorem refBytes (s : ByteArray) (hs : s.size ≤ 1000) (n : Nat) : ∀ (k : Nat) (out : List Int) (i : Nat), i ≤ s.size → s.size - i ≤ n → 2 * n + 25 ≤ k → out.length ≤ i → i % 2 = 0 → wicketmanref05_Bytes.l0 k s out (i : Int) = some (unh out ((bytesOf s).drop i)) := by
  induction n using Nat.strongRecOn with
  | _ n ih =>
    intro k out i hi hn hk ho hev
    obtain ⟨k, rfl⟩ : ∃ m, k = m + 1 := ⟨k - 1, by omega⟩
    have hl := bytesOf_length s
    have ew : wrap64 ((i : Int) + 1) = ((i + 1 : Nat) : Int) := by unfold wrap64; omega
    unfold wicketmanref05_Bytes.l0
    rw [ew]
    by_cases h : i + 1 < s.size
    · obtain ⟨k, rfl⟩ : ∃ m, k = m + 1 := ⟨k - 1, by omega⟩
      rw [drop_two h, unh]
      have ra := bt_range s (i : Int)
      have rb := bt_range s ((i + 1 : Nat) : Int)
      have d1 := digit_f (k := k + 1) (by omega) ra.1 ra.2
      have d2 := digit_f (k := k + 1) (by omega) rb.1 rb.2
      have d3 := digit_f (k := k) (by omega) ra.1 ra.2
      have d4 := digit_f (k := k) (by omega) rb.1 rb.2
      have va := hv_range (bt s (i : Int))
      have vb := hv_range (bt s ((i + 1 : Nat) : Int))
      have b0 : (0 : Int) ≤ (i : Int) := by omega
      have b1 : ((i + 1 : Nat) : Int) < (s.size : Int) := by omega
      have b2 : (i : Int) < (s.size : Int) := by omega
      have b3 : (0 : Int) ≤ ((i + 1 : Nat) : Int) := by omega
      have b4 : out.length < 140737488355328 := by omega
      have e2 : wrap64 ((i : Int) + 2) = ((i + 2 : Nat) : Int) := by unfold wrap64; omega
      have b5 := ih (n - 2) (by omega) k
      have b6 : i + 2 ≤ s.size := by omega
      have b7 : s.size - (i + 2) ≤ n - 2 := by omega
      have b8 : 2 * (n - 2) + 25 ≤ k := by omega
      clear ih ra rb hl hs hi hn hk h
      rw [if_pos b1, if_pos b0, if_pos b2, d1, Option.bind_some]
      by_cases ha : hv (bt s (i : Int)) < 0
      · rw [if_pos ha, if_pos (.inl ha), wicketmanref05_Bytes.j1, if_pos rfl]
      · rw [if_neg ha, if_pos b3, d2, Option.bind_some]
        by_cases hb : hv (bt s ((i + 1 : Nat) : Int)) < 0
        · rw [decide_eq_true hb, if_pos (.inr hb), wicketmanref05_Bytes.j1, if_pos rfl]
        · rw [decide_eq_false hb, if_neg (fun h => h.elim ha hb), wicketmanref05_Bytes.j1, if_neg (by simp), ew, if_pos b0, if_pos b2, d3, Option.bind_some, if_pos b3, if_pos b1, d4, Option.bind_some, if_pos b4]
          clear d1 d2 d3 d4
          generalize hv (bt s (i : Int)) = x at *
          generalize hv (bt s ((i + 1 : Nat) : Int)) = y at *
          have e3 : wrap64 (wrap64 (16 * x) + y) % 256 = 16 * x + y := by
            have e4 : wrap64 (16 * x) = 16 * x := by unfold wrap64; omega
            rw [e4]; unfold wrap64; omega
          rw [e2, e3]
          exact b5 _ (i + 2) b6 b7 b8 (by simp; omega) (by omega)
    · have c1 : ¬ ((i + 1 : Nat) : Int) < (s.size : Int) := by omega
      rw [if_neg c1]
      by_cases h1 : i = s.size
      · rw [List.drop_of_length_le (by omega), unh]
        rw [if_neg (by omega)]
      · have h2 : (bytesOf s).drop i = [bt s i] := by
          have e1 : bt s i = (bytesOf s)[i]'(by omega) := by rw [← rd_bytesOf]; simp [rd, List.getD_eq_getElem?_getD, show i < (bytesOf s).length by omega]
          rw [e1, List.drop_eq_getElem_cons (by omega), List.drop_of_length_le (by omega)]
        rw [h2, unh]
        rw [if_pos (by omega)]
end Go.Proofs.Ytmepclalglmleaa.E
