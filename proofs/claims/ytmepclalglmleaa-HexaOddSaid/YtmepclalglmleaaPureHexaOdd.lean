/- HexaOdd: an odd number of digits, or a sign that is none, makes no bytes, wherever it stands, for every input. -/
import Derived.Test.YtmepclalglmleaaF5
import Derived.Test.YtmepclalglmleaaM
namespace Go.Proofs.Ytmepclalglmleaa.Pure
open Go.RowKit Go.Proofs.Ytmepclalglmleaa.Pr Go.Proofs.YtmepclalglmleaaW.PrintWords Go.Proofs.YtmepclalglmleaaW.PrintLast Go.Proofs.Ytmepclalglmleaa.E
set_option linter.unusedVariables false
set_option linter.unusedSimpArgs false
theorem put_ok {L : List Int} (h : okB L) (i : Nat) (hi : i < L.length) (c : Int) : okB (L.take i ++ [c] ++ L.drop (i + 1)) ↔ 0 ≤ hv c := by
  constructor
  · intro k; exact k.1 c (by simp)
  · intro k
    refine ⟨?_, ?_⟩
    · intro x hx
      simp only [List.mem_append, List.mem_singleton] at hx
      rcases hx with (hx | rfl) | hx
      · exact h.1 x (List.mem_of_mem_take hx)
      · exact k
      · exact h.1 x (List.mem_of_mem_drop hx)
    · simp only [List.length_append, List.length_take, List.length_drop, List.length_singleton]
      have := h.2
      omega
theorem cut_odd {L : List Int} (h : okB L) (i : Nat) (hi : i < L.length) : ¬ okB (L.take i ++ L.drop (i + 1)) := by
  intro k
  have k2 := k.2
  simp only [List.length_append, List.length_take, List.length_drop] at k2
  have := h.2
  omega
theorem hv_is (c : Int) : (0 ≤ hv c) ↔ (48 ≤ c ∧ c ≤ 57) ∨ (97 ≤ c ∧ c ≤ 102) := by
  unfold hv
  by_cases h1 : 48 ≤ c ∧ c ≤ 57
  · rw [if_pos h1]; omega
  · rw [if_neg h1]
    by_cases h2 : 97 ≤ c ∧ c ≤ 102
    · rw [if_pos h2]; omega
    · rw [if_neg h2]; omega
theorem bytes_front (t : ByteArray) (i : Nat) : bytesOf (t.extract 0 i) = (bytesOf t).take i := by rw [bytesOf_extract]; simp [List.extract]
theorem bytes_rest (t : ByteArray) (i : Nat) : bytesOf (t.extract i t.size) = (bytesOf t).drop i := by
  rw [bytesOf_extract, List.extract, List.take_of_length_le]; rw [List.length_drop, bytesOf_length]; exact Nat.le_refl _
theorem size_front (t : ByteArray) (i : Nat) (h : i ≤ t.size) : (t.extract 0 i).size = i := by rw [ByteArray.size_extract, Nat.min_eq_left h, Nat.sub_zero]
theorem size_rest (t : ByteArray) (i : Nat) : (t.extract i t.size).size = t.size - i := by rw [ByteArray.size_extract, Nat.min_self]
theorem out_of (t : ByteArray) (hk : okB (bytesOf t)) (hs : t.size ≤ 1000) (i : Nat) (hi : i < t.size) : hexa_Bytes.f (t.extract 0 i ++ t.extract (i + 1) t.size) = some ([], false) := by
  refine bytes_no ?_ ?_
  · rw [ByteArray.size_append, size_front t i (by omega), size_rest]; omega
  · rw [bytesOf_append, bytes_front, bytes_rest]
    exact cut_odd hk i (by rw [bytesOf_length]; exact hi)
theorem size_one (c : Int) : (strOfNums [c]).size = 1 := by rw [strOfNums_eq, size_toB]; rfl
theorem turned (t : ByteArray) (hk : okB (bytesOf t)) (hs : t.size ≤ 1000) (i : Nat) (hi : i < t.size) (c : Int) (h0 : 0 ≤ c) (h1 : c ≤ 255) : ∃ M, hexa_Bytes.f ((t.extract 0 i ++ strOfNums [c]) ++ t.extract (i + 1) t.size) = some (M, decide (0 ≤ hv c)) := by
  have bC : bytesOf (strOfNums [c]) = [c] := by rw [strOfNums_eq, bytesOf_toB]; intro x hx; simp at hx; omega
  have e : bytesOf ((t.extract 0 i ++ strOfNums [c]) ++ t.extract (i + 1) t.size) = (bytesOf t).take i ++ [c] ++ (bytesOf t).drop (i + 1) := by
    rw [bytesOf_append, bytesOf_append, bytes_front, bytes_rest, bC]
  have s : ((t.extract 0 i ++ strOfNums [c]) ++ t.extract (i + 1) t.size).size ≤ 140737488351232 := by
    rw [ByteArray.size_append, ByteArray.size_append, size_front t i (by omega), size_rest, size_one]; omega
  have hp := put_ok hk i (by rw [bytesOf_length]; exact hi) c
  by_cases hh : 0 ≤ hv c
  · exact ⟨_, by rw [decide_eq_true hh]; exact bytes_yes s (by rw [e]; exact hp.2 hh)⟩
  · exact ⟨_, by rw [decide_eq_false hh]; exact bytes_no s (by rw [e]; exact fun k => hh (hp.1 k))⟩
theorem sums (t : ByteArray) (hs : t.size ≤ 1000) (i : Nat) (hi : i < t.size) (c : Int) : ((t.extract 0 i).size + (t.extract (i + 1) t.size).size ≤ 9223372036854775807) ∧ ((t.extract 0 i).size + (strOfNums [c]).size ≤ 9223372036854775807) ∧ ((t.extract 0 i ++ strOfNums [c]).size + (t.extract (i + 1) t.size).size ≤ 9223372036854775807) := by
  have h1 := size_front t i (by omega)
  have h2 := size_rest t (i + 1)
  have h3 := size_one c
  have h4 := @ByteArray.size_append (t.extract 0 i) (strOfNums [c])
  rw [h1] at h4 ⊢
  rw [h2]
  rw [h4, h3]
  omega
theorem last (c : Int) (hc0 : 0 ≤ c) (b : Bool) (M : List Int) (hb : b = decide (0 ≤ hv c)) (r3 : Option Bool) :
    (if c ≥ 48 then (if c ≤ 57 then (some (b == true)) else (if c ≥ 97 then (some (b == (decide (c ≤ 102)))) else (some (b == false)))) else (if c ≥ 97 then r3 else (some (b == false)))) = some true := by
  have hd := hv_is c
  subst hb
  by_cases q1 : c ≥ 48
  · rw [if_pos q1]
    by_cases q2 : c ≤ 57
    · rw [if_pos q2, decide_eq_true (hd.2 (by omega))]; rfl
    · rw [if_neg q2]
      by_cases q3 : c ≥ 97
      · rw [if_pos q3]
        have : (0 ≤ hv c) ↔ c ≤ 102 := by omega
        simp [this]
      · rw [if_neg q3, decide_eq_false (fun k => by have := hd.1 k; omega)]; rfl
  · rw [if_neg q1, if_neg (by omega), decide_eq_false (fun k => by have := hd.1 k; omega)]; rfl
theorem HexaOdd : wicketmanlaw05_HexaOdd.Pure := by
  intro l a c hm hl hw ha hc
  have hB := BL.of_wf hw
  have ha' := u8_wf ha
  have hc' := u8_wf hc
  refine ⟨1, ?_⟩
  unfold wicketmanlaw05_HexaOdd.f
  have hT : wicketmanlaw05_HexaOdd.j0 1 l a c true = some true := by
    simp only [wicketmanlaw05_HexaOdd.j0, known_true]; rfl
  by_cases h1 : (l.length : Int) > 100
  · rw [if_pos h1]; exact hT
  · rw [if_neg h1]
    by_cases h2 : (l.length : Int) = 0
    · rw [beq_iff_eq.2 h2]; exact hT
    · rw [beq_eq_false_iff_ne.2 h2]
      simp only [wicketmanlaw05_HexaOdd.j0]
      rw [if_neg (by simp), text_f hB (by omega), Option.bind_some, if_neg (by rw [size_T]; omega)]
      have hN : (T l).size = 2 * l.length := size_T l
      obtain ⟨N, eN⟩ : ∃ N, N = (T l).size := ⟨_, rfl⟩
      have ew : wrap64 a = a := by unfold wrap64; omega
      obtain ⟨i, hi0, hi1, hi⟩ : ∃ i : Nat, i < N ∧ Int.tmod (wrap64 a) ((T l).size : Int) = (i : Int) ∧ True := by
        refine ⟨(a % (N : Int)).toNat, ?_, ?_, trivial⟩
        · have := Int.emod_lt_of_pos a (show (0 : Int) < (N : Int) by omega)
          have := Int.emod_nonneg a (show (N : Int) ≠ 0 by omega)
          omega
        · rw [ew, Int.tmod_eq_emod_of_nonneg ha'.1, ← eN]
          have := Int.emod_nonneg a (show (N : Int) ≠ 0 by omega)
          omega
      rw [hi1]
      have ei : ((i : Int)).toNat = i := Int.toNat_natCast i
      have ei1 : wrap64 ((i : Int) + 1) = ((i + 1 : Nat) : Int) := by unfold wrap64; omega
      rw [ei1, ei, Int.toNat_natCast]
      have hk := okB_T hB
      clear hi1 ei ei1 ew hl hm
      have g1 : (T l).size ≤ 1000 := by omega
      have g2 : i < (T l).size := by omega
      have b1 : (0 : Int) ≤ (i : Int) := by omega
      have b2 : (i : Int) ≤ ((T l).size : Int) := by omega
      have b3 : (0 : Int) ≤ ((i + 1 : Nat) : Int) := by omega
      have b4 : ((i + 1 : Nat) : Int) ≤ ((T l).size : Int) := by omega
      clear hi0 hi eN hN
      generalize T l = t at *
      obtain ⟨M, n2⟩ := turned t hk g1 i g2 c hc'.1 hc'.2
      have n1 := out_of t hk g1 i g2
      obtain ⟨s1, s2, s3⟩ := sums t g1 i g2 c
      rw [if_pos b1, if_pos b2, if_pos b3, if_pos b4, if_pos s1]
      rw [n1, Option.bind_some, Option.bind_some]
      rw [if_pos s2, if_pos s3]
      rw [n2, Option.bind_some]
      rw [known_true]
      simp -implicitDefEqProofs only [Option.bind_some, if_true, Bool.false_eq_true, if_false]
      exact last c hc'.1 _ M rfl _
end Go.Proofs.Ytmepclalglmleaa.Pure
