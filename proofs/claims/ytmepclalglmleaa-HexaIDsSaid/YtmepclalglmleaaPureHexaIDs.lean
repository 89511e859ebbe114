/- HexaIDs: there is an ID just of 32 bytes; two are the same just if their bytes are; great letters make none; for every input. -/
import Derived.Test.YtmepclalglmleaaF8
import Derived.Test.YtmepclalglmleaaM2
namespace Go.Proofs.Ytmepclalglmleaa.Pure
open Go.RowKit Go.Proofs.Ytmepclalglmleaa.Pr Go.Proofs.YtmepclalglmleaaW.PrintWords Go.Proofs.YtmepclalglmleaaW.PrintLast Go.Proofs.Ytmepclalglmleaa.E
set_option linter.unusedVariables false
set_option linter.unusedSimpArgs false
theorem great (t : ByteArray) (h : t.size = 64) : hexa_ID.f (t.extract 0 63 ++ (⟨#[65]⟩ : ByteArray)) = some false := by
  refine ID_no ?_ ?_
  · have h1 := @ByteArray.size_append (t.extract 0 63) (⟨#[65]⟩ : ByteArray)
    have h2 := size_front t 63 (by omega)
    have h3 : (⟨#[65]⟩ : ByteArray).size = 1 := rfl
    rw [h1, h2, h3]; decide
  · rintro ⟨h1, _⟩
    have := h1 65 (by rw [bytesOf_append]; exact List.mem_append_right _ (by decide))
    revert this; decide
theorem more (t : ByteArray) (h : t.size = 64) : hexa_ID.f (t ++ (⟨#[48]⟩ : ByteArray)) = some false := by
  have h1 := @ByteArray.size_append t (⟨#[48]⟩ : ByteArray)
  have h3 : (⟨#[48]⟩ : ByteArray).size = 1 := rfl
  rw [h, h3] at h1
  refine ID_no ?_ ?_
  · rw [h1]; decide
  · rintro ⟨_, h2⟩
    rw [bytesOf_length, h1] at h2
    revert h2; decide
theorem rowOf (a : List Int) (ha : BL a) (h : a.length ≤ 1000) : BL ((a ++ List.replicate 32 0).take 32) ∧ ((a ++ List.replicate 32 0).take 32).length = 32 ∧ (a ++ List.replicate 32 0).length = a.length + 32 :=
  ⟨(ha.append (BL.zeros 32)).take 32, by simp, by simp⟩
theorem ofZeros (n : Int) (h0 : 0 ≤ n) (h1 : n ≤ 255) : ∃ t, hexa_Of.f (List.replicate n.toNat 0) = some (t, n == 32) := by
  by_cases h : n = 32
  · subst h; exact ⟨_, Of_yes (BL.zeros _) (by simp)⟩
  · exact ⟨_, by rw [Of_no (by simp; omega)]; rw [beq_eq_false_iff_ne.2 h]⟩
theorem ids (X Y : List Int) (hX : BL X) (hY : BL Y) (lX : X.length = 32) (lY : Y.length = 32) (t : ByteArray) (b : Bool) :
    (hexa_Of.f X = some (T X, true)) ∧ (hexa_Of.f Y = some (T Y, true)) ∧ hexa_ID.f (T X) = some true ∧ (((T X).toList == (T Y).toList) == ((strOfNums X).toList == (strOfNums Y).toList)) = true ∧ (T X).size = 64 := by
  refine ⟨Of_yes hX lX, Of_yes hY lY, ?_, ?_, by rw [size_T, lX]⟩
  · rw [ID_T hX (by omega), lX]; rfl
  · rw [beq_list, beq_list, beq_iff_eq]
    exact decide_eq_decide.2 ⟨fun k => by rw [T_inj hX hY k], fun k => by rw [str_inj hX hY k]⟩
theorem HexaIDs : wicketmanlaw05_HexaIDs.Pure := by
  intro a b n hm hl hw hm2 hl2 hw2 hn
  have hA := BL.of_wf hw
  have hB := BL.of_wf hw2
  have hn' := u8_wf hn
  unfold wicketmanlaw05_HexaIDs.f
  by_cases h1 : wrap64 ((a.length : Int) + (b.length : Int)) > 200
  · rw [if_pos h1, known_true]; rfl
  · rw [if_neg h1]
    have h2 : a.length + b.length ≤ 200 := by unfold wrap64 at h1; omega
    clear h1 hm hl hm2 hl2 hw hw2 hn
    obtain ⟨rA, lA, sA⟩ := rowOf a hA (by omega)
    obtain ⟨rB, lB, sB⟩ := rowOf b hB (by omega)
    have ew : wrap64 n = n := by unfold wrap64; omega
    obtain ⟨t0, hz⟩ := ofZeros n hn'.1 hn'.2
    obtain ⟨i1, i2, i3, i4, i5⟩ := ids _ _ rA rB lA lB ⟨#[]⟩ true
    rw [ew]
    have c1 : ([] : List Int).length + a.length < 140737488355328 := by simp; omega
    have c2 : a.length + 32 < 140737488355328 := by omega
    have c3 : ([] : List Int).length + b.length < 140737488355328 := by simp; omega
    have c4 : b.length + 32 < 140737488355328 := by omega
    have c5 : (32 : Int) ≤ ((a ++ List.replicate 32 0).length : Int) := by omega
    have c6 : (32 : Int) ≤ ((b ++ List.replicate 32 0).length : Int) := by omega
    have c7 : n.toNat ≤ 281474976710656 := by omega
    rw [if_pos c1, Option.bind_some, List.nil_append, if_pos c2, Option.bind_some, if_pos c3, Option.bind_some, List.nil_append, if_pos c4, Option.bind_some, if_pos c5, i1, Option.bind_some, if_pos c6, i2, Option.bind_some, if_pos hn'.1, if_pos c7, hz, Option.bind_some, known_true, Option.bind_some, if_pos rfl, if_pos rfl, if_pos rfl]
    generalize T ((a ++ List.replicate 32 0).take 32) = p at *
    have s1 := size_front p 63 (by omega)
    have k1 : (p.size : Int) = 64 := by omega
    have k2 : (63 : Int) ≤ (p.size : Int) := by omega
    rw [i3, Option.bind_some, if_pos rfl, if_pos i4, if_pos (by simp), if_pos k1, if_pos (by decide), if_pos k2, if_pos (by rw [s1]; decide), great p i5, Option.bind_some, if_neg (by simp), if_pos (by rw [i5]; decide), more p i5, Option.bind_some]
    rfl
end Go.Proofs.Ytmepclalglmleaa.Pure
