/- HexaTexts: Text, Bytes, ID and Of of any bytes and texts, and of texts with a byte another one, are what the chapter says. -/
import Derived.Test.YtmepclalglmleaaF7
import Derived.Test.YtmepclalglmleaaM2
namespace Go.Proofs.Ytmepclalglmleaa.Pure
open Go.RowKit Go.Proofs.Ytmepclalglmleaa.Pr Go.Proofs.YtmepclalglmleaaW.PrintWords Go.Proofs.YtmepclalglmleaaW.PrintLast Go.Proofs.Ytmepclalglmleaa.E
set_option linter.unusedVariables false
set_option linter.unusedSimpArgs false
theorem ref_same (s : ByteArray) (hs : s.size ≤ 1000) (k : Nat) (hk : 2025 ≤ k) : wicketmanref05_Bytes.f k s = hexa_Bytes.f s := by
  have h := refBytes s hs 1000 k [] 0 (Nat.zero_le _) (by omega) (by omega) (by simp) rfl
  unfold wicketmanref05_Bytes.f
  refine h.trans ?_
  rw [List.drop_zero, unh_eq]
  by_cases p : okB (bytesOf s)
  · rw [if_pos p, bytes_yes (by omega) p]; rfl
  · rw [if_neg p, bytes_no (by omega) p]
theorem some_bytes (s : ByteArray) (hs : s.size ≤ 1000) : ∃ x, hexa_Bytes.f s = some x := by
  by_cases p : okB (bytesOf s)
  · exact ⟨_, bytes_yes (by omega) p⟩
  · exact ⟨_, bytes_no (by omega) p⟩
theorem bytes_law (s : ByteArray) (hs : s.size ≤ 1000) (k : Nat) (hk : 2025 ≤ k) : wicketmanlaw05_bytes.f k s = some true := by
  unfold wicketmanlaw05_bytes.f
  obtain ⟨x, hx⟩ := some_bytes s hs
  rw [ref_same s hs k hk, hx, Option.bind_some, Option.bind_some, if_pos rfl]
  simp
theorem id_law (s : ByteArray) (hs : s.size ≤ 1000) (k : Nat) (hk : 2025 ≤ k) : ∃ b, hexa_ID.f s = some b ∧ wicketmanref05_ID.f k s = some b := by
  unfold hexa_ID.f wicketmanref05_ID.f
  obtain ⟨x, hx⟩ := some_bytes s hs
  rw [ref_same s hs k hk, hx, Option.bind_some]
  cases hb : x.2
  · exact ⟨false, by simp, by simp⟩
  · exact ⟨_, by simp only [if_true]; try rfl, by simp only [if_true]⟩
theorem of_law (l : List Int) (h : BL l) (hl : l.length ≤ 1000) : ∃ x, hexa_Of.f l = some x ∧ wicketmanref05_Of.f l = some x := by
  by_cases p : l.length = 32
  · refine ⟨_, Of_yes h p, ?_⟩
    unfold wicketmanref05_Of.f wicketmanref05_Text.f
    rw [if_pos (by omega), text_f h (by omega), Option.bind_some]
  · refine ⟨_, Of_no p, ?_⟩
    unfold wicketmanref05_Of.f
    rw [if_neg (by omega)]
theorem tail (l : List Int) (h : BL l) (hl : l.length ≤ 100) (s u : ByteArray) (hs : s.size ≤ 200) (hu : u.size ≤ 1000) (k : Nat) (hk : 2025 ≤ k) :
    wicketmanlaw05_HexaTexts.j1 (k + 1) l s (T l) u = some true := by
  obtain ⟨x, o1, o2⟩ := of_law l h (by omega)
  have hN := size_T l
  have g1 : (T l).size ≤ 1000 := by omega
  have tx := text_f h (by omega)
  have t2 : wicketmanref05_Text.f ((l ++ List.replicate 32 0).take 32) = some (T ((l ++ List.replicate 32 0).take 32)) := text_f ((h.append (BL.zeros 32)).take 32) (by simp)
  have i2 := ID_T ((h.append (BL.zeros 32)).take 32) (by simp)
  have l2 : ((l ++ List.replicate 32 0).take 32).length = 32 := by simp
  rw [l2] at i2
  obtain ⟨m, hm, em⟩ : ∃ m : Nat, m ≤ (T l).size ∧ wrap64 (((T l).size : Int) - (((T l).size : Int) % 3)) = (m : Int) := by
    refine ⟨(T l).size - (T l).size % 3, by omega, ?_⟩
    unfold wrap64; omega
  have c1 : ([] : List Int).length + l.length < 140737488355328 := by simp; omega
  have c2 : l.length + 32 < 140737488355328 := by omega
  have c3 : (32 : Int) ≤ ((l ++ List.replicate 32 0).length : Int) := by simp; omega
  have f1 := size_front (T l) m hm
  have c4 : (0 : Int) ≤ (m : Int) := by omega
  have c5 : (m : Int) ≤ ((T l).size : Int) := by omega
  have g2 : ((T l).extract 0 m).size ≤ 1000 := by omega
  have b1 := bytes_law s (by omega) k hk
  have b2 := bytes_law (T l) g1 k hk
  have b3 := bytes_law u hu k hk
  have b4 := bytes_law ((T l).extract 0 m) g2 k hk
  obtain ⟨y1, d1, d2⟩ := id_law s (by omega) k hk
  obtain ⟨y2, d3, d4⟩ := id_law (T l) g1 k hk
  clear hN
  generalize T l = t at *
  rw [wicketmanlaw05_HexaTexts.j1, o1, Option.bind_some, o2, Option.bind_some, if_pos c1, Option.bind_some, List.nil_append, if_pos c2, Option.bind_some, if_pos c3, t2, Option.bind_some, tx, Option.bind_some, if_pos rfl, b1, Option.bind_some, if_pos rfl, b2, Option.bind_some, if_pos rfl, b3, Option.bind_some, if_pos rfl, em, if_pos c4, if_pos c5, Int.toNat_natCast, b4, Option.bind_some, if_pos rfl, if_pos rfl, if_pos (by simp), d1, Option.bind_some, d2, Option.bind_some, if_pos (by simp), i2, Option.bind_some, if_pos (by decide), d3, Option.bind_some, d4, Option.bind_some]
  simp
theorem HexaTexts : wicketmanlaw05_HexaTexts.Pure := by
  intro l s a c hm hl hw hs ha hc
  have hB := BL.of_wf hw
  have ha' := u8_wf ha
  have hc' := u8_wf hc
  refine ⟨2027, ?_⟩
  unfold wicketmanlaw05_HexaTexts.f
  have hT : wicketmanlaw05_HexaTexts.j0 2027 l s a c true = some true := by
    rw [wicketmanlaw05_HexaTexts.j0, if_pos rfl, known_true]; rfl
  by_cases h1 : (l.length : Int) > 100
  · rw [if_pos h1]; exact hT
  · rw [if_neg h1]
    by_cases h2 : (s.size : Int) > 200
    · rw [if_pos h2]; exact hT
    · rw [if_neg h2, known_true, Option.bind_some]
      show wicketmanlaw05_HexaTexts.j0 (2026 + 1) l s a c false = some true
      have t1 : wicketmanref05_Text.f l = some (T l) := text_f hB (by omega)
      rw [wicketmanlaw05_HexaTexts.j0, if_neg (by simp), t1, Option.bind_some]
      have hN : (T l).size = 2 * l.length := size_T l
      have ll : l.length ≤ 100 := by omega
      have ls : s.size ≤ 200 := by omega
      clear hm hl hw hs ha hc t1 hT h1 h2
      by_cases hz : ((T l).size : Int) > 0
      · rw [if_pos hz]
        have g0 : ¬ ((T l).size : Int) = 0 := by omega
        rw [if_neg g0]
        obtain ⟨N, eN⟩ : ∃ N, N = (T l).size := ⟨_, rfl⟩
        have ew : wrap64 a = a := by unfold wrap64; omega
        have e3 : Int.tmod (wrap64 a) ((T l).size : Int) = (((a % (N : Int)).toNat : Nat) : Int) := by
          rw [ew, Int.tmod_eq_emod_of_nonneg ha'.1, ← eN]
          have := Int.emod_nonneg a (show (N : Int) ≠ 0 by omega)
          omega
        have hi0 : (a % (N : Int)).toNat < N := by
          have := Int.emod_lt_of_pos a (show (0 : Int) < (N : Int) by omega)
          have := Int.emod_nonneg a (show (N : Int) ≠ 0 by omega)
          omega
        rw [e3]
        clear e3 ew
        generalize (a % (N : Int)).toNat = i at *
        have e4 : wrap64 ((i : Int) + 1) = ((i + 1 : Nat) : Int) := by unfold wrap64; omega
        rw [e4, Int.toNat_natCast, Int.toNat_natCast]
        clear e4
        have b1 : (0 : Int) ≤ (i : Int) := by omega
        have b2 : (i : Int) ≤ ((T l).size : Int) := by omega
        have b3 : (0 : Int) ≤ ((i + 1 : Nat) : Int) := by omega
        have b4 : ((i + 1 : Nat) : Int) ≤ ((T l).size : Int) := by omega
        obtain ⟨s1, s2, s3⟩ := sums (T l) (by omega) i (by omega) c
        have g5 : (T l).size ≤ 1000 := by omega
        rw [if_pos b1, if_pos b2, Option.bind_some, if_pos s1, if_pos b3, if_pos b4, if_pos s2]
        exact tail l hB ll s _ ls (by rw [s3]; exact g5) 2025 (Nat.le_refl _)
      · rw [if_neg hz]
        exact tail l hB ll s _ ls (by omega) 2025 (Nat.le_refl _)
end Go.Proofs.Ytmepclalglmleaa.Pure
