/- HexaBack: bytes are there again out of their digits, and each text that has bytes is their text, for every input. -/
import Derived.Test.YtmepclalglmleaaF3
import Derived.Test.YtmepclalglmleaaM
namespace Go.Proofs.Ytmepclalglmleaa.Pure
open Go.RowKit Go.Proofs.Ytmepclalglmleaa.Pr Go.Proofs.YtmepclalglmleaaW.PrintWords Go.Proofs.YtmepclalglmleaaW.PrintLast Go.Proofs.Ytmepclalglmleaa.E
set_option linter.unusedVariables false
set_option linter.unusedSimpArgs false
theorem HexaBack : wicketmanlaw05_HexaBack.Pure := by
  intro l s hm hl hw hs
  have hB := BL.of_wf hw
  refine ⟨1, ?_⟩
  unfold wicketmanlaw05_HexaBack.f
  have hT : wicketmanlaw05_HexaBack.j0 1 l s true = some true := by
    simp only [wicketmanlaw05_HexaBack.j0, known_true]; rfl
  by_cases h1 : (l.length : Int) > 200
  · rw [if_pos h1]; exact hT
  · rw [if_neg h1]
    by_cases h2 : (s.size : Int) > 200
    · rw [decide_eq_true h2]; exact hT
    · rw [decide_eq_false h2]
      simp only [wicketmanlaw05_HexaBack.j0]
      rw [if_neg (by simp), text_f hB (by omega)]
      simp only [Option.bind_some]
      rw [bytes_T hB (by omega)]
      simp only [Option.bind_some, known_true, if_true]
      have hsz : ((T l).size : Int) = wrap64 (2 * (l.length : Int)) := by
        rw [size_T]; unfold wrap64; omega
      by_cases h3 : okB (bytesOf s)
      · rw [bytes_yes (by omega) h3]
        simp -implicitDefEqProofs only [Option.bind_some, if_true]
        rw [if_pos hsz, text_f (pairs_BL _ h3.1) (by rw [pairs_length, bytesOf_length]; omega)]
        simp -implicitDefEqProofs only [Option.bind_some]
        rw [text_pairs h3]; simp
      · rw [bytes_no (by omega) h3]
        simp -implicitDefEqProofs only [Option.bind_some]
        rw [if_pos hsz]; rfl
end Go.Proofs.Ytmepclalglmleaa.Pure
