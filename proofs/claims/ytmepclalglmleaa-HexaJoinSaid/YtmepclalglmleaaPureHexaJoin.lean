/- HexaJoin: the text of two rows is that of one, and that of the other behind it, for every input. -/
import Derived.Test.YtmepclalglmleaaF4
import Derived.Test.YtmepclalglmleaaM
namespace Go.Proofs.Ytmepclalglmleaa.Pure
open Go.RowKit Go.Proofs.Ytmepclalglmleaa.Pr Go.Proofs.YtmepclalglmleaaW.PrintWords Go.Proofs.YtmepclalglmleaaW.PrintLast Go.Proofs.Ytmepclalglmleaa.E
set_option linter.unusedVariables false
set_option linter.unusedSimpArgs false
theorem HexaJoin : wicketmanlaw05_HexaJoin.Pure := by
  intro a b hm hl hw hm2 hl2 hw2
  have hA := BL.of_wf hw
  have hB := BL.of_wf hw2
  unfold wicketmanlaw05_HexaJoin.f
  by_cases h1 : wrap64 ((a.length : Int) + (b.length : Int)) > 300
  · rw [if_pos h1, known_true]; rfl
  · rw [if_neg h1]
    have h2 : a.length + b.length ≤ 300 := by unfold wrap64 at h1; omega
    rw [if_pos (by simp; omega)]
    simp only [Option.bind_some, List.nil_append]
    rw [if_pos (by omega), known_true]
    simp only [Option.bind_some, if_true]
    rw [text_f (hA.append hB) (by simp; omega), text_f hA (by omega), text_f hB (by omega)]
    simp only [Option.bind_some]
    rw [if_pos (by rw [size_T, size_T]; omega), if_pos (by rw [T_append]), text_f (by intro x hx; simp at hx) (by simp)]
    decide +kernel
end Go.Proofs.Ytmepclalglmleaa.Pure
