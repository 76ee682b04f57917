/- The contract of filter.Match. -/
import Derived.Test.YtadidldkphimfaaMeans
namespace Go.Proofs.Ytadidldkphimfaa
set_option linter.unusedVariables false
open Go.RowKit Go.ChangeShapes

theorem right_facts (t : FT) (h : rightT t = true) : everyF t = true ∧ dpF t ≤ 16 ∧ cntF t ≤ 64 := by
  by_cases g : everyF t = true ∧ 1 + dpF t ≤ 17 ∧ cntF t ≤ 64
  · exact ⟨g.1, by omega, g.2.2⟩
  · have := (rightF_sem t 1 64).2 g
    unfold rightT at h
    rw [h] at this
    cases this

end Go.Proofs.Ytadidldkphimfaa
