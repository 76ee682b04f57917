/- The contract of filter.grow. -/
import Derived.Test.YtadidldkphimfaaNode
namespace Go.Proofs.Ytadidldkphimfaa
set_option linter.unusedVariables false
open Go.RowKit Go.ChangeShapes

end Go.Proofs.Ytadidldkphimfaa
