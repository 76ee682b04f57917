/- Contracts of wire.PutText and of its reference. -/
import Derived.Test.YtadidldkphimfaaWire2
import Derived.Test.YtadidldkphimfaaWire
namespace Go.Proofs.Ytadidldkphimfaa
set_option linter.unusedVariables false
open Go.RowKit

end Go.Proofs.Ytadidldkphimfaa
