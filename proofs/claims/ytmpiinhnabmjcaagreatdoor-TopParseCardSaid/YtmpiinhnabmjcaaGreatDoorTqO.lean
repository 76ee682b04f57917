/- Lemmas and contracts that the proof of TopParse uses, part 15 of 20: each is a theorem for every input that its premises allow. -/
import Derived.Test.YtmpiinhnabmjcaaGreatDoorTqN
set_option linter.unusedVariables false
set_option linter.unusedSimpArgs false
set_option maxRecDepth 100000
namespace Go.Proofs.YtmpiinhnabmjcaaGreatDoor
section
theorem LM:dD (.at_ [1,1,1,0,0,1,1,0,0,1,0,1,1,1,1,1]) lD CY 2628 (mAt (aJ Tryz.prog aq aC) (bE (aJ Tryz.prog aq aC) kG 1000000 59) Tryz.f8.ntmps 8 1000000 15 dW [1,1,1,0,0,1,1,0,0,1,0,1,1,1,1,1] Ed.frame Ed.heap)=true:=by kernel_rfl
end
end Go.Proofs.YtmpiinhnabmjcaaGreatDoor
