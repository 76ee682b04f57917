/- Lemmas and contracts that the proof of TopParse uses, part 14 of 20: each is a theorem for every input that its premises allow. -/
import Derived.Test.YtmpiinhnabmjcaaGreatDoorTqM
set_option linter.unusedVariables false
set_option linter.unusedSimpArgs false
set_option maxRecDepth 100000
namespace Go.Proofs.YtmpiinhnabmjcaaGreatDoor
section
theorem LF:dD (.at_ [1,1,1,0,0,1,1,0,0,1,0,1,1,1,1,1]) lD Ed 2628 (mAt (aJ Tryz.prog aq aC) (bE (aJ Tryz.prog aq aC) kG 1000000 59) Tryz.f8.ntmps 8 1000000 15 dW [1,1,1,0,0,1,1,0,0,1,0,1,1,1,1,1] Cs.frame Cs.heap)=true:=by kernel_rfl
end
end Go.Proofs.YtmpiinhnabmjcaaGreatDoor
