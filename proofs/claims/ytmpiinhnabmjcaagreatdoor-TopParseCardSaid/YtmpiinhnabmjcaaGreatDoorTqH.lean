/- Lemmas and contracts that the proof of TopParse uses, part 8 of 20: each is a theorem for every input that its premises allow. -/
import Derived.Test.YtmpiinhnabmjcaaGreatDoorTqG
set_option linter.unusedVariables false
set_option linter.unusedSimpArgs false
set_option maxRecDepth 100000
namespace Go.Proofs.YtmpiinhnabmjcaaGreatDoor
section
theorem JJ:gv .normal EF (cG (aJ Tryz.prog aq aC) (bE (aJ Tryz.prog aq aC) kF 1000000 59) 70 11 1000000 ((((Tryz.f11.body.map flat).getD [])[4]?).getD .skip) CO.frame CO.heap)=true:=by kernel_rfl
end
end Go.Proofs.YtmpiinhnabmjcaaGreatDoor
