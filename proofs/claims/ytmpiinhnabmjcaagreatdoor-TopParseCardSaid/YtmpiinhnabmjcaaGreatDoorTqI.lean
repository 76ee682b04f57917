/- Lemmas and contracts that the proof of TopParse uses, part 9 of 20: each is a theorem for every input that its premises allow. -/
import Derived.Test.YtmpiinhnabmjcaaGreatDoorTqH
set_option linter.unusedVariables false
set_option linter.unusedSimpArgs false
set_option maxRecDepth 100000
namespace Go.Proofs.YtmpiinhnabmjcaaGreatDoor
section
theorem KI:gv .normal Cn (cG (aJ Tryz.prog aq aC) (bE (aJ Tryz.prog aq aC) kF 1000000 59) 70 11 1000000 ((((Tryz.f11.body.map flat).getD [])[5]?).getD .skip) EF.frame EF.heap)=true:=by kernel_rfl
end
end Go.Proofs.YtmpiinhnabmjcaaGreatDoor
