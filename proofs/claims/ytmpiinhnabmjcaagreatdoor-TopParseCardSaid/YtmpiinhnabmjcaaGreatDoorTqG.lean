/- Lemmas and contracts that the proof of TopParse uses, part 7 of 20: each is a theorem for every input that its premises allow. -/
import Derived.Test.YtmpiinhnabmjcaaGreatDoorTqF
set_option linter.unusedVariables false
set_option linter.unusedSimpArgs false
set_option maxRecDepth 100000
namespace Go.Proofs.YtmpiinhnabmjcaaGreatDoor
section
theorem KO:gv .normal CO (cG (aJ Tryz.prog aq aC) (bE (aJ Tryz.prog aq aC) kF 1000000 59) 70 11 1000000 ((((Tryz.f11.body.map flat).getD [])[3]?).getD .skip) Cy.frame Cy.heap)=true:=by kernel_rfl
end
end Go.Proofs.YtmpiinhnabmjcaaGreatDoor
