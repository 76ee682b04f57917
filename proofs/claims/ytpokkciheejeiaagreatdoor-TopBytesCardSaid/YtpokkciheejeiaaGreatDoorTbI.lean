/- Lemmas and contracts that the proof of TopBytes uses, part 9 of 12: each is a theorem for every input that its premises allow. -/
import Derived.Test.YtpokkciheejeiaaGreatDoorTbH
set_option linter.unusedVariables false
set_option linter.unusedSimpArgs false
namespace Go.Proofs.YtpokkciheejeiaaGreatDoor
section
set_option maxRecDepth 100000
theorem piece3 : chkOut .normal spot4 (fCode (mkEnv Tryz.prog reachAll plans) (fCalls (mkEnv Tryz.prog reachAll plans) hook0 1000000 59) 70 6 1000000 ((((Tryz.f6.body.map flat).getD [])[3]?).getD .skip) spot3.frame spot3.heap) = true := by kernel_rfl
end
end Go.Proofs.YtpokkciheejeiaaGreatDoor
