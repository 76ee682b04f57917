/- Lemmas and contracts that the proof of TopBytes uses, part 11 of 12: each is a theorem for every input that its premises allow. -/
import Derived.Test.YtpokkciheejeiaaGreatDoorTbJ
set_option linter.unusedVariables false
set_option linter.unusedSimpArgs false
namespace Go.Proofs.YtpokkciheejeiaaGreatDoor
section
set_option maxRecDepth 100000
theorem piece5 : chkOut .normal spot6 (fCode (mkEnv Tryz.prog reachAll plans) (fCalls (mkEnv Tryz.prog reachAll plans) hook0 1000000 59) 70 6 1000000 ((((Tryz.f6.body.map flat).getD [])[5]?).getD .skip) spot5.frame spot5.heap) = true := by kernel_rfl
end
end Go.Proofs.YtpokkciheejeiaaGreatDoor
