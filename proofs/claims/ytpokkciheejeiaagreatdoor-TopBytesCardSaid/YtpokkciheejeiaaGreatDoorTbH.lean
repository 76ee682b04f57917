/- Lemmas and contracts that the proof of TopBytes uses, part 8 of 12: each is a theorem for every input that its premises allow. -/
import Derived.Test.YtpokkciheejeiaaGreatDoorTbG
set_option linter.unusedVariables false
set_option linter.unusedSimpArgs false
namespace Go.Proofs.YtpokkciheejeiaaGreatDoor
section
set_option maxRecDepth 100000
theorem piece0 : chkOut .normal spot1 (fCode (mkEnv Tryz.prog reachAll plans) (fCalls (mkEnv Tryz.prog reachAll plans) hook0 1000000 59) 70 6 1000000 ((((Tryz.f6.body.map flat).getD [])[0]?).getD .skip) spot0.frame spot0.heap) = true := by kernel_rfl
theorem piece1 : chkOut .normal spot2 (fCode (mkEnv Tryz.prog reachAll plans) (fCalls (mkEnv Tryz.prog reachAll plans) hook0 1000000 59) 70 6 1000000 ((((Tryz.f6.body.map flat).getD [])[1]?).getD .skip) spot1.frame spot1.heap) = true := by kernel_rfl
theorem piece2 : chkOut .normal spot3 (fCode (mkEnv Tryz.prog reachAll plans) (fCalls (mkEnv Tryz.prog reachAll plans) hook0 1000000 59) 70 6 1000000 ((((Tryz.f6.body.map flat).getD [])[2]?).getD .skip) spot2.frame spot2.heap) = true := by kernel_rfl
theorem piece6 : chkOut .normal spot7 (fCode (mkEnv Tryz.prog reachAll plans) (fCalls (mkEnv Tryz.prog reachAll plans) hook0 1000000 59) 70 6 1000000 ((((Tryz.f6.body.map flat).getD [])[6]?).getD .skip) spot6.frame spot6.heap) = true := by kernel_rfl
theorem piece7 : chkOut .ret spot8 (fCode (mkEnv Tryz.prog reachAll plans) (fCalls (mkEnv Tryz.prog reachAll plans) hook0 1000000 59) 70 6 1000000 ((((Tryz.f6.body.map flat).getD [])[7]?).getD .skip) spot7.frame spot7.heap) = true := by kernel_rfl
end
end Go.Proofs.YtpokkciheejeiaaGreatDoor
