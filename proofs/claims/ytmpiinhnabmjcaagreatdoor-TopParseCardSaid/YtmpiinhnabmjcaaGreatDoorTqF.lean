/- Lemmas and contracts that the proof of TopParse uses, part 6 of 20: each is a theorem for every input that its premises allow. -/
import Derived.Test.YtmpiinhnabmjcaaGreatDoorTqE
set_option linter.unusedVariables false
set_option linter.unusedSimpArgs false
set_option maxRecDepth 100000
namespace Go.Proofs.YtmpiinhnabmjcaaGreatDoor
section
theorem La:gv .normal CD (cG (aJ Tryz.prog aq aC) (bE (aJ Tryz.prog aq aC) kF 1000000 59) 70 11 1000000 ((((Tryz.f11.body.map flat).getD [])[0]?).getD .skip) JB.frame JB.heap)=true:=by kernel_rfl
theorem Kc:gv .normal Dv (cG (aJ Tryz.prog aq aC) (bE (aJ Tryz.prog aq aC) kF 1000000 59) 70 11 1000000 ((((Tryz.f11.body.map flat).getD [])[1]?).getD .skip) CD.frame CD.heap)=true:=by kernel_rfl
theorem Lf:gv .normal Cy (cG (aJ Tryz.prog aq aC) (bE (aJ Tryz.prog aq aC) kF 1000000 59) 70 11 1000000 ((((Tryz.f11.body.map flat).getD [])[2]?).getD .skip) Dv.frame Dv.heap)=true:=by kernel_rfl
theorem KM:gv .normal CR (cG (aJ Tryz.prog aq aC) (bE (aJ Tryz.prog aq aC) kF 1000000 59) 70 11 1000000 ((((Tryz.f11.body.map flat).getD [])[6]?).getD .skip) Cn.frame Cn.heap)=true:=by kernel_rfl
theorem JU:gv .ret LO (cG (aJ Tryz.prog aq aC) (bE (aJ Tryz.prog aq aC) kF 1000000 59) 70 11 1000000 ((((Tryz.f11.body.map flat).getD [])[7]?).getD .skip) CR.frame CR.heap)=true:=by kernel_rfl
end
end Go.Proofs.YtmpiinhnabmjcaaGreatDoor
