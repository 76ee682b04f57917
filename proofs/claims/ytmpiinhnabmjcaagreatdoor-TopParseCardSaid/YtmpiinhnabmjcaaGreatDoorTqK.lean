/- Lemmas and contracts that the proof of TopParse uses, part 11 of 20: each is a theorem for every input that its premises allow. -/
import Derived.Test.YtmpiinhnabmjcaaGreatDoorTqJ
set_option linter.unusedVariables false
set_option linter.unusedSimpArgs false
set_option maxRecDepth 100000
namespace Go.Proofs.YtmpiinhnabmjcaaGreatDoor
section
theorem LW:dD (.at_ [0,0,1,1,0,0,1,0,1,1,1,1,1]) lD Ev 2628 (mAt (aJ Tryz.prog aq aC) (bE (aJ Tryz.prog aq aC) kG 1000000 59) Tryz.f8.ntmps 8 1000000 28 dW [] CM.frame CM.heap)=true:=by kernel_rfl
theorem Ly:dD (.at_ [1,1,1,0,0,1,1,0,0,1,0,1,1,1,1,1]) lD Cx 2628 (mAt (aJ Tryz.prog aq aC) (bE (aJ Tryz.prog aq aC) kG 1000000 59) Tryz.f8.ntmps 8 1000000 6 dW [0,0,1,1,0,0,1,0,1,1,1,1,1] Ev.frame Ev.heap)=true:=by kernel_rfl
theorem LX:dD (.fin .ret) lD xO 2628 (mAt (aJ Tryz.prog aq aC) (bE (aJ Tryz.prog aq aC) kG 1000000 59) Tryz.f8.ntmps 8 1000000 20 dW [1,1,1,0,0,1,1,0,0,1,0,1,1,1,1,1] CY.frame CY.heap)=true:=by kernel_rfl
end
end Go.Proofs.YtmpiinhnabmjcaaGreatDoor
