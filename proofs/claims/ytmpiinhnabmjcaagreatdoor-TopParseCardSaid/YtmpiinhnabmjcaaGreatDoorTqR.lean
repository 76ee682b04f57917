/- Lemmas and contracts that the proof of TopParse uses, part 18 of 20: each is a theorem for every input that its premises allow. -/
import Derived.Test.YtmpiinhnabmjcaaGreatDoorTqQ
set_option linter.unusedVariables false
set_option linter.unusedSimpArgs false
set_option maxRecDepth 100000
namespace Go.Proofs.YtmpiinhnabmjcaaGreatDoor
section
theorem Mu:dD (.at_ [1,1,1,1,1]) whI Kz 2810 (mAt (aJ Tryz.prog aq aC) (bE (aJ Tryz.prog aq aC) oo 1000000 59) Tryz.f4.ntmps 4 1000000 2 gT [1,1,1,1] Ky.frame Ky.heap)=true:=by kernel_rfl
theorem MA:dD (.at_ [1,1,1,1,1,1]) whI Kr 2810 (mAt (aJ Tryz.prog aq aC) (bE (aJ Tryz.prog aq aC) oo 1000000 59) Tryz.f4.ntmps 4 1000000 2 gT [1,1,1,1,1] Kz.frame Kz.heap)=true:=by kernel_rfl
theorem Mt:dD (.at_ [1,1,1,1,1,1,1]) whI JF 2810 (mAt (aJ Tryz.prog aq aC) (bE (aJ Tryz.prog aq aC) oo 1000000 59) Tryz.f4.ntmps 4 1000000 2 gT [1,1,1,1,1,1] Kr.frame Kr.heap)=true:=by kernel_rfl
theorem Ms:dD (.fin .ret) whI Lt 2810 (mAt (aJ Tryz.prog aq aC) (bE (aJ Tryz.prog aq aC) oo 1000000 59) Tryz.f4.ntmps 4 1000000 4 gT [1,1,1,1,1,1,1] JF.frame JF.heap)=true:=by kernel_rfl
end
end Go.Proofs.YtmpiinhnabmjcaaGreatDoor
