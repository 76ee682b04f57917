/- Lemmas and contracts that the proof of TopParse uses, part 17 of 20: each is a theorem for every input that its premises allow. -/
import Derived.Test.YtmpiinhnabmjcaaGreatDoorTqP
set_option linter.unusedVariables false
set_option linter.unusedSimpArgs false
set_option maxRecDepth 100000
namespace Go.Proofs.YtmpiinhnabmjcaaGreatDoor
section
theorem Ml:dD (.at_ [1,1,1]) whI JO 2810 (mAt (aJ Tryz.prog aq aC) (bE (aJ Tryz.prog aq aC) oo 1000000 59) Tryz.f4.ntmps 4 1000000 6 gT [] whI.frame whI.heap)=true:=by kernel_rfl
theorem Mr:dD (.at_ [1,1,1,1]) whI Ky 2810 (mAt (aJ Tryz.prog aq aC) (bE (aJ Tryz.prog aq aC) oo 1000000 59) Tryz.f4.ntmps 4 1000000 2 gT [1,1,1] JO.frame JO.heap)=true:=by kernel_rfl
end
end Go.Proofs.YtmpiinhnabmjcaaGreatDoor
