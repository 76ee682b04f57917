/- TopCut returns true for every input: whatever may be told, and wherever the last file is cut (no further conditions). -/
import Derived.JoinedOf
import Derived.RowKit
import Derived.RowKitTokens
import Derived.LaidLaws
import Derived.LaidHandle
import Derived.Stop.Joined
import Derived.Lib.LaidTab
import Derived.Test.YtpokkciheejeiaaGreatDoorRows
import Derived.Test.YtpokkciheejeiaaGreatDoorTie
import Derived.Test.YtpokkciheejeiaaGreatDoorCards
import Derived.Test.YtpokkciheejeiaaGreatDoorTuO
set_option linter.unusedVariables false
set_option linter.unusedSimpArgs false
set_option maxRecDepth 100000
section
namespace Go.Proofs.YtpokkciheejeiaaGreatDoor.topCutDone
open Go.ChangeShapes Go.WideShapes Go.ChangeAt Go.RowKit
theorem over:Rows.topCutRow.holds Tryz.pinned (OpenSpec.ofChange Rows.topCutSpec):=
 OpenClaim.holds_of_wide 5 Tryz.f5 rfl rfl rfl rfl rfl rfl rfl ⟨rfl,rfl,rfl,rfl,rfl⟩ rfl rfl rfl rfl rfl named Tryz.func5 closed inst wrap
  (fun os started H enc _=>lifted os started H enc)
theorem proved:Rows.TopCutCardSaid:=
 Claim7.holds_tied_plain_at .later [] [.data,.data,.data,.sentinel,.sentinel] true (true, "88a81b6e41757086c4aecafaed5f797e0835585565a1a73c2a720456080c44e0") true
  over (fun _ h=>by cases h) (by kernel_rfl) (fun _ h=>by cases h) topCut_row_tie rfl ⟨rfl,rfl⟩ (by kernel_rfl) rfl
  (fun f fn d b=>by
   obtain rfl:f=5:=Option.some.inj ((show Tryz.prog.funcNamed "fusebox/fuseboxtop.TopCut" = some 5 by kernel_rfl).symm.trans d) |>.symm
   obtain rfl:fn=Tryz.f5:=(Option.some.inj (Tryz.func5.symm.trans b)).symm
   exact⟨by kernel_rfl,fun j t a=>by
    rw[Tryz.params5]at a
    have c:t=23∨t=24∨t=50∨t=60:=by
     rcases j with _ | _ | _ | _ | j
     ·exact .inl (by simpa using a.symm)
     ·exact .inr (.inl (by simpa using a.symm))
     ·exact .inr (.inr (.inl (by simpa using a.symm)))
     ·exact .inr (.inr (.inr (by simpa using a.symm)))
     ·simp at a
    rcases c with rfl | rfl | rfl | rfl
    ·exact(show Tryz.prog.wantsStandIn 23=false by kernel_rfl)
    ·exact(show Tryz.prog.wantsStandIn 24=false by kernel_rfl)
    ·exact(show Tryz.prog.wantsStandIn 50=false by kernel_rfl)
    ·exact(show Tryz.prog.wantsStandIn 60=false by kernel_rfl)⟩)
  (goes_no Rows.topCutRow Tryz.prog rfl noGo)
#print axioms proved
end Go.Proofs.YtpokkciheejeiaaGreatDoor.topCutDone
end
