/- TopSegments returns true for every input: whatever may be told, and by whatever rotation (no further conditions). -/
import Derived.JoinedOf
import Derived.RowKit
import Derived.RowKitTokens
import Derived.LaidLaws
import Derived.LaidHandle
import Derived.Stop.Joined
import Derived.Lib.LaidTab
import Derived.Test.YtpokkciheejeiaaGreatDoorRows
import Derived.Test.YtpokkciheejeiaaGreatDoorTie
import Derived.Test.YtpokkciheejeiaaGreatDoorCards
import Derived.Test.YtpokkciheejeiaaGreatDoorTsM
set_option linter.unusedVariables false
set_option linter.unusedSimpArgs false
set_option maxRecDepth 100000
section
namespace Go.Proofs.YtpokkciheejeiaaGreatDoor.topSegmentsDone
open Go.ChangeShapes Go.WideShapes Go.ChangeAt Go.RowKit
theorem over:Rows.topSegmentsRow.holds Tryz.pinned (OpenSpec.ofChange Rows.topSegmentsSpec):=
 OpenClaim.holds_of_wide 3 Tryz.f3 rfl rfl rfl rfl rfl rfl rfl ⟨rfl,rfl,rfl,rfl,rfl⟩ rfl rfl rfl rfl rfl named Tryz.func3 closed inst wrap
  (fun os started H enc _=>lifted os started H enc)
theorem proved:Rows.TopSegmentsCardSaid:=
 Claim7.holds_tied_plain_at .later [] [.data,.data,.data,.sentinel,.sentinel] true (true, "88a81b6e41757086c4aecafaed5f797e0835585565a1a73c2a720456080c44e0") true
  over (fun _ h=>by cases h) (by kernel_rfl) (fun _ h=>by cases h) topSegments_row_tie rfl ⟨rfl,rfl⟩ (by kernel_rfl) rfl
  (fun f fn d b=>by
   obtain rfl:f=3:=Option.some.inj ((show Tryz.prog.funcNamed "fusebox/fuseboxtop.TopSegments" = some 3 by kernel_rfl).symm.trans d) |>.symm
   obtain rfl:fn=Tryz.f3:=(Option.some.inj (Tryz.func3.symm.trans b)).symm
   exact⟨by kernel_rfl,fun j t a=>by
    rw[Tryz.params3]at a
    have c:t=23∨t=24∨t=25:=by
     rcases j with _ | _ | _ | j
     ·exact .inl (by simpa using a.symm)
     ·exact .inr (.inl (by simpa using a.symm))
     ·exact .inr (.inr (by simpa using a.symm))
     ·simp at a
    rcases c with rfl | rfl | rfl
    ·exact(show Tryz.prog.wantsStandIn 23=false by kernel_rfl)
    ·exact(show Tryz.prog.wantsStandIn 24=false by kernel_rfl)
    ·exact(show Tryz.prog.wantsStandIn 25=false by kernel_rfl)⟩)
  (goes_no Rows.topSegmentsRow Tryz.prog rfl noGo)
#print axioms proved
end Go.Proofs.YtpokkciheejeiaaGreatDoor.topSegmentsDone
end
