/- TopBytes returns true for every input: whatever the bytes are and wherever they are cut (no further conditions). -/
import Derived.StillTailTactics
import Derived.Deep.RegionHeld3
import Derived.JoinedOf
import Derived.RowKit
import Derived.RowKitTokens
import Derived.LaidLaws
import Derived.LaidHandle
import Derived.Stop.Joined
import Derived.Test.YtpokkciheejeiaaGreatDoorRows
import Derived.Test.YtpokkciheejeiaaGreatDoorTie
import Derived.Test.YtpokkciheejeiaaGreatDoorCards
import Derived.Test.YtpokkciheejeiaaGreatDoorTbM
import Derived.Test.YtpokkciheejeiaaGreatDoorTbN
set_option linter.unusedVariables false
set_option linter.unusedSimpArgs false
section
namespace Go.Proofs.YtpokkciheejeiaaGreatDoor.topBytesDone
open Go.ChangeShapes Go.WideShapes Go.ChangeAt Go.RowKit
theorem over : Rows.topBytesRow.holds Tryz.pinned (OpenSpec.ofChange Rows.topBytesSpec) :=
  OpenClaim.holds_of_wide 4 Tryz.f4 rfl rfl rfl rfl rfl rfl rfl ⟨rfl, rfl, rfl, rfl, rfl⟩ rfl rfl rfl rfl rfl named Tryz.func4 closed inst wrap
    (fun os started H enc _ => lifted os started H enc)
theorem proved : Rows.TopBytesCardSaid :=
  Claim7.holds_tied_plain_at .later [] [.data, .data, .data, .sentinel, .sentinel] true (true, "88a81b6e41757086c4aecafaed5f797e0835585565a1a73c2a720456080c44e0") true
    over (fun _ h => by cases h) (by kernel_rfl) (fun _ h => by cases h) topBytes_row_tie rfl ⟨rfl, rfl⟩ (by kernel_rfl) rfl
    (fun f fn hf hfn => by
      obtain rfl : f = 4 := Option.some.inj ((show Tryz.prog.funcNamed "fusebox/fuseboxtop.TopBytes" = some 4 by kernel_rfl).symm.trans hf) |>.symm
      obtain rfl : fn = Tryz.f4 := (Option.some.inj (Tryz.func4.symm.trans hfn)).symm
      exact ⟨by kernel_rfl, fun j t ht => by
        rw [Tryz.params4] at ht
        have h3 : t = 50 ∨ t = 60 := by
          rcases j with _ | _ | j
          · exact .inl (by simpa using ht.symm)
          · exact .inr (by simpa using ht.symm)
          · simp at ht
        rcases h3 with rfl | rfl
        · exact (show Tryz.prog.wantsStandIn 50 = false by kernel_rfl)
        · exact (show Tryz.prog.wantsStandIn 60 = false by kernel_rfl)⟩)
    (goes_no Rows.topBytesRow Tryz.prog rfl noGo)
#print axioms proved
end Go.Proofs.YtpokkciheejeiaaGreatDoor.topBytesDone
end
