/- Lemmas and contracts that the proof of TopSegments uses, part 6 of 14: each is a theorem for every input that its premises allow. -/
import Derived.JoinedOf
import Derived.RowKit
import Derived.RowKitTokens
import Derived.LaidLaws
import Derived.LaidHandle
import Derived.Stop.Joined
import Derived.Lib.LaidTab
import Derived.Test.YtpokkciheejeiaaGreatDoorRows
import Derived.Test.YtpokkciheejeiaaGreatDoorTie
import Derived.Test.YtpokkciheejeiaaGreatDoorCards
import Derived.Test.YtpokkciheejeiaaGreatDoorTsE
set_option linter.unusedVariables false
set_option linter.unusedSimpArgs false
set_option maxRecDepth 100000
section
namespace Go.Proofs.YtpokkciheejeiaaGreatDoor.topSegmentsDone
open Go.ChangeShapes Go.WideShapes Go.ChangeAt Go.RowKit
theorem goes_no (c:OpenClaim) (P:Program) (d:c.start = .entering) (h:P.funcs.any Func.goes=false):false=c.goesBy P:=by
 have i:∀ g:Nat,(P.funcs[g]?).any Func.goes=false:=by
  intro g
  cases hg:P.funcs[g]? with
  | none=>rfl
  | some fn=>
    obtain⟨j,e⟩:=Array.getElem?_eq_some_iff.1 hg
    have a:=Array.any_eq_false.1 h g j
    rw[e]at a
    simpa using a
 have b:∀ f,P.goes f=false:=by
  intro f
  unfold Program.goes
  rw[h,Bool.and_false,Bool.or_false]
  rw[List.any_eq_false]
  intro g _
  rw[i]
  simp
 unfold OpenClaim.goesBy Program.goesAt Program.goesFrom
 rw[d]
 cases P.funcNamed c.func with
 | none=>rfl
 | some f=>simp[b]
theorem noGo:Tryz.prog.funcs.any Func.goes=false:=by kernel_rfl
theorem k10:(Rows.topSegmentsRow.inPlace == Tryz.prog.inPlace 3)=true:=by kernel_rfl
theorem k11:(Rows.topSegmentsRow.unfollowed == Tryz.prog.unfollowed 3)=true:=by kernel_rfl
theorem k12:(Rows.topSegmentsRow.recurses == Tryz.prog.recurses 3)=true:=by kernel_rfl
theorem k13:(Rows.topSegmentsRow.named == Tryz.prog.varsNamed 3)=true:=by kernel_rfl
theorem closed:joinedFacts Tryz.prog 3 Tryz.f3 Rows.topSegmentsSpec Rows.topSegmentsRow=true:=by
 unfold joinedFacts
 rw[k10,k11,k12,k13]
 kernel_rfl
theorem inst:Tryz.f3.isInstance Tryz.prog Rows.topSegmentsRow.origin Rows.topSegmentsRow.targs:=(of_decide_eq_true (by kernel_rfl))
theorem wrap:Tryz.f3.isWrapper Tryz.prog Rows.topSegmentsRow.wrapper Rows.topSegmentsRow.mainSum:=(by unfold Func.isWrapper;first | (rw[if_pos (by decide +kernel)];kernel_rfl) | (rw[if_neg (by decide +kernel)];exact⟨rfl,rfl⟩))
theorem named:Tryz.pinned.checked.prog.funcNamed Rows.topSegmentsRow.func=some 3:=by kernel_rfl
end Go.Proofs.YtpokkciheejeiaaGreatDoor.topSegmentsDone
end
