/- Closed facts of TopBytes' row: each is a theorem without premises, but for goes_no. -/
import Derived.StillTailTactics
import Derived.Deep.RegionHeld3
import Derived.JoinedOf
import Derived.RowKit
import Derived.RowKitTokens
import Derived.LaidLaws
import Derived.LaidHandle
import Derived.Stop.Joined
import Derived.Test.YtpokkciheejeiaaGreatDoorRows
import Derived.Test.YtpokkciheejeiaaGreatDoorTie
import Derived.Test.YtpokkciheejeiaaGreatDoorCards
set_option linter.unusedVariables false
set_option linter.unusedSimpArgs false
section
namespace Go.Proofs.YtpokkciheejeiaaGreatDoor.topBytesDone
open Go.ChangeShapes Go.WideShapes Go.RowKit
theorem goes_no (c:OpenClaim) (P:Program) (d:c.start = .entering) (h:P.funcs.any Func.goes=false):false=c.goesBy P:=by
 have i:∀ g:Nat,(P.funcs[g]?).any Func.goes=false:=by
  intro g
  cases hg:P.funcs[g]? with
  | none=>rfl
  | some fn=>
    obtain⟨j,e⟩:=Array.getElem?_eq_some_iff.1 hg
    have a:=Array.any_eq_false.1 h g j
    rw[e]at a
    simpa using a
 have b:∀ f,P.goes f=false:=by
  intro f
  unfold Program.goes
  rw[h,Bool.and_false,Bool.or_false]
  rw[List.any_eq_false]
  intro g _
  rw[i]
  simp
 unfold OpenClaim.goesBy Program.goesAt Program.goesFrom
 rw[d]
 cases P.funcNamed c.func with
 | none=>rfl
 | some f=>simp[b]
theorem noGo:Tryz.prog.funcs.any Func.goes=false:=by kernel_rfl
theorem k10:(Rows.topBytesRow.inPlace == Tryz.prog.inPlace 4)=true:=by kernel_rfl
theorem k11:(Rows.topBytesRow.unfollowed == Tryz.prog.unfollowed 4)=true:=by kernel_rfl
theorem k12:(Rows.topBytesRow.recurses == Tryz.prog.recurses 4)=true:=by kernel_rfl
theorem k13:(Rows.topBytesRow.named == Tryz.prog.varsNamed 4)=true:=by kernel_rfl
theorem closed:joinedFacts Tryz.prog 4 Tryz.f4 Rows.topBytesSpec Rows.topBytesRow=true:=by
 unfold joinedFacts
 rw[k10,k11,k12,k13]
 kernel_rfl
theorem inst:Tryz.f4.isInstance Tryz.prog Rows.topBytesRow.origin Rows.topBytesRow.targs:=(of_decide_eq_true (by kernel_rfl))
theorem wrap:Tryz.f4.isWrapper Tryz.prog Rows.topBytesRow.wrapper Rows.topBytesRow.mainSum:=(by unfold Func.isWrapper;first | (rw[if_pos (by decide +kernel)];kernel_rfl) | (rw[if_neg (by decide +kernel)];exact⟨rfl,rfl⟩))
theorem named:Tryz.pinned.checked.prog.funcNamed Rows.topBytesRow.func=some 4:=by kernel_rfl
end Go.Proofs.YtpokkciheejeiaaGreatDoor.topBytesDone
end
