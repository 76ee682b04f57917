/- Lemmas and contracts that the proof of TopCut uses, part 5 of 16: each is a theorem for every input that its premises allow. -/
import Derived.JoinedOf
import Derived.RowKit
import Derived.RowKitTokens
import Derived.LaidLaws
import Derived.LaidHandle
import Derived.Stop.Joined
import Derived.Lib.LaidTab
import Derived.Test.YtpokkciheejeiaaGreatDoorRows
import Derived.Test.YtpokkciheejeiaaGreatDoorTie
import Derived.Test.YtpokkciheejeiaaGreatDoorCards
import Derived.Test.YtpokkciheejeiaaGreatDoorTuD
set_option linter.unusedVariables false
set_option linter.unusedSimpArgs false
set_option maxRecDepth 100000
section
namespace Go.Proofs.YtpokkciheejeiaaGreatDoor.topCutDone
open Go.ChangeShapes Go.WideShapes Go.ChangeAt Go.RowKit
theorem goes_no (c:OpenClaim) (P:Program) (e:c.start = .entering) (h:P.funcs.any Func.goes=false):false=c.goesBy P:=by
 have d:∀ g:Nat,(P.funcs[g]?).any Func.goes=false:=by
  intro g
  cases hg:P.funcs[g]? with
  | none=>rfl
  | some fn=>
    obtain⟨j,i⟩:=Array.getElem?_eq_some_iff.1 hg
    have a:=Array.any_eq_false.1 h g j
    rw[i]at a
    simpa using a
 have b:∀ f,P.goes f=false:=by
  intro f
  unfold Program.goes
  rw[h,Bool.and_false,Bool.or_false]
  rw[List.any_eq_false]
  intro g _
  rw[d]
  simp
 unfold OpenClaim.goesBy Program.goesAt Program.goesFrom
 rw[e]
 cases P.funcNamed c.func with
 | none=>rfl
 | some f=>simp[b]
theorem noGo:Tryz.prog.funcs.any Func.goes=false:=by kernel_rfl
theorem k10:(Rows.topCutRow.inPlace == Tryz.prog.inPlace 5)=true:=by kernel_rfl
theorem k11:(Rows.topCutRow.unfollowed == Tryz.prog.unfollowed 5)=true:=by kernel_rfl
theorem k12:(Rows.topCutRow.recurses == Tryz.prog.recurses 5)=true:=by kernel_rfl
theorem k13:(Rows.topCutRow.named == Tryz.prog.varsNamed 5)=true:=by kernel_rfl
theorem closed:joinedFacts Tryz.prog 5 Tryz.f5 Rows.topCutSpec Rows.topCutRow=true:=by
 unfold joinedFacts
 rw[k10,k11,k12,k13]
 kernel_rfl
theorem inst:Tryz.f5.isInstance Tryz.prog Rows.topCutRow.origin Rows.topCutRow.targs:=(of_decide_eq_true (by kernel_rfl))
theorem wrap:Tryz.f5.isWrapper Tryz.prog Rows.topCutRow.wrapper Rows.topCutRow.mainSum:=(by unfold Func.isWrapper;first | (rw[if_pos (by decide +kernel)];kernel_rfl) | (rw[if_neg (by decide +kernel)];exact⟨rfl,rfl⟩))
theorem named:Tryz.pinned.checked.prog.funcNamed Rows.topCutRow.func=some 5:=by kernel_rfl
end Go.Proofs.YtpokkciheejeiaaGreatDoor.topCutDone
end
