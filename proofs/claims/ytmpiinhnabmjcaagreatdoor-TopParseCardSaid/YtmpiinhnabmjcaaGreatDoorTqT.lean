/- TopParse: any bytes whatever are read to an end: as families that are right, and have just this text, or as a place in the text where it breaks; with the laid variables. -/
import Derived.JoinedOf
import Derived.RowKit
import Derived.RowKitTokens
import Derived.LaidLaws
import Derived.LaidHandle
import Derived.Stop.Joined
import Derived.Test.YtmpiinhnabmjcaaGreatDoorRows
import Derived.Test.YtmpiinhnabmjcaaGreatDoorTie
import Derived.Test.YtmpiinhnabmjcaaGreatDoorCards
import Derived.Test.YtmpiinhnabmjcaaGreatDoorTqS
set_option linter.unusedVariables false
set_option linter.unusedSimpArgs false
set_option maxRecDepth 100000
section
namespace Go.Proofs.YtmpiinhnabmjcaaGreatDoor.topParseDone
open Go.ChangeShapes Go.WideShapes Go.ChangeAt Go.RowKit
theorem goes_no (c:OpenClaim) (P:Program) (hs:c.start = .entering) (h:P.funcs.any Func.goes=false):false=c.goesBy P:=by
 have h1:∀ g:Nat,(P.funcs[g]?).any Func.goes=false:=by
  intro g
  cases hg:P.funcs[g]? with
  | none=>rfl
  | some fn=>
    obtain⟨hl,he⟩:=Array.getElem?_eq_some_iff.1 hg
    have h2:=Array.any_eq_false.1 h g hl
    rw[he]at h2
    simpa using h2
 have h3:∀ f,P.goes f=false:=by
  intro f
  unfold Program.goes
  rw[h,Bool.and_false,Bool.or_false]
  rw[List.any_eq_false]
  intro g _
  rw[h1]
  simp
 unfold OpenClaim.goesBy Program.goesAt Program.goesFrom
 rw[hs]
 cases P.funcNamed c.func with
 | none=>rfl
 | some f=>simp[h3]
theorem noGo:Tryz.prog.funcs.any Func.goes=false:=by kernel_rfl
theorem lifted (os:Os) (started:os.Started) (H:Type) (enc:TypeId×Value→H):
 ReturnsInHanded {} Tryz.checked os 3 .any (fun w args=>(Rows.topParseSpec.pre enc Tryz.prog Tryz.f3 [] false w args∧laidMetH Tryz.prog Rows.topParseRow.laid w)∧sizedMet enc Tryz.prog Tryz.f3 (OpenSpec.ofChange Rows.topParseSpec) false w args)
  (Rows.topParseSpec.post enc Tryz.prog Tryz.f3 false true false false):=Ca EC os started H enc
theorem k10:(Rows.topParseRow.inPlace == Tryz.prog.inPlace 3)=true:=by kernel_rfl
theorem k11:(Rows.topParseRow.unfollowed == Tryz.prog.unfollowed 3)=true:=by kernel_rfl
theorem k12:(Rows.topParseRow.recurses == Tryz.prog.recurses 3)=true:=by kernel_rfl
theorem k13:(Rows.topParseRow.named == Tryz.prog.varsNamed 3)=true:=by kernel_rfl
theorem closed:joinedFacts Tryz.prog 3 Tryz.f3 Rows.topParseSpec Rows.topParseRow=true:=by
 unfold joinedFacts
 rw[k10,k11,k12,k13]
 kernel_rfl
theorem inst:Tryz.f3.isInstance Tryz.prog Rows.topParseRow.origin Rows.topParseRow.targs:=(of_decide_eq_true (by kernel_rfl))
theorem wrap:Tryz.f3.isWrapper Tryz.prog Rows.topParseRow.wrapper Rows.topParseRow.mainSum:=(by unfold Func.isWrapper;first | (rw[if_pos (by decide +kernel)];kernel_rfl) | (rw[if_neg (by decide +kernel)];exact⟨rfl,rfl⟩))
theorem named:Tryz.pinned.checked.prog.funcNamed Rows.topParseRow.func=some 3:=by kernel_rfl
theorem over:Rows.topParseRow.holds Tryz.pinned (OpenSpec.ofChange Rows.topParseSpec):=
 OpenClaim.holds_of_wide 3 Tryz.f3 rfl rfl rfl rfl rfl rfl rfl ⟨rfl,rfl,rfl,rfl,rfl⟩ rfl rfl rfl rfl rfl named Tryz.func3 closed inst wrap
  (fun os started H enc _=>lifted os started H enc)
theorem proved:Rows.TopParseCardSaid:=
 Claim7.holds_tied_plain_at .later [] [.data,.data,.data,.data,.sentinel,.sentinel,.data] true (true, "51e16df9a8b45ee12a14bd53bef68312f26be9a95381a9ad7a7c82546d6fc250") true
  over (fun _ h=>by cases h) (by kernel_rfl) (fun _ h=>by cases h) topParse_row_tie rfl ⟨rfl,rfl⟩ (by kernel_rfl) rfl
  (fun f fn hf hfn=>by
   obtain rfl:f=3:=Option.some.inj ((show Tryz.prog.funcNamed "fusebox/fuseboxtop.TopParse" = some 3 by kernel_rfl).symm.trans hf) |>.symm
   obtain rfl:fn=Tryz.f3:=(Option.some.inj (Tryz.func3.symm.trans hfn)).symm
   exact⟨by kernel_rfl,fun j t ht=>by
    rw[Tryz.params3]at ht
    have h3:t=9:=by
     rcases j with _ | j
     ·simpa using ht.symm
     ·simp at ht
    subst h3
    exact(show Tryz.prog.wantsStandIn 9=false by kernel_rfl)⟩)
  (goes_no Rows.topParseRow Tryz.prog rfl noGo)
#print axioms proved
end Go.Proofs.YtmpiinhnabmjcaaGreatDoor.topParseDone
end
