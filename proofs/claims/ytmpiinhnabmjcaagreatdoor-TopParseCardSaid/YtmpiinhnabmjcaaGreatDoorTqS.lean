/- Lemmas and contracts that the proof of TopParse uses, part 19 of 20: each is a theorem for every input that its premises allow. -/
import Derived.JoinedOf
import Derived.RowKit
import Derived.RowKitTokens
import Derived.LaidLaws
import Derived.LaidHandle
import Derived.Stop.Joined
import Derived.Lib.LaidIn
import Derived.Test.YtmpiinhnabmjcaaGreatDoorRows
import Derived.Test.YtmpiinhnabmjcaaGreatDoorTqR
set_option linter.unusedVariables false
set_option linter.unusedSimpArgs false
set_option maxRecDepth 100000
namespace Go.Proofs.YtmpiinhnabmjcaaGreatDoor
section
open Go.ChangeShapes Go.WideShapes Go.ChangeAt Go.RowKit Go.Lib
theorem KB:ownKnob Tryz.prog.godebug=none:=by kernel_rfl
theorem yV:laidOutB Tryz.prog=true:=by kernel_rfl
noncomputable def nB:Nat:=(World.settled Tryz.prog default).heap.size
def AY:ByteArray:=⟨#[118,97,108,117,101,32,111,117,116,32,111,102,32,114,97,110,103,101]⟩
def zB:ByteArray:=⟨#[105,110,118,97,108,105,100,32,115,121,110,116,97,120]⟩
def Ls:List Int:=[0,1,28,2,29,14,24,3,30,22,20,15,25,17,4,8,31,27,13,23,21,19,16,7,26,12,18,6,11,5,10,9]
def LH:List Int:=[0,1,56,2,57,49,28,3,61,58,42,50,38,29,17,4,62,47,59,36,45,43,51,22,53,39,33,30,24,18,12,5,63,55,48,27,60,41,37,16,46,35,44,21,52,32,23,11,54,26,40,15,34,20,31,10,25,14,19,9,13,8,7,6]
def JK:List Int:=(List.range 20).map fun i=>(10:Int)^i
def putCells (h:Array Obj) (g:Nat) (cs:Array Value):Array Obj:=h.modify g fun
 | .cells _ t frozen=>.cells cs t frozen
 | o=>o
noncomputable def ig (os:Os):World:=
 let w0:=World.holding Tryz.prog os ⟨#[.cells #[.string AY] 550,.cells #[.string zB] 550],#[],[]⟩
 let h1:=putCells w0.heap 5 (Ls.map fun z=>Value.int .u8 z).toArray
 let h2:=putCells h1 6 (LH.map fun z=>Value.int .u8 z).toArray
 let h3:=putCells h2 3 (JK.map fun z=>Value.int .u64 z).toArray
 let h4:=putCells h3 8 #[.iface 548 (.pointer (some ⟨nB,0,none⟩))]
 let h5:=putCells h4 7 #[.iface 548 (.pointer (some ⟨nB+1,0,none⟩))]
 let h6:=putCells h5 0 (Dl.map fun z=>Value.string (sB z)).toArray
 let h7:=putCells h6 2 (Dl.map fun z=>Value.string (sB z)).toArray
 { w0 with heap:=h7 }
theorem DJ (os:Os) (args:Array Value):LaidIn Tryz.prog ((ig os).forCall (fun _ _=>0) ⟨#[],args,[]⟩).memory [("math/bits.deBruijn32tab",Rows.laid_math_bits_deBruijn32tab),("math/bits.deBruijn64tab",Rows.laid_math_bits_deBruijn64tab),("internal/strconv.uint64pow10",Rows.laid_internal_strconv_uint64pow10),("fusebox/metric.bounds",Rows.laid_fusebox_metric_bounds)] [5,6,3,0]:=
 LaidIn.of_run [5,6,3,0] 8 (by kernel_rfl) (by kernel_rfl) (by kernel_rfl) (by kernel_rfl)
theorem CS (os:Os) (args:Array Value):LaidIn Tryz.prog ((ig os).forCall (fun _ _=>0) ⟨#[],args,[]⟩).memory [("strconv.ErrRange",Rows.laid_strconv_ErrRange),("strconv.ErrSyntax",Rows.laid_strconv_ErrSyntax)] [8,nB,7,nB+1]:=
 LaidIn.of_run [8,nB,7,nB+1] 8 (by kernel_rfl) (by kernel_rfl) (by kernel_rfl) (by kernel_rfl)
theorem zQ (os:Os) (args:Array Value):LaidIn Tryz.prog ((ig os).forCall (fun _ _=>0) ⟨#[],args,[]⟩).memory [("fusebox/parse.bounds",Rows.laid_fusebox_parse_bounds)] [2]:=
 LaidIn.of_run [2] 8 (by kernel_rfl) (by kernel_rfl) (by kernel_rfl) (by kernel_rfl)
theorem Ef (os:Os) (args:Array Value):laidMetH Tryz.prog Rows.topParseRow.laid ((ig os).forCall (fun _ _=>0) ⟨#[],args,[]⟩).memory:=
 laidMetH_of_parts ((((DJ os args).append (CS os args) (by kernel_rfl)).append (zQ os args) (by kernel_rfl)).met) (by kernel_rfl)
end
section
open Go.ChangeShapes Go.WideShapes Go.ChangeAt Go.RowKit
open Go.ChangeMaps (open_string shut_string)
def AI:Prop := ∀ w,jT w→kD w→jc w→Calls Tryz.prog 4 #[] w fun e w'=>e = .returned (.bool true)∧Below w.heap.size w w'
theorem Ca (hWh:AI) (os:Os) (started:os.Started) (H:Type) (enc:TypeId×Value→H):
 ReturnsInHanded {} Tryz.checked os 3 .any (fun w args=>(Rows.topParseSpec.pre enc Tryz.prog Tryz.f3 [] false w args∧laidMetH Tryz.prog Rows.topParseRow.laid w)∧sizedMet enc Tryz.prog Tryz.f3 (OpenSpec.ofChange Rows.topParseSpec) false w args)
  (Rows.topParseSpec.post enc Tryz.prog Tryz.f3 false true false false):=by
 refine returnsInHanded_of_change_and (C:=Tryz.checked) (X:=fun w _=>laidMetH Tryz.prog Rows.topParseRow.laid w) (fun _ _ _ hh h=>h.of_heap hh) KB started (by kernel_rfl) Tryz.func3
  (ChangeSpec.witness_at (enc:=enc) (C:=Tryz.checked) (os:=os) (X:=fun w _=>laidMetH Tryz.prog Rows.topParseRow.laid w) false (ig os) #[.string ⟨#[]⟩] 8 rfl (by kernel_rfl) (by kernel_rfl) (by kernel_rfl) (by kernel_rfl) (by kernel_rfl) (Ef os _)) ?_
 intro W base args ds gs before hval0 hW hX _ hL _
 have hval:∀ (j:Nat) t v,Tryz.f3.params[j]?=some t→args[j]?=some v→Value.okWide Tryz.prog W .any base t v:=hval0
 have hW':=hW
 obtain⟨p,q,hA0,hV,rfl,hfz,hnd⟩:=hW
 have hA:DataW.TrodAll enc Tryz.prog W 0 (fun _=>true) true Tryz.f3.params.toList args.toList ds p:=hA0
 rw[Tryz.params3]at hA hval
 obtain⟨v0,vs0,d0,ds0,p0,q0,hargs,rfl,rfl,h0,r0⟩:=trodAll_cons hA
 obtain⟨rfl,rfl,rfl⟩:=trodAll_nil r0
 obtain rfl:args=#[v0]:=by cases args;simp_all
 obtain⟨rfl,rfl⟩:=trodVars_none hV
 have k0:=h0
 have lt0:=zq k0
 obtain⟨s,rfl,rfl,rfl,hsz⟩:=open_string Tryz.underlying9 (hval 0 9 v0 rfl rfl) h0
 clear hA0 hval0
 refine(JI s W (hWh W (tG hL) (sr hL) (pU hL)) (tG hL) (sr hL) (pU hL)).mono fun e W' ⟨he,bel⟩=>?_
 subst he
 exact⟨_,rfl,_,_,_,[],_,[],hW',trodAll_mk1 (shut_bool Tryz.underlying4 _),(trodAll_cons_mk (Below.trod yV (by kernel_rfl) (of_decide_eq_true (by kernel_rfl)) k0 bel lt0) trodAll_mk0),rfl,bel.frame _,fun h=>by cases h⟩
end
section
open Go.RowKit
theorem Co:∀ f g,oo f=some g→aU Tryz.prog g:=by
 intro f g h
 unfold oo at h
 split at h
 ·injection h with h;subst h;exact By.callOk
 ·exact xD f g h
theorem Fv:Tryz.f4.body.isSome=true:=by kernel_rfl
theorem EC:AI:=fun w p1 p2 p3=>by
 have hB:WB w:=WB.of p1 p2 p3
 obtain⟨c,hc⟩:=Option.isSome_iff_exists.1 Fv
 have hbc:gT=c:=by unfold gT;rw[hc];rfl
 have hE:=qu Tryz.prog aq aC
 have hC:=kz aN hE ki Co 1000000 59
 rw[←kC]at hC
 have hg:bM (aJ Tryz.prog aq aC) 4 gT=true:=by rw[hbc];exact ki 4 Tryz.f4 c (by kernel_rfl) hc
 have hr:HR (fun _ _=>none) whI.heap w:=⟨⟨by simp[bB.heap,whI],fun id r hr=>(by simp[bB.heap,af.get,ofL,Tr.get_nil,whI]at hr)⟩,fun _ _ _ h=>(by cases h),fun _ _ _ _ _ _ h=>(by cases h),fun _ _ _ _ h=>(by cases h),ij.of hB,fun _ _ _ h=>(by cases h)⟩
 have hf:bR (fun _ _=>none) whI.heap.next 2810:=fun _ _ _ _=>rfl
 refine calls_of_wp Tryz.func4 hc ?_
 have h0:AtC whI (fun _ _=>none) w 2810 Tryz.f4.ntmps whI { tmps:=(#[]:Array Value)++Array.replicate (Tryz.f4.ntmps-(#[]:Array Value).size) undef,defers:=[] } w:=AtC.start (args:=[]) (vs:=[]) hr .nil hf rfl (Nat.zero_le _)
 have key:∀ Q:Exit→Act→World→Prop,(∀ a w',AtC whI (fun _ _=>none) w 2810 Tryz.f4.ntmps Lt a w'→Q .ret a w')→wL Tryz.prog Q gT (.at_ []) { tmps:=(#[]:Array Value)++Array.replicate (Tryz.f4.ntmps-(#[]:Array Value).size) undef,defers:=[] } w:=by
  intro Q hQ
  refine AtC.step aN hE hC hg hr.ok hf rfl h0 Ml (fun a1 w1 h1=>?_)
  refine AtC.step aN hE hC hg hr.ok hf rfl h1 Mr (fun a2 w2 h2=>?_)
  refine AtC.step aN hE hC hg hr.ok hf rfl h2 Mu (fun a3 w3 h3=>?_)
  refine AtC.step aN hE hC hg hr.ok hf rfl h3 MA (fun a4 w4 h4=>?_)
  refine AtC.step aN hE hC hg hr.ok hf rfl h4 Mt (fun a5 w5 h5=>?_)
  refine AtC.step aN hE hC hg hr.ok hf rfl h5 Ms (fun a6 w6 h6=>?_)
  exact hQ _ _ h6
 have hp:=key (bodyPost Tryz.prog Tryz.f4 (fun e w'=>e = .returned (.bool true)∧Below w.heap.size w w')) (fun a w' h=>by
  obtain⟨q1,v,q2,ρ',v',e,q3,q4,q5⟩:=AtC.results hE h Tryz.f4 (l:=[.bool true]) (by kernel_rfl)
  injection e with e
  subst e
  cases q3
  exact⟨q1,_,q2,rfl,⟨q5.os,q5.tape,q5.output,q5.size,fun k hk=>q5.frame k hk (fun _ _ _ h=>(by cases h))⟩⟩)
 obtain⟨c',ks,k1,k2⟩:=hp
 simp only[di]at k1
 injection k1 with k1
 injection k1 with k1 k3
 subst k1 k3
 rw[hbc]at k2
 exact k2
end
end Go.Proofs.YtmpiinhnabmjcaaGreatDoor
