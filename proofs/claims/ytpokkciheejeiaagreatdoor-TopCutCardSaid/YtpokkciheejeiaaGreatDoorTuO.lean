/- Lemmas and contracts that the proof of TopCut uses, part 15 of 16: each is a theorem for every input that its premises allow. -/
import Derived.Lib.LaidTab
import Derived.JoinedOf
import Derived.RowKit
import Derived.RowKitTokens
import Derived.LaidLaws
import Derived.LaidHandle
import Derived.Stop.Joined
import Derived.Test.YtpokkciheejeiaaGreatDoorRows
import Derived.Test.YtpokkciheejeiaaGreatDoorTie
import Derived.Test.YtpokkciheejeiaaGreatDoorCards
import Derived.Test.YtpokkciheejeiaaGreatDoorTuN
set_option linter.unusedVariables false
set_option linter.unusedSimpArgs false
set_option maxRecDepth 100000
namespace Go.Proofs.YtpokkciheejeiaaGreatDoor
section
open Go.ChangeShapes Go.WideShapes Go.ChangeAt Go.RowKit Go.Deep
section
variable {H:Type} {enc:TypeId×Value→H}
theorem tF {w:World} {base:Nat} {fuel:Nat} {cs:List Value} {x:DataW H×List MemPlace} (h:DataW.trod enc Tryz.prog w base (fun _=>true) true fuel 23 cs=some x):
 ∃ (b:Int) (g:Int),cs = [.int .i64 b,.int .i64 g]∧(Lit.int .i64 b).wf=true∧(Lit.int .i64 g).wf=true:=by
 obtain⟨xs,n,m,_,e,c,hall⟩:=DataW.trod_struct Tryz.underlying23 h
 rw[show Tryz.prog.cellsOf 23=2 from by kernel_rfl]at e
 match cs,e with
 | [c0,c1],_=>
   have a:xs.length=2:=c
   match xs,a with
   | [x0,x1],_=>
     have i:DataW.trod enc Tryz.prog w base (fun _=>true) true n 3 [c0]=some x0:=by
      have h:DataW.trod enc Tryz.prog w base (fun _=>true) true n 3 ((([c0,c1]:List Value).drop 0).take (Tryz.prog.cellsOf 3))=([x0,x1])[0]?:=hall 0 _ rfl
      rw[show Tryz.prog.cellsOf 3=1 from by kernel_rfl]at h
      exact h
     have k:DataW.trod enc Tryz.prog w base (fun _=>true) true n 2 [c1]=some x1:=by
      have h:DataW.trod enc Tryz.prog w base (fun _=>true) true n 2 ((([c0,c1]:List Value).drop 1).take (Tryz.prog.cellsOf 2))=([x0,x1])[1]?:=hall 1 _ rfl
      rw[show Tryz.prog.cellsOf 2=1 from by kernel_rfl]at h
      exact h
     obtain⟨b,f,_,l⟩:=DataW.trod_int Tryz.underlying3 i
     obtain⟨g,d,_,j⟩:=DataW.trod_int Tryz.underlying2 k
     simp only[List.cons.injEq,and_true]at f d
     subst f d
     exact⟨b,g,rfl,l,j⟩
theorem uP {w:World} {base:Nat} {r:Reach} {v:Value} {d:DataW H} {p:List MemPlace} (hval:Value.okWide Tryz.prog w r base 23 v) (h:DataW.Trod enc Tryz.prog w 0 (fun _=>true) true 23 v d p):
 ∃ (b:Int) (g:Int),v = .agg #[.int .i64 b,.int .i64 g]∧(Lit.int .i64 b).wf=true∧(Lit.int .i64 g).wf=true:=by
 obtain⟨cs,rfl,f⟩:=okWide_struct Tryz.underlying23 hval
 obtain⟨fuel,i⟩:=h
 obtain⟨b,g,e,c⟩:=tF i
 refine⟨b,g,?_,c⟩
 have a:cs.toList = [.int .i64 b,.int .i64 g]:=e
 rw[←Array.toArray_toList (xs:=cs),a]
end
section
variable {H:Type} {enc:TypeId×Value→H}
theorem Ex {α:Type} (s:Sh α) {t e:TypeId} {w:World} {A:Option Addr} {n c:Nat} {d:DataW H} {p:List MemPlace} (J:Tryz.prog.underlying t=some (.slice e)) (hC:Tryz.prog.cellsOf e=s.size) (l:0<s.size)
 (v:∀ {fuel cs x},DataW.trod enc Tryz.prog w 0 (fun _=>true) true fuel e cs=some x → ∃ a,s.rep w [] cs a) (h:DataW.Trod enc Tryz.prog w 0 (fun _=>true) true t (.slice A n c) d p):∃ xs,Sl s w [] A n c xs:=by
 obtain⟨fuel,K⟩:=h
 rcases DataW.trod_slice J K with⟨f,_⟩ | ⟨ad,len,cap,elems,rest,m,rfl,f,_,_,L,o,hlen,b,_,_⟩
 ·simp[Value.cells]at f
  obtain⟨rfl,rfl,rfl⟩:=f
  exact⟨[],Sl.nil_⟩
 ·simp[Value.cells]at f
  obtain⟨rfl,rfl,rfl⟩:=f
  rw[hC]at b
  have key:∀ k,k≤n → ∃ (xs:List α) (vs:List Value),xs.length=k∧vs.length=k*s.size∧aC s w [] vs xs ∧ ∀ (j:Nat) u,vs[j]?=some u→w.cell? (ad.add j)=some u:=by
   intro k
   induction k with
   | zero=>exact fun _=>⟨[],[],rfl,by simp,rfl,by simp⟩
   | succ k ih=>
     intro R
     obtain⟨xs,vs,r,y,q,i⟩:=ih (by omega)
     have E:=b k (by omega)
     rw[List.getElem?_eq_getElem (by omega),Option.bind_eq_some_iff]at E
     obtain⟨cs,O,I⟩:=E
     obtain⟨a,F⟩:=v I
     obtain⟨_,G,B⟩:=World.cells?_some O
     have z:=s.len F
     refine⟨xs ++ [a],vs++cs,by simp[r],by rw[List.length_append,y,z,Nat.succ_mul],q.append (aC.single F),fun j u g=>?_⟩
     by_cases N:j<vs.length
     ·rw[List.getElem?_append_left N]at g
      exact i j u g
     ·rw[List.getElem?_append_right (by omega)]at g
      have C:j-vs.length<s.size:=by have:=(List.getElem?_eq_some_iff.1 g).1;omega
      have D:=B (j-vs.length) C
      rw[cB,show k*s.size+(j-vs.length)=j from by omega]at D
      rw[D]
      simpa using g
  obtain⟨xs,vs,r,y,q,i⟩:=key n (Nat.le_refl _)
  refine⟨xs,r.symm,L,o,fun h=>(by cases h),vs,⟨y,fun P=>⟨ad,rfl,?_,i⟩⟩,fun _ _ _ o=>(by cases o),q⟩
  have Q:0<n*s.size:=Nat.mul_pos P l
  have M:=World.block_lt_of_cell? w _ (i 0 _ (List.getElem?_eq_getElem (by omega)))
  rwa [aF]at M
theorem Ds {w:World} {A:Option Addr} {n c:Nat} {d:DataW H} {p:List MemPlace} (h:DataW.Trod enc Tryz.prog w 0 (fun _=>true) true 24 (.slice A n c) d p):∃ xs,Sl iz w [] A n c xs:=
 Ex iz Tryz.underlying24 (by kernel_rfl) (by decide) (fun h=>by
  obtain⟨q,a,k,j,x,y,z,rfl,f,b,m,i,l,e,g⟩:=vq h
  exact⟨⟨q,a,k,j,x,y,z⟩,rfl,f,b,m,i,l,e,g⟩) h
end
end
end Go.Proofs.YtpokkciheejeiaaGreatDoor
section
namespace Go.Proofs.YtpokkciheejeiaaGreatDoor.topCutDone
open Go.ChangeShapes Go.WideShapes Go.ChangeAt Go.RowKit
theorem byteSl {w:World} {A:Option Addr} {n c:Nat} {zs:List Int} (h:vF .u8 w A n c zs):∃ bs,Sl ak w [] A n c bs:=by
 obtain⟨bs,a,e,d,f⟩:=Dq h
 exact⟨bs,⟨by simpa [byteCells] using a.1.symm,e,d,f,_,a,fun _ _ _ b=>(by cases b),di bs⟩⟩
theorem laid_PowOk {W:World} (h:laidMetH Tryz.prog Rows.topCutRow.laid W):aV W:=by
 have a:=h.filter (fun x=>x.1 == "internal/strconv.uint64pow10")
 rw[show(Rows.topCutRow.laid.filter fun x=>x.1 == "internal/strconv.uint64pow10") = [("internal/strconv.uint64pow10",Lib.tabData .u64 Lib.pow10Tab)] from by rfl]at a
 rw[MakeChecks.laidMetH_plain _ _ _ (by rfl)]at a
 exact Lib.tabIs_of_head (g:=0) (by kernel_rfl) (show(Tryz.prog.globals[0]?).map (·.type)=some 307 by kernel_rfl) Tryz.underlying307 Tryz.underlying253 (by kernel_rfl) (by kernel_rfl) a
theorem lifted (os:Os) (started:os.Started) (H:Type) (enc:TypeId×Value→H):
 ReturnsInHanded {} Tryz.checked os 5 .any (fun w args=>(Rows.topCutSpec.pre enc Tryz.prog Tryz.f5 [] false w args∧laidMetH Tryz.prog Rows.topCutRow.laid w)∧sizedMet enc Tryz.prog Tryz.f5 (OpenSpec.ofChange Rows.topCutSpec) false w args)
  (Rows.topCutSpec.post enc Tryz.prog Tryz.f5 false true false false):=by
 refine returnsInHanded_of_change_and (C:=Tryz.checked) (X:=fun w _=>laidMetH Tryz.prog Rows.topCutRow.laid w) (fun _ _ _ hh h=>h.of_heap hh) FF started (by kernel_rfl) Tryz.func5
  (ChangeSpec.witness_at (enc:=enc) (C:=Tryz.checked) (os:=os) (X:=fun w _=>laidMetH Tryz.prog Rows.topCutRow.laid w) false (ki os) #[.agg #[.int .i64 0,.int .i64 0],.slice none 0 0,.slice none 0 0,.int .u16 0] 8 rfl (by kernel_rfl) (by kernel_rfl) (by kernel_rfl) (by kernel_rfl) (by kernel_rfl) (AE os _)) ?_
 intro W base args ds gs before a hW _ _ hL _
 have hval:∀ (j:Nat) t v,Tryz.f5.params[j]?=some t→args[j]?=some v→Value.okWide Tryz.prog W .any base t v:=a
 have i:=hW
 obtain⟨p,q,f,hV,rfl,U,Y⟩:=hW
 have hA:DataW.TrodAll enc Tryz.prog W 0 (fun _=>true) true Tryz.f5.params.toList args.toList ds p:=f
 rw[Tryz.params5]at hA hval
 obtain⟨y,ae,d0,ad,p0,q0,hargs,rfl,rfl,D,J⟩:=trodAll_cons hA
 obtain⟨B,ab,d1,O,p1,q1,rfl,rfl,rfl,F,K⟩:=trodAll_cons J
 obtain⟨z,T,d2,ac,p2,q2,rfl,rfl,rfl,A,r2⟩:=trodAll_cons K
 obtain⟨E,V,d3,I,p3,q3,rfl,rfl,rfl,s,N⟩:=trodAll_cons r2
 obtain⟨rfl,rfl,rfl⟩:=trodAll_nil N
 obtain rfl:args=#[y,B,z,E]:=by cases args;simp_all
 obtain⟨rfl,rfl⟩:=trodVars_none hV
 have k0:=D
 have l:=iN k0
 have u:=F
 have m:=iN u
 have x:=A
 have r:=iN x
 have G:=s
 have k:=iN G
 obtain⟨S,R,rfl,-,-⟩:=uP (hval 0 23 y rfl rfl) D
 obtain⟨a1,b,d,rfl⟩:=okWide_slice Tryz.underlying24 (hval 1 24 B rfl rfl)
 obtain⟨n,s1⟩:=Ds F
 obtain⟨Q,c,cap2,rfl⟩:=okWide_slice Tryz.underlying50 (hval 2 50 z rfl rfl)
 obtain⟨z2,M⟩:=td Tryz.underlying50 Tryz.underlying5 (by kernel_rfl) A
 obtain⟨g,s2⟩:=byteSl M
 obtain⟨P,rfl,rfl,rfl,Z⟩:=open_int Tryz.underlying60 (hval 3 60 E rfl rfl) s
 have o:=bounds_u16 Z
 clear f a
 refine(CV zi S R a1 b d n Q c cap2 g P o W s1 s2 (laid_PowOk hL)).mono fun e W' ⟨L,bel⟩=>?_
 subst L
 exact⟨_,rfl,_,_,_,[],_,[],i,trodAll_mk1 (shut_bool Tryz.underlying4 _),(trodAll_cons_mk (Below.trod iR (by kernel_rfl) (of_decide_eq_true (by kernel_rfl)) k0 bel l) (trodAll_cons_mk (Below.trod iR (by kernel_rfl) (of_decide_eq_true (by kernel_rfl)) u bel m) (trodAll_cons_mk (Below.trod iR (by kernel_rfl) (of_decide_eq_true (by kernel_rfl)) x bel r) (trodAll_cons_mk (Below.trod iR (by kernel_rfl) (of_decide_eq_true (by kernel_rfl)) G bel k) trodAll_mk0)))),rfl,bel.frame _,fun h=>by cases h⟩
end Go.Proofs.YtpokkciheejeiaaGreatDoor.topCutDone
end
