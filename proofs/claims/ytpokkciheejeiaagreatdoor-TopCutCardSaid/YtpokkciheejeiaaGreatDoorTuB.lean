/- Lemmas and contracts that the proof of TopCut uses, part 2 of 16: each is a theorem for every input that its premises allow. -/
import Derived.BigQuiet
import Derived.Outline
import Derived.Deep.DeepMust
import Derived.StillTailTactics
import Derived.Deep.RegionHeld3
import Derived.Deep.DeepCutAuto
import Derived.Maps.OwnSet
import Derived.WalkLawsBesides
import Derived.WalkSpells
import Derived.Test.YtpokkciheejeiaaGreatDoorRows
import Derived.LoopN
import Derived.Deep.QuietTactic
import Derived.Laws.IdiomStrings
import Derived.Lib.BufferRead
import Derived.Lib.SlBytesConst
import Derived.Lib.AppendStr
import Derived.Test.YtpokkciheejeiaaGreatDoorTuA
set_option linter.unusedVariables false
set_option linter.unusedSimpArgs false
set_option maxRecDepth 100000
namespace Go.Proofs.YtpokkciheejeiaaGreatDoor
section
open Go.RowKit Go.ChangeShapes
def bump (ok:Bool) (e:Int×Int):Int×Int:=if ok=true then(up e.1 1,e.2) else(e.1,up e.2 1)
def mQ (wd sl:Int) (cs:List (Int×Int)) (a:Int) (ok:Bool):Wr:=
 if(fh wd sl cs a).err=0 then(if a/wd≤(fh wd sl cs a).sl-(fh wd sl cs a).cs.length then fh wd sl cs a else⟨wd,(fh wd sl cs a).sl,(fh wd sl cs a).cs.set (a/wd%(fh wd sl cs a).cs.length).toNat (bump ok ((fh wd sl cs a).cs.getD (a/wd%(fh wd sl cs a).cs.length).toNat (0,0))),0⟩) else fh wd sl cs a
theorem dn {wd sl:Int} {cs:List (Int×Int)}:cJ wd sl cs=true ↔ (1≤wd∧wd≤2147483647∧0≤sl∧sl≤1099511627776∧1≤cs.length∧cs.length≤16) ∧ ∀ e ∈ cs,bX e=false:=by
 unfold cJ
 rw[Bool.and_eq_true,decide_eq_true_eq]
 simp
theorem tH {cs:List (Int×Int)} {sl tz:Int} (h:∀ e ∈ cs,bX e=false):∀ e ∈ lz cs sl tz,bX e=false:=by
 intro e a
 unfold lz at a
 rw[List.mem_map]at a
 obtain⟨i,b,rfl⟩:=a
 rw[List.mem_range]at b
 split
 ·rfl
 ·refine h _ ?_
  rw[List.getD_eq_getElem?_getD,List.getElem?_eq_getElem b]
  exact List.getElem_mem b
theorem pM {wd sl a:Int} {cs:List (Int×Int)} (b:cJ wd sl cs=true) (c:bM a=true):∃ sl' cs',fh wd sl cs a=⟨wd,sl',cs',0⟩∧cs'.length=cs.length∧sl≤sl'∧a/wd≤sl'∧cJ wd sl' cs'=true∧(sl'=sl∧cs'=cs∧a/wd≤sl∨sl'=a/wd∧cs'=lz cs sl (a/wd)∧sl<a/wd):=by
 by_cases h:a/wd≤sl
 ·exact⟨sl,cs,pV b c h,rfl,Int.le_refl _,h,b,.inl ⟨rfl,rfl,h⟩⟩
 ·refine⟨a/wd,lz cs sl (a/wd),uj b c h,iZ ..,by omega,Int.le_refl _,?_,.inr ⟨rfl,rfl,by omega⟩⟩
  obtain⟨g,e⟩:=dn.1 b
  obtain⟨d,j⟩:=jX c
  have i:0≤a/wd:=Int.ediv_nonneg d (by omega)
  have f:a/wd≤1099511627776:=Int.le_trans (Int.ediv_le_self wd d) j
  exact dn.2 ⟨by rw[iZ];omega,tH e⟩
theorem Dn {wd sl a:Int} {cs:List (Int×Int)} {ok:Bool} (h:(cJ wd sl cs&&bM a)=false):mQ wd sl cs a ok=⟨wd,sl,cs,1⟩:=by unfold mQ;rw[ke h];rfl
theorem qC {wd sl a b:Int} {cs cs':List (Int×Int)} {ok:Bool} (c:fh wd sl cs a=⟨wd,b,cs',0⟩) (h:a/wd≤b-cs'.length):mQ wd sl cs a ok=⟨wd,b,cs',0⟩:=by unfold mQ;rw[c,if_pos rfl,if_pos h]
theorem xP {wd sl a b:Int} {cs cs':List (Int×Int)} {ok:Bool} (c:fh wd sl cs a=⟨wd,b,cs',0⟩) (h:¬ a/wd≤b-cs'.length):mQ wd sl cs a ok=⟨wd,b,cs'.set (a/wd%cs'.length).toNat (bump ok (cs'.getD (a/wd%cs'.length).toNat (0,0))),0⟩:=by unfold mQ;rw[c,if_pos rfl,if_neg h]
theorem jm:∀ (cs:List (Int×Int)) (i:Nat) (x y x':Int),cs[i]?=some (x,y)→(aB cs).set (i*2) (.int .i64 x')=aB (cs.set i (x',y))
 | [],i,x,y,_,h=>by simp at h
 | e::l,0,x,y,x',h=>by simp at h;subst h;rw[aU,List.set_cons_zero,aU];simp
 | e::l,i+1,x,y,x',h=>by
   rw[aU,List.set_cons_succ,aU,←jm l i x y x' (by simpa using h),show(i+1)*2=i*2+2 from by omega]
   simp
theorem jw:∀ (cs:List (Int×Int)) (i:Nat) (x y y':Int),cs[i]?=some (x,y)→(aB cs).set (i*2+1) (.int .i64 y')=aB (cs.set i (x,y'))
 | [],i,x,y,_,h=>by simp at h
 | e::l,0,x,y,y',h=>by simp at h;subst h;rw[aU,List.set_cons_zero,aU];simp
 | e::l,i+1,x,y,y',h=>by
   rw[aU,List.set_cons_succ,aU,←jw l i x y y' (by simpa using h),show(i+1)*2+1=i*2+1+2 from by omega]
   simp
theorem xD {W:World} {base g n cap j:Nat} {cs cs':List (Int×Int)} {u:Value} (h:W.ownsRow base 220 2 (.slice (some ⟨g,0,none⟩) n cap) n (aB cs)) (b:(aB cs).set j u=aB cs'):
 (W.setCell ⟨g,j,none⟩ u).ownsRow base 220 2 (.slice (some ⟨g,0,none⟩) n cap) n (aB cs'):=by
 have hlen:=h.1
 rcases h.2 with⟨e,_⟩ | ⟨g',cap',cur,d,c,f,l,o,k,m⟩
 ·cases e
 ·injection d with a p i
  injection a with a
  injection a with a
  subst a i
  refine⟨by rw[←b,List.length_set,hlen],.inr ⟨g,cap,cur.setIfInBounds j u,rfl,c,Blk.set_ (t:=220) f j _,l,o,by simp[k],?_⟩⟩
  rw[←b,←m]
  simp only[Array.toList_setIfInBounds]
  rw[List.take_set]
theorem ov {W:World} {g:Nat} {x0 x1 x2:Value} (h:Blk W g 87 #[x0,x1,x2]) (tmps:Array Value) (u:Value) (c:tmps[6]?.getD undef = .pointer (some ⟨g,0,none⟩)) (b:tmps[7]?.getD undef=u):(results Tryz.f165 tmps).run Tryz.prog W = .ok (.tuple #[.agg #[x0,x1,x2],u]) W:=by
 have c0:W.cell? ⟨g,0,none⟩=some x0:=h.cell 0
 have a:W.cell? ⟨g,1,none⟩=some x1:=h.cell 1
 have d:W.cell? ⟨g,2,none⟩=some x2:=h.cell 2
 simp[results,Tryz.results165,go_sem,c,b,c0,a,d]
set_option maxHeartbeats 4000000 in
theorem BJ (wd sl:Int) (A:Option Addr) (n c B:Nat) (cs:List (Int×Int)) (a:Int) (ok:Bool) (W:World) (hr:Reads W B 2 A n (aB cs)) (hB:B≤W.heap.size) (hn:n≤9223372036854775807):Calls Tryz.prog 165 #[.agg (DG wd sl A n c),.int .i64 a,.bool ok] W (eM A W (mQ wd sl cs a ok)):=by
 have HR:=Lib.hid hr
 have HL:=Lib.hid hr.cell_len
 clear hr
 have H:Hid (Kept W ((W.alloc (.cells #[.int .i64 wd,.int .i64 sl,.slice A n c] 87)).alloc (.cells #[.int .i64 0,.int .i64 0,.slice none 0 0] 87)) [(W.heap.size+1,87,#[.int .i64 0,.int .i64 0,.slice none 0 0]),(W.heap.size,87,#[.int .i64 wd,.int .i64 sl,.slice A n c])]):=(((Kept.start W).alloc_at 87 #[.int .i64 wd,.int .i64 sl,.slice A n c] (W.heap.size) (by simp)).alloc_at 87 #[.int .i64 0,.int .i64 0,.slice none 0 0] (W.heap.size+1) (by simp))
 by_cases hg:(cJ wd sl cs&&bM a)=false
 ·have U:=Lib.hid (Dn (ok:=ok) hg)
  go_enter Tryz.func165,Tryz.ntmps165
  go_wp2_with fail
  with_reducible refine(Bk wd sl A n c B cs a _ (HR.out.below (H.out.bel.mono hB)) (Nat.le_trans hB H.out.size) hn).mono ?_
  rw[ke hg]
  clear hg
  rintro e s ⟨C,n1,J,rfl,K,R,P⟩
  have N:=Lib.hid K
  have bp:n1=n:=by have h1:=K.cell_len;have h2:=HL.out;simp only at h1;omega
  subst n1
  clear K
  have I:=Lib.hid (show ∀ ad,C=some ad→C=A∨W.heap.size+2≤ad.block from fun ad e=>by
   rcases P ad e with h | h
   ·exact .inl h
   ·simp at h;exact .inr (by omega))
  clear P
  have Q:=Lib.hid (show 0<n → ∀ ad,C=some ad→ad.block≠W.heap.size from fun h ad e=>by
   rcases I.out ad e with h' | h'
   ·rw[h']at e;have:=HR.out.lo h ad e;omega
   ·omega)
  have X:=Lib.hid (show 0<n → ∀ ad,C=some ad→ad.block≠W.heap.size+1 from fun h ad e=>by
   rcases I.out ad e with h' | h'
   ·rw[h']at e;have:=HR.out.lo h ad e;omega
   ·omega)
  have ag:Hid (∀ ad,C=some ad→C=A∨W.heap.size≤ad.block):=fun ad e=>(I.out ad e).imp id (fun h=>by omega)
  have d:Hid (Kept W s [(W.heap.size+1,87,#[.int .i64 0,.int .i64 0,.slice none 0 0]),(W.heap.size,87,#[.int .i64 wd,.int .i64 sl,.slice A n c])]):=H.out.next R
  clear H
  clear R
  have l:s.cell? ⟨W.heap.size,0,none⟩=some (.int .i64 wd):=d.out.cell 1 rfl 0
  have G:s.frozen? ⟨W.heap.size,0,none⟩=false:=d.out.frozen 1 rfl 0
  have k:s.cell? ⟨W.heap.size,1,none⟩=some (.int .i64 sl):=d.out.cell 1 rfl 1
  have E:s.frozen? ⟨W.heap.size,1,none⟩=false:=d.out.frozen 1 rfl 1
  have i:s.cell? ⟨W.heap.size,2,none⟩=some (.slice A n c):=d.out.cell 1 rfl 2
  have F:s.frozen? ⟨W.heap.size,2,none⟩=false:=d.out.frozen 1 rfl 2
  have j:s.cell? ⟨W.heap.size+1,0,none⟩=some (.int .i64 0):=d.out.cell 0 rfl 0
  have u:s.frozen? ⟨W.heap.size+1,0,none⟩=false:=d.out.frozen 0 rfl 0
  have g:s.cell? ⟨W.heap.size+1,1,none⟩=some (.int .i64 0):=d.out.cell 0 rfl 1
  have v:s.frozen? ⟨W.heap.size+1,1,none⟩=false:=d.out.frozen 0 rfl 1
  have o:s.cell? ⟨W.heap.size+1,2,none⟩=some (.slice none 0 0):=d.out.cell 0 rfl 2
  have t:s.frozen? ⟨W.heap.size+1,2,none⟩=false:=d.out.frozen 0 rfl 2
  go_wp2
  exact bodyPost_ret (ov (qp ((((d.out.set_ 1 rfl 0 (.int .i64 wd)).set_ 1 rfl 1 (.int .i64 sl)).set_ 1 rfl 2 (.slice C n J)).blk 0 rfl)) _ (.int .i64 1) rfl rfl) rfl (eM.of U.out ⟨C,n,J,rfl,by simp only[World.size_setCell];exact dr (dr N.out Q.out) X.out,cS (((d.out.set_ 1 rfl 0 (.int .i64 wd)).set_ 1 rfl 1 (.int .i64 sl)).set_ 1 rfl 2 (.slice C n J)).bel (by omega),ag.out⟩)
 have bm:(cJ wd sl cs&&bM a)=true:=by simpa using hg
 rw[Bool.and_eq_true]at bm
 obtain⟨bk,ah⟩:=bm
 obtain⟨m,cs',hm,ac,h1,h2,h3,-⟩:=pM bk ah
 obtain⟨⟨r1,r2,r3,r4,r5,r6⟩,-⟩:=dn.1 h3
 rw[ac]at r5 r6
 have bx:=Lib.hid ac
 rw[HL.out]at r5 r6 ac
 obtain⟨t1,t2⟩:=jX ah
 have D:=Lib.hid (qC (ok:=ok) hm)
 have T:=Lib.hid (xP (ok:=ok) hm)
 rw[ac]at D T
 clear hg bk ah h3
 have bq:=wM (a:=a) (wd:=wd) t1 t2 r1
 have bv:¬ wd=0:=by omega
 have hq:(wd == 0)=false:=by rw[beq_eq_false_iff_ne];omega
 have bd:0≤a/wd:=Int.ediv_nonneg t1 (by omega)
 go_enter Tryz.func165,Tryz.ntmps165
 go_wp2_with fail
 with_reducible refine(Bk wd sl A n c B cs a _ (HR.out.below (H.out.bel.mono hB)) (Nat.le_trans hB H.out.size) hn).mono ?_
 rw[hm]
 rintro e s ⟨C,n1,J,rfl,K,R,P⟩
 have N:=Lib.hid K
 have bp:n1=n:=by have:=K.cell_len;simp only at this;omega
 subst n1
 clear K hm
 dsimp only at N
 generalize a/wd=tz at h2 D T bq bd
 have I:=Lib.hid (show ∀ ad,C=some ad→C=A∨W.heap.size+2≤ad.block from fun ad e=>by
  rcases P ad e with h | h
  ·exact .inl h
  ·simp at h;exact .inr (by omega))
 clear P
 have Q:=Lib.hid (show 0<n → ∀ ad,C=some ad→ad.block≠W.heap.size from fun h ad e=>by
  rcases I.out ad e with h' | h'
  ·rw[h']at e;have:=HR.out.lo h ad e;omega
  ·omega)
 have X:=Lib.hid (show 0<n → ∀ ad,C=some ad→ad.block≠W.heap.size+1 from fun h ad e=>by
  rcases I.out ad e with h' | h'
  ·rw[h']at e;have:=HR.out.lo h ad e;omega
  ·omega)
 have ag:Hid (∀ ad,C=some ad→C=A∨W.heap.size≤ad.block):=fun ad e=>(I.out ad e).imp id (fun h=>by omega)
 have d:Hid (Kept W s [(W.heap.size+1,87,#[.int .i64 0,.int .i64 0,.slice none 0 0]),(W.heap.size,87,#[.int .i64 wd,.int .i64 sl,.slice A n c])]):=H.out.next R
 clear H
 clear R
 have l:s.cell? ⟨W.heap.size,0,none⟩=some (.int .i64 wd):=d.out.cell 1 rfl 0
 have G:s.frozen? ⟨W.heap.size,0,none⟩=false:=d.out.frozen 1 rfl 0
 have k:s.cell? ⟨W.heap.size,1,none⟩=some (.int .i64 sl):=d.out.cell 1 rfl 1
 have E:s.frozen? ⟨W.heap.size,1,none⟩=false:=d.out.frozen 1 rfl 1
 have i:s.cell? ⟨W.heap.size,2,none⟩=some (.slice A n c):=d.out.cell 1 rfl 2
 have F:s.frozen? ⟨W.heap.size,2,none⟩=false:=d.out.frozen 1 rfl 2
 have j:s.cell? ⟨W.heap.size+1,0,none⟩=some (.int .i64 0):=d.out.cell 0 rfl 0
 have u:s.frozen? ⟨W.heap.size+1,0,none⟩=false:=d.out.frozen 0 rfl 0
 have g:s.cell? ⟨W.heap.size+1,1,none⟩=some (.int .i64 0):=d.out.cell 0 rfl 1
 have v:s.frozen? ⟨W.heap.size+1,1,none⟩=false:=d.out.frozen 0 rfl 1
 have o:s.cell? ⟨W.heap.size+1,2,none⟩=some (.slice none 0 0):=d.out.cell 0 rfl 2
 have t:s.frozen? ⟨W.heap.size+1,2,none⟩=false:=d.out.frozen 0 rfl 2
 by_cases bb:tz≤m-(n:Int)
 ·have dle:decide (tz≤m-(n:Int))=true:=by simpa using bb
  have U:=Lib.hid (D.out (by omega))
  clear D T
  go_wp2
  exact bodyPost_ret (ov (qp ((((d.out.set_ 1 rfl 0 (.int .i64 wd)).set_ 1 rfl 1 (.int .i64 m)).set_ 1 rfl 2 (.slice C n J)).blk 0 rfl)) _ (.int .i64 0) rfl rfl) rfl (eM.of U.out ⟨C,n,J,rfl,by simp only[World.size_setCell];exact dr (dr N.out Q.out) X.out,cS (((d.out.set_ 1 rfl 0 (.int .i64 wd)).set_ 1 rfl 1 (.int .i64 m)).set_ 1 rfl 2 (.slice C n J)).bel (by omega),ag.out⟩)
 have dle:decide (tz≤m-(n:Int))=false:=by simpa using bb
 have U:=Lib.hid (T.out (by omega))
 clear D T
 go_wp2_with fail
 clear l G k E i F j u g v o t
 have bn:Hid (Kept W (s.setCell ⟨W.heap.size,0,none⟩ (.int .i64 wd)) [(W.heap.size+1,87,#[.int .i64 0,.int .i64 0,.slice none 0 0]),(W.heap.size,87,#[.int .i64 wd,.int .i64 sl,.slice A n c])]):=d.out.set_ 1 rfl 0 (.int .i64 wd)
 clear d
 have bl:Hid (Kept W ((s.setCell ⟨W.heap.size,0,none⟩ (.int .i64 wd)).setCell ⟨W.heap.size,1,none⟩ (.int .i64 m)) [(W.heap.size+1,87,#[.int .i64 0,.int .i64 0,.slice none 0 0]),(W.heap.size,87,#[.int .i64 wd,.int .i64 m,.slice A n c])]):=bn.out.set_ 1 rfl 1 (.int .i64 m)
 clear bn
 have ab:Hid (Kept W (((s.setCell ⟨W.heap.size,0,none⟩ (.int .i64 wd)).setCell ⟨W.heap.size,1,none⟩ (.int .i64 m)).setCell ⟨W.heap.size,2,none⟩ (.slice C n J)) [(W.heap.size+1,87,#[.int .i64 0,.int .i64 0,.slice none 0 0]),(W.heap.size,87,#[.int .i64 wd,.int .i64 m,.slice C n J])]):=bl.out.set_ 1 rfl 2 (.slice C n J)
 clear bl
 have am:Hid (Reads (((s.setCell ⟨W.heap.size,0,none⟩ (.int .i64 wd)).setCell ⟨W.heap.size,1,none⟩ (.int .i64 m)).setCell ⟨W.heap.size,2,none⟩ (.slice C n J)) s.heap.size 2 C n (aB cs')):=dr N.out Q.out
 clear N
 have ba:((((s.setCell ⟨W.heap.size,0,none⟩ (.int .i64 wd)).setCell ⟨W.heap.size,1,none⟩ (.int .i64 m)).setCell ⟨W.heap.size,2,none⟩ (.slice C n J))).heap.size=s.heap.size:=by simp only[World.size_setCell]
 generalize ((s.setCell ⟨W.heap.size,0,none⟩ (.int .i64 wd)).setCell ⟨W.heap.size,1,none⟩ (.int .i64 m)).setCell ⟨W.heap.size,2,none⟩ (.slice C n J)=w2 at ab am ba ⊢
 with_reducible refine(tV C n J w2.heap.size cs' _ (am.out.more (by omega)) (Nat.le_refl _) (by omega)).mono ?_
 rintro e O ⟨v3,rfl,L,bc⟩
 obtain⟨z,q,rfl,bs,br⟩:=L.form (by omega)
 have ar:=Lib.hid (dN (base':=W.heap.size+2) L (ab.out.lt 0 rfl))
 clear L dle am I Q X ag ba
 have b:Hid (Kept W O [(W.heap.size+1,87,#[.int .i64 0,.int .i64 0,.slice none 0 0]),(W.heap.size,87,#[.int .i64 wd,.int .i64 m,.slice C n J])]):=ab.out.next bc
 clear ab
 clear bc
 have j:O.cell? ⟨W.heap.size+1,0,none⟩=some (.int .i64 0):=b.out.cell 0 rfl 0
 have g:O.cell? ⟨W.heap.size+1,1,none⟩=some (.int .i64 0):=b.out.cell 0 rfl 1
 have o:O.cell? ⟨W.heap.size+1,2,none⟩=some (.slice none 0 0):=b.out.cell 0 rfl 2
 have l:O.cell? ⟨W.heap.size,0,none⟩=some (.int .i64 wd):=b.out.cell 1 rfl 0
 have G:O.frozen? ⟨W.heap.size,0,none⟩=false:=b.out.frozen 1 rfl 0
 have k:O.cell? ⟨W.heap.size,1,none⟩=some (.int .i64 m):=b.out.cell 1 rfl 1
 have E:O.frozen? ⟨W.heap.size,1,none⟩=false:=b.out.frozen 1 rfl 1
 have i:O.cell? ⟨W.heap.size,2,none⟩=some (.slice C n J):=b.out.cell 1 rfl 2
 have F:O.frozen? ⟨W.heap.size,2,none⟩=false:=b.out.frozen 1 rfl 2
 go_wp2_with fail
 clear j g o l G k E i F
 have V:=Lib.hid (pT ar.out z rfl)
 have Y:=Lib.hid (uo ar.out (p:=⟨W.heap.size,2,none⟩) (by simp[Value.ownBlock];have:=V.out;omega) (.slice (some ⟨z,0,none⟩) n q))
 have bj:=V.out.2
 have ae:Hid (Kept W (O.setCell ⟨W.heap.size,2,none⟩ (.slice (some ⟨z,0,none⟩) n q)) [(W.heap.size+1,87,#[.int .i64 0,.int .i64 0,.slice none 0 0]),(W.heap.size,87,#[.int .i64 wd,.int .i64 m,.slice (some ⟨z,0,none⟩) n q])]):=b.out.set_ 1 rfl 2 (.slice (some ⟨z,0,none⟩) n q)
 clear b
 clear ar
 generalize O.setCell ⟨W.heap.size,2,none⟩ (.slice (some ⟨z,0,none⟩) n q)=w4 at ae Y ⊢
 have i1:(0:Int)≤tz%(n:Int):=Int.emod_nonneg _ (by omega)
 have i2:tz%(n:Int)<(n:Int):=Int.emod_lt_of_pos _ (by omega)
 have bi:(tz%(n:Int)).toNat<n:=by omega
 have bt:¬ n=0:=by omega
 have bo:tz.tmod (n:Int)=tz%(n:Int):=Int.tmod_eq_emod_of_nonneg bd
 obtain⟨x,y,q0,q1,q2,q3,Z⟩:=oX Y.out bi
 rw[uE Z]at U
 have HX:=Lib.hid Z
 clear Z bj
 generalize tz%(n:Int)=ix at i1 i2 bi U HX bo q0 q1 q2 q3
 refine wp_region_noPanic ?_
 refine wp_region_held_drew (S:=fun W'=>Kept W W' [(W.heap.size+1,87,#[.int .i64 0,.int .i64 0,.slice none 0 0]),(W.heap.size,87,#[.int .i64 wd,.int .i64 m,.slice (some ⟨z,0,none⟩) n q])]) (by kernel_rfl) ae.out.drew (fun w=>?_)
 refine tS 0 w ?_
 refine tS 1 w ?_ (hy:=by(intro W be;(try dsimp only at be);have q0:=be.cell 1 rfl 2;simp only[List.getElem?_toArray,List.getElem?_cons_zero,List.getElem?_cons_succ]at q0;go_simp;try with_reducible rfl))
 refine tS 2 w ?_
 refine tS 3 w ?_
 refine tS 4 w ?_
 refine tS 5 w ?_
 refine tS 6 w ?_
 refine wpAnyH_done (by kernel_rfl) ?_ _
 refine NoPanic.normal ?_
 clear w
 have f:=Lib.hid (ae.out.drew)
 have ap:Hid (w4.drew.ownsRow (W.heap.size+2) 220 2 (.slice (some ⟨z,0,none⟩) n q) n (aB cs')):=Y.out
 replace q0:w4.drew.cell? _=_:=q0
 replace q1:w4.drew.cell? _=_:=q1
 replace q2:w4.drew.frozen? _=_:=q2
 replace q3:w4.drew.frozen? _=_:=q3
 clear Y ae
 generalize w4.drew=r at f ap q0 q1 q2 q3 ⊢
 cases ok
 ·have l:r.cell? ⟨W.heap.size,0,none⟩=some (.int .i64 wd):=f.out.cell 1 rfl 0
  have k:r.cell? ⟨W.heap.size,1,none⟩=some (.int .i64 m):=f.out.cell 1 rfl 1
  have i:r.cell? ⟨W.heap.size,2,none⟩=some (.slice (some ⟨z,0,none⟩) n q):=f.out.cell 1 rfl 2
  have j:r.cell? ⟨W.heap.size+1,0,none⟩=some (.int .i64 0):=f.out.cell 0 rfl 0
  have u:r.frozen? ⟨W.heap.size+1,0,none⟩=false:=f.out.frozen 0 rfl 0
  have g:r.cell? ⟨W.heap.size+1,1,none⟩=some (.int .i64 0):=f.out.cell 0 rfl 1
  have v:r.frozen? ⟨W.heap.size+1,1,none⟩=false:=f.out.frozen 0 rfl 1
  have o:r.cell? ⟨W.heap.size+1,2,none⟩=some (.slice none 0 0):=f.out.cell 0 rfl 2
  have t:r.frozen? ⟨W.heap.size+1,2,none⟩=false:=f.out.frozen 0 rfl 2
  go_wp2_with fail
  refine(nT _ _ _).mono ?_
  rintro e w6 ⟨rfl,rfl⟩
  have ao:=Lib.hid (xD ap.out (jw cs' ix.toNat x y (up y 1) HX.out))
  have b:=Lib.hid (f.out.put_off (p:=⟨z,ix.toNat*2+1,none⟩) (by simp;have:=V.out;omega) (by intro x Z;simp at Z;have:=V.out;rcases Z with rfl | rfl<;>simp<;>omega) (.int .i64 (up y 1)))
  clear l k i j u g v o t
  rw[show bump false (x,y)=(x,up y 1) from rfl]at U
  have M:=Reads.of_own ao.out
  simp only[World.size_setCell]at M
  have aw:=Lib.hid M
  clear M
  have al:Hid (0<n → ∀ ad,some (⟨z,0,none⟩:Addr)=some ad→ad.block≠W.heap.size+1):=fun _ ad e=>by injection e with e;subst e;have:=V.out;simp;omega
  have l:(r.setCell ⟨z,ix.toNat*2+1,none⟩ (.int .i64 (up y 1))).cell? ⟨W.heap.size,0,none⟩=some (.int .i64 wd):=b.out.cell 1 rfl 0
  have k:(r.setCell ⟨z,ix.toNat*2+1,none⟩ (.int .i64 (up y 1))).cell? ⟨W.heap.size,1,none⟩=some (.int .i64 m):=b.out.cell 1 rfl 1
  have i:(r.setCell ⟨z,ix.toNat*2+1,none⟩ (.int .i64 (up y 1))).cell? ⟨W.heap.size,2,none⟩=some (.slice (some ⟨z,0,none⟩) n q):=b.out.cell 1 rfl 2
  have j:(r.setCell ⟨z,ix.toNat*2+1,none⟩ (.int .i64 (up y 1))).cell? ⟨W.heap.size+1,0,none⟩=some (.int .i64 0):=b.out.cell 0 rfl 0
  have u:(r.setCell ⟨z,ix.toNat*2+1,none⟩ (.int .i64 (up y 1))).frozen? ⟨W.heap.size+1,0,none⟩=false:=b.out.frozen 0 rfl 0
  have g:(r.setCell ⟨z,ix.toNat*2+1,none⟩ (.int .i64 (up y 1))).cell? ⟨W.heap.size+1,1,none⟩=some (.int .i64 0):=b.out.cell 0 rfl 1
  have v:(r.setCell ⟨z,ix.toNat*2+1,none⟩ (.int .i64 (up y 1))).frozen? ⟨W.heap.size+1,1,none⟩=false:=b.out.frozen 0 rfl 1
  have o:(r.setCell ⟨z,ix.toNat*2+1,none⟩ (.int .i64 (up y 1))).cell? ⟨W.heap.size+1,2,none⟩=some (.slice none 0 0):=b.out.cell 0 rfl 2
  have t:(r.setCell ⟨z,ix.toNat*2+1,none⟩ (.int .i64 (up y 1))).frozen? ⟨W.heap.size+1,2,none⟩=false:=b.out.frozen 0 rfl 2
  go_wp2
  exact bodyPost_ret (ov (qp (b.out.blk 0 rfl)) _ (.int .i64 0) rfl rfl) rfl (eM.of U.out ⟨_,n,q,rfl,by simp only[World.size_setCell];exact dr aw.out al.out,cS b.out.bel (by omega),fun ad e=>.inr (by injection e with e;subst e;have:=V.out;simp;omega)⟩)
 ·have l:r.cell? ⟨W.heap.size,0,none⟩=some (.int .i64 wd):=f.out.cell 1 rfl 0
  have k:r.cell? ⟨W.heap.size,1,none⟩=some (.int .i64 m):=f.out.cell 1 rfl 1
  have i:r.cell? ⟨W.heap.size,2,none⟩=some (.slice (some ⟨z,0,none⟩) n q):=f.out.cell 1 rfl 2
  have j:r.cell? ⟨W.heap.size+1,0,none⟩=some (.int .i64 0):=f.out.cell 0 rfl 0
  have u:r.frozen? ⟨W.heap.size+1,0,none⟩=false:=f.out.frozen 0 rfl 0
  have g:r.cell? ⟨W.heap.size+1,1,none⟩=some (.int .i64 0):=f.out.cell 0 rfl 1
  have v:r.frozen? ⟨W.heap.size+1,1,none⟩=false:=f.out.frozen 0 rfl 1
  have o:r.cell? ⟨W.heap.size+1,2,none⟩=some (.slice none 0 0):=f.out.cell 0 rfl 2
  have t:r.frozen? ⟨W.heap.size+1,2,none⟩=false:=f.out.frozen 0 rfl 2
  go_wp2_with fail
  refine(nT _ _ _).mono ?_
  rintro e w6 ⟨rfl,rfl⟩
  have ao:=Lib.hid (xD ap.out (jm cs' ix.toNat x y (up x 1) HX.out))
  have b:=Lib.hid (f.out.put_off (p:=⟨z,ix.toNat*2,none⟩) (by simp;have:=V.out;omega) (by intro x Z;simp at Z;have:=V.out;rcases Z with rfl | rfl<;>simp<;>omega) (.int .i64 (up x 1)))
  clear l k i j u g v o t
  rw[show bump true (x,y)=(up x 1,y) from rfl]at U
  have M:=Reads.of_own ao.out
  simp only[World.size_setCell]at M
  have aw:=Lib.hid M
  clear M
  have al:Hid (0<n → ∀ ad,some (⟨z,0,none⟩:Addr)=some ad→ad.block≠W.heap.size+1):=fun _ ad e=>by injection e with e;subst e;have:=V.out;simp;omega
  have l:(r.setCell ⟨z,ix.toNat*2,none⟩ (.int .i64 (up x 1))).cell? ⟨W.heap.size,0,none⟩=some (.int .i64 wd):=b.out.cell 1 rfl 0
  have k:(r.setCell ⟨z,ix.toNat*2,none⟩ (.int .i64 (up x 1))).cell? ⟨W.heap.size,1,none⟩=some (.int .i64 m):=b.out.cell 1 rfl 1
  have i:(r.setCell ⟨z,ix.toNat*2,none⟩ (.int .i64 (up x 1))).cell? ⟨W.heap.size,2,none⟩=some (.slice (some ⟨z,0,none⟩) n q):=b.out.cell 1 rfl 2
  have j:(r.setCell ⟨z,ix.toNat*2,none⟩ (.int .i64 (up x 1))).cell? ⟨W.heap.size+1,0,none⟩=some (.int .i64 0):=b.out.cell 0 rfl 0
  have u:(r.setCell ⟨z,ix.toNat*2,none⟩ (.int .i64 (up x 1))).frozen? ⟨W.heap.size+1,0,none⟩=false:=b.out.frozen 0 rfl 0
  have g:(r.setCell ⟨z,ix.toNat*2,none⟩ (.int .i64 (up x 1))).cell? ⟨W.heap.size+1,1,none⟩=some (.int .i64 0):=b.out.cell 0 rfl 1
  have v:(r.setCell ⟨z,ix.toNat*2,none⟩ (.int .i64 (up x 1))).frozen? ⟨W.heap.size+1,1,none⟩=false:=b.out.frozen 0 rfl 1
  have o:(r.setCell ⟨z,ix.toNat*2,none⟩ (.int .i64 (up x 1))).cell? ⟨W.heap.size+1,2,none⟩=some (.slice none 0 0):=b.out.cell 0 rfl 2
  have t:(r.setCell ⟨z,ix.toNat*2,none⟩ (.int .i64 (up x 1))).frozen? ⟨W.heap.size+1,2,none⟩=false:=b.out.frozen 0 rfl 2
  go_wp2
  exact bodyPost_ret (ov (qp (b.out.blk 0 rfl)) _ (.int .i64 0) rfl rfl) rfl (eM.of U.out ⟨_,n,q,rfl,by simp only[World.size_setCell];exact dr aw.out al.out,cS b.out.bel (by omega),fun ad e=>.inr (by injection e with e;subst e;have:=V.out;simp;omega)⟩)
end
section
def fS (p:Int):Int:=if p<0 then 0 else if 8≤p then 0 else 2^p.toNat
def cg (n:Int):Nat:=if n≤1 then 0 else if n≤2 then 1 else if n≤4 then 2 else if n≤8 then 3 else if n≤16 then 4 else if n≤32 then 5 else if n≤64 then 6 else if n≤128 then 7 else 8
def bV (f:Nat→Int) (s:Int):Bool:=(List.range 9).all (fun i=>f i == hold (f i))&&(s == hold s)
theorem iM (f:Nat→Int) (s:Int):bV f s=true ↔ (∀ i,i<9→f i=hold (f i))∧s=hold s:=by
 simp only[bV,Bool.and_eq_true,List.all_eq_true,List.mem_range,beq_iff_eq]
def gY (f:Nat→Int) (p:Nat) (v:Int):Nat→Int:=fun i=>if i=p then v else f i
def eN (f:Nat→Int) (s n:Int):Nat→Int:=if bV f s=true∧0≤n then gY f (cg n) (up (f (cg n)) 1) else f
def gq (f:Nat→Int) (s n:Int):Int:=if bV f s=true∧0≤n then up s n else s
def AO (b:Nat→Int) (part:Int) (k:Nat):Prop:=part*b 8≤1000*b k
instance (b:Nat→Int) (part:Int) (k:Nat):Decidable (AO b part k):=by unfold AO;infer_instance
theorem dG (k:Nat) (a:k<8):fS k=2^k:=by unfold fS;rw[if_neg (by omega),if_neg (by omega)];rfl
theorem wF (n:Int) (k:Nat) (c:k<8) (h:∀ j:Nat,j<k→fS j<n) (a:n≤fS k):cg n=k:=by
 have g:=dG 0 (by omega);have m:=dG 1 (by omega);have i:=dG 2 (by omega);have p:=dG 3 (by omega)
 have e:=dG 4 (by omega);have d:=dG 5 (by omega);have b6:=dG 6 (by omega);have f:=dG 7 (by omega)
 have l:∀ j:Nat,j<k→(2:Int)^j<n:=fun j b=>by rw[←dG j (by omega)];exact h j b
 rw[dG k c]at a
 clear h g m i p e d b6 f
 rcases(by omega:k=0∨k=1∨k=2∨k=3∨k=4∨k=5∨k=6∨k=7) with rfl | rfl | rfl | rfl | rfl | rfl | rfl | rfl
 ·unfold cg;rw[if_pos (by simpa using a)]
 all_goals
  have o:=l _ (Nat.lt_succ_self _)
  simp at o a
  unfold cg
  repeat rw[if_neg (by omega)]
  rw[if_pos (by omega)]
theorem uO (n:Int) (h:∀ j:Nat,j<8→fS j<n):cg n=8:=by
 have:=h 7 (by omega)
 rw[dG 7 (by omega)]at this
 unfold cg
 repeat rw[if_neg (by omega)]
theorem zl (n:Int):cg n≤8:=by unfold cg;repeat (first | omega | split)
theorem kM {f:Nat→Int} {s:Int} (h:bV f s=true):(∀ i,i<9→0≤f i∧f i≤1099511627776)∧0≤s∧s≤1099511627776:=by
 rw[iM]at h
 refine⟨fun i a=>?_,?_,?_⟩
 ·rw[h.1 i a];exact⟨kC _,kN _⟩
 ·rw[h.2];exact kC _
 ·rw[h.2];exact kN _
end
section
open Go.RowKit
theorem qL {k:IntKind} {a b:Int} (h:a=b):Ending.returned (.int k a) = .returned (.int k b):=by rw[h]
theorem Ah {a b:Bool} (h:a=b):Ending.returned (.bool a) = .returned (.bool b):=by rw[h]
theorem GU (f:Nat→Int) (k:Nat) (a:k<9) (w:World):(Instr.index 88 (.agg #[.int .i64 (f 0),.int .i64 (f 1),.int .i64 (f 2),.int .i64 (f 3),.int .i64 (f 4),.int .i64 (f 5),.int .i64 (f 6),.int .i64 (f 7),.int .i64 (f 8)]) (.int .i64 (k:Int))).run Tryz.prog w = .ok (.int .i64 (f k)) w:=by
 rcases(by omega:k=0∨k=1∨k=2∨k=3∨k=4∨k=5∨k=6∨k=7∨k=8) with rfl | rfl | rfl | rfl | rfl | rfl | rfl | rfl | rfl
 all_goals kernel_rfl
theorem xS (p:Int) (w:World):Calls Tryz.prog 258 #[.int .i64 p] w fun e w'=>e = .returned (.int .i64 (fS p))∧w=w':=by
 by_cases b:p<0
 ·go_enter Tryz.func258,Tryz.ntmps258
  go_wp2
  go_ret
  exact⟨qL (by unfold fS;rw[if_pos b]),rfl⟩
 ·by_cases a:8≤p
  ·go_enter Tryz.func258,Tryz.ntmps258
   go_wp2
   go_ret
   exact⟨qL (by unfold fS;rw[if_neg (by omega),if_pos a]),rfl⟩
  ·rcases(by omega:p=0∨p=1∨p=2∨p=3∨p=4∨p=5∨p=6∨p=7) with rfl | rfl | rfl | rfl | rfl | rfl | rfl | rfl
   all_goals
    go_enter Tryz.func258,Tryz.ntmps258
    go_wp2
    go_ret
    exact⟨rfl,rfl⟩
set_option maxHeartbeats 2000000 in
theorem GN (p:Int) (w:World):Calls Tryz.prog 213 #[.int .i64 p] w fun e w'=>e = .returned (.int .i64 (fS p))∧Below w.heap.size w w':=by
 by_cases b:p<0
 ·go_enter Tryz.func213,Tryz.ntmps213
  go_wp2
  go_ret
  exact⟨qL (by unfold fS;rw[if_pos b]),(Below.refl _ _).alloc (Nat.le_refl _) _⟩
 ·by_cases a:8≤p
  ·go_enter Tryz.func213,Tryz.ntmps213
   go_wp2
   go_ret
   exact⟨qL (by unfold fS;rw[if_neg (by omega),if_pos a]),(Below.refl _ _).alloc (Nat.le_refl _) _⟩
  ·rcases(by omega:p=0∨p=1∨p=2∨p=3∨p=4∨p=5∨p=6∨p=7) with rfl | rfl | rfl | rfl | rfl | rfl | rfl | rfl
   all_goals
    go_enter Tryz.func213,Tryz.ntmps213
    go_wp2
    go_ret
    exact⟨rfl,(Below.refl _ _).alloc (Nat.le_refl _) _⟩
theorem gA (n:Int) (w:World):Calls Tryz.prog 223 #[.int .i64 n] w fun e w'=>e = .returned (.int .i64 (cg n))∧w=w':=by
 go_enter Tryz.func223,Tryz.ntmps223
 go_wp2
 go_loop [4] (fun i => ∃ k:Nat,k≤8∧i = .int .i64 k∧Hid (∀ j:Nat,j<k→fS j<n)) (fun i=>8-(intOf i).toNat)
 case atStart=>exact⟨0,Nat.zero_le _,rfl,fun j c=>by omega⟩
 case round=>
  obtain⟨k,f,rfl,b⟩:=hrel
  by_cases a:k<8
  ·by_cases d:n≤fS k
   ·go_wp2_with (go_at_call 258;refine(xS _ _).mono ?_;rintro e w' ⟨rfl,rfl⟩)
    go_ret
    exact⟨qL (by rw[wF n k a b.out d]),rfl⟩
   ·go_wp2_with (go_at_call 258;refine(xS _ _).mono ?_;rintro e w' ⟨rfl,rfl⟩)
    go_round
    case rel=>
     refine⟨k+1,by omega,by go_num,fun j c=>?_⟩
     rcases Nat.lt_or_ge j k with h | h
     ·exact b.out j h
     ·obtain rfl:j=k:=by omega
      omega
    case measure=>simp[intOf];omega
  ·obtain rfl:k=8:=by omega
   go_wp2
   go_ret
   exact⟨qL (by rw[uO n b.out];rfl),rfl⟩
theorem zw {f:Nat→Int} {s:Int} {k:Nat} (a:k<9) (h:¬ f k=hold (f k)):bV f s=false:=by
 cases hr:bV f s
 ·rfl
 ·exact absurd (((iM f s).1 hr).1 k a) h
theorem xh {f:Nat→Int} {s:Int} (h:∀ j,j<9→f j=hold (f j)):bV f s=(s == hold s):=by
 rw[Bool.eq_iff_iff,iM,beq_iff_eq]
 exact⟨fun h'=>h'.2,fun h'=>⟨h,h'⟩⟩
theorem eS (f:Nat→Int) (s:Int) (w:World):Calls Tryz.prog 222 #[.agg #[.int .i64 (f 0),.int .i64 (f 1),.int .i64 (f 2),.int .i64 (f 3),.int .i64 (f 4),.int .i64 (f 5),.int .i64 (f 6),.int .i64 (f 7),.int .i64 (f 8),.int .i64 s]] w fun e w'=>e = .returned (.bool (bV f s))∧Below w.heap.size w w':=by
 have HI:=fun k g W=>Lib.hid (GU f k g W)
 go_enter Tryz.func222,Tryz.ntmps222
 go_wp2
 go_loop [7] (fun i => ∃ k:Nat,k≤9∧i = .int .i64 k∧Hid (∀ j:Nat,j<k→f j=hold (f j))) (fun i=>9-(intOf i).toNat)
 case atStart=>exact⟨0,Nat.zero_le _,rfl,fun j m=>by omega⟩
 case round=>
  obtain⟨k,g,rfl,l⟩:=hrel
  by_cases b:k<9
  ·have hidx:=fun W=>(HI k b W).out
   by_cases a:f k=hold (f k)
   ·have c:(f k != hold (f k))=false:=by rw[bne_eq_false_iff_eq];exact a
    have d:=Lib.hid a;clear a
    go_wp2_with (go_at_call 244;refine(mZ _ _).mono ?_;rintro e w' ⟨rfl,rfl⟩)
    go_round
    case rel=>
     refine⟨k+1,by omega,by go_num,fun j m=>?_⟩
     rcases Nat.lt_or_ge j k with h | h
     ·exact l.out j h
     ·obtain rfl:j=k:=by omega
      exact d.out
    case measure=>simp[intOf];omega
   ·have c:(f k != hold (f k))=true:=by rw[bne_iff_ne];exact a
    have d:=Lib.hid a;clear a
    go_wp2_with (go_at_call 244;refine(mZ _ _).mono ?_;rintro e w' ⟨rfl,rfl⟩)
    go_ret
    exact⟨Ah (zw b d.out).symm,(Below.refl _ _).alloc (Nat.le_refl _) _⟩
  ·obtain rfl:k=9:=by omega
   go_wp2
   go_quiet ((go_at_call 244;exact xk (mZ _ _)))
   go_wp2
   go_ret
   exact⟨Ah (xh l.out).symm,below_drewN ((Below.refl _ _).alloc (Nat.le_refl _) _) _⟩
end
section
open Go.RowKit
def fJ (room has:Int):Bool:=decide (0≤room∧room≤2147483647∧0≤has∧has≤room)
abbrev se (room has:Int):Array Value:=#[.int .i64 room,.int .i64 has]
theorem jH (room has:Int) (w:World):Calls Tryz.prog 217 #[.agg (se room has)] w fun e w'=>e = .returned (.bool (fJ room has))∧Below w.heap.size w w':=by
 go_enter Tryz.func217,Tryz.ntmps217
 go_wp2
 all_goals
  go_ret
  refine⟨dF ?_,(Below.refl _ _).alloc (Nat.le_refl _) _⟩
  unfold fJ
  first | (symm;rw[decide_eq_false_iff_not];omega) | (rw[Bool.eq_iff_iff,decide_eq_true_eq,decide_eq_true_eq];omega)
theorem wU (room has:Int) (p:fJ room has=true) (w:World) (X:List Nat) (hX:XOk X w):Calls Tryz.prog 158 #[.int .i64 room,.int .i64 has] w fun e w'=>e = .returned (.tuple #[.agg (se room has),.int .i64 0])∧Below w.heap.size w w':=by
 have m:Hid (aq w [] X ((w.alloc (.cells #[.int .i64 0,.int .i64 0] 92)).alloc (.cells #[.int .i64 room,.int .i64 has] 92)) [.box (w.heap.size+1) 92 #[.int .i64 room,.int .i64 has],.box (w.heap.size) 92 #[.int .i64 0,.int .i64 0]] []):=(((aq.start w hX).alloc_at 92 #[.int .i64 0,.int .i64 0] (w.heap.size) (by simp)).alloc_at 92 #[.int .i64 room,.int .i64 has] (w.heap.size+1) (by simp))
 go_enter Tryz.func158,Tryz.ntmps158
 go_wp2_with fail
 refine(jH _ _ _).mono ?_
 rw[p]
 rintro e l ⟨rfl,n⟩
 have a:Hid (aq w [] X l [.box (w.heap.size+1) 92 #[.int .i64 room,.int .i64 has],.box (w.heap.size) 92 #[.int .i64 0,.int .i64 0]] []):=(m.out.on n)
 clear m
 clear n
 have j:l.cell? ⟨w.heap.size+1,0,none⟩=some (.int .i64 room):=a.out.cell 0 rfl 0
 have g:l.cell? ⟨w.heap.size+1,1,none⟩=some (.int .i64 has):=a.out.cell 0 rfl 1
 have i:l.cell? ⟨w.heap.size,0,none⟩=some (.int .i64 0):=a.out.cell 1 rfl 0
 have h:l.frozen? ⟨w.heap.size,0,none⟩=false:=a.out.frozen 1 rfl 0
 have d:l.cell? ⟨w.heap.size,1,none⟩=some (.int .i64 0):=a.out.cell 1 rfl 1
 have f:l.frozen? ⟨w.heap.size,1,none⟩=false:=a.out.frozen 1 rfl 1
 go_wp2
 clear j g i h d f
 have k:Hid (aq w [] X ((l.setCell ⟨w.heap.size,0,none⟩ (.int .i64 room)).setCell ⟨w.heap.size,1,none⟩ (.int .i64 has)) [.box (w.heap.size+1) 92 #[.int .i64 room,.int .i64 has],.box (w.heap.size) 92 #[.int .i64 room,.int .i64 has]] []):=((a.out.set_ 1 rfl 0 (.int .i64 room)).set_ 1 rfl 1 (.int .i64 has))
 clear a
 generalize (l.setCell ⟨w.heap.size,0,none⟩ (.int .i64 room)).setCell ⟨w.heap.size,1,none⟩ (.int .i64 has)=o at k ⊢
 have b:o.cell? ⟨w.heap.size,0,none⟩=some (.int .i64 room):=k.out.cell 1 rfl 0
 have c:o.cell? ⟨w.heap.size,1,none⟩=some (.int .i64 has):=k.out.cell 1 rfl 1
 exact bodyPost_ret (v := .tuple #[.agg (se room has),.int .i64 0]) (by simp[results,Tryz.results158,go_sem,b,c]) rfl ⟨rfl,k.out.below⟩
def qb (has n:Int):Int:=has-min n has
theorem xO (room has n:Int) (y:fJ room has=true) (F:0≤n) (w:World) (X:List Nat) (hX:XOk X w):Calls Tryz.prog 168 #[.agg #[.int .i64 room,.int .i64 has],.int .i64 n] w fun e w'=>e = .returned (.tuple #[.agg (se room (qb has n)),.bool (decide (n≤has))])∧Below w.heap.size w w':=by
 have s:=y
 unfold fJ at s
 rw[decide_eq_true_eq]at s
 obtain⟨D,E,C,B⟩:=s
 have t:Hid (aq w [] X ((w.alloc (.cells #[.int .i64 room,.int .i64 has] 92)).alloc (.cells #[.int .i64 0,.int .i64 0] 92)) [.box (w.heap.size+1) 92 #[.int .i64 0,.int .i64 0],.box (w.heap.size) 92 #[.int .i64 room,.int .i64 has]] []):=(((aq.start w hX).alloc_at 92 #[.int .i64 room,.int .i64 has] (w.heap.size) (by simp)).alloc_at 92 #[.int .i64 0,.int .i64 0] (w.heap.size+1) (by simp))
 go_enter Tryz.func168,Tryz.ntmps168
 go_wp2_with fail
 refine(jH _ _ _).mono ?_
 rw[y]
 rintro e i ⟨rfl,u⟩
 have a:Hid (aq w [] X i [.box (w.heap.size+1) 92 #[.int .i64 0,.int .i64 0],.box (w.heap.size) 92 #[.int .i64 room,.int .i64 has]] []):=(t.out.on u)
 clear t
 clear u
 have r:¬ (w.heap.size=w.heap.size+1):=a.out.ne 1 0 (by decide) rfl rfl
 have q:¬ (w.heap.size+1=w.heap.size):=a.out.ne 0 1 (by decide) rfl rfl
 by_cases z:n≤has
 ·skip
  have l:i.cell? ⟨w.heap.size,0,none⟩=some (.int .i64 room):=a.out.cell 1 rfl 0
  have j:i.frozen? ⟨w.heap.size,0,none⟩=false:=a.out.frozen 1 rfl 0
  have o:i.cell? ⟨w.heap.size,1,none⟩=some (.int .i64 has):=a.out.cell 1 rfl 1
  have m:i.frozen? ⟨w.heap.size,1,none⟩=false:=a.out.frozen 1 rfl 1
  have k:i.cell? ⟨w.heap.size+1,0,none⟩=some (.int .i64 0):=a.out.cell 0 rfl 0
  have d:i.frozen? ⟨w.heap.size+1,0,none⟩=false:=a.out.frozen 0 rfl 0
  have g:i.cell? ⟨w.heap.size+1,1,none⟩=some (.int .i64 0):=a.out.cell 0 rfl 1
  have c:i.frozen? ⟨w.heap.size+1,1,none⟩=false:=a.out.frozen 0 rfl 1
  go_wp2
  clear r q l j o m k d g c
  have p:Hid (aq w [] X (i.setCell ⟨w.heap.size,1,none⟩ (.int .i64 (has-n))) [.box (w.heap.size+1) 92 #[.int .i64 0,.int .i64 0],.box (w.heap.size) 92 #[.int .i64 room,.int .i64 (has-n)]] []):=a.out.set_ 1 rfl 1 (.int .i64 (has-n))
  clear a
  have b:Hid (aq w [] X (((i.setCell ⟨w.heap.size,1,none⟩ (.int .i64 (has-n))).setCell ⟨w.heap.size+1,0,none⟩ (.int .i64 room)).setCell ⟨w.heap.size+1,1,none⟩ (.int .i64 (has-n))) [.box (w.heap.size+1) 92 #[.int .i64 room,.int .i64 (has-n)],.box (w.heap.size) 92 #[.int .i64 room,.int .i64 (has-n)]] []):=((p.out.set_ 0 rfl 0 (.int .i64 room)).set_ 0 rfl 1 (.int .i64 (has-n)))
  clear p
  generalize ((i.setCell ⟨w.heap.size,1,none⟩ (.int .i64 (has-n))).setCell ⟨w.heap.size+1,0,none⟩ (.int .i64 room)).setCell ⟨w.heap.size+1,1,none⟩ (.int .i64 (has-n))=x at b ⊢
  have f:x.cell? ⟨w.heap.size+1,0,none⟩=some (.int .i64 room):=b.out.cell 0 rfl 0
  have h:x.cell? ⟨w.heap.size+1,1,none⟩=some (.int .i64 (has-n)):=b.out.cell 0 rfl 1
  exact bodyPost_ret (v := .tuple #[.agg (se room (has-n)),.bool true]) (by simp[results,Tryz.results168,go_sem,f,h]) rfl ⟨by unfold qb;rw[Int.min_eq_left (by omega),decide_eq_true (show n≤has by omega)],b.out.below⟩
 ·skip
  have A:has<n:=by omega
  have l:i.cell? ⟨w.heap.size,0,none⟩=some (.int .i64 room):=a.out.cell 1 rfl 0
  have j:i.frozen? ⟨w.heap.size,0,none⟩=false:=a.out.frozen 1 rfl 0
  have o:i.cell? ⟨w.heap.size,1,none⟩=some (.int .i64 has):=a.out.cell 1 rfl 1
  have m:i.frozen? ⟨w.heap.size,1,none⟩=false:=a.out.frozen 1 rfl 1
  have k:i.cell? ⟨w.heap.size+1,0,none⟩=some (.int .i64 0):=a.out.cell 0 rfl 0
  have d:i.frozen? ⟨w.heap.size+1,0,none⟩=false:=a.out.frozen 0 rfl 0
  have g:i.cell? ⟨w.heap.size+1,1,none⟩=some (.int .i64 0):=a.out.cell 0 rfl 1
  have c:i.frozen? ⟨w.heap.size+1,1,none⟩=false:=a.out.frozen 0 rfl 1
  go_wp2
  clear r q l j o m k d g c
  have p:Hid (aq w [] X (i.setCell ⟨w.heap.size,1,none⟩ (.int .i64 (0))) [.box (w.heap.size+1) 92 #[.int .i64 0,.int .i64 0],.box (w.heap.size) 92 #[.int .i64 room,.int .i64 (0)]] []):=a.out.set_ 1 rfl 1 (.int .i64 (0))
  clear a
  have b:Hid (aq w [] X (((i.setCell ⟨w.heap.size,1,none⟩ (.int .i64 (0))).setCell ⟨w.heap.size+1,0,none⟩ (.int .i64 room)).setCell ⟨w.heap.size+1,1,none⟩ (.int .i64 (0))) [.box (w.heap.size+1) 92 #[.int .i64 room,.int .i64 (0)],.box (w.heap.size) 92 #[.int .i64 room,.int .i64 (0)]] []):=((p.out.set_ 0 rfl 0 (.int .i64 room)).set_ 0 rfl 1 (.int .i64 (0)))
  clear p
  generalize ((i.setCell ⟨w.heap.size,1,none⟩ (.int .i64 (0))).setCell ⟨w.heap.size+1,0,none⟩ (.int .i64 room)).setCell ⟨w.heap.size+1,1,none⟩ (.int .i64 (0))=x at b ⊢
  have f:x.cell? ⟨w.heap.size+1,0,none⟩=some (.int .i64 room):=b.out.cell 0 rfl 0
  have h:x.cell? ⟨w.heap.size+1,1,none⟩=some (.int .i64 (0)):=b.out.cell 0 rfl 1
  exact bodyPost_ret (v := .tuple #[.agg (se room (0)),.bool (decide (n≤has))]) (by simp[results,Tryz.results168,go_sem,f,h]) rfl ⟨by unfold qb;rw[Int.min_eq_right (by omega),Int.sub_self],b.out.below⟩
def zD (room has n:Int):Int:=has+min n (room-has)
theorem Gb (room has n:Int) (y:fJ room has=true) (F:0≤n) (w:World) (X:List Nat) (hX:XOk X w):Calls Tryz.prog 169 #[.agg #[.int .i64 room,.int .i64 has],.int .i64 n] w fun e w'=>e = .returned (.agg (se room (zD room has n)))∧Below w.heap.size w w':=by
 have s:=y
 unfold fJ at s
 rw[decide_eq_true_eq]at s
 obtain⟨D,E,C,B⟩:=s
 have t:Hid (aq w [] X ((w.alloc (.cells #[.int .i64 room,.int .i64 has] 92)).alloc (.cells #[.int .i64 0,.int .i64 0] 92)) [.box (w.heap.size+1) 92 #[.int .i64 0,.int .i64 0],.box (w.heap.size) 92 #[.int .i64 room,.int .i64 has]] []):=(((aq.start w hX).alloc_at 92 #[.int .i64 room,.int .i64 has] (w.heap.size) (by simp)).alloc_at 92 #[.int .i64 0,.int .i64 0] (w.heap.size+1) (by simp))
 go_enter Tryz.func169,Tryz.ntmps169
 go_wp2_with fail
 refine(jH _ _ _).mono ?_
 rw[y]
 rintro e i ⟨rfl,u⟩
 have a:Hid (aq w [] X i [.box (w.heap.size+1) 92 #[.int .i64 0,.int .i64 0],.box (w.heap.size) 92 #[.int .i64 room,.int .i64 has]] []):=(t.out.on u)
 clear t
 clear u
 have r:¬ (w.heap.size=w.heap.size+1):=a.out.ne 1 0 (by decide) rfl rfl
 have q:¬ (w.heap.size+1=w.heap.size):=a.out.ne 0 1 (by decide) rfl rfl
 by_cases z:n≤room-has
 ·skip
  have l:i.cell? ⟨w.heap.size,0,none⟩=some (.int .i64 room):=a.out.cell 1 rfl 0
  have j:i.frozen? ⟨w.heap.size,0,none⟩=false:=a.out.frozen 1 rfl 0
  have o:i.cell? ⟨w.heap.size,1,none⟩=some (.int .i64 has):=a.out.cell 1 rfl 1
  have m:i.frozen? ⟨w.heap.size,1,none⟩=false:=a.out.frozen 1 rfl 1
  have k:i.cell? ⟨w.heap.size+1,0,none⟩=some (.int .i64 0):=a.out.cell 0 rfl 0
  have d:i.frozen? ⟨w.heap.size+1,0,none⟩=false:=a.out.frozen 0 rfl 0
  have g:i.cell? ⟨w.heap.size+1,1,none⟩=some (.int .i64 0):=a.out.cell 0 rfl 1
  have c:i.frozen? ⟨w.heap.size+1,1,none⟩=false:=a.out.frozen 0 rfl 1
  go_wp2
  clear r q l j o m k d g c
  have p:Hid (aq w [] X (i.setCell ⟨w.heap.size,1,none⟩ (.int .i64 (has+n))) [.box (w.heap.size+1) 92 #[.int .i64 0,.int .i64 0],.box (w.heap.size) 92 #[.int .i64 room,.int .i64 (has+n)]] []):=a.out.set_ 1 rfl 1 (.int .i64 (has+n))
  clear a
  have b:Hid (aq w [] X (((i.setCell ⟨w.heap.size,1,none⟩ (.int .i64 (has+n))).setCell ⟨w.heap.size+1,0,none⟩ (.int .i64 room)).setCell ⟨w.heap.size+1,1,none⟩ (.int .i64 (has+n))) [.box (w.heap.size+1) 92 #[.int .i64 room,.int .i64 (has+n)],.box (w.heap.size) 92 #[.int .i64 room,.int .i64 (has+n)]] []):=((p.out.set_ 0 rfl 0 (.int .i64 room)).set_ 0 rfl 1 (.int .i64 (has+n)))
  clear p
  generalize ((i.setCell ⟨w.heap.size,1,none⟩ (.int .i64 (has+n))).setCell ⟨w.heap.size+1,0,none⟩ (.int .i64 room)).setCell ⟨w.heap.size+1,1,none⟩ (.int .i64 (has+n))=x at b ⊢
  have f:x.cell? ⟨w.heap.size+1,0,none⟩=some (.int .i64 room):=b.out.cell 0 rfl 0
  have h:x.cell? ⟨w.heap.size+1,1,none⟩=some (.int .i64 (has+n)):=b.out.cell 0 rfl 1
  exact bodyPost_ret (v := .agg (se room (has+n))) (by simp[results,Tryz.results169,go_sem,f,h]) rfl ⟨by unfold zD;rw[Int.min_eq_left (by omega)],b.out.below⟩
 ·skip
  have A:room-has<n:=by omega
  have l:i.cell? ⟨w.heap.size,0,none⟩=some (.int .i64 room):=a.out.cell 1 rfl 0
  have j:i.frozen? ⟨w.heap.size,0,none⟩=false:=a.out.frozen 1 rfl 0
  have o:i.cell? ⟨w.heap.size,1,none⟩=some (.int .i64 has):=a.out.cell 1 rfl 1
  have m:i.frozen? ⟨w.heap.size,1,none⟩=false:=a.out.frozen 1 rfl 1
  have k:i.cell? ⟨w.heap.size+1,0,none⟩=some (.int .i64 0):=a.out.cell 0 rfl 0
  have d:i.frozen? ⟨w.heap.size+1,0,none⟩=false:=a.out.frozen 0 rfl 0
  have g:i.cell? ⟨w.heap.size+1,1,none⟩=some (.int .i64 0):=a.out.cell 0 rfl 1
  have c:i.frozen? ⟨w.heap.size+1,1,none⟩=false:=a.out.frozen 0 rfl 1
  go_wp2
  clear r q l j o m k d g c
  have p:Hid (aq w [] X (i.setCell ⟨w.heap.size,1,none⟩ (.int .i64 (has+(room-has)))) [.box (w.heap.size+1) 92 #[.int .i64 0,.int .i64 0],.box (w.heap.size) 92 #[.int .i64 room,.int .i64 (has+(room-has))]] []):=a.out.set_ 1 rfl 1 (.int .i64 (has+(room-has)))
  clear a
  have b:Hid (aq w [] X (((i.setCell ⟨w.heap.size,1,none⟩ (.int .i64 (has+(room-has)))).setCell ⟨w.heap.size+1,0,none⟩ (.int .i64 room)).setCell ⟨w.heap.size+1,1,none⟩ (.int .i64 (has+(room-has)))) [.box (w.heap.size+1) 92 #[.int .i64 room,.int .i64 (has+(room-has))],.box (w.heap.size) 92 #[.int .i64 room,.int .i64 (has+(room-has))]] []):=((p.out.set_ 0 rfl 0 (.int .i64 room)).set_ 0 rfl 1 (.int .i64 (has+(room-has))))
  clear p
  generalize ((i.setCell ⟨w.heap.size,1,none⟩ (.int .i64 (has+(room-has)))).setCell ⟨w.heap.size+1,0,none⟩ (.int .i64 room)).setCell ⟨w.heap.size+1,1,none⟩ (.int .i64 (has+(room-has)))=x at b ⊢
  have f:x.cell? ⟨w.heap.size+1,0,none⟩=some (.int .i64 room):=b.out.cell 0 rfl 0
  have h:x.cell? ⟨w.heap.size+1,1,none⟩=some (.int .i64 (has+(room-has))):=b.out.cell 0 rfl 1
  exact bodyPost_ret (v := .agg (se room (has+(room-has)))) (by simp[results,Tryz.results169,go_sem,f,h]) rfl ⟨by unfold zD;rw[Int.min_eq_right (by omega)],b.out.below⟩
end
section
open Go.RowKit
structure Cmp where
 nm:ByteArray
 role:Int
 mode:Int
 wd:Int
 sl:Int
 cells:List (Int×Int)
 h:Nat→Int
 hs:Int
 room:Int
 has:Int
 ct:Nat→Int
abbrev cD (c:Cmp) (A:Option Addr) (n cp:Nat):List Value:=[.string c.nm,.int .i64 c.role,.int .i64 c.mode,.int .i64 c.wd,.int .i64 c.sl,.slice A n cp,.int .i64 (c.h 0),.int .i64 (c.h 1),.int .i64 (c.h 2),.int .i64 (c.h 3),.int .i64 (c.h 4),.int .i64 (c.h 5),.int .i64 (c.h 6),.int .i64 (c.h 7),.int .i64 (c.h 8),.int .i64 c.hs,.int .i64 c.room,.int .i64 c.has,.int .i64 (c.ct 0),.int .i64 (c.ct 1),.int .i64 (c.ct 2)]
def ay (w:World) (X:List Nat) (A:Option Addr) (n:Nat) (cs:List (Int×Int)):Prop:=n=cs.length∧Reads w w.heap.size 2 A n (aB cs)∧(0<n → ∀ ad,A=some ad→ad.block ∉ X)
theorem ay.keep {w w':World} {X:List Nat} {A:Option Addr} {n:Nat} {cs:List (Int×Int)} (h:ay w X A n cs) (k:jf X w w'):ay w' X A n cs:=by
 obtain⟨g,b,d⟩:=h
 refine⟨g,⟨b.1,fun c=>?_⟩,d⟩
 obtain⟨ad,e,a,f⟩:=b.2 c
 exact⟨ad,e,Nat.lt_of_lt_of_le a k.size,fun j u i=>(k.cell (by rw[aF];exact a) (by rw[aF];exact d c ad e)).trans (f j u i)⟩
theorem ay.more {w:World} {X X':List Nat} {A:Option Addr} {n:Nat} {cs:List (Int×Int)} (h:ay w X A n cs) (k:∀ b,b<w.heap.size→b ∈ X'→b ∈ X):ay w X' A n cs:=
 ⟨h.1,h.2.1,fun c ad e a=>h.2.2 c ad e (k _ (h.2.1.lo c ad e) a)⟩
def ay.fact (A:Option Addr) (n:Nat) (cs:List (Int×Int)):Fact:=⟨fun w X=>ay w X A n cs,fun h k=>h.keep k,fun h k=>h.more k⟩
theorem ay.zero (w:World) (X:List Nat):ay w X none 0 []:=⟨rfl,Reads.none_,fun h=>absurd h (by omega)⟩
theorem ay.rd {w:World} {X:List Nat} {A:Option Addr} {n:Nat} {cs:List (Int×Int)} (h:ay w X A n cs):Reads w w.heap.size 2 A n (aB cs):=h.2.1
theorem ay.of_win {A0:Option Addr} {d:Nat} {cs0:List (Int×Int)} {X:List Nat} {W:World} {r:Wr} {e:Ending} {w':World} (h:eM A0 W r e w') (hX:XOk X W) (k:ay W X A0 d cs0) (j:0<d∨A0=none):
 ∃ A n c,e = .returned (.tuple #[.agg #[.int .i64 r.wd,.int .i64 r.sl,.slice A n c],.int .i64 r.err])∧Below W.heap.size W w'∧ay w' X A n r.cs:=by
 obtain⟨A,n,c,rfl,f,g,i⟩:=h
 refine⟨A,n,c,rfl,g,?_,f,fun l ad e a=>?_⟩
 ·have:=f.1
  rw[cP]at this
  omega
 ·rcases i ad e with rfl | m
  ·rcases j with b | b
   ·exact k.2.2 b ad e a
   ·rw[b]at e;cases e
  ·have:=hX _ a
   omega
def aI:Sh Cmp where
 size:=21
 rep w X vs c := ∃ A n cp,vs=cD c A n cp∧ay w X A n c.cells∧c.nm.size≤maxLen
 len:=by rintro w X vs a ⟨A,n,c,rfl,_⟩;rfl
 one:=by
  rintro w X vs a ⟨A,n,c,rfl,_⟩ u hu
  simp only[cD,List.mem_cons,List.not_mem_nil,or_false]at hu
  rcases hu with rfl | rfl | rfl | rfl | rfl | rfl | rfl | rfl | rfl | rfl | rfl | rfl | rfl | rfl | rfl | rfl | rfl | rfl | rfl | rfl | rfl<;>rfl
 keep:=by rintro w w' X vs a ⟨A,n,c,rfl,h,r⟩ k;exact⟨A,n,c,rfl,h.keep k,r⟩
 more:=by rintro w X X' vs a ⟨A,n,c,rfl,h,r⟩ k;exact⟨A,n,c,rfl,h.more k,r⟩
end
section
def cu (k:Int):Nat:=if k<1∨10<k then 0 else if k=2 then 3 else if k=3 then 2 else 1
def jg (k:Int):(Int×Int)×(Int×Int)×(Int×Int):=
 if k=1 then((1,3),(0,0),(0,0)) else if k=2 then((0,2147483647),(0,2147483647),(0,2147483647))
 else if k=3 then((0,2),(0,2147483647),(0,0)) else if k=4 then((0,2),(0,0),(0,0))
 else if k=8∨k=10 then((1,2147483647),(0,0),(0,0)) else((0,2147483647),(0,0),(0,0))
def inB (n:Int) (b:Int×Int):Bool:=decide (b.1≤n)&&decide (n≤b.2)
def dL (e:Evt):Bool:=inB e.x (jg e.k).1&&inB e.y (jg e.k).2.1&&inB e.z (jg e.k).2.2
def fB (s:ByteArray):Bool:=decide (1≤s.size)&&decide (s.size≤24)
def dz (e:Evt):Int:=
 if cu e.k=0 then 2 else if fB e.cm=false then 3 else if dL e=false then 4
 else if e.a<0∨1099511627776<e.a then 5 else if e.q<0∨4294967296<e.q then 1 else 0
def dw (k:Int):Int:=if k=1∨k=2 then 0 else if k=3∨k=4 then 1 else if k=5∨k=6∨k=7 then 2 else if k=8∨k=9∨k=10 then 3 else -1
def jQ (e:Evt):List Int:=[e.x,e.y,e.z].take (cu e.k)
def lg (e:Evt) (l:List Int):Evt:={ e with x:=l.getD 0 0,y:=l.getD 1 0,z:=l.getD 2 0 }
theorem eD {e:Evt} (h:dz e=0):1≤e.k∧e.k≤10∧fB e.cm=true∧dL e=true∧0≤e.a∧e.a≤1099511627776∧0≤e.q∧e.q≤4294967296:=by
 unfold dz at h
 by_cases b:cu e.k=0
 ·rw[if_pos b]at h;omega
 rw[if_neg b]at h
 have c:1≤e.k∧e.k≤10:=by
  unfold cu at b
  by_cases c:e.k<1∨10<e.k
  ·rw[if_pos c]at b;omega
  ·omega
 by_cases f:fB e.cm=false
 ·rw[if_pos f]at h;omega
 rw[if_neg f]at h
 by_cases d:dL e=false
 ·rw[if_pos d]at h;omega
 rw[if_neg d]at h
 by_cases g:e.a<0∨1099511627776<e.a
 ·rw[if_pos g]at h;omega
 rw[if_neg g]at h
 by_cases i:e.q<0∨4294967296<e.q
 ·rw[if_pos i]at h;omega
 exact⟨c.1,c.2,by simpa using f,by simpa using d,by omega,by omega,by omega,by omega⟩
theorem rY (n:Int) (b:Int×Int):inB n b=true ↔ b.1≤n∧n≤b.2:=by simp[inB]
theorem dI {e:Evt} (a:1≤e.k∧e.k≤10) (h:dL e=true):(0≤e.x∧e.x≤2147483647)∧(0≤e.y∧e.y≤2147483647)∧(0≤e.z∧e.z≤2147483647)∧(cu e.k≤1→e.y=0)∧(cu e.k≤2→e.z=0):=by
 unfold dL at h
 rw[Bool.and_eq_true,Bool.and_eq_true,rY,rY,rY]at h
 obtain⟨⟨b,hy⟩,c⟩:=h
 unfold cu
 rw[if_neg (by omega)]
 rcases(by omega:e.k=1∨e.k=2∨e.k=3∨e.k=4∨e.k=8∨e.k=10∨(e.k=5∨e.k=6∨e.k=7∨e.k=9)) with a | a | a | a | a | a | (a | a | a | a) <;>
  (rw[a]at b hy c ⊢;simp[jg]at b hy c ⊢;omega)
theorem zb {e:Evt} (d:1≤e.k∧e.k≤10) (h:dL e=true) (c:Evt) (f:c={ e with x:=c.x,y:=c.y,z:=c.z }):lg c (jQ e)=e:=by
 obtain⟨_,_,_,hy,b⟩:=dI d h
 rw[f]
 unfold lg jQ
 have a:cu e.k=1∨cu e.k=2∨cu e.k=3:=by
  unfold cu
  rw[if_neg (by omega)]
  split
  ·omega
  ·split<;>omega
 rcases a with a | a | a
 ·rw[a]at hy b ⊢
  have:=hy (by omega)
  have:=b (by omega)
  cases e;simp_all
 ·rw[a]at hy b ⊢
  have:=b (by omega)
  cases e;simp_all
 ·rw[a]at hy b ⊢
  cases e;simp_all
end
section
def dR (c:Cmp):Prop:=(1≤c.nm.size∧c.nm.size≤24)∧(bM (c.ct 0)=true∧bM (c.ct 1)=true∧bM (c.ct 2)=true) ∧
 ((c.role=1∧0≤c.mode∧c.mode≤2∧cJ c.wd c.sl c.cells=true∧bV c.h c.hs=true∧c.room=0∧c.has=0) ∨
  (c.role=2∧c.mode=0∧c.wd=0∧c.sl=0∧c.cells = []∧(∀ i,c.h i=0)∧c.hs=0∧fJ c.room c.has=true) ∨
  (c.role=3∧0≤c.mode∧c.mode≤2147483647∧c.wd=0∧c.sl=0∧c.cells = []∧bV c.h c.hs=true∧fJ c.room c.has=true))
def jj (role:Int) (e:Evt):Bool:=if role=1 then decide (1≤e.x∧1≤e.y∧e.y≤16∧e.z=0) else if role=2 then decide (e.y≤e.x∧e.z=0) else decide (e.y=0∧e.z=0)
def mL (c:Cmp) (e:Evt):Int:=
 if dz e≠0 then dz e else if e.cm≠c.nm then 6 else if e.k=1 then 7 else if dw e.k≠0∧dw e.k≠c.role then 8 else if e.k=2∧jj c.role e=false then 4 else 0
def zf:Nat→Int:=fun _=>0
def ny (nm:ByteArray) (role a:Int):Cmp:=if role=1 then⟨nm,1,0,10,a/10,List.replicate 4 (0,0),zf,0,0,0,zf⟩ else⟨nm,role,0,0,0,[],zf,0,10,10,zf⟩
def qq (c:Cmp) (i:Nat):Cmp:={ c with ct:=gY c.ct i (up (c.ct i) 1) }
def zG (c:Cmp) (r:Wr):Cmp:={ c with wd:=r.wd,sl:=r.sl,cells:=r.cs }
def fc (c:Cmp) (e:Evt):Cmp:=
 if e.k=2 then(if c.role=1 then zG c (newR e.x e.y e.a) else if c.role=2 then { c with room:=e.x,has:=e.y } else { c with room:=e.x,has:=e.x })
 else if e.k=3 then qq { zG c (mQ c.wd c.sl c.cells e.a (e.x == 0)) with h:=eN c.h c.hs e.y,hs:=gq c.h c.hs e.y } e.x.toNat
 else if e.k=4 then(if e.x=0 then zG { c with mode:=e.x } (newR c.wd c.cells.length e.a) else { c with mode:=e.x })
 else if e.k=5 then qq { c with has:=qb c.has e.x } 0
 else if e.k=6 then qq c 1
 else if e.k=7 then qq { c with has:=zD c.room c.has e.x } 2
 else if e.k=8 then qq { c with has:=qb c.has 1,mode:=e.x } 0
 else if e.k=9 then qq { c with h:=eN c.h c.hs e.x,hs:=gq c.h c.hs e.x } 1
 else if e.k=10 then qq { c with mode:=0 } 2
 else c
structure St where
 cs:List Cmp
 q:Int
 a:Int
def bD (s:St):Prop:=s.cs.length≤12∧0≤s.q∧s.q≤4294967296∧0≤s.a∧s.a≤1099511627776∧(∀ c ∈ s.cs,dR c)∧Srt Cmp.nm s.cs
abbrev iF (cs:List Cmp) (nm:ByteArray):Nat:=fI Cmp.nm cs nm
def cH (s:St) (e:Evt):Int:=
 if dz e≠0 then dz e else if e.q≠s.q+1 then 1 else if e.a<s.a then 5 else
 match s.cs[iF s.cs e.cm]? with
 | some c=>if e.k=1 then 7 else mL c e
 | none=>if e.k=1 then(if s.cs.length=12 then 9 else 0) else 6
def aZ (s:St) (e:Evt):St:=
 ⟨if e.k=1 then fO Cmp.nm (ny e.cm e.x e.a) s.cs else match s.cs[iF s.cs e.cm]? with
  | some c=>s.cs.set (iF s.cs e.cm) (fc c e)
  | none=>s.cs,e.q,e.a⟩
end
section
def placeOf (l:List (List UInt8)) (s:List UInt8):Nat:=if s ∈ l then l.idxOf s+1 else 0
def bY (s:List UInt8):Bool:=decide (1≤s.length∧s.length≤24)
def cK (l:List (List UInt8)):Bool:=decide (l.length≤32∧l.Nodup ∧ ∀ s ∈ l,bY s=true)
theorem lK (l:List (List UInt8)) (s:List UInt8):placeOf l s≤l.length:=by
 unfold placeOf
 split
 ·rename_i h;have:=List.idxOf_lt_length_of_mem h;omega
 ·omega
theorem dh (l:List (List UInt8)) (s:List UInt8):placeOf l s=0 ↔ s ∉ l:=by
 unfold placeOf;split<;>simp_all
theorem jS (l m:List (List UInt8)) (s:List UInt8) (h:placeOf l s≠0):placeOf (l++m) s=placeOf l s:=by
 have a:s ∈ l:=by
  rcases Classical.em (s ∈ l) with h' | h'
  ·exact h'
  ·exact absurd ((dh l s).2 h') h
 unfold placeOf
 rw[if_pos a,if_pos (List.mem_append_left _ a),List.idxOf_append,if_pos a]
theorem iG (l:List (List UInt8)) (s:List UInt8) (h:placeOf l s=0):placeOf (l ++ [s]) s=l.length+1:=by
 have a:=(dh l s).1 h
 unfold placeOf
 rw[if_pos (by simp),List.idxOf_append,if_neg a]
 simp
theorem fF (l:List (List UInt8)) (s x:List UInt8) (a:x≠s):placeOf (l ++ [x]) s=placeOf l s:=by
 rcases Classical.em (s ∈ l) with h | h
 ·exact jS l [x] s (fun e=>(dh l s).1 e h)
 ·rw[(dh l s).2 h,dh]
  simp[h]
  exact fun e=>a e.symm
theorem lJ (l:List (List UInt8)) (s:List UInt8):(l ++ [s]).Nodup ↔ l.Nodup∧s ∉ l:=by
 rw[List.nodup_append]
 simp
 intro _
 constructor
 ·intro h e;exact h s e rfl
 ·rintro h a b rfl;exact h b
end
section
open Go.RowKit Go.Maps Go.WideMaps
def lists (ss:List ByteArray):List (List UInt8):=ss.map (·.data.toList)
theorem fH (ss:List ByteArray):(lists ss).length=ss.length:=by simp[lists]
theorem qJ (ss:List ByteArray) (k:Nat) (s:ByteArray) (h:ss[k]?=some s):(lists ss)[k]?=some s.data.toList:=by simp[lists,h]
theorem Reads.str_at {w:World} {B n k:Nat} {A:Option Addr} {ss:List ByteArray} (h:Reads w B 1 A n (ss.map Value.string)) (e:k<n):∃ ad s,A=some ad∧ad.block<B∧ss[k]?=some s∧w.cell? (ad.add k)=some (.string s):=by
 obtain⟨ad,u,rfl,a,c,d⟩:=h.at_ e
 obtain⟨s,b,rfl⟩:∃ s,ss[k]?=some s∧Value.string s=u:=by simpa using c
 exact⟨ad,s,rfl,a,b,d⟩
def oz (w:World) (b:Nat) (l:List (List UInt8)):Prop:=
 ∃ D:DataW Unit,w.ownsMap Tryz.prog 9 (plainElem Tryz.prog 3) b l.length D∧(∀ s,Maps.has D (.string s)=decide (placeOf l s≠0)) ∧
   (∀ s,D.atKey (.string s) (.lit (.int .i64 0)) = .lit (.int .i64 (placeOf l s)))∧Maps.size D≤l.length∧(Maps.size D=l.length ↔ l.Nodup)
theorem pq:Keyed Tryz.prog 9:=string_keyed Tryz.underlying9
theorem rD (w:World):(zeroValue 3).run Tryz.prog w = .ok (.int .i64 0) w:=by kernel_rfl
theorem xd (w:World):oz (w.alloc (.map #[] 0)) w.heap.size []:=
 ⟨.map [],World.ownsMap_made _ _ _ _,fun s=>by simp[Maps.has,placeOf],fun s=>by simp[DataW.atKey,placeOf],by simp[Maps.size],by simp[Maps.size]⟩
theorem zj {w:World} {b:Nat} {l:List (List UInt8)} {s:List UInt8} (h:oz w b l) (c:placeOf l s≠0):oz w b (l ++ [s]):=by
 obtain⟨D,g,i,f,k,j⟩:=h
 have e:s ∈ l:=by
  rcases Classical.em (s ∈ l) with h' | h'
  ·exact h'
  ·exact absurd ((dh l s).2 h') c
 have d:∀ x,placeOf (l ++ [s]) x=placeOf l x:=by
  intro x
  rcases Classical.em (s=x) with rfl | a
  ·exact jS l [s] s c
  ·exact fF l x s a
 refine⟨D,g.mono (by simp),fun x=>by rw[i,d],fun x=>by rw[f,d],by simp;omega,?_⟩
 rw[lJ]
 simp only[List.length_append,List.length_singleton]
 constructor
 ·intro h;omega
 ·rintro⟨_,h⟩;exact absurd e h
theorem yX {w':World} {b:Nat} {l:List (List UInt8)} {s:List UInt8} {D:DataW Unit} (d:placeOf l s=0) (g:∀ s,Maps.has D (.string s)=decide (placeOf l s≠0))
 (i:∀ s,D.atKey (.string s) (.lit (.int .i64 0)) = .lit (.int .i64 (placeOf l s))) (m:Maps.size D≤l.length) (j:Maps.size D=l.length ↔ l.Nodup) (f:Maps.Tidy D)
 (k:w'.ownsMap Tryz.prog 9 (plainElem Tryz.prog 3) b (l.length+1) (D.put (.string s) (.lit (.int .i64 ((l.length:Int)+1))))):oz w' b (l ++ [s]):=by
 have h:WideAt.IsKeyLit (.string s):=by simp[WideAt.IsKeyLit]
 have c:Maps.has D (.string s)=false:=by rw[g,d];rfl
 refine⟨_,by simpa using k,fun x=>?_,fun x=>?_,?_,?_⟩
 ·rcases Classical.em (s=x) with rfl | a
  ·rw[Maps.has_put_same f.isMap h,iG l s d];simp
  ·rw[Maps.has_put_other (by simpa using fun e=>a e.symm),g,fF l x s a]
 ·rcases Classical.em (s=x) with rfl | a
  ·rw[Maps.atKey_put_same f.isMap h,iG l s d];rfl
  ·rw[Maps.atKey_put_other (by simpa using fun e=>a e.symm),i,fF l x s a]
 ·rw[Maps.size_put f,c];simp;omega
 ·rw[Maps.size_put f,c,lJ,←j]
  have:=(dh l s).1 d
  simp[this]
theorem sY (A:Option Addr) (n c B:Nat) (ss:List ByteArray) (w:World) (u:Reads w B 1 A n (ss.map Value.string)) (hB:B≤w.heap.size) (V:n≤1000000) (t:∀ s ∈ ss,s.size≤maxLen):
 Calls Tryz.prog 241 #[.slice A n c] w fun e w'=>e = .returned (.map (some w.heap.size))∧oz w' w.heap.size (lists ss)∧Below w.heap.size w w':=by
 have I:ss.length=n:=by simpa using u.1
 have F:=Lib.hid I;clear I
 have r:=fun W=>nv (P:=Tryz.prog) 313 9 3 .i64 (n:Int) Tryz.underlying313 W
 go_enter Tryz.func241,Tryz.ntmps241
 go_wp2
 clear r
 go_loopw [13] (fun i wr => ∃ k:Nat,k≤n∧i = .int .i64 k∧oz wr w.heap.size ((lists ss).take k)∧Below w.heap.size w wr) (fun i _=>n-(intOf i).toNat)
 case atStart=>exact⟨0,Nat.zero_le _,rfl,xd w,(Below.refl _ _).alloc (Nat.le_refl _) _⟩
 case round=>
  obtain⟨k,T,rfl,hmap,d⟩:=hrel
  by_cases x:k<n
  ·have p:=(u.more hB).below d
   obtain⟨ad,s,rfl,S,z,U⟩:=p.str_at x
   have K:=t s (List.mem_of_getElem? z)
   have J:=Lib.hid (show(lists ss).take (k+1)=(lists ss).take k ++ [s.data.toList] by rw[List.take_add_one,qJ ss k s z];rfl)
   have C:Hid (((lists ss).take k).length=k):=by rw[List.length_take,fH,F.out];show min k n=k;omega
   have hkey:keyOf Tryz.prog 9 (.string s)=some (.string s.data.toList):=keyOf_string_mk Tryz.underlying9 K
   have a:=Lib.hid hkey
   clear z p hkey u
   by_cases o:placeOf ((lists ss).take k) s.data.toList=0
   ·obtain⟨D,h,m,G,H,E⟩:=hmap
    have M:=fun(w':World)=>Lib.hid (yX (w':=w') (b:=w.heap.size) o m G H E (h.tidy pq))
    have hh:Maps.has D (.string s.data.toList)=false:=by rw[m,o];rfl
    have q:=Lib.hid h
    clear o m G H E h
    go_wp2_with (first
     | (at_lookup;go_must (refine wpList_lookup_own_ok_int _ rfl _ _ 313 rfl 9 3 .i64 pq Tryz.underlying313 Tryz.underlying3 (rD _) w.heap.size _ D rfl q.out _ _ rfl a.out ?_);intro Q g v;clear g)
     | (at_mapUpdate;go_must (refine wpList_mapUpdate_own _ rfl _ _ _ 313 rfl 9 3 pq Tryz.underlying313 _ w.heap.size _ _ rfl q.out (by rw[C.out];unfold maxLen;omega) _ _ _ rfl rfl a.out _ [] (plainElem_int Tryz.underlying3 (WalkArith.wf_i64 (by omega))) ?_);intro L f y))
    go_roundw
    case rel=>
     refine⟨k+1,by omega,by go_num,?_,d.grown y d.size (fun j R=>by cases R;exact Nat.le_refl _)⟩
     rw[J.out]
     refine(M L).out ?_
     rw[C.out]
     rw[C.out]at f
     exact f
    case measure=>simp[intOf];omega
   ·have O:Hid (oz wr w.heap.size ((lists ss).take k ++ [s.data.toList])):=zj hmap o
    obtain⟨D,h,m,_⟩:=hmap
    have hh:Maps.has D (.string s.data.toList)=true:=by rw[m];simpa using o
    have q:=Lib.hid h
    clear o m h
    go_wp2_with (first
     | (at_lookup;go_must (refine wpList_lookup_own_ok_int _ rfl _ _ 313 rfl 9 3 .i64 pq Tryz.underlying313 Tryz.underlying3 (rD _) w.heap.size _ D rfl q.out _ _ rfl a.out ?_);intro Q g v;clear g))
    go_roundw
    case rel=>exact⟨k+1,by omega,by go_num,by rw[J.out];exact O.out,d⟩
    case measure=>simp[intOf];omega
  ·have N:=Lib.hid (List.take_of_length_le (l:=lists ss) (i:=k) (by rw[fH,F.out];omega))
   go_wp2
   go_ret
   exact⟨rfl,by rw[←N.out];exact hmap,d⟩
end
section
def firstIdx {α:Type} (p:α→Bool):List α→Int
 | [] => -1
 | x::l=>if p x then 0 else if firstIdx p l<0 then -1 else firstIdx p l+1
theorem nO {α:Type} (p:α→Bool) (l:List α) : -1≤firstIdx p l:=by
 induction l with
 | nil=>simp[firstIdx]
 | cons x l ih=>unfold firstIdx;split<;>(try split)<;>omega
theorem firstIdx_none {α:Type} (p:α→Bool) (l:List α) (h:∀ (j:Nat) x,l[j]?=some x→p x=false):firstIdx p l = -1:=by
 induction l with
 | nil=>rfl
 | cons x l ih=>
   have b:=h 0 x rfl
   have a:=ih (fun j y hy=>h (j+1) y (by simpa using hy))
   unfold firstIdx
   rw[b,a]
   simp
theorem mu {α:Type} (p:α→Bool) (l:List α) (k:Nat) (x:α) (h:∀ (j:Nat) y,j<k→l[j]?=some y→p y=false) (a:l[k]?=some x) (c:p x=true):firstIdx p l=k:=by
 induction l generalizing k with
 | nil=>simp at a
 | cons y l ih=>
   cases k with
   | zero=>
     simp at a
     subst a
     unfold firstIdx
     rw[c];simp
   | succ k=>
     have d:=h 0 y (by omega) rfl
     have b:=ih k (fun j z f e=>h (j+1) z (by omega) (by simpa using e)) (by simpa using a)
     unfold firstIdx
     rw[d,b]
     simp
     omega
theorem mM {α:Type} (p:α→Bool) (l:List α):decide (0≤firstIdx p l)=l.any p:=by
 induction l with
 | nil=>rfl
 | cons x l ih=>
   have:=nO p l
   unfold firstIdx
   rw[List.any_cons,←ih]
   cases p x
   ·rw[if_neg (by decide),Bool.false_or]
    by_cases h:firstIdx p l<0
    ·rw[if_pos h,decide_eq_decide];omega
    ·rw[if_neg h,decide_eq_decide];omega
   ·simp
theorem tJ {α:Type} (p:α→Bool) (l:List α) (k:Nat) (h:firstIdx p l=k):∃ x,l[k]?=some x∧p x=true ∧ ∀ (j:Nat) y,j<k→l[j]?=some y→p y=false:=by
 induction l generalizing k with
 | nil=>unfold firstIdx at h;omega
 | cons y l ih=>
   unfold firstIdx at h
   split at h
   ·rename_i hy
    obtain rfl:k=0:=by omega
    exact⟨y,rfl,hy,fun j z b=>by omega⟩
   ·rename_i hy
    split at h
    ·omega
    ·obtain⟨k',rfl⟩:∃ k',k=k'+1:=⟨k-1,by omega⟩
     obtain⟨x,c,d,e⟩:=ih k' (by omega)
     refine⟨x,by simpa using c,d,fun j z b a=>?_⟩
     cases j with
     | zero=>simp at a;subst a;simpa using hy
     | succ j=>exact e j z (by omega) (by simpa using a)
end
section
open Go.RowKit Go.Maps Go.WideMaps
theorem gi {a b:Bool} (h:a=b):Ending.returned (.bool a) = .returned (.bool b):=by rw[h]
theorem gu {k:IntKind} {a b:Int} (h:a=b):Ending.returned (.int k a) = .returned (.int k b):=by rw[h]
theorem gQ (s:ByteArray) (w:World) (b:s.size≤maxLen):Calls Tryz.prog 58 #[.string s] w fun e w'=>e = .returned (.bool (bY s.data.toList))∧w=w':=by
 unfold maxLen at b
 have a:s.data.toList.length=s.size:=rfl
 have c:=Lib.hid a;clear a
 go_enter Tryz.func58,Tryz.ntmps58
 go_wp2
 all_goals
  go_ret
  refine⟨gi ?_,rfl⟩
  unfold bY
  rw[c.out]
  first | (rw[Bool.eq_iff_iff];simp;omega) | (simp;omega)
theorem lZ (A:Option Addr) (n c B:Nat) (ss:List ByteArray) (s:ByteArray) (w:World) (o:Reads w B 1 A n (ss.map Value.string)) (hB:B≤w.heap.size) (p:n≤1000000) (d:∀ s ∈ ss,s.size≤maxLen) (j:s.size≤maxLen):
 Calls Tryz.prog 192 #[.slice A n c,.string s] w fun e w'=>e = .returned (.int .i64 (placeOf (lists ss) s.data.toList))∧Below w.heap.size w w':=by
 have a:Hid (keyOf Tryz.prog 9 (.string s)=some (.string s.data.toList)):=keyOf_string_mk Tryz.underlying9 j
 have k:=fun W=>Lib.hid (sY A n c B ss W)
 go_enter Tryz.func192,Tryz.ntmps192
 go_wp2_with fail
 refine((k _).out o hB p d).mono ?_
 rintro e u ⟨rfl,l,i⟩
 obtain⟨D,g,t,f,_⟩:=l
 have m:=Lib.hid (f s.data.toList)
 have h:=Lib.hid g
 clear g t f
 go_wp2_with (at_lookup;go_must (refine wpList_lookup_own_int _ rfl _ _ 313 rfl 9 3 .i64 pq Tryz.underlying313 Tryz.underlying3 (rD _) w.heap.size _ D rfl h.out _ _ rfl a.out ?_);intro v b r;have q:=Lib.hid b;clear b)
 go_ret
 refine⟨gu ?_,i⟩
 have:=m.out.symm.trans q.out
 injection this with this
 injection this with _ this
 exact this.symm
end
section
open Go.RowKit
theorem AY (A:Option Addr) (a:Nat) (w:World):Calls Tryz.prog 246 #[.agg #[.int .i64 0,.int .i64 0,.slice A 0 a]] w fun e w'=>e = .returned (.bool true)∧Below w.heap.size w w':=by
 go_enter Tryz.func246,Tryz.ntmps246
 go_wp2
 go_ret
 exact⟨rfl,(Below.refl _ _).alloc (Nat.le_refl _) _⟩
theorem GR (f:Nat→Int) (k:Nat) (a:k<3) (w:World):(Instr.index 93 (.agg #[.int .i64 (f 0),.int .i64 (f 1),.int .i64 (f 2)]) (.int .i64 (k:Int))).run Tryz.prog w = .ok (.int .i64 (f k)) w:=by
 rcases(by omega:k=0∨k=1∨k=2) with rfl | rfl | rfl
 all_goals kernel_rfl
theorem El {f:Nat→Int} (c:bM (f 0)=true) (b:bM (f 1)=true) (a:bM (f 2)=true) (k:Nat) (d:k<3):(f k != hold (f k))=false:=by
 rw[bne_eq_false_iff_eq,←beq_iff_eq,uU]
 rcases(by omega:k=0∨k=1∨k=2) with rfl | rfl | rfl<;>assumption
theorem uk {nm:ByteArray} (b:1≤nm.size) (a:nm.size≤24):bY nm.data.toList=true:=by
 unfold bY
 rw[decide_eq_true_eq,Array.length_toList]
 exact⟨b,a⟩
theorem tv:(Tryz.prog.info? 2).map (fun i=>(i.zero,i.size,i.bytes))=some (some (.int .i64 0),1,8):=by kernel_rfl
theorem xy (d:Nat) (f:Nat→Int) (w:World):(Op.equalIn (d+2) 88 (.agg #[.int .i64 (f 0),.int .i64 (f 1),.int .i64 (f 2),.int .i64 (f 3),.int .i64 (f 4),.int .i64 (f 5),.int .i64 (f 6),.int .i64 (f 7),.int .i64 (f 8)]) (.agg #[.int .i64 (f 0),.int .i64 (f 1),.int .i64 (f 2),.int .i64 (f 3),.int .i64 (f 4),.int .i64 (f 5),.int .i64 (f 6),.int .i64 (f 7),.int .i64 (f 8)])).run Tryz.prog w = .ok true w:=by
 obtain⟨b,a,_⟩:=info_parts tv
 have hC:Tryz.prog.cellsOf 2=1:=by kernel_rfl
 rw[run_equalIn_array w (d+1) _ _ Tryz.underlying88 a]
 simp[Op.eqItems,List.range,List.range.loop,go_sem,hC,run_equalIn_int _ d 2 .i64 .i64 _ _ Tryz.underlying2]
theorem DU (d:Nat) (f:Nat→Int) (w:World):(Op.equalIn (d+2) 93 (.agg #[.int .i64 (f 0),.int .i64 (f 1),.int .i64 (f 2)]) (.agg #[.int .i64 (f 0),.int .i64 (f 1),.int .i64 (f 2)])).run Tryz.prog w = .ok true w:=by
 obtain⟨b,a,_⟩:=info_parts tv
 have hC:Tryz.prog.cellsOf 2=1:=by kernel_rfl
 rw[run_equalIn_array w (d+1) _ _ Tryz.underlying93 a]
 simp[Op.eqItems,List.range,List.range.loop,go_sem,hC,run_equalIn_int _ d 2 .i64 .i64 _ _ Tryz.underlying2]
set_option maxHeartbeats 1000000 in
theorem gj (c:Cmp) (A:Option Addr) (n G:Nat) (X:List Nat) (w:World) (hX:XOk X w) (g:ay w X A n c.cells) (q:dR c):
 Calls Tryz.prog 196 #[.agg (cD c A n G).toArray] w fun e w'=>e = .returned (.bool true)∧Below w.heap.size w w':=by
 obtain⟨nm,role,mode,wd,sl,cells,h,z,room,has,D⟩:=c
 obtain⟨⟨H,F⟩,⟨l,p,o⟩,u⟩:=q
 simp only at H F l p o u g
 simp only[cD]
 have s:=uk H F
 have y:nm.size≤maxLen:=by unfold maxLen;omega
 have N:=Lib.hid u
 have x:=Lib.hid g.1
 go_enter Tryz.func196,Tryz.ntmps196
 go_wp2_with fail
 refine(hstart hX).cl fun W K=>?_
 have K:=K.k0 (f:=ay.fact A n cells) g
 clear g u
 refine(gQ nm _ y).mono ?_
 rw[s]
 rintro e O ⟨rfl,rfl⟩
 have c0:=K.r 0 rfl
 go_wp2
 clear c0
 have HI:=fun k B W=>Lib.hid (GR D k B W)
 have J:=Lib.hid (El l p o)
 clear l p o
 go_loop [11] (fun i => ∃ k:Nat,k≤3∧i = .int .i64 k) (fun i=>3-(intOf i).toNat)
 case atStart=>exact⟨0,Nat.zero_le _,rfl⟩
 case round=>
  obtain⟨k,B,rfl⟩:=hrel
  by_cases d:k<3
  ·have hidx:=fun W=>(HI k d W).out
   have m:=J.out k d
   generalize D k=v at hidx m
   go_wp2_with (go_at_call 244;refine(mZ _ _).mono ?_;rintro e w' ⟨rfl,rfl⟩)
   go_round
   case rel=>exact⟨k+1,by omega,by go_num⟩
   case measure=>simp[intOf];omega
  ·obtain rfl:k=3:=by omega
   have c0:=K.r 0 rfl
   rcases N.out with⟨rfl,I,M,j,hh,rfl,rfl⟩ | ⟨rfl,rfl,rfl,rfl,rfl,C,rfl,a⟩ | ⟨rfl,I,M,rfl,rfl,rfl,hh,a⟩
   ·have E:n≤16:=by have:=cI j;have:=x.out;omega
    have L:=Lib.hid j;have HH:=Lib.hid hh
    clear j hh
    go_wp2_with fail
    refine K.cl fun W K=>?_
    clear c0
    refine(tX wd sl A n G W.heap.size cells W (K.fa 0 rfl).rd (Nat.le_refl _) (by omega)).mono ?_
    rw[L.out]
    rintro e b ⟨rfl,a⟩
    have K:=K.on a
    clear a
    have c0:=K.r 0 rfl
    go_wp2_with fail
    refine K.cl fun W K=>?_
    clear c0
    refine(eS h z _).mono ?_
    rw[HH.out]
    rintro e b ⟨rfl,a⟩
    have K:=K.on a
    clear a
    have c0:=K.r 0 rfl
    go_wp2
    go_ret
    exact⟨rfl,K.below⟩
   ·obtain rfl:h=fun _=>0:=funext C
    have t:=Lib.hid a
    obtain rfl:n=0:=x.out
    have hA:=fun W=>xy 9997 (fun _=>0) W
    simp only[Nat.reduceAdd]at hA
    clear a C
    go_wp2_with fail
    refine K.cl fun W K=>?_
    clear c0
    refine(AY _ _ _).mono ?_
    rintro e b ⟨rfl,a⟩
    have K:=K.on a
    clear a
    have c0:=K.r 0 rfl
    go_wp2_with fail
    refine K.cl fun W K=>?_
    clear c0
    refine(jH _ _ _).mono ?_
    rw[t.out]
    rintro e b ⟨rfl,a⟩
    have K:=K.on a
    go_wp2
    go_ret
    exact⟨rfl,K.below⟩
   ·have t:=Lib.hid a;have HH:=Lib.hid hh
    obtain rfl:n=0:=x.out
    clear a hh
    go_wp2_with fail
    refine K.cl fun W K=>?_
    clear c0
    refine(AY _ _ _).mono ?_
    rintro e b ⟨rfl,a⟩
    have K:=K.on a
    clear a
    have c0:=K.r 0 rfl
    go_wp2_with fail
    refine K.cl fun W K=>?_
    clear c0
    refine(eS h z _).mono ?_
    rw[HH.out]
    rintro e b ⟨rfl,a⟩
    have K:=K.on a
    clear a
    have c0:=K.r 0 rfl
    go_wp2_with fail
    refine K.cl fun W K=>?_
    clear c0
    refine(jH _ _ _).mono ?_
    rw[t.out]
    rintro e b ⟨rfl,a⟩
    have K:=K.on a
    go_wp2
    go_ret
    exact⟨rfl,K.below⟩
end
section
open Go.RowKit
theorem wZ (k:Int) (w:World):Calls Tryz.prog 57 #[.int .i64 k] w fun e w'=>e = .returned (.int .i64 (cu k))∧w=w':=by
 by_cases c:k<1
 ·go_enter Tryz.func57,Tryz.ntmps57
  go_wp2
  go_ret
  exact⟨gu (by unfold cu;rw[if_pos (.inl c)];rfl),rfl⟩
 by_cases d:10<k
 ·go_enter Tryz.func57,Tryz.ntmps57
  go_wp2
  go_ret
  exact⟨gu (by unfold cu;rw[if_pos (.inr d)];rfl),rfl⟩
 by_cases a:k=2
 ·subst a
  go_enter Tryz.func57,Tryz.ntmps57
  go_wp2
  go_ret
  exact⟨rfl,rfl⟩
 by_cases b:k=3
 ·subst b
  go_enter Tryz.func57,Tryz.ntmps57
  go_wp2
  go_ret
  exact⟨rfl,rfl⟩
 have g:(k == 2)=false:=by rw[beq_eq_false_iff_ne];exact a
 have h:(k == 3)=false:=by rw[beq_eq_false_iff_ne];exact b
 have f:=Lib.hid (show cu k=1 from by unfold cu;rw[if_neg (by omega),if_neg a,if_neg b])
 clear a b
 go_enter Tryz.func57,Tryz.ntmps57
 go_wp2
 go_ret
 exact⟨gu (by rw[f.out];rfl),rfl⟩
theorem nH (k:Int) (w:World):Calls Tryz.prog 214 #[.int .i64 k] w fun e w'=>e = .returned (.int .i64 (dw k))∧w=w':=by
 by_cases a:k=1∨k=2∨k=3∨k=4∨k=5∨k=6∨k=7∨k=8∨k=9∨k=10
 ·rcases a with rfl | rfl | rfl | rfl | rfl | rfl | rfl | rfl | rfl | rfl <;>
  (go_enter Tryz.func214,Tryz.ntmps214
   go_wp2
   go_ret
   exact⟨rfl,rfl⟩)
 ·have i:(k == 1)=false:=by rw[beq_eq_false_iff_ne];omega
  have j:(k == 2)=false:=by rw[beq_eq_false_iff_ne];omega
  have n:(k == 3)=false:=by rw[beq_eq_false_iff_ne];omega
  have l:(k == 4)=false:=by rw[beq_eq_false_iff_ne];omega
  have m:(k == 5)=false:=by rw[beq_eq_false_iff_ne];omega
  have f:(k == 6)=false:=by rw[beq_eq_false_iff_ne];omega
  have h:(k == 7)=false:=by rw[beq_eq_false_iff_ne];omega
  have g:(k == 8)=false:=by rw[beq_eq_false_iff_ne];omega
  have d:(k == 9)=false:=by rw[beq_eq_false_iff_ne];omega
  have c:(k == 10)=false:=by rw[beq_eq_false_iff_ne];omega
  have b:=Lib.hid (show dw k = -1 from by unfold dw;rw[if_neg (by omega),if_neg (by omega),if_neg (by omega),if_neg (by omega)])
  clear a
  go_enter Tryz.func214,Tryz.ntmps214
  go_wp2
  go_ret
  exact⟨gu (by rw[b.out]),rfl⟩
end
section
open Go.RowKit
abbrev Gu (b:(Int×Int)×(Int×Int)×(Int×Int)):Array Value:=#[.int .i64 b.1.1,.int .i64 b.1.2,.int .i64 b.2.1.1,.int .i64 b.2.1.2,.int .i64 b.2.2.1,.int .i64 b.2.2.2]
theorem Dl (k:Int) (w:World):Calls Tryz.prog 123 #[.int .i64 k] w fun e w'=>e = .returned (.agg (Gu (jg k)))∧Below w.heap.size w w':=by
 by_cases a:k=1∨k=2∨k=3∨k=4∨k=8∨k=10
 ·rcases a with rfl | rfl | rfl | rfl | rfl | rfl <;>
  (go_enter Tryz.func123,Tryz.ntmps123
   go_wp2
   refine bodyPost_ret (v := .agg #[_,_,_,_,_,_]) (by simp[results,Tryz.results123,go_sem];exact⟨rfl,rfl,rfl,rfl,rfl,rfl⟩) rfl ⟨rfl,?_⟩
   (repeat (first | exact Below.refl _ _ | refine Below.setCell ?_ (by simp) _ | refine Below.alloc ?_ (by simp) _)))
 ·have f:(k == 1)=false:=by rw[beq_eq_false_iff_ne];omega
  have g:(k == 2)=false:=by rw[beq_eq_false_iff_ne];omega
  have i:(k == 3)=false:=by rw[beq_eq_false_iff_ne];omega
  have h:(k == 4)=false:=by rw[beq_eq_false_iff_ne];omega
  have d:(k == 8)=false:=by rw[beq_eq_false_iff_ne];omega
  have b:(k == 10)=false:=by rw[beq_eq_false_iff_ne];omega
  have c:=Lib.hid (show jg k=((0,2147483647),(0,0),(0,0)) from by unfold jg;rw[if_neg (by omega),if_neg (by omega),if_neg (by omega),if_neg (by omega),if_neg (by omega)])
  clear a
  go_enter Tryz.func123,Tryz.ntmps123
  go_wp2
  rw[c.out]
  refine bodyPost_ret (v := .agg #[_,_,_,_,_,_]) (by simp[results,Tryz.results123,go_sem]) rfl ⟨rfl,?_⟩
  (repeat (first | exact Below.refl _ _ | refine Below.setCell ?_ (by simp) _ | refine Below.alloc ?_ (by simp) _))
theorem Fu (d c e b a b6:Int) (w:World):
 (Instr.index 207 (.agg #[.int .i64 d,.int .i64 c,.int .i64 e,.int .i64 b,.int .i64 a,.int .i64 b6]) (.int .i64 0)).run Tryz.prog w = .ok (.agg #[.int .i64 d,.int .i64 c]) w ∧
 (Instr.index 207 (.agg #[.int .i64 d,.int .i64 c,.int .i64 e,.int .i64 b,.int .i64 a,.int .i64 b6]) (.int .i64 1)).run Tryz.prog w = .ok (.agg #[.int .i64 e,.int .i64 b]) w ∧
 (Instr.index 207 (.agg #[.int .i64 d,.int .i64 c,.int .i64 e,.int .i64 b,.int .i64 a,.int .i64 b6]) (.int .i64 2)).run Tryz.prog w = .ok (.agg #[.int .i64 a,.int .i64 b6]) w:=⟨by kernel_rfl,by kernel_rfl,by kernel_rfl⟩
set_option maxHeartbeats 4000000 in
theorem AS (c:Evt) (w:World):Calls Tryz.prog 59 #[.agg (evA c)] w fun e w'=>e = .returned (.bool (dL c))∧Below w.heap.size w w':=by
 have d:Hid (dL c=((decide ((jg c.k).1.1≤c.x)&&decide (c.x≤(jg c.k).1.2))&&(decide ((jg c.k).2.1.1≤c.y)&&decide (c.y≤(jg c.k).2.1.2))&&(decide ((jg c.k).2.2.1≤c.z)&&decide (c.z≤(jg c.k).2.2.2)))):=rfl
 have o:=fun W=>Lib.hid (Dl c.k W)
 obtain⟨q,a,k,A,x,y,z⟩:=c
 simp only at d o
 generalize dL _=r at d
 generalize jg k=b at d o
 obtain⟨⟨j,i⟩,⟨m,n⟩,⟨l,b6⟩⟩:=b
 simp only at d o
 go_enter Tryz.func59,Tryz.ntmps59
 go_wp2_with fail
 refine((o _).out).mono ?_
 rintro e h ⟨rfl,g⟩
 have f:=Lib.hid g
 dsimp only[Gu]
 have C:=fun W=>(Fu j i m n l b6 W).1
 have t:=fun W=>(Fu j i m n l b6 W).2.1
 have B:=fun W=>(Fu j i m n l b6 W).2.2
 have c0:h.cell? ⟨w.heap.size+1,0,none⟩=some (.int .i64 x):=by rw[g.cell (by simp)];simp[go_sem]
 have D:h.cell? ⟨w.heap.size+1,1,none⟩=some (.int .i64 y):=by rw[g.cell (by simp)];simp[go_sem]
 have F:h.cell? ⟨w.heap.size+1,2,none⟩=some (.int .i64 z):=by rw[g.cell (by simp)];simp[go_sem]
 have p:=g.size
 simp at p
 have H:w.heap.size+1<h.heap.size:=by omega
 have s:w.heap.size<h.heap.size:=by omega
 have u:w.heap.size<h.heap.size+1:=by omega
 have v:w.heap.size+1<h.heap.size+2:=by omega
 have f:=Lib.hid (((Below.refl w.heap.size w).alloc (Nat.le_refl _) (.cells #[.int .i64 q,.int .i64 a,.int .i64 k,.string A,.int .i64 x,.int .i64 y,.int .i64 z] 44)).alloc (by simp) (.cells #[.int .i64 x,.int .i64 y,.int .i64 z] 93) |>.trans (g.mono (by simp;omega)))
 clear g
 go_wp2_with fail
 refine wp_loop_rounds 4 ?_
 by_cases L:x<j
 ·skip
  rw[rounds_succ]
  go_wp2
  go_quiet (fail)
  go_wp2
  go_ret
  refine⟨gi ?_,?_⟩
  ·rw[d.out];rw[show decide (j≤x)=false from decide_eq_false (by omega)];simp
  ·(repeat (first | refine below_drewN ?_ _ | refine Below.setCell ?_ (by first | omega | (simp;omega)) _ | refine Below.alloc ?_ (by first | omega | (simp;omega)) _ | exact f.out))
 by_cases I:i<x
 ·skip
  rw[rounds_succ]
  go_wp2
  go_quiet (fail)
  go_wp2
  go_ret
  refine⟨gi ?_,?_⟩
  ·rw[d.out];rw[show decide (x≤i)=false from decide_eq_false (by omega)];simp
  ·(repeat (first | refine below_drewN ?_ _ | refine Below.setCell ?_ (by first | omega | (simp;omega)) _ | refine Below.alloc ?_ (by first | omega | (simp;omega)) _ | exact f.out))
 rw[rounds_succ]
 go_wp2
 go_quiet (fail)
 go_wp2
 by_cases K:y<m
 ·skip
  rw[rounds_succ]
  go_wp2
  go_quiet (fail)
  go_wp2
  go_ret
  refine⟨gi ?_,?_⟩
  ·rw[d.out];rw[show decide (m≤y)=false from decide_eq_false (by omega)];simp
  ·(repeat (first | refine below_drewN ?_ _ | refine Below.setCell ?_ (by first | omega | (simp;omega)) _ | refine Below.alloc ?_ (by first | omega | (simp;omega)) _ | exact f.out))
 by_cases G:n<y
 ·skip
  rw[rounds_succ]
  go_wp2
  go_quiet (fail)
  go_wp2
  go_ret
  refine⟨gi ?_,?_⟩
  ·rw[d.out];rw[show decide (y≤n)=false from decide_eq_false (by omega)];simp
  ·(repeat (first | refine below_drewN ?_ _ | refine Below.setCell ?_ (by first | omega | (simp;omega)) _ | refine Below.alloc ?_ (by first | omega | (simp;omega)) _ | exact f.out))
 rw[rounds_succ]
 go_wp2
 go_quiet (fail)
 go_wp2
 by_cases J:z<l
 ·skip
  rw[rounds_succ]
  go_wp2
  go_quiet (fail)
  go_wp2
  go_ret
  refine⟨gi ?_,?_⟩
  ·rw[d.out];rw[show decide (l≤z)=false from decide_eq_false (by omega)];simp
  ·(repeat (first | refine below_drewN ?_ _ | refine Below.setCell ?_ (by first | omega | (simp;omega)) _ | refine Below.alloc ?_ (by first | omega | (simp;omega)) _ | exact f.out))
 by_cases E:b6<z
 ·skip
  rw[rounds_succ]
  go_wp2
  go_quiet (fail)
  go_wp2
  go_ret
  refine⟨gi ?_,?_⟩
  ·rw[d.out];rw[show decide (z≤b6)=false from decide_eq_false (by omega)];simp
  ·(repeat (first | refine below_drewN ?_ _ | refine Below.setCell ?_ (by first | omega | (simp;omega)) _ | refine Below.alloc ?_ (by first | omega | (simp;omega)) _ | exact f.out))
 rw[rounds_succ]
 go_wp2
 go_quiet (fail)
 go_wp2
 rw[rounds_succ]
 go_wp2
 go_ret
 refine⟨gi ?_,?_⟩
 ·rw[d.out];simp;omega
 ·(repeat (first | refine below_drewN ?_ _ | refine Below.setCell ?_ (by first | omega | (simp;omega)) _ | refine Below.alloc ?_ (by first | omega | (simp;omega)) _ | exact f.out))
end
section
open Go.RowKit
def byteCells (bs:List UInt8):List Value:=bs.map (fun x=>Value.int .u8 (x.toNat:Int))
def bE (bs:List UInt8):List Nat:=bs.map UInt8.toNat
theorem kJ (bs:List UInt8):∀ x ∈ bE bs,x<256:=by
 intro x a
 obtain⟨b,_,rfl⟩:=List.mem_map.1 a
 exact b.toNat_lt
theorem nQ (a b:List UInt8):bE (a++b)=bE a++bE b:=by simp[bE]
theorem qz (a:List UInt8) (k:Nat):bE (a.take k)=(bE a).take k:=by simp[bE]
theorem dj (a:List UInt8):(bE a).length=a.length:=by simp[bE]
theorem Au {a b:List UInt8} (h:bE a=bE b):a=b:=by
 induction a generalizing b with
 | nil=>cases b with
   | nil=>rfl
   | cons y b=>simp[bE]at h
 | cons x a ih=>cases b with
   | nil=>simp[bE]at h
   | cons y b=>
     simp only[bE,List.map_cons,List.cons.injEq]at h
     rw[UInt8.toNat_inj.1 h.1,ih h.2]
theorem byteCells_append (a b:List UInt8):byteCells (a++b)=byteCells a++byteCells b:=by simp[byteCells]
theorem byteCells_one (bs:List UInt8):∀ u ∈ byteCells bs,u.oneCell'=true:=by
 intro u a
 obtain⟨s,_,rfl⟩:=List.mem_map.1 a
 rfl
theorem oS (bs:List UInt8) (k:Nat):byteCells (bs.take k)=(byteCells bs).take k:=by simp[byteCells]
theorem oE (bs:List UInt8) (k:Nat):byteCells (bs.drop k)=(byteCells bs).drop k:=by simp[byteCells]
theorem qt (zs:List Int) (h:∀ z ∈ zs,(Lit.int .u8 z).wf=true):∃ bs:List UInt8,zs.map (Value.int .u8)=byteCells bs:=by
 refine⟨zs.map (fun z=>UInt8.ofNat z.toNat),?_⟩
 unfold byteCells
 rw[List.map_map]
 refine List.map_congr_left (fun z a=>?_)
 have b:=bounds_u8 (h z a)
 simp only[Function.comp,UInt8.toNat_ofNat']
 congr 1
 omega
theorem Dq {w:World} {A:Option Addr} {n c:Nat} {zs:List Int} (h:vF .u8 w A n c zs):∃ bs:List UInt8,Reads w w.heap.size 1 A n (byteCells bs)∧n≤c∧c≤maxLen∧(A=none→c=0):=by
 obtain⟨b,d,a,f,g⟩:=h
 obtain⟨bs,e⟩:=qt zs g
 exact⟨bs,e ▸ b,d,a,f⟩
theorem Reads.byte_at {w:World} {B n k:Nat} {A:Option Addr} {bs:List UInt8} (h:Reads w B 1 A n (byteCells bs)) (e:k<n):∃ ad x,A=some ad∧ad.block<B∧bs[k]?=some x∧w.cell? (ad.add k)=some (.int .u8 (x.toNat:Int)):=by
 obtain⟨ad,u,rfl,a,c,d⟩:=h.at_ e
 obtain⟨s,b,rfl⟩:∃ s,bs[k]?=some s∧Value.int .u8 (s.toNat:Int)=u:=by simpa [byteCells] using c
 exact⟨ad,s,rfl,a,b,d⟩
theorem Reads.preB {w:World} {B n k:Nat} {A:Option Addr} {bs:List UInt8} (h:Reads w B 1 A n (byteCells bs)) (f:k≤n):Reads w B 1 A k (byteCells (bs.take k)):=by
 have e:bs.length=n:=by simpa [byteCells] using h.1
 refine⟨by simp[byteCells];omega,fun c=>?_⟩
 obtain⟨ad,rfl,b,d⟩:=h.2 (by omega)
 refine⟨ad,rfl,b,fun j u a=>d j u ?_⟩
 rw[oS,List.getElem?_take]at a
 split at a
 ·exact a
 ·cases a
theorem Reads.sufB {w:World} {B n k cap:Nat} {A:Option Addr} {bs:List UInt8} (h:Reads w B 1 A n (byteCells bs)) (b:k≤n) (a:n≤cap):Reads w B 1 (if cap=k then A else A.map (·.add k)) (n-k) (byteCells (bs.drop k)):=by
 have:=h.cut (k:=k) (cap:=cap) b a
 rw[oE]
 simpa using this
theorem Reads.lenB {w:World} {B n:Nat} {A:Option Addr} {bs:List UInt8} (h:Reads w B 1 A n (byteCells bs)):bs.length=n:=by simpa [byteCells] using h.1
theorem lT {w:World} {B n:Nat} {A:Option Addr} {bs:List UInt8} (h:Reads w B 1 A n (byteCells bs)) (c:Nat):(convert 50 9 (.slice A n c)).run Tryz.prog w = .ok (.string ⟨bs.toArray⟩) w:=by
 have b:=h.lenB
 rcases A with _ | ad
 ·have i:n=0:=by
   rcases Nat.eq_zero_or_pos n with a | a
   ·exact a
   ·obtain⟨_,e,_⟩:=h.2 a;cases e
  subst i
  have:bs = []:=List.eq_nil_of_length_eq_zero b
  subst this
  exact Lib.run_convert_nil_bytes w _ _ _ c Tryz.underlying50 Tryz.underlying5 Tryz.underlying9
 ·subst b
  refine run_convert_bytes_back w _ _ _ ad c bs Tryz.underlying50 Tryz.underlying5 Tryz.underlying9 (fun j d=>?_)
  obtain⟨g,e,_,f⟩:=h.2 (by omega)
  cases e
  exact f j _ (by simp[byteCells,List.getElem?_eq_getElem d])
theorem Tryz.infoU8:(Tryz.prog.info? 5).map (fun i=>(i.zero,i.size,i.bytes))=some (some (.int .u8 0),1,1):=by kernel_rfl
theorem tg (A:Option Addr) (n c B:Nat) (bs:List UInt8) (w:World) (d:Reads w B 1 A n (byteCells bs)) (hB:B≤w.heap.size) (x:n≤1000000):
 Calls Tryz.prog 226 #[.slice A n c] w fun e w' => ∃ v,e = .returned v∧w'.ownsRow w.heap.size 5 1 v n (byteCells bs)∧Below w.heap.size w w':=by
 have q:∀ (w:World) (a:Option Addr) (n c n' c':Nat),(binOp .eql 50 (.slice a n c) (.slice none n' c')).run Tryz.prog w = .ok (.bool a.isNone) w:=fun w a n c n' c'=>Lib.run_eql_slice_nil w _ _ a n c n' c' Tryz.underlying50
 obtain⟨r,k,l,f,g⟩:=info_parts Tryz.infoU8
 rcases A with _ | ad
 ·have i:n=0:=by
   rcases Nat.eq_zero_or_pos n with h | h
   ·exact h
   ·obtain⟨_,h,_⟩:=d.2 h;cases h
  subst i
  have m:byteCells bs = []:=List.eq_nil_of_length_eq_zero (by simpa using d.1)
  have p:=Lib.hid m;clear m d
  go_enter Tryz.func226,Tryz.ntmps226
  go_wp2
  go_ret
  exact⟨_,rfl,⟨by rw[p.out];rfl,.inl ⟨rfl,rfl⟩⟩,Below.refl _ _⟩
 ·have s:=Lib.hid d;clear d
  go_enter Tryz.func226,Tryz.ntmps226
  go_wp2_with (at_builtin;go_must (refine bf _ rfl _ _ 50 rfl w.heap.size 5 r _ 1 1 Tryz.underlying50 k l f g rfl (by omega) _ 0 [] rfl (cY w 5 w.heap.size (Nat.le_refl _) 1) B (some ad) n c _ rfl (s.out.alloc hB _) (byteCells_one bs) (by unfold maxLen;omega) (by omega) (by simp) ?_);intro t u b j o)
  go_ret
  exact⟨t,rfl,by simpa using b,cX ((Below.refl _ _).alloc (Nat.le_refl _) _) j (cY w 5 w.heap.size (Nat.le_refl _) 1) (Nat.le_refl _) (by simp)⟩
end
section
def kT (n:Nat):List Nat:=if n<128 then [n] else(n%128+128)::kT (n/128)
termination_by n
decreasing_by omega
def cq (i:Nat):List Nat→Nat×Nat×Nat
 | []=>if 10≤i then(11,0,0) else(10,0,0)
 | x::l=>if 10≤i then(11,0,0) else
   if 128≤x then(if(cq (i+1) l).1=0 then(0,x-128+128*(cq (i+1) l).2.1,(cq (i+1) l).2.2+1) else cq (i+1) l)
   else if(i=9∧1<x)∨(0<i∧x=0) then(11,0,0) else(0,x,1)
theorem fR {n:Nat} (h:n<128):kT n = [n]:=by rw[kT,if_pos h]
theorem jt {n:Nat} (h:128≤n):kT n=(n%128+128)::kT (n/128):=by rw[kT,if_neg (by omega)]
theorem Eb (n:Nat):∀ x ∈ kT n,x<256:=by
 induction n using Nat.strongRecOn with
 | ind n ih=>
   intro x a
   by_cases h:n<128
   ·rw[fR h]at a;simp at a;omega
   ·rw[jt (by omega)]at a
    rcases List.mem_cons.1 a with rfl | a
    ·omega
    ·exact ih _ (by omega) x a
theorem BF (k:Nat):∀ n,n<128^(k+1)→(kT n).length≤k+1:=by
 induction k with
 | zero=>intro n h;rw[fR (by simpa using h)];simp
 | succ k ih=>
   intro n h
   by_cases a:n<128
   ·rw[fR a];simp
   ·rw[jt (by omega)]
    have:=ih (n/128) (by rw[Nat.div_lt_iff_lt_mul (by omega)];rw[Nat.pow_succ]at h;exact h)
    simp;exact this
theorem vG (n:Nat) (h:n<18446744073709551616):(kT n).length≤10:=BF 9 n (Nat.lt_of_lt_of_le h (by decide))
theorem vJ (rest:List Nat):∀ (n i:Nat),i≤9→n*128^i<18446744073709551616→(0<i→0<n)→cq i (kT n++rest)=(0,n,(kT n).length):=by
 intro n
 induction n using Nat.strongRecOn with
 | ind n ih=>
   intro i g d c
   by_cases h:n<128
   ·rw[fR h]
    simp only[List.singleton_append,cq,List.length_singleton]
    rw[if_neg (by omega),if_neg (by omega),if_neg]
    rintro(⟨rfl,a⟩ | ⟨a,f⟩)
    ·have:(2:Nat)*128^9≤n*128^9:=Nat.mul_le_mul_right _ (by omega)
     omega
    ·have:=c a;omega
   ·have b:i≠9:=by
     rintro rfl
     have:(128:Nat)*128^9≤n*128^9:=Nat.mul_le_mul_right _ (by omega)
     omega
    have e:=ih (n/128) (by omega) (i+1) (by omega) (by
     rw[Nat.pow_succ]
     have a:n/128*(128^i*128)=(n/128*128)*128^i:=by ac_rfl
     rw[a]
     exact Nat.lt_of_le_of_lt (Nat.mul_le_mul_right _ (by omega)) d) (by omega)
    rw[jt (by omega)]
    simp only[List.cons_append,cq]
    rw[if_neg (by omega),if_pos (by omega),e]
    simp
    omega
theorem lN (l:List Nat) (e:∀ x ∈ l,x<256):∀ (i n s:Nat),i≤10→cq i l=(0,n,s)→s≤l.length∧kT n=l.take s∧n*128^i<18446744073709551616∧(0<i→0<n)∧0<s:=by
 induction l with
 | nil=>intro i n s o h;unfold cq at h;split at h<;>simp at h
 | cons x l ih=>
   intro i n s o h
   unfold cq at h
   split at h
   ·simp at h
   ·rename_i d
    split at h
    ·rename_i v
     split at h
     ·rename_i b
      simp only[Prod.mk.injEq,true_and]at h
      obtain⟨rfl,rfl⟩:=h
      obtain⟨a1,u,a,p,z⟩:=ih (fun y hy=>e y (List.mem_cons_of_mem _ hy)) (i+1) (cq (i+1) l).2.1 (cq (i+1) l).2.2 (by omega) (by rw[←b])
      generalize (cq (i+1) l).2.1=m at *
      generalize (cq (i+1) l).2.2=k at *
      have c:=e x (List.mem_cons_self ..)
      have A:=p (by omega)
      refine⟨by simp;omega,?_,?_,fun _=>by omega,by omega⟩
      ·rw[jt (by omega),show(x-128+128*m)/128=m from by omega,show(x-128+128*m)%128+128=x from by omega,u];rfl
      ·rw[Nat.pow_succ]at a
       have f:m*(128^i*128)=(m*128)*128^i:=by ac_rfl
       rw[f]at a
       have g:∃ q,18446744073709551616=q*128^i∧q%128=0∨i=9:=by
        rcases(by omega:i=0∨i=1∨i=2∨i=3∨i=4∨i=5∨i=6∨i=7∨i=8∨i=9) with rfl | rfl | rfl | rfl | rfl | rfl | rfl | rfl | rfl | rfl
        ·exact⟨2^64,.inl (by decide)⟩
        ·exact⟨2^57,.inl (by decide)⟩
        ·exact⟨2^50,.inl (by decide)⟩
        ·exact⟨2^43,.inl (by decide)⟩
        ·exact⟨2^36,.inl (by decide)⟩
        ·exact⟨2^29,.inl (by decide)⟩
        ·exact⟨2^22,.inl (by decide)⟩
        ·exact⟨2^15,.inl (by decide)⟩
        ·exact⟨2^8,.inl (by decide)⟩
        ·exact⟨0,.inr rfl⟩
       obtain⟨q,⟨w,r⟩ | h9⟩:=g
       ·have hpos:0<128^i:=Nat.pow_pos (by omega)
        rw[w]at a ⊢
        have:=Nat.lt_of_mul_lt_mul_right a
        exact Nat.mul_lt_mul_of_pos_right (by omega) hpos
       ·subst h9
        exfalso
        have j:(128:Nat)*128^9≤m*128*128^9:=Nat.mul_le_mul_right _ (by omega)
        have t:=Nat.lt_of_le_of_lt j a
        exact absurd t (by decide)
     ·rename_i b
      rw[h]at b
      exact absurd rfl b
    ·split at h
     ·simp at h
     ·rename_i f
      simp only[Prod.mk.injEq,true_and]at h
      obtain⟨rfl,rfl⟩:=h
      refine⟨by simp,by rw[fR (by omega)];simp,?_,fun B=>by omega,by omega⟩
      have v:x<128:=by omega
      rcases(by omega:i=0∨i=1∨i=2∨i=3∨i=4∨i=5∨i=6∨i=7∨i=8∨i=9) with rfl | rfl | rfl | rfl | rfl | rfl | rfl | rfl | rfl | rfl<;>omega
def gL:List Nat→Nat
 | []=>0
 | x::l=>x%128+128*gL l
theorem zQ (l:List Nat) (x:Nat):gL (l ++ [x])=gL l+128^l.length*(x%128):=by
 induction l with
 | nil=>simp[gL]
 | cons y l ih=>
   simp only[List.cons_append,gL,ih,List.length_cons,Nat.pow_succ]
   rw[Nat.mul_add]
   have:128^l.length*128*(x%128)=128*(128^l.length*(x%128)):=by ac_rfl
   omega
theorem xG (l:List Nat):gL l<128^l.length:=by
 induction l with
 | nil=>simp[gL]
 | cons x l ih=>simp only[gL,List.length_cons,Nat.pow_succ];omega
theorem Ab (l:List Nat) (d:∀ x ∈ l,x<256):∀ (i k x:Nat),i+k≤9→(∀ (j:Nat) y,j<k→l[j]?=some y→128≤y)→l[k]?=some x→x<128 →
 cq i l=if(i+k=9∧1<x)∨(0<i+k∧x=0) then(11,0,0) else(0,gL (l.take (k+1)),k+1):=by
 induction l with
 | nil=>intro i k x _ _ h;simp at h
 | cons y l ih=>
   intro i k x g hall a f
   cases k with
   | zero=>
     simp at a
     subst a
     unfold cq
     rw[if_neg (by omega),if_neg (by omega)]
     simp[gL,Nat.mod_eq_of_lt f]
   | succ k=>
     have hy:=hall 0 y (by omega) rfl
     have m:=d y (List.mem_cons_self ..)
     have e:=ih (fun z b=>d z (List.mem_cons_of_mem _ b)) (i+1) k x (by omega) (fun j z n b=>hall (j+1) z (by omega) (by simpa using b)) (by simpa using a) f
     unfold cq
     rw[if_neg (by omega),if_pos hy,e]
     by_cases c:(i+1+k=9∧1<x)∨(0<i+1+k∧x=0)
     ·rw[if_pos c,if_neg (by simp),if_pos (by omega)]
     ·rw[if_neg c,if_pos rfl,if_neg (by omega)]
      simp only[List.take_succ_cons,gL,Prod.mk.injEq,true_and,and_true]
      omega
theorem uv (l:List Nat):∀ i:Nat,(∀ x ∈ l,128≤x)→i+l.length≤9→cq i l=(10,0,0):=by
 induction l with
 | nil=>intro i _ h;unfold cq;rw[if_neg (by simp at h;omega)]
 | cons x l ih=>
   intro i hall h
   simp at h
   unfold cq
   rw[if_neg (by omega),if_pos (hall x (List.mem_cons_self ..)),ih (i+1) (fun y hy=>hall y (List.mem_cons_of_mem _ hy)) (by omega)]
   simp
theorem vz (l:List Nat):∀ i:Nat,i≤10→(∀ (j:Nat) x,i+j<10→l[j]?=some x→128≤x)→10≤i+l.length→cq i l=(11,0,0):=by
 induction l with
 | nil=>intro i _ _ h;unfold cq;rw[if_pos (by simpa using h)]
 | cons x l ih=>
   intro i c hall h
   simp at h
   unfold cq
   by_cases a:10≤i
   ·rw[if_pos a]
   ·rw[if_neg a,if_pos (hall 0 x (by omega) rfl),ih (i+1) (by omega) (fun j y b hy=>hall (j+1) y (by omega) (by simpa using hy)) (by omega)]
    simp
end
section
open Go.RowKit
theorem byteOf (m:Nat) (h:m<256):((UInt8.ofNat m).toNat:Int)=(m:Int):=by simp;omega
def au (n:Nat):List UInt8:=(kT n).map UInt8.ofNat
theorem Af (l:List Nat) (h:∀ x ∈ l,x<256):bE (l.map UInt8.ofNat)=l:=by
 unfold bE
 rw[List.map_map]
 conv=>rhs;rw[←List.map_id l]
 refine List.map_congr_left (fun x a=>?_)
 have:=h x a
 simp[Function.comp]
 omega
theorem pY (n:Nat):bE (au n)=kT n:=Af _ (Eb n)
theorem iJ (n:Nat):(au n).length=(kT n).length:=by simp[au]
theorem bu (n:Nat) (h:n<18446744073709551616):(au n).length≤10:=by rw[iJ];exact vG n h
theorem va {n:Nat} (h:n<128):au n = [UInt8.ofNat n]:=by unfold au;rw[fR h];rfl
theorem qZ {n:Nat} (h:128≤n):au n=UInt8.ofNat (n%128+128)::au (n/128):=by unfold au;rw[jt h];rfl
theorem Gr:∀ x:Nat,x<256→x ||| 128=x%128+128:=by decide +kernel
theorem CX (m:Nat):bits .or .u8 ((m:Int)%256) 128=((m%128+128:Nat):Int):=by
 rw[show(m:Int)%256=((m%256:Nat):Int) from by omega,show(128:Int)=((128:Nat):Int) from rfl,u8_or_nat _ _ (by omega) (by omega),Gr _ (by omega)]
 congr 1
 omega
theorem qN (A:Option Addr) (n c B:Nat) (bs:List UInt8) (k:Nat) (t:k<18446744073709551616) (w:World) (x:Reads w B 1 A n (byteCells bs)) (hB:B≤w.heap.size) (K:n≤900000):
 Calls Tryz.prog 180 #[.slice A n c,.int .u64 k] w fun e w' => ∃ v,e = .returned v∧w'.ownsRow w.heap.size 5 1 v (n+(au k).length) (byteCells (bs++au k))∧Below w.heap.size w w':=by
 have F:=Lib.hid x;clear x
 have s:=Lib.hid (bu k t)
 obtain⟨u,l,o,f,g⟩:=info_parts Tryz.infoU8
 go_enter Tryz.func180,Tryz.ntmps180
 go_wp2_with fail
 refine(tg A n c B bs _ F.out hB (by omega)).mono ?_
 rintro e G ⟨v,rfl,hown,q⟩
 go_wp2_with fail
 go_loopw [5,1] (fun v nn wr => ∃ (m i:Nat) (pre:List UInt8),nn = .int .u64 m∧Hid (pre.length=i)∧i≤10∧Hid (pre++au m=au k)∧m<18446744073709551616∧wr.ownsRow w.heap.size 5 1 v (n+i) (byteCells (bs++pre))∧Below w.heap.size w wr) (fun _ nn _=>(intOf nn).toNat)
 case atStart=>exact⟨k,0,[],rfl,rfl,by omega,rfl,t,by simpa using hown,q⟩
 case round=>
  obtain⟨m,i,pre,rfl,HI,H,p,I,hown,b⟩:=hrel
  by_cases h:m<128
  ·have D:decide ((128:Int)≤(m:Int))=false:=by simp;omega
   have hmod:(m:Int)%256=(m:Int):=by omega
   go_wp2_with (at_builtin;go_must (refine dZ wr rfl _ _ 50 rfl w.heap.size 5 u _ 1 Tryz.underlying50 l o f g rfl _ _ _ hown rfl _ rfl rfl (by unfold maxLen;omega) (by omega) b.size ?_);intro v' E a d)
   go_ret
   refine⟨v',rfl,?_,cX b d hown (Nat.le_refl _) b.size⟩
   rw[←p.out,va h,List.length_append,HI.out,←List.append_assoc,byteCells_append]
   rw[show byteCells [UInt8.ofNat m] = [.int .u8 (m:Int)] from by simp only[byteCells,List.map_cons,List.map_nil];rw[byteOf _ (by omega)]]
   exact a
  ·have D:decide ((128:Int)≤(m:Int))=true:=by simp;omega
   have C:=CX m
   have y:=Lib.hid (show byteCells (bs++(pre ++ [UInt8.ofNat (m%128+128)]))=byteCells (bs++pre) ++ [.int .u8 ((m%128+128:Nat):Int)] from by
    rw[←List.append_assoc,byteCells_append]
    congr 1
    simp only[byteCells,List.map_cons,List.map_nil]
    rw[byteOf _ (by omega)])
   have r:=Lib.hid (show(pre ++ [UInt8.ofNat (m%128+128)])++au (m/128)=au k from by rw[←p.out,qZ (n:=m) (by omega)];simp)
   have j:i+1≤10:=by
    have z:=congrArg List.length p.out
    have L:=s.out
    have J:=HI.out
    rw[qZ (by omega),List.length_append,List.length_cons]at z
    omega
   go_wp2_with (at_builtin;go_must (refine dZ wr rfl _ _ 50 rfl w.heap.size 5 u _ 1 Tryz.underlying50 l o f g rfl _ _ _ hown rfl _ rfl rfl (by unfold maxLen;omega) (by omega) b.size ?_);intro v' E a d)
   go_roundw
   case rel=>exact⟨m/128,i+1,_,by go_num,(show(pre ++ [UInt8.ofNat (m%128+128)]).length=i+1 from by rw[List.length_append,HI.out];rfl),j,r,by omega,by rw[y.out];exact a,cX b d hown (Nat.le_refl _) b.size⟩
   case measure=>simp[intOf];omega
end
section
open Go.RowKit
def bG (l:List UInt8):List UInt8:=au l.length++l
theorem pn (l:List UInt8):Lib.strCells ⟨l.toArray⟩=byteCells l:=by simp[Lib.strCells,byteCells]
theorem zh (A:Option Addr) (n c B:Nat) (bs l:List UInt8) (w:World) (m:Reads w B 1 A n (byteCells bs)) (hB:B≤w.heap.size) (t:n≤400000) (s:l.length≤400000):
 Calls Tryz.prog 194 #[.slice A n c,.string ⟨l.toArray⟩] w fun e w' => ∃ v,e = .returned v∧w'.ownsRow w.heap.size 5 1 v (n+(bG l).length) (byteCells (bs++bG l))∧Below w.heap.size w w':=by
 have q:=Lib.hid m;clear m
 have h:=Lib.hid (bu l.length (by omega))
 obtain⟨o,i,j,d,g⟩:=info_parts Tryz.infoU8
 go_enter Tryz.func194,Tryz.ntmps194
 go_wp2_with fail
 refine(qN A n c B bs l.length (by omega) _ q.out hB (by omega)).mono ?_
 rintro e r ⟨v,rfl,hown,k⟩
 have p:=h.out
 have b:=k.size
 go_wp2_with (at_builtin;go_must (refine Lib.wpList_append_own_string _ rfl _ _ 50 9 rfl w.heap.size 5 o Tryz.underlying50 Tryz.underlying9 i j d g _ _ _ rfl hown ⟨l.toArray⟩ rfl (by have:(ByteArray.mk l.toArray).size=l.length:=rfl;unfold maxLen;omega) (by have:(ByteArray.mk l.toArray).size=l.length:=rfl;omega) b ?_);intro v' u a f _)
 go_ret
 refine⟨v',rfl,?_,cX k f hown (Nat.le_refl _) b⟩
 unfold bG
 rw[pn,←byteCells_append,List.append_assoc,show(ByteArray.mk l.toArray).size=l.length from rfl,Nat.add_assoc]at a
 rw[List.length_append]
 exact a
theorem cy (A:Option Addr) (n c:Nat) (at_:Int) (w:World) (b:0≤at_) (a:at_≤(n:Int)):Calls Tryz.prog 228 #[.agg #[.slice A n c,.int .i64 at_,.int .i64 0]] w fun e w'=>e = .returned (.bool true)∧Below w.heap.size w w':=by
 have d:decide ((0:Int)≤at_)=true:=by simpa using b
 have f:decide (at_≤(n:Int))=true:=by simpa using a
 go_enter Tryz.func228,Tryz.ntmps228
 go_wp2
 go_ret
 exact⟨rfl,((Below.refl _ _).alloc (Nat.le_refl _) _)⟩
theorem ua (A:Option Addr) (n c:Nat) (at_ err:Int) (w:World) (h:at_<0∨(n:Int)<at_∨err≠0):Calls Tryz.prog 228 #[.agg #[.slice A n c,.int .i64 at_,.int .i64 err]] w fun e w'=>e = .returned (.bool false)∧Below w.heap.size w w':=by
 by_cases b:err=0
 ·subst b
  by_cases f:at_<0
  ·have a:decide ((0:Int)≤at_)=false:=by simpa using f
   clear h
   go_enter Tryz.func228,Tryz.ntmps228
   go_wp2
   go_ret
   exact⟨rfl,((Below.refl _ _).alloc (Nat.le_refl _) _)⟩
  ·have a:decide ((0:Int)≤at_)=true:=by simp;omega
   have d:decide (at_≤(n:Int))=false:=by simp;omega
   clear h
   go_enter Tryz.func228,Tryz.ntmps228
   go_wp2
   go_ret
   exact⟨rfl,((Below.refl _ _).alloc (Nat.le_refl _) _)⟩
 ·have g:(err == 0)=false:=by rw[beq_eq_false_iff_ne];exact b
  clear h
  cases a:decide ((0:Int)≤at_)
  all_goals cases d:decide (at_≤(n:Int))
  all_goals
   go_enter Tryz.func228,Tryz.ntmps228
   go_wp2
   go_ret
   exact⟨rfl,((Below.refl _ _).alloc (Nat.le_refl _) _)⟩
theorem cL (A:Option Addr) (n c:Nat) (at_ a:Int) (w:World):Calls Tryz.prog 229 #[.agg #[.slice A n c,.int .i64 at_,.int .i64 0],.int .i64 a] w fun e w'=>e = .returned (.agg #[.slice A n c,.int .i64 at_,.int .i64 a])∧Below w.heap.size w w':=by
 go_enter Tryz.func229,Tryz.ntmps229
 go_wp2
 exact bodyPost_ret (v := .agg #[.slice A n c,.int .i64 at_,.int .i64 a]) (by simp[results,Tryz.results229,go_sem]) rfl ⟨rfl,((Below.refl _ _).alloc (Nat.le_refl _) _).alloc (by simp) _⟩
theorem Bg (A:Option Addr) (n c:Nat) (at_ err b:Int) (w:World) (a:err≠0):Calls Tryz.prog 229 #[.agg #[.slice A n c,.int .i64 at_,.int .i64 err],.int .i64 b] w fun e w'=>e = .returned (.agg #[.slice A n c,.int .i64 at_,.int .i64 err])∧Below w.heap.size w w':=by
 have d:(err == 0)=false:=by rw[beq_eq_false_iff_ne];exact a
 go_enter Tryz.func229,Tryz.ntmps229
 go_wp2
 exact bodyPost_ret (v := .agg #[.slice A n c,.int .i64 at_,.int .i64 err]) (by simp[results,Tryz.results229,go_sem]) rfl ⟨rfl,((Below.refl _ _).alloc (Nat.le_refl _) _).alloc (by simp) _⟩
theorem rQ (A:Option Addr) (n c:Nat) (w:World) (a:n≤c):Calls Tryz.prog 177 #[.slice A n c] w fun e w'=>e = .returned (.agg #[.slice A n n,.int .i64 0,.int .i64 0])∧Below w.heap.size w w':=by
 go_enter Tryz.func177,Tryz.ntmps177
 go_wp2
 exact bodyPost_ret (v := .agg #[.slice A n n,.int .i64 0,.int .i64 0]) (by simp[results,Tryz.results177,go_sem]) rfl ⟨rfl,((Below.refl _ _).alloc (Nat.le_refl _) _)⟩
theorem gR (A:Option Addr) (n c:Nat) (at_:Int) (w:World) (j:0≤at_) (g:at_≤(n:Int)) (l:n≤9223372036854775807):Calls Tryz.prog 178 #[.agg #[.slice A n c,.int .i64 at_,.int .i64 0]] w fun e w'=>e = .returned (.int .i64 ((n:Int)-at_))∧Below w.heap.size w w':=by
 go_enter Tryz.func178,Tryz.ntmps178
 go_wp2_with fail
 refine(cy A n c at_ _ j g).mono ?_
 rintro e d ⟨rfl,a⟩
 obtain⟨b,f⟩:=gU a
 have k0:d.cell? ⟨w.heap.size,0,none⟩=some (.slice A n c):=by have h:=b w.heap.size 0 (by simp);simpa using h
 have k:d.cell? ⟨w.heap.size,1,none⟩=some (.int .i64 at_):=by have h:=b w.heap.size 1 (by simp);simpa using h
 have i:=Lib.hid (((Below.refl _ _).alloc (Nat.le_refl _) _).trans (a.mono (by simp)))
 clear b f a
 go_wp2
 go_ret
 exact⟨rfl,i.out⟩
end
section
structure Cx where
 q:Int
 a:Int
 ns:List (List UInt8)
def aN (c:Cx):Bool:=decide (0≤c.q)&&decide (c.q≤4294967296)&&decide (0≤c.a)&&decide (c.a≤1099511627776)&&cK c.ns
def eG (c:Cx) (e:Evt):Int:=
 if aN c=false then 1 else if dz e≠0 then dz e else if e.q≤c.q then 1 else if e.a<c.a then 5
 else if placeOf c.ns e.cm.data.toList=0∧c.ns.length=32 then 9 else 0
def aQ (c:Cx) (e:Evt):List UInt8:=
 au e.k.toNat++au (e.q-c.q).toNat++au (e.a-c.a).toNat++au (placeOf c.ns e.cm.data.toList)
  ++ (if placeOf c.ns e.cm.data.toList=0 then bG e.cm.data.toList else [])++(jQ e).flatMap (fun n=>au n.toNat)
def bJ (c:Cx) (e:Evt):Cx:=⟨e.q,e.a,if placeOf c.ns e.cm.data.toList=0 then c.ns ++ [e.cm.data.toList] else c.ns⟩
theorem jZ {c:Cx} {e:Evt} (h:eG c e=0):aN c=true∧dz e=0∧c.q<e.q∧c.a≤e.a ∧ ¬ (placeOf c.ns e.cm.data.toList=0∧c.ns.length=32):=by
 unfold eG at h
 by_cases d:aN c=false
 ·rw[if_pos d]at h;omega
 rw[if_neg d]at h
 by_cases b:dz e≠0
 ·rw[if_pos b]at h;exact absurd h b
 rw[if_neg b]at h
 by_cases f:e.q≤c.q
 ·rw[if_pos f]at h;omega
 rw[if_neg f]at h
 by_cases g:e.a<c.a
 ·rw[if_pos g]at h;omega
 rw[if_neg g]at h
 by_cases i:placeOf c.ns e.cm.data.toList=0∧c.ns.length=32
 ·rw[if_pos i]at h;omega
 exact⟨by simpa using d,by simpa using b,by omega,by omega,i⟩
theorem lS (s:ByteArray):fB s=bY s.data.toList:=by
 unfold fB bY
 rw[show s.size=s.data.toList.length from(Array.length_toList ..).symm,←Bool.decide_and]
theorem ji {c:Cx} {e:Evt} (h:eG c e=0):aN (bJ c e)=true:=by
 obtain⟨f,t,w,v,j⟩:=jZ h
 obtain⟨_,_,r,_,m,p,l,o⟩:=eD t
 unfold aN at f ⊢
 simp only[Bool.and_eq_true,decide_eq_true_iff]at f
 obtain⟨_,b⟩:=f
 have g:cK (bJ c e).ns=true:=by
  unfold bJ
  simp only
  by_cases d:placeOf c.ns e.cm.data.toList=0
  ·rw[if_pos d]
   unfold cK at b ⊢
   rw[decide_eq_true_iff]at b ⊢
   obtain⟨u,n,k⟩:=b
   refine⟨?_,(lJ _ _).2 ⟨n,(dh _ _).1 d⟩,fun s i=>?_⟩
   ·rw[List.length_append,List.length_singleton]
    have:¬ c.ns.length=32:=fun h=>j ⟨d,h⟩
    omega
   ·rcases List.mem_append.1 i with h | h
    ·exact k s h
    ·rw[List.mem_singleton]at h
     subst h
     rw[←lS]
     exact r
  ·rw[if_neg d]
   exact b
 rw[g]
 rw[decide_eq_true (show 0≤(bJ c e).q from l),decide_eq_true (show(bJ c e).q≤4294967296 from o),decide_eq_true (show 0≤(bJ c e).a from m),decide_eq_true (show(bJ c e).a≤1099511627776 from p)]
 rfl
end
section
open Go.RowKit
set_option maxHeartbeats 2000000 in
theorem dA (b:Evt) (o:b.cm.size≤maxLen) (w:World):Calls Tryz.prog 18 #[.agg (evA b)] w fun e w'=>e = .returned (.int .i64 (dz b))∧Below w.heap.size w w':=by
 have f:Hid (dz b=if cu b.k=0 then 2 else if fB b.cm=false then 3 else if dL b=false then 4 else if b.a<0∨1099511627776<b.a then 5 else if b.q<0∨4294967296<b.q then 1 else 0):=rfl
 have h:=fun W=>Lib.hid (wZ b.k W)
 have i:=fun W=>Lib.hid (show Calls Tryz.prog 58 #[.string b.cm] W fun e w'=>e = .returned (.bool (fB b.cm))∧W=w' from by rw[lS];exact gQ b.cm W o)
 have l:=fun W=>Lib.hid (AS b W)
 generalize dz b=r at f ⊢
 generalize cu b.k=m at h f
 generalize fB b.cm=nm at i f
 generalize dL b=wi at l f
 obtain⟨q,a,k,cm,x,y,z⟩:=b
 simp only at f h i l o
 by_cases u:m=0
 ·subst u
  go_enter Tryz.func18,Tryz.ntmps18
  go_wp2_with (go_at_call 57;refine((h _).out).mono ?_;rintro e w' ⟨rfl,rfl⟩)
  go_ret
  exact⟨gu (by rw[f.out];rfl),(Below.refl _ _).alloc (Nat.le_refl _) _⟩
 have D:((m:Int) == 0)=false:=by rw[beq_eq_false_iff_ne];omega
 have B:(m == 0)=false:=by rw[beq_eq_false_iff_ne];omega
 have s:=Lib.hid u
 clear u
 cases nm with
 | false=>
   go_enter Tryz.func18,Tryz.ntmps18
   go_wp2_with (first | (go_at_call 57;refine((h _).out).mono ?_;rintro e w' ⟨rfl,rfl⟩) | (go_at_call 58;refine((i _).out).mono ?_;rintro e w' ⟨rfl,rfl⟩))
   go_ret
   exact⟨gu (by rw[f.out,if_neg s.out];rfl),(Below.refl _ _).alloc (Nat.le_refl _) _⟩
 | true=>
   cases wi with
   | false=>
     go_enter Tryz.func18,Tryz.ntmps18
     go_wp2_with (first | (go_at_call 57;refine((h _).out).mono ?_;rintro e w' ⟨rfl,rfl⟩) | (go_at_call 58;refine((i _).out).mono ?_;rintro e w' ⟨rfl,rfl⟩) | (go_at_call 59;refine((l _).out).mono ?_;rintro e t ⟨rfl,c⟩))
     go_ret
     exact⟨gu (by rw[f.out,if_neg s.out];rfl),((Below.refl _ _).alloc (Nat.le_refl _) _).trans (c.mono (by simp))⟩
   | true=>
     by_cases n:a<0∨1099511627776<a
     ·have d:=Lib.hid (show r=5 from by rw[f.out,if_neg s.out,if_neg (by simp),if_neg (by simp),if_pos n])
      clear f
      rcases n with n | n
      all_goals
       go_enter Tryz.func18,Tryz.ntmps18
       go_wp2_with (first | (go_at_call 57;refine((h _).out).mono ?_;rintro e w' ⟨rfl,rfl⟩) | (go_at_call 58;refine((i _).out).mono ?_;rintro e w' ⟨rfl,rfl⟩) | (go_at_call 59;refine((l _).out).mono ?_;rintro e t ⟨rfl,c⟩;have p:=Lib.hid c;obtain⟨v,A⟩:=gU c;clear c))
       go_ret
       exact⟨gu (by rw[d.out]),((Below.refl _ _).alloc (Nat.le_refl _) _).trans (p.out.mono (by simp))⟩
     ·have d:=Lib.hid (show r=if q<0∨4294967296<q then 1 else 0 from by rw[f.out,if_neg s.out,if_neg (by simp),if_neg (by simp),if_neg n])
      clear f
      have a1:0≤a:=by omega
      have F:a≤1099511627776:=by omega
      clear n
      by_cases j:q<0∨4294967296<q
      ·have g:=Lib.hid (show r=1 from by rw[d.out,if_pos j])
       clear d
       rcases j with j | j
       all_goals
        go_enter Tryz.func18,Tryz.ntmps18
        go_wp2_with (first | (go_at_call 57;refine((h _).out).mono ?_;rintro e w' ⟨rfl,rfl⟩) | (go_at_call 58;refine((i _).out).mono ?_;rintro e w' ⟨rfl,rfl⟩) | (go_at_call 59;refine((l _).out).mono ?_;rintro e t ⟨rfl,c⟩;have p:=Lib.hid c;obtain⟨v,A⟩:=gU c;clear c))
        go_ret
        exact⟨gu (by rw[g.out]),((Below.refl _ _).alloc (Nat.le_refl _) _).trans (p.out.mono (by simp))⟩
      ·have g:=Lib.hid (show r=0 from by rw[d.out,if_neg j])
       clear d
       have C:0≤q:=by omega
       have E:q≤4294967296:=by omega
       clear j
       go_enter Tryz.func18,Tryz.ntmps18
       go_wp2_with (first | (go_at_call 57;refine((h _).out).mono ?_;rintro e w' ⟨rfl,rfl⟩) | (go_at_call 58;refine((i _).out).mono ?_;rintro e w' ⟨rfl,rfl⟩) | (go_at_call 59;refine((l _).out).mono ?_;rintro e t ⟨rfl,c⟩;have p:=Lib.hid c;obtain⟨v,A⟩:=gU c;clear c))
       go_ret
       exact⟨gu (by rw[g.out]),((Below.refl _ _).alloc (Nat.le_refl _) _).trans (p.out.mono (by simp))⟩
end
section
open Go.RowKit
theorem mj (role:Int) (a:Evt) (b:role=1∨role=2∨role=3) (w:World):Calls Tryz.prog 215 #[.int .i64 role,.agg (evA a)] w fun e w'=>e = .returned (.bool (jj role a))∧Below w.heap.size w w':=by
 rcases b with rfl | rfl | rfl
 all_goals
  go_enter Tryz.func215,Tryz.ntmps215
  go_wp2
  all_goals
   go_ret
   refine⟨dF ?_,(Below.refl _ _).alloc (Nat.le_refl _) _⟩
   rw[Bool.eq_iff_iff]
   simp[jj]
   try omega
theorem bU {c:Cmp} (h:dR c):c.role=1∨c.role=2∨c.role=3:=by
 rcases h.2.2 with h | h | h
 ·exact .inl h.1
 ·exact .inr (.inl h.1)
 ·exact .inr (.inr h.1)
def jT (c:Cmp) (e0:Evt) (m:Int):Prop := ∀ (A:Option Addr) (n cp:Nat) (X:List Nat) (w:World),XOk X w→ay w X A n c.cells→dR c→e0.cm.size≤maxLen →
 Calls Tryz.prog 156 #[.agg (cD c A n cp).toArray,.agg (evA e0)] w fun e w'=>e = .returned (.int .i64 m)∧Below w.heap.size w w'
theorem Dr {c:Cmp} {d:Evt} (v:¬ dz d=0):jT c d (dz d):=by
 intro A n o X w hX j a g
 obtain⟨nm,role,mode,wd,sl,cells,h,k,room,has,m⟩:=c
 obtain⟨eq,ea,u,p,ex,x,t⟩:=d
 simp only at *
 simp only[cD,evA]
 have l:¬ role=0:=by have:=bU a;simp only at this;omega
 have y:=Lib.hid (bU a)
 go_enter Tryz.func156,Tryz.ntmps156
 go_upto_region 1 with(fail)
 refine(hstart hX).cw fun W K=>?_
 refine wp_region_lit (K.ld 1 rfl ?_)
 go_wp2_with fail
 have K:=K.k0 (f:=ay.fact A n cells) j
 clear j
 refine(gj ⟨nm,role,mode,wd,sl,cells,h,k,room,has,m⟩ A n o _ W K.xok (K.fa 0 rfl) a).mono ?_
 rintro e s ⟨rfl,b⟩
 have K:=K.on b
 clear b a
 have i:=K.r 1 rfl
 have c0:=K.r 0 rfl
 go_wp2_with fail
 refine(dA ⟨_,_,_,_,_,_,_⟩ g _).mono ?_
 rintro e q ⟨rfl,b⟩
 have K:=K.on b
 clear b c0 i
 have c0:=K.r 0 rfl
 have i:=K.r 1 rfl
 go_wp2
 go_ret
 exact⟨rfl,K.below⟩
theorem Ee {c:Cmp} {d:Evt} (v:dz d=0) (x:(d.cm.toList == c.nm.toList)=false):jT c d (6):=by
 intro A n o X w hX j a g
 obtain⟨nm,role,mode,wd,sl,cells,h,k,room,has,m⟩:=c
 obtain⟨eq,ea,u,p,ex,y,t⟩:=d
 simp only at *
 simp only[cD,evA]
 have l:¬ role=0:=by have:=bU a;simp only at this;omega
 have z:=Lib.hid (bU a)
 go_enter Tryz.func156,Tryz.ntmps156
 go_upto_region 1 with(fail)
 refine(hstart hX).cw fun W K=>?_
 refine wp_region_lit (K.ld 1 rfl ?_)
 go_wp2_with fail
 have K:=K.k0 (f:=ay.fact A n cells) j
 clear j
 refine(gj ⟨nm,role,mode,wd,sl,cells,h,k,room,has,m⟩ A n o _ W K.xok (K.fa 0 rfl) a).mono ?_
 rintro e s ⟨rfl,b⟩
 have K:=K.on b
 clear b a
 have i:=K.r 1 rfl
 have c0:=K.r 0 rfl
 go_wp2_with fail
 refine(dA ⟨_,_,_,_,_,_,_⟩ g _).mono ?_
 rintro e q ⟨rfl,b⟩
 have K:=K.on b
 clear b c0 i
 have c0:=K.r 0 rfl
 have i:=K.r 1 rfl
 go_wp2_with (go_at_call 214;refine(nH _ _).mono ?_;rintro e w' ⟨rfl,rfl⟩)
 go_ret
 exact⟨rfl,K.below⟩
theorem Bv {c:Cmp} {d:Evt} (y:dz d=0) (z:(d.cm.toList == c.nm.toList)=true) (m:d.k=1):jT c d (7):=by
 intro A n q X w hX j a g
 obtain⟨nm,role,mode,wd,sl,cells,h,l,room,has,p⟩:=c
 obtain⟨eq,ea,x,s,ex,B,v⟩:=d
 simp only at *
 simp only[cD,evA]
 have o:¬ role=0:=by have:=bU a;simp only at this;omega
 have C:=Lib.hid (bU a)
 subst m
 go_enter Tryz.func156,Tryz.ntmps156
 go_upto_region 1 with(fail)
 refine(hstart hX).cw fun W K=>?_
 refine wp_region_lit (K.ld 1 rfl ?_)
 go_wp2_with fail
 have K:=K.k0 (f:=ay.fact A n cells) j
 clear j
 refine(gj ⟨nm,role,mode,wd,sl,cells,h,l,room,has,p⟩ A n q _ W K.xok (K.fa 0 rfl) a).mono ?_
 rintro e u ⟨rfl,b⟩
 have K:=K.on b
 clear b a
 have i:=K.r 1 rfl
 have c0:=K.r 0 rfl
 go_wp2_with fail
 refine(dA ⟨_,_,_,_,_,_,_⟩ g _).mono ?_
 rintro e t ⟨rfl,b⟩
 have K:=K.on b
 clear b c0 i
 have c0:=K.r 0 rfl
 have i:=K.r 1 rfl
 go_wp2_with (go_at_call 214;refine(nH _ _).mono ?_;rintro e w' ⟨rfl,rfl⟩)
 go_ret
 exact⟨rfl,K.below⟩
theorem yS {c:Cmp} {b:Evt} (D:dz b=0) (E:(b.cm.toList == c.nm.toList)=true) (B:¬ b.k=1) (t:¬ dw b.k=0) (o:¬ dw b.k=c.role):jT c b (8):=by
 intro A n u X w hX j a g
 obtain⟨nm,role,mode,wd,sl,cells,h,m,room,has,s⟩:=c
 obtain⟨eq,ea,l,v,ex,F,C⟩:=b
 simp only at *
 simp only[cD,evA]
 have p:¬ role=0:=by have:=bU a;simp only at this;omega
 have G:=Lib.hid (bU a)
 have x:(dw l != 0)=true:=by simpa using t
 have q:(dw l != role)=true:=by simpa using o
 go_enter Tryz.func156,Tryz.ntmps156
 go_upto_region 1 with(fail)
 refine(hstart hX).cw fun W K=>?_
 refine wp_region_lit (K.ld 1 rfl ?_)
 go_wp2_with fail
 have K:=K.k0 (f:=ay.fact A n cells) j
 clear j
 refine(gj ⟨nm,role,mode,wd,sl,cells,h,m,room,has,s⟩ A n u _ W K.xok (K.fa 0 rfl) a).mono ?_
 rintro e z ⟨rfl,d⟩
 have K:=K.on d
 clear d a
 have i:=K.r 1 rfl
 have c0:=K.r 0 rfl
 go_wp2_with fail
 refine(dA ⟨_,_,_,_,_,_,_⟩ g _).mono ?_
 rintro e y ⟨rfl,d⟩
 have K:=K.on d
 clear d c0 i
 have c0:=K.r 0 rfl
 have i:=K.r 1 rfl
 go_wp2_with (go_at_call 214;refine(nH _ _).mono ?_;rintro e w' ⟨rfl,rfl⟩)
 go_ret
 exact⟨rfl,K.below⟩
theorem zq {c:Cmp} {d:Evt} (D:dz d=0) (E:(d.cm.toList == c.nm.toList)=true) (p:d.k=2) (l:jj c.role d=false):jT c d (4):=by
 intro A n u X w hX j a g
 obtain⟨nm,role,mode,wd,sl,cells,h,o,room,has,s⟩:=c
 obtain⟨eq,ea,C,v,ex,F,B⟩:=d
 simp only at *
 simp only[cD,evA]
 have q:¬ role=0:=by have:=bU a;simp only at this;omega
 have x:=Lib.hid (bU a)
 subst p
 have m:=Lib.hid l
 clear l
 have t:dw 2=0:=rfl
 go_enter Tryz.func156,Tryz.ntmps156
 go_upto_region 1 with(fail)
 refine(hstart hX).cw fun W K=>?_
 refine wp_region_lit (K.ld 1 rfl ?_)
 go_wp2_with fail
 have K:=K.k0 (f:=ay.fact A n cells) j
 clear j
 refine(gj ⟨nm,role,mode,wd,sl,cells,h,o,room,has,s⟩ A n u _ W K.xok (K.fa 0 rfl) a).mono ?_
 rintro e z ⟨rfl,b⟩
 have K:=K.on b
 clear b a
 have i:=K.r 1 rfl
 have c0:=K.r 0 rfl
 go_wp2_with fail
 refine(dA ⟨_,_,_,_,_,_,_⟩ g _).mono ?_
 rintro e y ⟨rfl,b⟩
 have K:=K.on b
 clear b c0 i
 have c0:=K.r 0 rfl
 have i:=K.r 1 rfl
 go_wp2_with (first | (go_at_call 214;refine(nH _ _).mono ?_;rw[t];rintro e w' ⟨rfl,rfl⟩) | (go_at_call 215;refine(mj _ ⟨_,_,_,_,_,_,_⟩ x.out _).mono ?_;rw[m.out];rintro e w' ⟨rfl,b⟩;have K:=K.on b;clear b))
 go_ret
 exact⟨rfl,K.below⟩
theorem Bm {c:Cmp} {d:Evt} (D:dz d=0) (E:(d.cm.toList == c.nm.toList)=true) (p:d.k=2) (l:jj c.role d=true):jT c d (0):=by
 intro A n u X w hX j a g
 obtain⟨nm,role,mode,wd,sl,cells,h,o,room,has,s⟩:=c
 obtain⟨eq,ea,C,v,ex,F,B⟩:=d
 simp only at *
 simp only[cD,evA]
 have q:¬ role=0:=by have:=bU a;simp only at this;omega
 have x:=Lib.hid (bU a)
 subst p
 have m:=Lib.hid l
 clear l
 have t:dw 2=0:=rfl
 go_enter Tryz.func156,Tryz.ntmps156
 go_upto_region 1 with(fail)
 refine(hstart hX).cw fun W K=>?_
 refine wp_region_lit (K.ld 1 rfl ?_)
 go_wp2_with fail
 have K:=K.k0 (f:=ay.fact A n cells) j
 clear j
 refine(gj ⟨nm,role,mode,wd,sl,cells,h,o,room,has,s⟩ A n u _ W K.xok (K.fa 0 rfl) a).mono ?_
 rintro e z ⟨rfl,b⟩
 have K:=K.on b
 clear b a
 have i:=K.r 1 rfl
 have c0:=K.r 0 rfl
 go_wp2_with fail
 refine(dA ⟨_,_,_,_,_,_,_⟩ g _).mono ?_
 rintro e y ⟨rfl,b⟩
 have K:=K.on b
 clear b c0 i
 have c0:=K.r 0 rfl
 have i:=K.r 1 rfl
 go_wp2_with (first | (go_at_call 214;refine(nH _ _).mono ?_;rw[t];rintro e w' ⟨rfl,rfl⟩) | (go_at_call 215;refine(mj _ ⟨_,_,_,_,_,_,_⟩ x.out _).mono ?_;rw[m.out];rintro e w' ⟨rfl,b⟩;have K:=K.on b;clear b))
 go_ret
 exact⟨rfl,K.below⟩
theorem AB {c:Cmp} {b:Evt} (B:dz b=0) (C:(b.cm.toList == c.nm.toList)=true) (x:¬ b.k=1) (u:¬ b.k=2) (p:dw b.k=c.role):jT c b (0):=by
 intro A n q X w hX j a g
 obtain⟨nm,role,mode,wd,sl,cells,h,l,room,has,o⟩:=c
 obtain⟨eq,ea,z,s,ex,D,y⟩:=b
 simp only at *
 simp only[cD,evA]
 have m:¬ role=0:=by have:=bU a;simp only at this;omega
 have E:=Lib.hid (bU a)
 go_enter Tryz.func156,Tryz.ntmps156
 go_upto_region 1 with(fail)
 refine(hstart hX).cw fun W K=>?_
 refine wp_region_lit (K.ld 1 rfl ?_)
 go_wp2_with fail
 have K:=K.k0 (f:=ay.fact A n cells) j
 clear j
 refine(gj ⟨nm,role,mode,wd,sl,cells,h,l,room,has,o⟩ A n q _ W K.xok (K.fa 0 rfl) a).mono ?_
 rintro e v ⟨rfl,d⟩
 have K:=K.on d
 clear d a
 have i:=K.r 1 rfl
 have c0:=K.r 0 rfl
 go_wp2_with fail
 refine(dA ⟨_,_,_,_,_,_,_⟩ g _).mono ?_
 rintro e t ⟨rfl,d⟩
 have K:=K.on d
 clear d c0 i
 have c0:=K.r 0 rfl
 have i:=K.r 1 rfl
 go_wp2_with (go_at_call 214;refine(nH _ _).mono ?_;rw[p];rintro e w' ⟨rfl,rfl⟩)
 go_ret
 exact⟨rfl,K.below⟩
theorem gI (c:Cmp) (A:Option Addr) (n o:Nat) (a:Evt) (X:List Nat) (w:World) (hX:XOk X w) (p:ay w X A n c.cells) (m:dR c) (l:a.cm.size≤maxLen):
 Calls Tryz.prog 156 #[.agg (cD c A n o).toArray,.agg (evA a)] w fun e w'=>e = .returned (.int .i64 (mL c a))∧Below w.heap.size w w':=by
 suffices h:jT c a (mL c a) from h A n o X w hX p m l
 unfold mL
 by_cases d:dz a=0
 ·rw[if_neg (by simpa using d)]
  by_cases j:a.cm=c.nm
  ·have b:(a.cm.toList == c.nm.toList)=true:=by rw[j];simp
   rw[if_neg (by simpa using j)]
   by_cases g:a.k=1
   ·rw[if_pos g];exact Bv d b g
   ·rw[if_neg g]
    by_cases i:dw a.k≠0∧dw a.k≠c.role
    ·rw[if_pos i];exact yS d b g i.1 i.2
    ·rw[if_neg i]
     by_cases f:a.k=2
     ·cases h6:jj c.role a with
      | false=>rw[if_pos ⟨f,rfl⟩];exact zq d b f h6
      | true=>rw[if_neg (by simp)];exact Bm d b f h6
     ·rw[if_neg (fun h=>f h.1)]
      refine AB d b g f ?_
      obtain⟨q,r,_⟩:=eD d
      have s:dw a.k≠0:=by
       unfold dw
       rw[if_neg (by omega)]
       repeat (first | (split;(try omega)) | omega)
      omega
  ·rw[if_pos (by simpa using j)]
   exact Ee d (by rw[beq_eq_false_iff_ne];exact fun h=>j (pF h))
 ·rw[if_pos (by simpa using d)];exact Dr d
end
section
theorem rM (a b:Int):bM (up a b)=true:=by unfold bM;rw[decide_eq_true_eq];exact⟨Gk _ _,GA _ _⟩
theorem ym {f:Nat→Int} {s n:Int} (h:bV f s=true):bV (eN f s n) (gq f s n)=true:=by
 unfold eN gq
 split
 ·rw[iM]at h ⊢
  refine⟨fun i a=>?_,(rf _).symm⟩
  unfold gY
  split
  ·exact(rf _).symm
  ·exact h.1 i a
 ·exact h
theorem EK (ok:Bool) (e:Int×Int) (h:bX e=false):bX (bump ok e)=false:=by
 unfold bump bX nM at *
 split<;>simp only[Bool.or_eq_false_iff,Bool.not_eq_false']at * <;> first | exact⟨by simpa using rM _ _,h.2⟩ | exact⟨h.1,by simpa using rM _ _⟩
theorem vT {wd sl a:Int} {cs:List (Int×Int)} (ok:Bool) (j:cJ wd sl cs=true) (k:bM a=true):cJ (mQ wd sl cs a ok).wd (mQ wd sl cs a ok).sl (mQ wd sl cs a ok).cs=true:=by
 obtain⟨b,cs',f,m,_,_,i,_⟩:=pM j k
 by_cases h:a/wd≤b-cs'.length
 ·rw[qC f h];exact i
 ·rw[xP f h]
  simp only
  obtain⟨g,d⟩:=dn.1 i
  refine dn.2 ⟨by rw[List.length_set];exact g,fun e l=>?_⟩
  rcases List.mem_or_eq_of_mem_set l with c | c
  ·exact d e c
  ·subst c
   refine EK ok _ ?_
   rw[List.getD_eq_getElem?_getD]
   cases hc:cs'[(a/wd%cs'.length).toNat]? with
   | none=>rfl
   | some x=>exact d x (List.mem_of_getElem? hc)
theorem lP {wd a:Int} {k:Int} (b:qi wd k a=true):cJ (newR wd k a).wd (newR wd k a).sl (newR wd k a).cs=true:=by
 have h:=b
 unfold qi at h
 rw[decide_eq_true_eq]at h
 unfold newR
 rw[if_pos b]
 simp only
 have d:0≤a/wd:=Int.ediv_nonneg (by omega) (by omega)
 have c:a/wd≤1099511627776:=Int.le_trans (Int.ediv_le_self wd (by omega)) (by omega)
 refine dn.2 ⟨by rw[List.length_replicate];omega,fun e f=>?_⟩
 rw[List.eq_of_mem_replicate f]
 rfl
theorem Er {nm:ByteArray} {role a:Int} (b:1≤nm.size) (c:nm.size≤24) (d:1≤role) (e:role≤3) (f:0≤a) (g:a≤1099511627776):dR (ny nm role a):=by
 unfold ny
 split
 ·refine⟨⟨b,c⟩,⟨rfl,rfl,rfl⟩,.inl ⟨rfl,by simp,by simp,?_,rfl,rfl,rfl⟩⟩
  have:=lP (wd:=10) (a:=a) (k:=4) (by unfold qi;rw[decide_eq_true_eq];omega)
  unfold newR at this
  rw[if_pos (by unfold qi;rw[decide_eq_true_eq];omega)]at this
  exact this
 ·refine⟨⟨b,c⟩,⟨rfl,rfl,rfl⟩,?_⟩
  rcases(by omega:role=2∨role=3) with rfl | rfl
  ·exact .inr (.inl ⟨rfl,rfl,rfl,rfl,rfl,fun _=>rfl,rfl,rfl⟩)
  ·exact .inr (.inr ⟨rfl,by simp,by simp,rfl,rfl,rfl,rfl,rfl⟩)
theorem jc {c:Cmp} (h:dR c) (i:Nat):dR (qq c i):=by
 obtain⟨b,⟨f,e,d⟩,a⟩:=h
 refine⟨b,⟨?_,?_,?_⟩,a⟩<;>(simp only[qq,gY];split<;>first | exact rM _ _ | assumption)
theorem ud {room has n:Int} (h:fJ room has=true) (a:0≤n):fJ room (qb has n)=true:=by
 unfold fJ qb at *
 rw[decide_eq_true_eq]at *
 omega
theorem Eu {room has n:Int} (h:fJ room has=true) (a:0≤n):fJ room (zD room has n)=true:=by
 unfold fJ zD at *
 rw[decide_eq_true_eq]at *
 omega
theorem fA {c:Cmp} {e:Evt} (h:mL c e=0):dz e=0∧e.cm=c.nm∧e.k≠1∧(dw e.k=0∨dw e.k=c.role)∧(e.k=2→jj c.role e=true):=by
 unfold mL at h
 by_cases a:dz e=0
 ·rw[if_neg (by simpa using a)]at h
  by_cases d:e.cm=c.nm
  ·rw[if_neg (by simpa using d)]at h
   by_cases b:e.k=1
   ·rw[if_pos b]at h;omega
   ·rw[if_neg b]at h
    by_cases f:dw e.k≠0∧dw e.k≠c.role
    ·rw[if_pos f]at h;omega
    ·rw[if_neg f]at h
     by_cases g:e.k=2∧jj c.role e=false
     ·rw[if_pos g]at h;omega
     ·refine⟨a,d,b,by omega,fun i=>?_⟩
      cases hc:jj c.role e with
      | true=>rfl
      | false=>exact absurd ⟨i,hc⟩ g
  ·rw[if_pos (by simpa using d)]at h;omega
 ·rw[if_pos (by simpa using a)]at h
  exact absurd h a
theorem Dh {c:Cmp} {e:Evt} (B:dR c) (z:mL c e=0):dR (fc c e):=by
 obtain⟨G,E,N,r,y⟩:=fA z
 obtain⟨C,D,_,kw,ka,kb,_,_⟩:=eD G
 obtain⟨⟨s,H⟩,⟨L,O⟩,⟨K,J⟩,_,_⟩:=dI ⟨C,D⟩ kw
 have o:=kw
 unfold dL inB jg at o
 obtain⟨nm,role,mode,wd,sl,cells,M,I,room,has,ct⟩:=c
 obtain⟨⟨w,u⟩,t,n⟩:=B
 simp only at w u t n E r y
 have q:bM e.a=true:=by unfold bM;rw[decide_eq_true_eq];exact⟨ka,kb⟩
 have mk:∀ c':Cmp,c'.nm=nm→c'.ct=ct→_→dR c':=fun c' A F h=>⟨by rw[A];exact⟨w,u⟩,by rw[F];exact t,h⟩
 rcases(by omega:e.k=2∨e.k=3∨e.k=4∨e.k=5∨e.k=6∨e.k=7∨e.k=8∨e.k=9∨e.k=10) with h | h | h | h | h | h | h | h | h<;>rw[h]at r o<;>simp[dw]at r<;>unfold fc<;>simp only[h,if_true,if_false,Int.reduceEq]
 ·have p:=y h
  unfold jj at p
  rcases n with⟨rfl,l,j,i,b,d,f⟩ | ⟨rfl,l,j,i,b,d,f,m⟩ | ⟨rfl,l,j,i,b,d,f,m⟩
  ·rw[if_pos rfl,decide_eq_true_eq]at p
   simp only[if_true]
   refine mk _ rfl rfl (.inl ⟨rfl,l,j,?_,b,d,f⟩)
   exact lP (by unfold qi;rw[decide_eq_true_eq];omega)
  ·rw[if_neg (by omega),if_pos rfl,decide_eq_true_eq]at p
   simp only[if_true,if_false,Int.reduceEq]
   exact mk _ rfl rfl (.inr (.inl ⟨rfl,l,j,i,b,d,f,by unfold fJ;rw[decide_eq_true_eq];simp only;omega⟩))
  ·simp only[if_false,Int.reduceEq]
   exact mk _ rfl rfl (.inr (.inr ⟨rfl,l,j,i,b,d,f,by unfold fJ;rw[decide_eq_true_eq];simp only;omega⟩))
 ·refine jc ?_ _
  rcases n with⟨rfl,l,j,i,b,d,f⟩ | ⟨rfl,_⟩ | ⟨rfl,_⟩
  ·exact mk _ rfl rfl (.inl ⟨rfl,l,j,vT _ i q,ym b,d,f⟩)
  ·omega
  ·omega
 ·rcases n with⟨rfl,l,j,i,b,d,f⟩ | ⟨rfl,_⟩ | ⟨rfl,_⟩
  ·have v:0≤e.x∧e.x≤2:=by simp at o;omega
   split
   ·refine mk _ rfl rfl (.inl ⟨rfl,by simp only[zG];omega,by simp only[zG];omega,?_,b,d,f⟩)
    obtain⟨g,_⟩:=dn.1 i
    exact lP (by unfold qi;rw[decide_eq_true_eq];omega)
   ·exact mk _ rfl rfl (.inl ⟨rfl,v.1,v.2,i,b,d,f⟩)
  ·omega
  ·omega
 ·refine jc ?_ _
  rcases n with⟨rfl,_⟩ | ⟨rfl,l,j,i,b,d,f,m⟩ | ⟨rfl,_⟩
  ·omega
  ·exact mk _ rfl rfl (.inr (.inl ⟨rfl,l,j,i,b,d,f,ud m s⟩))
  ·omega
 ·exact jc (mk _ rfl rfl n) _
 ·refine jc ?_ _
  rcases n with⟨rfl,_⟩ | ⟨rfl,l,j,i,b,d,f,m⟩ | ⟨rfl,_⟩
  ·omega
  ·exact mk _ rfl rfl (.inr (.inl ⟨rfl,l,j,i,b,d,f,Eu m s⟩))
  ·omega
 ·refine jc ?_ _
  rcases n with⟨rfl,_⟩ | ⟨rfl,_⟩ | ⟨rfl,l,j,i,b,d,f,m⟩
  ·omega
  ·omega
  ·exact mk _ rfl rfl (.inr (.inr ⟨rfl,s,H,i,b,d,f,ud m (by omega)⟩))
 ·refine jc ?_ _
  rcases n with⟨rfl,_⟩ | ⟨rfl,_⟩ | ⟨rfl,l,j,i,b,d,f,m⟩
  ·omega
  ·omega
  ·exact mk _ rfl rfl (.inr (.inr ⟨rfl,l,j,i,b,d,ym f,m⟩))
 ·refine jc ?_ _
  rcases n with⟨rfl,_⟩ | ⟨rfl,_⟩ | ⟨rfl,l,j,i,b,d,f,m⟩
  ·omega
  ·omega
  ·exact mk _ rfl rfl (.inr (.inr ⟨rfl,by simp,by simp,i,b,d,f,m⟩))
theorem th (c:Cmp) (e:Evt):(fc c e).nm=c.nm:=by
 unfold fc
 repeat (first | rfl | split)
end
section
open Go.RowKit
def sE (c:Cmp) (X:List Nat) (w:World) (e:Ending) (w':World):Prop := ∃ A n cp,e = .returned (.tuple #[.agg (cD c A n cp).toArray,.int .i64 0])∧Below w.heap.size w w'∧ay w' X A n c.cells
theorem eI (c:Cmp) (A:Option Addr) (n a i:Nat) (d:i<3) (X:List Nat) (w:World) (hX:XOk X w):
 Calls Tryz.prog 167 #[.agg (cD c A n a).toArray,.int .i64 (i:Int)] w fun e w'=>e = .returned (.agg (cD (qq c i) A n a).toArray)∧Below w.heap.size w w':=by
 obtain⟨nm,role,mode,wd,sl,cells,h,b,room,has,f⟩:=c
 simp only[cD]
 rcases(by omega:i=0∨i=1∨i=2) with rfl | rfl | rfl
 all_goals
  go_enter Tryz.func167,Tryz.ntmps167
  go_upto_region 2 with(go_at_call 221;refine(nT _ _ _).mono ?_;rintro e w' ⟨rfl,rfl⟩)
  refine(hstart hX).cw fun W K=>?_
  refine wp_region_lit (K.ld 1 rfl ?_)
  refine K.sr 0 rfl fun W K=>?_
  go_wp2
  exact K.rc1 0 rfl rfl ⟨rfl,K.below⟩
theorem FP (nm:ByteArray) (role a:Int) (m:1≤nm.size) (r:nm.size≤24) (k:1≤role) (o:role≤3) (s:0≤a) (u:a≤1099511627776) (X:List Nat) (w:World) (hX:XOk X w):
 Calls Tryz.prog 94 #[.string nm,.int .i64 role,.int .i64 a] w (sE (ny nm role a) X w):=by
 have d:=uk m r
 have h:nm.size≤maxLen:=by unfold maxLen;omega
 have q:role=1∨role=2∨role=3:=by omega
 clear k o
 rcases q with rfl | rfl | rfl
 all_goals
  go_enter Tryz.func94,Tryz.ntmps94
  go_upto_region 8 with(first
   | (go_at_call 58;refine(gQ nm _ h).mono ?_;rw[d];rintro e t ⟨rfl,rfl⟩)
   | (refine(hstart hX).lw fun W K=>?_;refine K.sr 0 rfl fun W K=>?_))
 ·go_wp2_with fail
  refine(CW 10 4 a W).mono ?_
  intro e i j
  obtain⟨A,n,p,rfl,b,l⟩:=ay.of_win (X:=Exs _++X) j K.xok (ay.zero _ _) (.inr rfl)
  have K:=(K.on b).kn (f:=ay.fact A n _) l
  have g:newR 10 4 a=⟨10,a/10,List.replicate 4 (0,0),0⟩:=by unfold newR qi;rw[if_pos (by rw[decide_eq_true_eq];omega)];rfl
  rw[g]at K ⊢
  have c0:=K.c 0 rfl
  go_upto_region 11 with(fail)
  clear c0
  refine K.cw fun W K=>?_
  refine wp_region_lit (K.ld 0 rfl ?_)
  refine K.sr 1 rfl fun W K=>?_
  go_wp2
  exact K.rc2 1 rfl rfl ⟨A,n,p,rfl,K.below,K.back (K.fa 0 rfl)⟩
 all_goals
  go_wp2_with fail
  refine(wU 10 10 rfl W _ K.xok).mono ?_
  rintro e i ⟨rfl,b⟩
  have K:=K.on b
  have c0:=K.c 0 rfl
  go_upto_region 11 with(fail)
  clear c0
  refine K.cw fun W K=>?_
  refine wp_region_lit (K.ld 0 rfl ?_)
  refine K.sr 1 rfl fun W K=>?_
  go_wp2
  exact K.rc2 1 rfl rfl ⟨none,0,0,rfl,K.below,ay.zero _ _⟩
end
section
open Go.RowKit
def Fc (c:Cmp) (e:Evt):Cmp:=if c.role=1 then zG c (newR e.x e.y e.a) else if c.role=2 then { c with room:=e.x,has:=e.y } else { c with room:=e.x,has:=e.x }
theorem uD (c:Cmp) (A:Option Addr) (n j:Nat) (g:Evt) (X:List Nat) (w:World) (hX:XOk X w) (k:ay w X A n c.cells) (s:c.role=1∨c.role=2∨c.role=3) (b:c.role=2→fJ g.x g.y=true) (d:c.role=3→fJ g.x g.x=true):
 Calls Tryz.prog 164 #[.agg (cD c A n j).toArray,.agg (evA g)] w fun e w' => ∃ A n j,e = .returned (.agg (cD (Fc c g) A n j).toArray)∧Below w.heap.size w w'∧ay w' X A n (Fc c g).cells:=by
 obtain⟨nm,role,mode,wd,sl,cells,h,v,room,has,C⟩:=c
 obtain⟨eq,ea,B,t,ex,u,z⟩:=g
 simp only at *
 simp only[cD,evA]
 rcases s with rfl | rfl | rfl
 all_goals
  go_enter Tryz.func164,Tryz.ntmps164
  go_upto_region 1 with(fail)
  refine(hstart hX).cw fun W K=>?_
  have K:=K.k0 (f:=ay.fact A n cells) k
  have l:=K.r 1 rfl
  have a:=K.r 2 rfl
 ·clear b d
  go_wp2_with fail
  refine(CW ex u ea W).mono ?_
  intro e p q
  obtain⟨A',n',o,rfl,i,m⟩:=ay.of_win (X:=Exs _++X) q K.xok (ay.zero _ _) (.inr rfl)
  have K:=(K.on i).kn (f:=ay.fact A' n' _) m
  clear l a k
  have a:=K.c 2 rfl
  go_upto_region 8 with(fail)
  clear a
  refine K.cw fun W K=>?_
  refine wp_region_lit (K.ld 2 rfl ?_)
  refine K.sr 0 rfl fun W K=>?_
  go_wp2
  exact K.rc1 0 rfl rfl ⟨A',n',o,rfl,K.below,K.back (K.fa 0 rfl)⟩
 ·have hB:=b rfl
  clear b d k
  go_wp2_with fail
  refine(wU _ _ hB W _ K.xok).mono ?_
  rintro e p ⟨rfl,i⟩
  have K:=K.on i
  clear l a
  have a:=K.c 2 rfl
  go_upto_region 8 with(fail)
  clear a
  refine K.cw fun W K=>?_
  refine wp_region_lit (K.ld 2 rfl ?_)
  refine K.sr 0 rfl fun W K=>?_
  go_wp2
  exact K.rc1 0 rfl rfl ⟨A,n,j,rfl,K.below,K.back (K.fa 0 rfl)⟩
 ·have hB:=d rfl
  clear b d k
  go_wp2_with fail
  refine(wU _ _ hB W _ K.xok).mono ?_
  rintro e p ⟨rfl,i⟩
  have K:=K.on i
  clear l a
  have a:=K.c 2 rfl
  go_upto_region 8 with(fail)
  clear a
  refine K.cw fun W K=>?_
  refine wp_region_lit (K.ld 2 rfl ?_)
  refine K.sr 0 rfl fun W K=>?_
  go_wp2
  exact K.rc1 0 rfl rfl ⟨A,n,j,rfl,K.below,K.back (K.fa 0 rfl)⟩
end
section
open Go.RowKit
theorem wB {c:Cmp} (h:dR c) (a:c.role≠1):fJ c.room c.has=true:=by
 rcases h.2.2 with h | h | h
 ·exact absurd h.1 a
 ·exact h.2.2.2.2.2.2.2
 ·exact h.2.2.2.2.2.2.2
theorem Ft {c:Cmp} {e:Evt} (d:mL c e=0):0≤e.x∧0≤e.y∧0≤e.a∧e.a≤1099511627776:=by
 obtain⟨h,b,_,kw,ka,kb,_,_⟩:=eD (fA d).1
 obtain⟨⟨f,i⟩,⟨g,j⟩,_⟩:=dI ⟨h,b⟩ kw
 exact⟨f,g,ka,kb⟩
def kV (c:Cmp) (e0:Evt) (c':Cmp):Prop := ∀ (A:Option Addr) (n cp:Nat) (X:List Nat) (w:World),XOk X w→ay w X A n c.cells→dR c→e0.cm.size≤maxLen→mL c e0=0→(e0.x=0∨e0.x=1∨e0.x=2∨e0.k≠3) →
 Calls Tryz.prog 100 #[.agg (cD c A n cp).toArray,.agg (evA e0)] w (sE c' X w)
theorem DO {c:Cmp} {d:Evt} (p:d.k=6):kV c d (fc c d):=by
 intro A n m X w hX l i g j z
 obtain⟨nm,role,mode,wd,sl,cells,h,o,room,has,s⟩:=c
 obtain⟨eq,ea,y,t,ex,B,x⟩:=d
 simp only at *
 subst p
 simp only[cD,evA]
 go_enter Tryz.func100,Tryz.ntmps100
 go_upto_region 1 with(fail)
 refine(hstart hX).cw fun W K=>?_
 have K:=K.k0 (f:=ay.fact A n cells) l
 refine wp_region_lit (K.ld 2 rfl ?_)
 have a:=K.r 1 rfl
 go_wp2_with fail
 clear a
 refine(gI ⟨nm,_,mode,wd,sl,cells,h,o,room,has,s⟩ A n m ⟨_,_,_,_,_,_,_⟩ _ W K.xok (K.fa 0 rfl) i g).mono ?_
 rw[j]
 rintro e v ⟨rfl,b⟩
 have K:=K.on b
 clear b l j
 have a:=K.r 1 rfl
 have q:=K.c 2 rfl
 go_upto_region 19 with(fail)
 clear a q
 refine K.cw fun W K=>?_
 refine wp_region_lit (K.ld 2 rfl ?_)
 have a:=K.r 1 rfl
 go_wp2_with fail
 refine(eI ⟨_,_,_,_,_,cells,_,_,_,_,_⟩ _ _ _ 1 (by omega) _ W K.xok).mono ?_
 rintro e u ⟨rfl,b⟩
 have K:=K.on b
 clear a
 go_wp2_with (refine K.sr 0 rfl fun W K=>?_)
 exact K.rc2 0 rfl rfl ⟨A,n,m,rfl,K.below,K.back (K.fa 0 rfl)⟩
theorem As {c:Cmp} {d:Evt} (p:d.k=10):kV c d (fc c d):=by
 intro A n m X w hX l i g j z
 obtain⟨nm,role,mode,wd,sl,cells,h,o,room,has,s⟩:=c
 obtain⟨eq,ea,y,t,ex,B,x⟩:=d
 simp only at *
 subst p
 simp only[cD,evA]
 go_enter Tryz.func100,Tryz.ntmps100
 go_upto_region 1 with(fail)
 refine(hstart hX).cw fun W K=>?_
 have K:=K.k0 (f:=ay.fact A n cells) l
 refine wp_region_lit (K.ld 2 rfl ?_)
 have a:=K.r 1 rfl
 go_wp2_with fail
 clear a
 refine(gI ⟨nm,_,mode,wd,sl,cells,h,o,room,has,s⟩ A n m ⟨_,_,_,_,_,_,_⟩ _ W K.xok (K.fa 0 rfl) i g).mono ?_
 rw[j]
 rintro e v ⟨rfl,b⟩
 have K:=K.on b
 clear b l j
 have a:=K.r 1 rfl
 have q:=K.c 2 rfl
 go_upto_region 32 with(fail)
 clear a q
 refine K.cw fun W K=>?_
 refine wp_region_lit (K.ld 2 rfl ?_)
 have a:=K.r 1 rfl
 go_wp2_with fail
 refine(eI ⟨_,_,_,_,_,cells,_,_,_,_,_⟩ _ _ _ 2 (by omega) _ W K.xok).mono ?_
 rintro e u ⟨rfl,b⟩
 have K:=K.on b
 clear a
 go_wp2_with (refine K.sr 0 rfl fun W K=>?_)
 exact K.rc2 0 rfl rfl ⟨A,n,m,rfl,K.below,K.back (K.fa 0 rfl)⟩
theorem Ep {c:Cmp} {l:Evt} (u:l.k=5):kV c l (fc c l):=by
 intro A n q X w hX p g o j D
 obtain⟨nm,role,mode,wd,sl,cells,h,s,room,has,v⟩:=c
 obtain⟨eq,ea,C,y,ex,E,B⟩:=l
 simp only at *
 subst u
 obtain rfl:role=2:=by
  have x:=(fA j).2.2.2.1
  simp[dw]at x
  omega
 have d:=wB g (by simp)
 have i:=Ft j
 simp only at d i
 simp only[cD,evA]
 go_enter Tryz.func100,Tryz.ntmps100
 go_upto_region 1 with(fail)
 refine(hstart hX).cw fun W K=>?_
 have K:=K.k0 (f:=ay.fact A n cells) p
 refine wp_region_lit (K.ld 2 rfl ?_)
 have a:=K.r 1 rfl
 go_wp2_with fail
 clear a
 refine(gI ⟨nm,_,mode,wd,sl,cells,h,s,room,has,v⟩ A n q ⟨_,_,_,_,_,_,_⟩ _ W K.xok (K.fa 0 rfl) g o).mono ?_
 rw[j]
 rintro e z ⟨rfl,b⟩
 have K:=K.on b
 clear b p j
 have a:=K.r 1 rfl
 have m:=K.c 2 rfl
 go_upto_region 16 with(fail)
 go_wp2_with fail
 refine K.cl fun W K=>?_
 refine(xO _ _ _ d i.1 W _ K.xok).mono ?_
 rintro e t ⟨rfl,b⟩
 have K:=K.on b
 clear b a m
 have a:=K.r 1 rfl
 have m:=K.c 2 rfl
 go_upto_region 17 with(fail)
 clear a m
 refine K.cw fun W K=>?_
 refine wp_region_lit (K.ld 2 rfl ?_)
 have a:=K.r 1 rfl
 go_wp2_with fail
 refine(eI ⟨_,_,_,_,_,cells,_,_,_,_,_⟩ _ _ _ 0 (by omega) _ W K.xok).mono ?_
 rintro e t ⟨rfl,b⟩
 have K:=K.on b
 clear a
 go_wp2_with (refine K.sr 0 rfl fun W K=>?_)
 exact K.rc2 0 rfl rfl ⟨A,n,q,rfl,K.below,K.back (K.fa 0 rfl)⟩
theorem Es {c:Cmp} {l:Evt} (u:l.k=7):kV c l (fc c l):=by
 intro A n q X w hX p g o j D
 obtain⟨nm,role,mode,wd,sl,cells,h,s,room,has,v⟩:=c
 obtain⟨eq,ea,C,y,ex,E,B⟩:=l
 simp only at *
 subst u
 obtain rfl:role=2:=by
  have x:=(fA j).2.2.2.1
  simp[dw]at x
  omega
 have d:=wB g (by simp)
 have i:=Ft j
 simp only at d i
 simp only[cD,evA]
 go_enter Tryz.func100,Tryz.ntmps100
 go_upto_region 1 with(fail)
 refine(hstart hX).cw fun W K=>?_
 have K:=K.k0 (f:=ay.fact A n cells) p
 refine wp_region_lit (K.ld 2 rfl ?_)
 have a:=K.r 1 rfl
 go_wp2_with fail
 clear a
 refine(gI ⟨nm,_,mode,wd,sl,cells,h,s,room,has,v⟩ A n q ⟨_,_,_,_,_,_,_⟩ _ W K.xok (K.fa 0 rfl) g o).mono ?_
 rw[j]
 rintro e z ⟨rfl,b⟩
 have K:=K.on b
 clear b p j
 have a:=K.r 1 rfl
 have m:=K.c 2 rfl
 go_upto_region 21 with(fail)
 go_wp2_with fail
 refine K.cl fun W K=>?_
 refine(Gb _ _ _ d i.1 W _ K.xok).mono ?_
 rintro e t ⟨rfl,b⟩
 have K:=K.on b
 clear b a m
 have a:=K.r 1 rfl
 have m:=K.c 2 rfl
 go_upto_region 22 with(fail)
 clear a m
 refine K.cw fun W K=>?_
 refine wp_region_lit (K.ld 2 rfl ?_)
 have a:=K.r 1 rfl
 go_wp2_with fail
 refine(eI ⟨_,_,_,_,_,cells,_,_,_,_,_⟩ _ _ _ 2 (by omega) _ W K.xok).mono ?_
 rintro e t ⟨rfl,b⟩
 have K:=K.on b
 clear a
 go_wp2_with (refine K.sr 0 rfl fun W K=>?_)
 exact K.rc2 0 rfl rfl ⟨A,n,q,rfl,K.below,K.back (K.fa 0 rfl)⟩
theorem DH {c:Cmp} {j:Evt} (u:j.k=8):kV c j (fc c j):=by
 intro A n q X w hX p g m i D
 obtain⟨nm,role,mode,wd,sl,cells,h,s,room,has,v⟩:=c
 obtain⟨eq,ea,C,y,ex,E,B⟩:=j
 simp only at *
 subst u
 obtain rfl:role=3:=by
  have x:=(fA i).2.2.2.1
  simp[dw]at x
  omega
 have d:=wB g (by simp)
 have o:=Ft i
 simp only at d o
 simp only[cD,evA]
 go_enter Tryz.func100,Tryz.ntmps100
 go_upto_region 1 with(fail)
 refine(hstart hX).cw fun W K=>?_
 have K:=K.k0 (f:=ay.fact A n cells) p
 refine wp_region_lit (K.ld 2 rfl ?_)
 have a:=K.r 1 rfl
 go_wp2_with fail
 clear a
 refine(gI ⟨nm,_,mode,wd,sl,cells,h,s,room,has,v⟩ A n q ⟨_,_,_,_,_,_,_⟩ _ W K.xok (K.fa 0 rfl) g m).mono ?_
 rw[i]
 rintro e z ⟨rfl,b⟩
 have K:=K.on b
 clear b p i
 have a:=K.r 1 rfl
 have l:=K.c 2 rfl
 go_upto_region 24 with(fail)
 go_wp2_with fail
 refine K.cl fun W K=>?_
 refine(xO _ _ _ d (by omega) W _ K.xok).mono ?_
 rintro e t ⟨rfl,b⟩
 have K:=K.on b
 clear b a l
 have a:=K.r 1 rfl
 have l:=K.c 2 rfl
 go_upto_region 26 with(fail)
 clear a l
 refine K.cw fun W K=>?_
 refine wp_region_lit (K.ld 2 rfl ?_)
 have a:=K.r 1 rfl
 go_wp2_with fail
 refine(eI ⟨_,_,_,_,_,cells,_,_,_,_,_⟩ _ _ _ 0 (by omega) _ W K.xok).mono ?_
 rintro e t ⟨rfl,b⟩
 have K:=K.on b
 clear a
 go_wp2_with (refine K.sr 0 rfl fun W K=>?_)
 exact K.rc2 0 rfl rfl ⟨A,n,q,rfl,K.below,K.back (K.fa 0 rfl)⟩
end
end Go.Proofs.YtpokkciheejeiaaGreatDoor
