/- Lemmas and contracts that the proof of TopSegments uses, part 2 of 14: each is a theorem for every input that its premises allow. -/
import Derived.StillTailTactics
import Derived.BigQuiet
import Derived.Outline
import Derived.Deep.DeepMust
import Derived.Deep.RegionHeld3
import Derived.Deep.DeepCutAuto
import Derived.Maps.OwnSet
import Derived.WalkLawsBesides
import Derived.WalkSpells
import Derived.Test.YtpokkciheejeiaaGreatDoorRows
import Derived.Test.YtpokkciheejeiaaGreatDoorTsA
set_option linter.unusedVariables false
set_option linter.unusedSimpArgs false
set_option maxRecDepth 100000
namespace Go.Proofs.YtpokkciheejeiaaGreatDoor
section
open Go.RowKit Go.ChangeShapes
theorem ir:∀ (cs:List (Int×Int)) (i:Nat) (x y:Int),((ax cs).set (i*2) (.int .i64 x)).set (i*2+1) (.int .i64 y)=ax (cs.set i (x,y))
 | [],i,x,y=>by simp[ax]
 | e::l,0,x,y=>by rw[aR,List.set_cons_zero,aR];simp
 | e::l,i+1,x,y=>by
   rw[aR,List.set_cons_succ,aR,←ir l i x y]
   rw[show(i+1)*2=i*2+2 from by omega]
   simp
theorem oo {W:World} {base g n cap i:Nat} {cs:List (Int×Int)} (h:W.ownsRow base 220 2 (.slice (some ⟨g,0,none⟩) n cap) n (ax cs)) (o:i<n) (x y:Int):
 ((W.setCell ⟨g,i*2,none⟩ (.int .i64 x)).setCell ⟨g,i*2+1,none⟩ (.int .i64 y)).ownsRow base 220 2 (.slice (some ⟨g,0,none⟩) n cap) n (ax (cs.set i (x,y))):=by
 have hlen:=h.1
 rcases h.2 with⟨e,_⟩ | ⟨g',cap',cur,k,d,m,f,l,c,j⟩
 ·cases e
 ·injection k with a p b
  injection a with a
  injection a with a
  subst a b
  refine⟨by rw[←ir,List.length_set,List.length_set,hlen],.inr ⟨g,cap,(cur.setIfInBounds (i*2) (.int .i64 x)).setIfInBounds (i*2+1) (.int .i64 y),rfl,d,Blk.set_ (Blk.set_ (t:=220) m (i*2) _) (i*2+1) _,f,l,by simp[c],?_⟩⟩
  rw[←ir,←j]
  simp only[Array.toList_setIfInBounds]
  rw[List.take_set,List.take_set]
theorem gG {W:World} {base g n cap i:Nat} {cs:List (Int×Int)} (h:W.ownsRow base 220 2 (.slice (some ⟨g,0,none⟩) n cap) n (ax cs)) (r:i<n):∃ x y,W.cell? ⟨g,i*2,none⟩=some (.int .i64 x)∧W.cell? ⟨g,i*2+1,none⟩=some (.int .i64 y)∧W.frozen? ⟨g,i*2,none⟩=false∧W.frozen? ⟨g,i*2+1,none⟩=false∧cs[i]?=some (x,y):=by
 have s:cs.length=n:=by have:=h.1;rw[cy]at this;omega
 obtain⟨e,b⟩:∃ e,cs[i]?=some e:=⟨_,List.getElem?_eq_getElem (by omega)⟩
 rcases h.2 with⟨e,_⟩ | ⟨g',cap',cur,k,o,l,p,q,m,f⟩
 ·cases e
 ·injection k with a u d
  injection a with a
  injection a with a
  subst a d
  have hB:Blk W g 220 cur:=l
  have c:∀ j,j<2→W.cell? ⟨g,i*2+j,none⟩=(ax cs)[i*2+j]?:=by
   intro j t
   rw[hB.cell,←f,List.getElem?_take,if_pos (by omega),Array.getElem?_toList]
  refine⟨e.1,e.2,?_,?_,hB.frozen _,hB.frozen _,b⟩
  ·have:=c 0 (by omega);rw[jW cs i e b 0 _ rfl]at this;exact this
  ·have:=c 1 (by omega);rw[jW cs i e b 1 _ rfl]at this;exact this
theorem fC {w:World} {B size n:Nat} {A:Option Addr} {xs:List Value} {p:Addr} (h:Reads w B size A n xs) (f:0<n → ∀ ad,A=some ad→ad.block≠p.block) (u:Value):Reads (w.setCell p u) B size A n xs:=by
 refine⟨h.1,fun hn=>?_⟩
 obtain⟨ad,e,c,b⟩:=h.2 hn
 refine⟨ad,e,c,fun j v d=>?_⟩
 have a:=f hn ad e
 rw[World.cell?_setCell_other _ _ _ _ (fun g=>a (by rw[←aO ad j,g]))]
 exact b j v d
theorem Kept.put_off {b W:World} {L:List Ent} {p:Addr} (h:Kept b W L) (c:b.heap.size≤p.block) (d:∀ x ∈ L,x.1≠p.block) (u:Value):Kept b (W.setCell p u) L:=
 ⟨h.1.setCell c u,fun x a=>⟨(h.2.1 x a).1.far (d x a) u,(h.2.1 x a).2⟩,h.2.2⟩
theorem jK {W:World} {g:Nat} {x0 x1 x2:Value} (h:Blk W g 87 #[x0,x1,x2]) (tmps:Array Value) (u:Value) (b:tmps[4]?.getD undef = .pointer (some ⟨g,0,none⟩)) (c:tmps[5]?.getD undef=u):(results Tryz.f219 tmps).run Tryz.prog W = .ok (.tuple #[.agg #[x0,x1,x2],u]) W:=by
 have c0:W.cell? ⟨g,0,none⟩=some x0:=h.cell 0
 have d:W.cell? ⟨g,1,none⟩=some x1:=h.cell 1
 have a:W.cell? ⟨g,2,none⟩=some x2:=h.cell 2
 simp[results,Tryz.results219,go_sem,b,c,c0,d,a]
theorem fK {wd sl a:Int} {cs:List (Int×Int)} (h:(cj wd sl cs&&aY a)=false):eJ wd sl cs a=⟨wd,sl,cs,1⟩:=by unfold eJ;rw[if_pos h]
theorem lW {wd sl a:Int} {cs:List (Int×Int)} (c:cj wd sl cs=true) (b:aY a=true) (h:a/wd≤sl):eJ wd sl cs a=⟨wd,sl,cs,0⟩:=by unfold eJ;rw[if_neg (by rw[c,b];simp),if_pos h]
theorem oV {wd sl a:Int} {cs:List (Int×Int)} (c:cj wd sl cs=true) (b:aY a=true) (h:¬ a/wd≤sl):eJ wd sl cs a=⟨wd,a/wd,ju cs sl (a/wd),0⟩:=by unfold eJ;rw[if_neg (by rw[c,b];simp),if_neg h]
theorem aZ {wd sl:Int} {cs:List (Int×Int)} (h:cj wd sl cs=true):1≤wd∧wd≤2147483647∧0≤sl∧sl≤1099511627776∧1≤cs.length∧cs.length≤16:=by
 unfold cj at h
 rw[Bool.and_eq_true,decide_eq_true_eq]at h
 exact h.1
theorem fZ {a:Int} (h:aY a=true):0≤a∧a≤1099511627776:=by unfold aY at h;rw[decide_eq_true_eq]at h;exact h
set_option maxHeartbeats 4000000 in
theorem Be (wd sl:Int) (A:Option Addr) (n c B:Nat) (cs:List (Int×Int)) (a:Int) (W:World) (hr:Reads W B 2 A n (ax cs)) (hB:B≤W.heap.size) (hn:n≤9223372036854775807):Calls Tryz.prog 219 #[.agg (pT wd sl A n c),.int .i64 a] W (cB A W (eJ wd sl cs a)):=by
 have X:=Lib.hid (hr.more hB)
 have HL:=Lib.hid hr.cell_len
 clear hr
 have I:Hid (Kept W ((W.alloc (.cells #[.int .i64 wd,.int .i64 sl,.slice A n c] 87)).alloc (.cells #[.int .i64 0,.int .i64 0,.slice none 0 0] 87)) [(W.heap.size+1,87,#[.int .i64 0,.int .i64 0,.slice none 0 0]),(W.heap.size,87,#[.int .i64 wd,.int .i64 sl,.slice A n c])]):=(((Kept.start W).alloc_at 87 #[.int .i64 wd,.int .i64 sl,.slice A n c] (W.heap.size) (by simp)).alloc_at 87 #[.int .i64 0,.int .i64 0,.slice none 0 0] (W.heap.size+1) (by simp))
 go_enter Tryz.func219,Tryz.ntmps219
 go_wp2_with fail
 with_reducible refine(tP wd sl A n c W.heap.size cs _ (X.out.below I.out.bel) I.out.size hn).mono ?_
 rintro e u ⟨rfl,Y⟩
 have b:Hid (Kept W u [(W.heap.size+1,87,#[.int .i64 0,.int .i64 0,.slice none 0 0]),(W.heap.size,87,#[.int .i64 wd,.int .i64 sl,.slice A n c])]):=I.out.next Y
 clear I
 clear Y
 cases hrt:cj wd sl cs
 ·have L:=Lib.hid (fK (wd:=wd) (sl:=sl) (cs:=cs) (a:=a) (by rw[hrt];rfl))
  clear hrt
  have h:u.cell? ⟨W.heap.size,0,none⟩=some (.int .i64 wd):=b.out.cell 1 rfl 0
  have l:u.cell? ⟨W.heap.size,1,none⟩=some (.int .i64 sl):=b.out.cell 1 rfl 1
  have f:u.cell? ⟨W.heap.size,2,none⟩=some (.slice A n c):=b.out.cell 1 rfl 2
  have o:u.cell? ⟨W.heap.size+1,0,none⟩=some (.int .i64 0):=b.out.cell 0 rfl 0
  have r:u.frozen? ⟨W.heap.size+1,0,none⟩=false:=b.out.frozen 0 rfl 0
  have g:u.cell? ⟨W.heap.size+1,1,none⟩=some (.int .i64 0):=b.out.cell 0 rfl 1
  have q:u.frozen? ⟨W.heap.size+1,1,none⟩=false:=b.out.frozen 0 rfl 1
  have j:u.cell? ⟨W.heap.size+1,2,none⟩=some (.slice none 0 0):=b.out.cell 0 rfl 2
  have p:u.frozen? ⟨W.heap.size+1,2,none⟩=false:=b.out.frozen 0 rfl 2
  go_wp2
  exact bodyPost_ret (jK (je (b.out.blk 0 rfl)) _ (.int .i64 1) rfl rfl) rfl (cB.of L.out ⟨A,n,c,rfl,((((X.out.below b.out.bel).setCell (by simp) _).setCell (by simp) _).setCell (by simp) _).more (by have:=b.out.size;simp[World.setCell];omega),bA b.out.bel (by omega),fun ad e=>.inl rfl⟩)
 ·have h:u.cell? ⟨W.heap.size,0,none⟩=some (.int .i64 wd):=b.out.cell 1 rfl 0
  have l:u.cell? ⟨W.heap.size,1,none⟩=some (.int .i64 sl):=b.out.cell 1 rfl 1
  have f:u.cell? ⟨W.heap.size,2,none⟩=some (.slice A n c):=b.out.cell 1 rfl 2
  have o:u.cell? ⟨W.heap.size+1,0,none⟩=some (.int .i64 0):=b.out.cell 0 rfl 0
  have r:u.frozen? ⟨W.heap.size+1,0,none⟩=false:=b.out.frozen 0 rfl 0
  have g:u.cell? ⟨W.heap.size+1,1,none⟩=some (.int .i64 0):=b.out.cell 0 rfl 1
  have q:u.frozen? ⟨W.heap.size+1,1,none⟩=false:=b.out.frozen 0 rfl 1
  have j:u.cell? ⟨W.heap.size+1,2,none⟩=some (.slice none 0 0):=b.out.cell 0 rfl 2
  have p:u.frozen? ⟨W.heap.size+1,2,none⟩=false:=b.out.frozen 0 rfl 2
  go_wp2_with fail
  refine(lY a _).mono ?_
  rintro e w2 ⟨rfl,rfl⟩
  cases hta:aY a
  ·have L:=Lib.hid (fK (wd:=wd) (sl:=sl) (cs:=cs) (a:=a) (by rw[hrt,hta];rfl))
   clear hrt hta
   go_wp2
   exact bodyPost_ret (jK (je (b.out.blk 0 rfl)) _ (.int .i64 1) rfl rfl) rfl (cB.of L.out ⟨A,n,c,rfl,((((X.out.below b.out.bel).setCell (by simp) _).setCell (by simp) _).setCell (by simp) _).more (by have:=b.out.size;simp[World.setCell];omega),bA b.out.bel (by omega),fun ad e=>.inl rfl⟩)
  obtain⟨r1,r2,r3,r4,r5,r6⟩:=aZ hrt
  obtain⟨t1,t2⟩:=fZ hta
  rw[HL.out]at r5 r6
  have ae:=mW (a:=a) (wd:=wd) t1 t2 r1
  have ap:¬ wd=0:=by omega
  have hq:(wd == 0)=false:=by rw[beq_eq_false_iff_ne];omega
  have ac:0≤a/wd:=Int.ediv_nonneg t1 (by omega)
  have Z:a/wd≤1099511627776:=Int.le_trans (Int.ediv_le_self wd t1) t2
  have P:=Lib.hid (lW (a:=a) hrt hta)
  have O:=Lib.hid (oV (a:=a) hrt hta)
  clear hrt hta
  generalize a/wd=tz at ae ac Z P O
  by_cases K:tz≤sl
  ·have dle:decide (tz≤sl)=true:=by simpa using K
   have L:=Lib.hid (P.out K)
   go_wp2
   exact bodyPost_ret (jK (je (b.out.blk 0 rfl)) _ (.int .i64 0) rfl rfl) rfl (cB.of L.out ⟨A,n,c,rfl,((((X.out.below b.out.bel).setCell (by simp) _).setCell (by simp) _).setCell (by simp) _).more (by have:=b.out.size;simp[World.setCell];omega),bA b.out.bel (by omega),fun ad e=>.inl rfl⟩)
  have dle:decide (tz≤sl)=false:=by simpa using K
  have L:=Lib.hid (O.out K)
  clear P O
  go_wp2_with fail
  with_reducible refine(tJ A n c W.heap.size cs _ (X.out.below b.out.bel) b.out.size (by omega)).mono ?_
  rintro e t ⟨v3,rfl,w,V⟩
  obtain⟨M,E,rfl,ao,al⟩:=w.form (by omega)
  have J:=Lib.hid (cQ (base':=W.heap.size+2) w (b.out.lt 0 rfl))
  clear w dle
  clear h l f o r g q j p
  have d:Hid (Kept W t [(W.heap.size+1,87,#[.int .i64 0,.int .i64 0,.slice none 0 0]),(W.heap.size,87,#[.int .i64 wd,.int .i64 sl,.slice A n c])]):=b.out.next V
  clear b
  clear V
  have H:=Lib.hid (xY cs sl tz r3 (by omega) (by rw[HL.out];exact r5))
  rw[HL.out]at H
  by_cases am:sl<tz-(n:Int)
  ·rw[show max (sl+1) (tz-(n:Int)+1)=tz-(n:Int)+1 from by omega]at H
   obtain⟨cnt,v⟩:∃ m:Nat,(m:Int)=tz-(tz-(n:Int)+1)+1:=⟨(tz-(tz-(n:Int)+1)+1).toNat,by omega⟩
   rw[←v,Int.toNat_natCast]at H
   have h:t.cell? ⟨W.heap.size,0,none⟩=some (.int .i64 wd):=d.out.cell 1 rfl 0
   have l:t.cell? ⟨W.heap.size,1,none⟩=some (.int .i64 sl):=d.out.cell 1 rfl 1
   have f:t.cell? ⟨W.heap.size,2,none⟩=some (.slice A n c):=d.out.cell 1 rfl 2
   have o:t.cell? ⟨W.heap.size+1,0,none⟩=some (.int .i64 0):=d.out.cell 0 rfl 0
   have r:t.frozen? ⟨W.heap.size+1,0,none⟩=false:=d.out.frozen 0 rfl 0
   have g:t.cell? ⟨W.heap.size+1,1,none⟩=some (.int .i64 0):=d.out.cell 0 rfl 1
   have q:t.frozen? ⟨W.heap.size+1,1,none⟩=false:=d.out.frozen 0 rfl 1
   have j:t.cell? ⟨W.heap.size+1,2,none⟩=some (.slice none 0 0):=d.out.cell 0 rfl 2
   have p:t.frozen? ⟨W.heap.size+1,2,none⟩=false:=d.out.frozen 0 rfl 2
   go_wp2
   clear h l f o r g q j p
   generalize S:tz-(n:Int)+1=s0 at H v ⊢
   have b1:1≤s0:=by omega
   have b2:s0≤tz:=by omega
   clear S
   go_loopw [9] (fun i wr => ∃ (k:Nat),k≤cnt∧i = .int .i64 (s0+(k:Int))∧Hid (wr.ownsRow (W.heap.size+2) 220 2 (.slice (some ⟨M,0,none⟩) n E) n (ax (clr cs n s0 k)))∧Hid (Kept W wr [(W.heap.size+1,87,#[.int .i64 0,.int .i64 0,.slice none 0 0]),(W.heap.size,87,#[.int .i64 wd,.int .i64 sl,.slice A n c])])) (fun i _=>(tz+1-intOf i).toNat)
   case atStart=>exact⟨0,Nat.zero_le _,by simp,J,d⟩
   case round=>
    clear d J
    obtain⟨k,hk,rfl,D,s⟩:=hrel
    by_cases ab:k<cnt
    ·have dle:decide (s0+(k:Int)≤tz)=true:=by simp;omega
     have i1:(0:Int)≤(s0+(k:Int))%(n:Int):=Int.emod_nonneg _ (by omega)
     have i2:(s0+(k:Int))%(n:Int)<(n:Int):=Int.emod_lt_of_pos _ (by omega)
     have G:((s0+(k:Int))%(n:Int)).toNat<n:=by omega
     have ag:¬ (n:Int)=0:=by omega
     obtain⟨x,y,q0,q1,q2,q3,_⟩:=gG D.out G
     have R:=Lib.hid (oo D.out G 0 0)
     have HS:=Lib.hid (show clr cs n s0 (k+1)=(clr cs n s0 k).set ((s0+(k:Int))%(n:Int)).toNat (0,0) from by rw[clr])
     have z:=Lib.hid (gO D.out M rfl)
     clear D
     go_wp2
     refine⟨⟨k+1,by omega,by rw[show s0+(k:Int)+1=s0+((k+1:Nat):Int) from by omega],by rw[HS.out];exact R,Lib.hid ((s.out.put_off (by simp;have:=z.out;omega) (by intro x F;simp at F;have:=z.out;rcases F with rfl | rfl<;>simp<;>omega) _).put_off (by simp;have:=z.out;omega) (by intro x F;simp at F;have:=z.out;rcases F with rfl | rfl<;>simp<;>omega) _)⟩,by simp[intOf];omega⟩
    ·obtain rfl:k=cnt:=by omega
     have dle:decide (s0+(k:Int)≤tz)=false:=by simp;omega
     rw[H.out]at D
     have z:=Lib.hid (gO D.out M rfl)
     have h:wr.cell? ⟨W.heap.size,0,none⟩=some (.int .i64 wd):=s.out.cell 1 rfl 0
     have N:wr.frozen? ⟨W.heap.size,0,none⟩=false:=s.out.frozen 1 rfl 0
     have l:wr.cell? ⟨W.heap.size,1,none⟩=some (.int .i64 sl):=s.out.cell 1 rfl 1
     have T:wr.frozen? ⟨W.heap.size,1,none⟩=false:=s.out.frozen 1 rfl 1
     have f:wr.cell? ⟨W.heap.size,2,none⟩=some (.slice A n c):=s.out.cell 1 rfl 2
     have U:wr.frozen? ⟨W.heap.size,2,none⟩=false:=s.out.frozen 1 rfl 2
     have o:wr.cell? ⟨W.heap.size+1,0,none⟩=some (.int .i64 0):=s.out.cell 0 rfl 0
     have r:wr.frozen? ⟨W.heap.size+1,0,none⟩=false:=s.out.frozen 0 rfl 0
     have g:wr.cell? ⟨W.heap.size+1,1,none⟩=some (.int .i64 0):=s.out.cell 0 rfl 1
     have q:wr.frozen? ⟨W.heap.size+1,1,none⟩=false:=s.out.frozen 0 rfl 1
     have j:wr.cell? ⟨W.heap.size+1,2,none⟩=some (.slice none 0 0):=s.out.cell 0 rfl 2
     have p:wr.frozen? ⟨W.heap.size+1,2,none⟩=false:=s.out.frozen 0 rfl 2
     have Q:=Lib.hid (Reads.of_own D.out)
     have C:∀ g',g'<W.heap.size+2→0<n → ∀ ad,some (⟨M,0,none⟩:Addr)=some ad→ad.block≠g':=fun g' h' _ ad e=>by injection e with e;subst e;have:=z.out;simp;omega
     go_wp2
     exact bodyPost_ret (jK (je (((s.out.set_ 1 rfl 1 _).set_ 1 rfl 2 _).blk 0 rfl)) _ (.int .i64 0) rfl rfl) rfl (cB.of L.out ⟨_,n,E,rfl,by simp only[World.size_setCell];exact bE (fC (fC Q.out (C _ (by simp)) _) (C _ (by simp)) _) (C _ (by simp)),bA ((s.out.set_ 1 rfl 1 _).set_ 1 rfl 2 _).bel (by omega),fun ad e=>.inr (by injection e with e;subst e;have:=z.out;simp;omega)⟩)
  ·rw[show max (sl+1) (tz-(n:Int)+1)=sl+1 from by omega]at H
   obtain⟨cnt,v⟩:∃ m:Nat,(m:Int)=tz-(sl+1)+1:=⟨(tz-(sl+1)+1).toNat,by omega⟩
   rw[←v,Int.toNat_natCast]at H
   have h:t.cell? ⟨W.heap.size,0,none⟩=some (.int .i64 wd):=d.out.cell 1 rfl 0
   have l:t.cell? ⟨W.heap.size,1,none⟩=some (.int .i64 sl):=d.out.cell 1 rfl 1
   have f:t.cell? ⟨W.heap.size,2,none⟩=some (.slice A n c):=d.out.cell 1 rfl 2
   have o:t.cell? ⟨W.heap.size+1,0,none⟩=some (.int .i64 0):=d.out.cell 0 rfl 0
   have r:t.frozen? ⟨W.heap.size+1,0,none⟩=false:=d.out.frozen 0 rfl 0
   have g:t.cell? ⟨W.heap.size+1,1,none⟩=some (.int .i64 0):=d.out.cell 0 rfl 1
   have q:t.frozen? ⟨W.heap.size+1,1,none⟩=false:=d.out.frozen 0 rfl 1
   have j:t.cell? ⟨W.heap.size+1,2,none⟩=some (.slice none 0 0):=d.out.cell 0 rfl 2
   have p:t.frozen? ⟨W.heap.size+1,2,none⟩=false:=d.out.frozen 0 rfl 2
   go_wp2
   clear h l f o r g q j p
   generalize S:sl+1=s0 at H v ⊢
   have b1:1≤s0:=by omega
   have b2:s0≤tz:=by omega
   clear S
   go_loopw [9] (fun i wr => ∃ (k:Nat),k≤cnt∧i = .int .i64 (s0+(k:Int))∧Hid (wr.ownsRow (W.heap.size+2) 220 2 (.slice (some ⟨M,0,none⟩) n E) n (ax (clr cs n s0 k)))∧Hid (Kept W wr [(W.heap.size+1,87,#[.int .i64 0,.int .i64 0,.slice none 0 0]),(W.heap.size,87,#[.int .i64 wd,.int .i64 sl,.slice A n c])])) (fun i _=>(tz+1-intOf i).toNat)
   case atStart=>exact⟨0,Nat.zero_le _,by simp,J,d⟩
   case round=>
    clear d J
    obtain⟨k,hk,rfl,D,s⟩:=hrel
    by_cases ab:k<cnt
    ·have dle:decide (s0+(k:Int)≤tz)=true:=by simp;omega
     have i1:(0:Int)≤(s0+(k:Int))%(n:Int):=Int.emod_nonneg _ (by omega)
     have i2:(s0+(k:Int))%(n:Int)<(n:Int):=Int.emod_lt_of_pos _ (by omega)
     have G:((s0+(k:Int))%(n:Int)).toNat<n:=by omega
     have ag:¬ (n:Int)=0:=by omega
     obtain⟨x,y,q0,q1,q2,q3,_⟩:=gG D.out G
     have R:=Lib.hid (oo D.out G 0 0)
     have HS:=Lib.hid (show clr cs n s0 (k+1)=(clr cs n s0 k).set ((s0+(k:Int))%(n:Int)).toNat (0,0) from by rw[clr])
     have z:=Lib.hid (gO D.out M rfl)
     clear D
     go_wp2
     refine⟨⟨k+1,by omega,by rw[show s0+(k:Int)+1=s0+((k+1:Nat):Int) from by omega],by rw[HS.out];exact R,Lib.hid ((s.out.put_off (by simp;have:=z.out;omega) (by intro x F;simp at F;have:=z.out;rcases F with rfl | rfl<;>simp<;>omega) _).put_off (by simp;have:=z.out;omega) (by intro x F;simp at F;have:=z.out;rcases F with rfl | rfl<;>simp<;>omega) _)⟩,by simp[intOf];omega⟩
    ·obtain rfl:k=cnt:=by omega
     have dle:decide (s0+(k:Int)≤tz)=false:=by simp;omega
     rw[H.out]at D
     have z:=Lib.hid (gO D.out M rfl)
     have h:wr.cell? ⟨W.heap.size,0,none⟩=some (.int .i64 wd):=s.out.cell 1 rfl 0
     have N:wr.frozen? ⟨W.heap.size,0,none⟩=false:=s.out.frozen 1 rfl 0
     have l:wr.cell? ⟨W.heap.size,1,none⟩=some (.int .i64 sl):=s.out.cell 1 rfl 1
     have T:wr.frozen? ⟨W.heap.size,1,none⟩=false:=s.out.frozen 1 rfl 1
     have f:wr.cell? ⟨W.heap.size,2,none⟩=some (.slice A n c):=s.out.cell 1 rfl 2
     have U:wr.frozen? ⟨W.heap.size,2,none⟩=false:=s.out.frozen 1 rfl 2
     have o:wr.cell? ⟨W.heap.size+1,0,none⟩=some (.int .i64 0):=s.out.cell 0 rfl 0
     have r:wr.frozen? ⟨W.heap.size+1,0,none⟩=false:=s.out.frozen 0 rfl 0
     have g:wr.cell? ⟨W.heap.size+1,1,none⟩=some (.int .i64 0):=s.out.cell 0 rfl 1
     have q:wr.frozen? ⟨W.heap.size+1,1,none⟩=false:=s.out.frozen 0 rfl 1
     have j:wr.cell? ⟨W.heap.size+1,2,none⟩=some (.slice none 0 0):=s.out.cell 0 rfl 2
     have p:wr.frozen? ⟨W.heap.size+1,2,none⟩=false:=s.out.frozen 0 rfl 2
     have Q:=Lib.hid (Reads.of_own D.out)
     have C:∀ g',g'<W.heap.size+2→0<n → ∀ ad,some (⟨M,0,none⟩:Addr)=some ad→ad.block≠g':=fun g' h' _ ad e=>by injection e with e;subst e;have:=z.out;simp;omega
     go_wp2
     exact bodyPost_ret (jK (je (((s.out.set_ 1 rfl 1 _).set_ 1 rfl 2 _).blk 0 rfl)) _ (.int .i64 0) rfl rfl) rfl (cB.of L.out ⟨_,n,E,rfl,by simp only[World.size_setCell];exact bE (fC (fC Q.out (C _ (by simp)) _) (C _ (by simp)) _) (C _ (by simp)),bA ((s.out.set_ 1 rfl 1 _).set_ 1 rfl 2 _).bel (by omega),fun ad e=>.inr (by injection e with e;subst e;have:=z.out;simp;omega)⟩)
end
section
open Go.RowKit Go.ChangeShapes
def nQ (cs:List (Int×Int)) (sl s:Int):Int×Int:=if sl<s then(0,0) else cs.getD (s%cs.length).toNat (0,0)
def fO (cs:List (Int×Int)) (sl tz:Int):Nat→List (Int×Int)
 | 0=>List.replicate cs.length (0,0)
 | k+1=>(fO cs sl tz k).set ((tz-(k:Int))%cs.length).toNat (nQ cs sl (tz-(k:Int)))
theorem lX (cs:List (Int×Int)) (sl tz:Int) (k:Nat):(fO cs sl tz k).length=cs.length:=by
 induction k with
 | zero=>simp[fO]
 | succ k ih=>rw[fO,List.length_set,ih]
theorem yl (cs:List (Int×Int)) (sl tz:Int) (k i:Nat) (c:i<cs.length) (e:k≤cs.length):(fO cs sl tz k)[i]?=if(tz-(k:Int))<cZ tz cs.length i then some (nQ cs sl (cZ tz cs.length i)) else some (0,0):=by
 obtain⟨d,l,a⟩:=gi (tz:=tz) (n:=(cs.length:Int)) (i:=i) (by omega) (by omega)
 induction k with
 | zero=>rw[if_neg (by omega),fO,List.getElem?_replicate,if_pos c]
 | succ k ih=>
   have ih:=ih (by omega)
   rw[fO,List.getElem?_set]
   have f:=Int.emod_nonneg (tz-(k:Int)) (by omega:(cs.length:Int)≠0)
   by_cases h:((tz-(k:Int))%cs.length).toNat=i
   ·have b:=mD (tz:=tz) (n:=(cs.length:Int)) (i:=i) (s:=tz-(k:Int)) (by omega) (by omega) (by omega) (by omega) (by omega)
    rw[if_pos h,if_pos (by rw[lX];omega),←b,if_pos (by omega)]
   ·rw[if_neg h,ih]
    by_cases g:tz-(k:Int)<cZ tz cs.length i
    ·rw[if_pos g,if_pos (by omega)]
    ·rw[if_neg g,if_neg (by
      intro j
      have:cZ tz cs.length i=tz-(k:Int):=by omega
      rw[this]at a
      exact h (by rw[a];simp))]
theorem rT (cs:List (Int×Int)) (sl tz:Int) (b:sl<tz) (hn:1≤cs.length):fO cs sl tz cs.length=ju cs sl tz:=by
 apply List.ext_getElem?
 intro i
 by_cases a:i<cs.length
 ·obtain⟨d,e,c⟩:=gi (tz:=tz) (n:=(cs.length:Int)) (i:=i) (by omega) (by omega)
  rw[yl cs sl tz _ i a (Nat.le_refl _),if_pos (by omega),ju,List.getElem?_map,List.getElem?_range a,Option.map_some]
  unfold nQ
  rw[c]
  simp
 ·rw[List.getElem?_eq_none (by rw[lX];omega),List.getElem?_eq_none (by rw[gv];omega)]
theorem wu {W:World} {g:Nat} {x0 x1:Value} (h:Blk W g 220 #[x0,x1]) (tmps:Array Value) (a:tmps[4]?.getD undef = .pointer (some ⟨g,0,none⟩)):(results Tryz.f212 tmps).run Tryz.prog W = .ok (.agg #[x0,x1]) W:=by
 have c0:W.cell? ⟨g,0,none⟩=some x0:=h.cell 0
 have b:W.cell? ⟨g,1,none⟩=some x1:=h.cell 1
 simp[results,Tryz.results212,go_sem,a,c0,b]
def qA (W:World) (r:Int×Int) (e:Ending) (w':World):Prop:=e = .returned (.agg (jt r))∧Below W.heap.size W w'
theorem qA.of {W:World} {r r':Int×Int} {e:Ending} {w':World} (h:r=r') (a:qA W r' e w'):qA W r e w':=h ▸ a
theorem fQ {cs:List (Int×Int)} {i:Nat} {e:Int×Int} (h:cs[i]?=some e):cs.getD i (0,0)=e:=by rw[List.getD_eq_getElem?_getD,h];rfl
theorem FV {w:World} {g:Nat} {a b a' b':Value} {t:TypeId} (h:Blk w g t #[a,b]):Blk ((w.setCell ⟨g,0,none⟩ a').setCell ⟨g,1,none⟩ b') g t #[a',b']:=(h.set_ 0 a').set_ 1 b'
set_option maxHeartbeats 2000000 in
theorem FM (wd sl:Int) (A:Option Addr) (n c B:Nat) (cs:List (Int×Int)) (s:Int) (W:World) (u:Reads W B 2 A n (ax cs)) (hB:B≤W.heap.size) (R:1≤n) (hn:n≤16) (H:0≤s) (Y:sl-n<s) (Z:s≤1099511627776) (X:0≤sl) (l1:sl≤1099511627776):Calls Tryz.prog 212 #[.agg (pT wd sl A n c),.int .i64 s] W (qA W (nQ cs sl s)):=by
 have F:=Lib.hid (u.more hB)
 have G:=Lib.hid u.cell_len
 clear u
 by_cases q:sl<s
 ·have b:Hid (Kept W ((W.alloc (.cells #[.int .i64 wd,.int .i64 sl,.slice A n c] 87)).alloc (.cells #[.int .i64 0,.int .i64 0] 220)) [(W.heap.size+1,220,#[.int .i64 0,.int .i64 0]),(W.heap.size,87,#[.int .i64 wd,.int .i64 sl,.slice A n c])]):=(((Kept.start W).alloc_at 87 #[.int .i64 wd,.int .i64 sl,.slice A n c] (W.heap.size) (by simp)).alloc_at 220 #[.int .i64 0,.int .i64 0] (W.heap.size+1) (by simp))
  have v:=Lib.hid (show nQ cs sl s=(0,0) from by unfold nQ;rw[if_pos q])
  have M:decide (sl<s)=true:=by simpa using q
  go_enter Tryz.func212,Tryz.ntmps212
  have g:((W.alloc (.cells #[.int .i64 wd,.int .i64 sl,.slice A n c] 87)).alloc (.cells #[.int .i64 0,.int .i64 0] 220)).cell? ⟨W.heap.size,0,none⟩=some (.int .i64 wd):=b.out.cell 1 rfl 0
  have k:((W.alloc (.cells #[.int .i64 wd,.int .i64 sl,.slice A n c] 87)).alloc (.cells #[.int .i64 0,.int .i64 0] 220)).cell? ⟨W.heap.size,1,none⟩=some (.int .i64 sl):=b.out.cell 1 rfl 1
  have i:((W.alloc (.cells #[.int .i64 wd,.int .i64 sl,.slice A n c] 87)).alloc (.cells #[.int .i64 0,.int .i64 0] 220)).cell? ⟨W.heap.size,2,none⟩=some (.slice A n c):=b.out.cell 1 rfl 2
  have l:((W.alloc (.cells #[.int .i64 wd,.int .i64 sl,.slice A n c] 87)).alloc (.cells #[.int .i64 0,.int .i64 0] 220)).cell? ⟨W.heap.size+1,0,none⟩=some (.int .i64 0):=b.out.cell 0 rfl 0
  have m:((W.alloc (.cells #[.int .i64 wd,.int .i64 sl,.slice A n c] 87)).alloc (.cells #[.int .i64 0,.int .i64 0] 220)).frozen? ⟨W.heap.size+1,0,none⟩=false:=b.out.frozen 0 rfl 0
  have j:((W.alloc (.cells #[.int .i64 wd,.int .i64 sl,.slice A n c] 87)).alloc (.cells #[.int .i64 0,.int .i64 0] 220)).cell? ⟨W.heap.size+1,1,none⟩=some (.int .i64 0):=b.out.cell 0 rfl 1
  have h:((W.alloc (.cells #[.int .i64 wd,.int .i64 sl,.slice A n c] 87)).alloc (.cells #[.int .i64 0,.int .i64 0] 220)).frozen? ⟨W.heap.size+1,1,none⟩=false:=b.out.frozen 0 rfl 1
  go_wp2
  exact bodyPost_ret (wu (b.out.blk 0 rfl) _ rfl) rfl (qA.of v.out ⟨rfl,b.out.bel⟩)
 ·have M:decide (sl<s)=false:=by simpa using q
  have d1:decide (s≤sl-(n:Int))=false:=by simp;omega
  have N:decide (s<0)=false:=by simp;omega
  have Q:(0:Int)≤s%(n:Int):=Int.emod_nonneg _ (by omega)
  have T:s%(n:Int)<(n:Int):=Int.emod_lt_of_pos _ (by omega)
  have t:(s%(n:Int)).toNat<n:=by omega
  have L:¬ n=0:=by omega
  have D:s.tmod (n:Int)=s%(n:Int):=Int.tmod_eq_emod_of_nonneg H
  obtain⟨ad,e,rfl,P,C,y,E⟩:=ie F.out t
  have z:(ad.add ((s%(n:Int)).toNat*2)).block<W.heap.size:=World.block_lt_of_cell? W _ y
  have v:=Lib.hid (show nQ cs sl s=e from by unfold nQ;rw[if_neg q,G.out];exact fQ C)
  clear C q
  have b:Hid (Kept W ((W.alloc (.cells #[.int .i64 wd,.int .i64 sl,.slice (some ad) n c] 87)).alloc (.cells #[.int .i64 0,.int .i64 0] 220)) [(W.heap.size+1,220,#[.int .i64 0,.int .i64 0]),(W.heap.size,87,#[.int .i64 wd,.int .i64 sl,.slice (some ad) n c])]):=(((Kept.start W).alloc_at 87 #[.int .i64 wd,.int .i64 sl,.slice (some ad) n c] (W.heap.size) (by simp)).alloc_at 220 #[.int .i64 0,.int .i64 0] (W.heap.size+1) (by simp))
  go_enter Tryz.func212,Tryz.ntmps212
  have g:((W.alloc (.cells #[.int .i64 wd,.int .i64 sl,.slice (some ad) n c] 87)).alloc (.cells #[.int .i64 0,.int .i64 0] 220)).cell? ⟨W.heap.size,0,none⟩=some (.int .i64 wd):=b.out.cell 1 rfl 0
  have k:((W.alloc (.cells #[.int .i64 wd,.int .i64 sl,.slice (some ad) n c] 87)).alloc (.cells #[.int .i64 0,.int .i64 0] 220)).cell? ⟨W.heap.size,1,none⟩=some (.int .i64 sl):=b.out.cell 1 rfl 1
  have i:((W.alloc (.cells #[.int .i64 wd,.int .i64 sl,.slice (some ad) n c] 87)).alloc (.cells #[.int .i64 0,.int .i64 0] 220)).cell? ⟨W.heap.size,2,none⟩=some (.slice (some ad) n c):=b.out.cell 1 rfl 2
  have l:((W.alloc (.cells #[.int .i64 wd,.int .i64 sl,.slice (some ad) n c] 87)).alloc (.cells #[.int .i64 0,.int .i64 0] 220)).cell? ⟨W.heap.size+1,0,none⟩=some (.int .i64 0):=b.out.cell 0 rfl 0
  have m:((W.alloc (.cells #[.int .i64 wd,.int .i64 sl,.slice (some ad) n c] 87)).alloc (.cells #[.int .i64 0,.int .i64 0] 220)).frozen? ⟨W.heap.size+1,0,none⟩=false:=b.out.frozen 0 rfl 0
  have j:((W.alloc (.cells #[.int .i64 wd,.int .i64 sl,.slice (some ad) n c] 87)).alloc (.cells #[.int .i64 0,.int .i64 0] 220)).cell? ⟨W.heap.size+1,1,none⟩=some (.int .i64 0):=b.out.cell 0 rfl 1
  have h:((W.alloc (.cells #[.int .i64 wd,.int .i64 sl,.slice (some ad) n c] 87)).alloc (.cells #[.int .i64 0,.int .i64 0] 220)).frozen? ⟨W.heap.size+1,1,none⟩=false:=b.out.frozen 0 rfl 1
  go_wp2_with fail
  clear g k i l m j h
  refine wp_region_noPanic ?_
  refine wp_region_held_drew (S:=fun W'=>Kept W W' [(W.heap.size,87,#[.int .i64 wd,.int .i64 sl,.slice (some ad) n c])]) (by kernel_rfl) (b.out.drew).drop1 (fun a=>?_)
  have d:=Lib.hid b.out.drew
  generalize ((W.alloc (.cells #[.int .i64 wd,.int .i64 sl,.slice (some ad) n c] 87)).alloc (.cells #[.int .i64 0,.int .i64 0] 220)).drew=r at d a ⊢
  clear b
  refine tS 0 a ?_
  refine tS 1 a ?_ (hy:=by(intro W f;(try dsimp only at f);have w:=f.cell 0 rfl 2;simp only[List.getElem?_toArray,List.getElem?_cons_zero,List.getElem?_cons_succ]at w;go_simp;try with_reducible rfl))
  refine tS 2 a ?_
  refine tS 3 a ?_
  refine tS 4 a ?_
  refine tS 5 a ?_
  refine tS 6 a ?_ (hy:=by(intro W f;(try dsimp only at f);have w:=(f.bel.cell (p:=(ad.add ((s%(n:Int)).toNat*2))) z).trans y;have V:=(f.bel.cell (p:=⟨(ad.add ((s%(n:Int)).toNat*2)).block,(ad.add ((s%(n:Int)).toNat*2)).off+1,none⟩) z).trans E;go_simp;try with_reducible rfl))
  have O:r.cell? ⟨W.heap.size+1,0,none⟩=some (.int .i64 0):=d.out.cell 0 rfl 0
  have I:r.frozen? ⟨W.heap.size+1,0,none⟩=false:=d.out.frozen 0 rfl 0
  have U:r.cell? ⟨W.heap.size+1,1,none⟩=some (.int .i64 0):=d.out.cell 0 rfl 1
  have J:r.frozen? ⟨W.heap.size+1,1,none⟩=false:=d.out.frozen 0 rfl 1
  refine wpAnyH_ready (rs:=[7]) (by kernel_rfl) (by simp) ?_
  refine AllReadyH.cons rfl (fun K hK=>?_) AllReadyH.nil
  go_simp
  refine hK.out _ _ ((a.put_off (by simp) (by intro x o;simp at o;subst o;simp) _).put_off (by simp) (by intro x o;simp at o;subst o;simp) _) (fun a=>?_)
  clear hK K
  try simp only[Act.put,sI,sZ,sS]
  refine wpAnyH_done (by kernel_rfl) ?_ _
  refine NoPanic.normal ?_
  go_wp2
  exact bodyPost_ret (wu (FV (d.out.blk 0 rfl)) _ rfl) rfl (qA.of v.out ⟨rfl,(d.out.bel.setCell (by simp) _).setCell (by simp) _⟩)
end
section
open Go.RowKit Go.ChangeShapes
theorem xx (w:World) (n:Nat) (hn:n≤1000):(w.alloc (.cells (madeCells #[.int .i64 0,.int .i64 0] (n*2)) 220)).ownsRow w.heap.size 220 2 (.slice (some ⟨w.heap.size,0,none⟩) n n) n (ax (List.replicate n (0,0))):=by
 refine⟨by rw[cy,List.length_replicate],.inr ⟨w.heap.size,n,_,rfl,Nat.le_refl _,Blk.new w 220 (madeCells #[.int .i64 0,.int .i64 0] (n*2)),Nat.le_refl _,by unfold maxLen;omega,size_madeCells ..,?_⟩⟩
 rw[oz,List.take_of_length_le (by rw[cy,List.length_replicate];omega)]
theorem kE {W:World} {g:Nat} {x0 x1 x2:Value} (h:Blk W g 87 #[x0,x1,x2]) (tmps:Array Value) (u:Value) (b:tmps[4]?.getD undef = .pointer (some ⟨g,0,none⟩)) (c:tmps[5]?.getD undef=u):(results Tryz.f151 tmps).run Tryz.prog W = .ok (.tuple #[.agg #[x0,x1,x2],u]) W:=by
 have c0:W.cell? ⟨g,0,none⟩=some x0:=h.cell 0
 have d:W.cell? ⟨g,1,none⟩=some x1:=h.cell 1
 have a:W.cell? ⟨g,2,none⟩=some x2:=h.cell 2
 simp[results,Tryz.results151,go_sem,b,c,c0,d,a]
set_option maxHeartbeats 4000000 in
theorem vV (wd sl:Int) (A:Option Addr) (n c B:Nat) (cs:List (Int×Int)) (a:Int) (W:World) (hr:Reads W B 2 A n (ax cs)) (hB:B≤W.heap.size) (hn:n≤9223372036854775807):Calls Tryz.prog 151 #[.agg (pT wd sl A n c),.int .i64 a] W (cB A W (eJ wd sl cs a)):=by
 have V:=Lib.hid (hr.more hB)
 have Y:=Lib.hid hr.cell_len
 clear hr
 have G:Hid (Kept W ((W.alloc (.cells #[.int .i64 wd,.int .i64 sl,.slice A n c] 87)).alloc (.cells #[.int .i64 0,.int .i64 0,.slice none 0 0] 87)) [(W.heap.size+1,87,#[.int .i64 0,.int .i64 0,.slice none 0 0]),(W.heap.size,87,#[.int .i64 wd,.int .i64 sl,.slice A n c])]):=(((Kept.start W).alloc_at 87 #[.int .i64 wd,.int .i64 sl,.slice A n c] (W.heap.size) (by simp)).alloc_at 87 #[.int .i64 0,.int .i64 0,.slice none 0 0] (W.heap.size+1) (by simp))
 go_enter Tryz.func151,Tryz.ntmps151
 go_wp2_with fail
 with_reducible refine(qu wd sl A n c W.heap.size cs _ (V.out.below G.out.bel) G.out.size hn).mono ?_
 rintro e l ⟨rfl,ab⟩
 have d:Hid (Kept W l [(W.heap.size+1,87,#[.int .i64 0,.int .i64 0,.slice none 0 0]),(W.heap.size,87,#[.int .i64 wd,.int .i64 sl,.slice A n c])]):=G.out.next ab
 clear G
 clear ab
 cases hrt:cj wd sl cs
 ·have J:=Lib.hid (fK (wd:=wd) (sl:=sl) (cs:=cs) (a:=a) (by rw[hrt];rfl))
  clear hrt
  have g:l.cell? ⟨W.heap.size,0,none⟩=some (.int .i64 wd):=d.out.cell 1 rfl 0
  have h:l.cell? ⟨W.heap.size,1,none⟩=some (.int .i64 sl):=d.out.cell 1 rfl 1
  have f:l.cell? ⟨W.heap.size,2,none⟩=some (.slice A n c):=d.out.cell 1 rfl 2
  have t:l.cell? ⟨W.heap.size+1,0,none⟩=some (.int .i64 0):=d.out.cell 0 rfl 0
  have z:l.frozen? ⟨W.heap.size+1,0,none⟩=false:=d.out.frozen 0 rfl 0
  have q:l.cell? ⟨W.heap.size+1,1,none⟩=some (.int .i64 0):=d.out.cell 0 rfl 1
  have w:l.frozen? ⟨W.heap.size+1,1,none⟩=false:=d.out.frozen 0 rfl 1
  have r:l.cell? ⟨W.heap.size+1,2,none⟩=some (.slice none 0 0):=d.out.cell 0 rfl 2
  have u:l.frozen? ⟨W.heap.size+1,2,none⟩=false:=d.out.frozen 0 rfl 2
  go_wp2
  exact bodyPost_ret (kE (je (d.out.blk 0 rfl)) _ (.int .i64 1) rfl rfl) rfl (cB.of J.out ⟨A,n,c,rfl,((((V.out.below d.out.bel).setCell (by simp) _).setCell (by simp) _).setCell (by simp) _).more (by have:=d.out.size;simp[World.setCell];omega),bA d.out.bel (by omega),fun ad e=>.inl rfl⟩)
 ·have g:l.cell? ⟨W.heap.size,0,none⟩=some (.int .i64 wd):=d.out.cell 1 rfl 0
  have h:l.cell? ⟨W.heap.size,1,none⟩=some (.int .i64 sl):=d.out.cell 1 rfl 1
  have f:l.cell? ⟨W.heap.size,2,none⟩=some (.slice A n c):=d.out.cell 1 rfl 2
  have t:l.cell? ⟨W.heap.size+1,0,none⟩=some (.int .i64 0):=d.out.cell 0 rfl 0
  have z:l.frozen? ⟨W.heap.size+1,0,none⟩=false:=d.out.frozen 0 rfl 0
  have q:l.cell? ⟨W.heap.size+1,1,none⟩=some (.int .i64 0):=d.out.cell 0 rfl 1
  have w:l.frozen? ⟨W.heap.size+1,1,none⟩=false:=d.out.frozen 0 rfl 1
  have r:l.cell? ⟨W.heap.size+1,2,none⟩=some (.slice none 0 0):=d.out.cell 0 rfl 2
  have u:l.frozen? ⟨W.heap.size+1,2,none⟩=false:=d.out.frozen 0 rfl 2
  go_wp2_with fail
  refine(lH a _).mono ?_
  rintro e w2 ⟨rfl,rfl⟩
  cases hta:aY a
  ·have J:=Lib.hid (fK (wd:=wd) (sl:=sl) (cs:=cs) (a:=a) (by rw[hrt,hta];rfl))
   clear hrt hta
   go_wp2
   exact bodyPost_ret (kE (je (d.out.blk 0 rfl)) _ (.int .i64 1) rfl rfl) rfl (cB.of J.out ⟨A,n,c,rfl,((((V.out.below d.out.bel).setCell (by simp) _).setCell (by simp) _).setCell (by simp) _).more (by have:=d.out.size;simp[World.setCell];omega),bA d.out.bel (by omega),fun ad e=>.inl rfl⟩)
  obtain⟨r1,r2,r3,r4,r5,r6⟩:=aZ hrt
  obtain⟨t1,t2⟩:=fZ hta
  rw[Y.out]at r5 r6
  have al:=mW (a:=a) (wd:=wd) t1 t2 r1
  have bb:¬ wd=0:=by omega
  have hq:(wd == 0)=false:=by rw[beq_eq_false_iff_ne];omega
  have ae:0≤a/wd:=Int.ediv_nonneg t1 (by omega)
  have ac:a/wd≤1099511627776:=Int.le_trans (Int.ediv_le_self wd t1) t2
  have Q:=Lib.hid (lW (a:=a) hrt hta)
  have P:=Lib.hid (oV (a:=a) hrt hta)
  clear hrt hta
  generalize a/wd=tz at al ae ac Q P
  by_cases I:tz≤sl
  ·have dle:decide (tz≤sl)=true:=by simpa using I
   have J:=Lib.hid (Q.out I)
   go_wp2
   exact bodyPost_ret (kE (je (d.out.blk 0 rfl)) _ (.int .i64 0) rfl rfl) rfl (cB.of J.out ⟨A,n,c,rfl,((((V.out.below d.out.bel).setCell (by simp) _).setCell (by simp) _).setCell (by simp) _).more (by have:=d.out.size;simp[World.setCell];omega),bA d.out.bel (by omega),fun ad e=>.inl rfl⟩)
  have dle:decide (tz≤sl)=false:=by simpa using I
  have J:=Lib.hid (P.out I)
  clear Q P
  have HM:=Lib.hid (rT cs sl tz (by omega) (by rw[Y.out];exact r5))
  rw[Y.out]at HM
  have mk:=pz n (by omega)
  have O:=Lib.hid (d.out.alloc_off (.cells (madeCells #[.int .i64 0,.int .i64 0] (n*2)) 220))
  have D:=Lib.hid (cQ (base':=W.heap.size+2) (show(l.alloc (.cells (madeCells #[.int .i64 0,.int .i64 0] (n*2)) 220)).ownsRow l.heap.size 220 2 (.slice (some ⟨l.heap.size,0,none⟩) n n) n (ax (fO cs sl tz 0)) from by rw[show fO cs sl tz 0=List.replicate n (0,0) from by rw[fO,Y.out]];exact xx l n (by omega)) (d.out.lt 0 rfl))
  go_wp2
  clear g h f t z q w r u
  generalize l.alloc (.cells (madeCells #[.int .i64 0,.int .i64 0] (n*2)) 220)=w3 at O D ⊢
  generalize l.heap.size=g3 at D ⊢
  clear mk dle
  clear d
  go_loopw [9] (fun i wr => ∃ (k:Nat),k≤n∧i = .int .i64 (k:Int)∧Hid (wr.ownsRow (W.heap.size+2) 220 2 (.slice (some ⟨g3,0,none⟩) n n) n (ax (fO cs sl tz k)))∧Hid (Kept W wr [(W.heap.size+1,87,#[.int .i64 0,.int .i64 0,.slice none 0 0]),(W.heap.size,87,#[.int .i64 wd,.int .i64 sl,.slice A n c])])) (fun i _=>(n:Int).toNat-(intOf i).toNat)
  case atStart=>exact⟨0,Nat.zero_le _,by simp,D,O⟩
  case round=>
   clear O D
   obtain⟨k,hk,rfl,D,m⟩:=hrel
   by_cases ap:k<n
   ·have i1:(0:Int)≤(tz-(k:Int))%(n:Int):=Int.emod_nonneg _ (by omega)
    have i2:(tz-(k:Int))%(n:Int)<(n:Int):=Int.emod_lt_of_pos _ (by omega)
    have s:((tz-(k:Int))%(n:Int)).toNat<n:=by omega
    have ba:¬ n=0:=by omega
    have C:=Lib.hid (gO D.out g3 rfl)
    have X:=Lib.hid (show fO cs sl tz (k+1)=(fO cs sl tz k).set ((tz-(k:Int))%(n:Int)).toNat (nQ cs sl (tz-(k:Int))) from by rw[fO,Y.out])
    have ag:(tz-(k:Int))≤1099511627776:=by omega
    by_cases H:0≤tz-(k:Int)
    ·have L:(tz-(k:Int)).tmod (n:Int)=(tz-(k:Int))%(n:Int):=Int.tmod_eq_emod_of_nonneg H
     have d0:decide (0≤tz-(k:Int))=true:=by simpa using H
     generalize (tz-(k:Int))%(n:Int)=ix at i1 i2 s X L
     have g:wr.cell? ⟨W.heap.size,0,none⟩=some (.int .i64 wd):=m.out.cell 1 rfl 0
     have h:wr.cell? ⟨W.heap.size,1,none⟩=some (.int .i64 sl):=m.out.cell 1 rfl 1
     have f:wr.cell? ⟨W.heap.size,2,none⟩=some (.slice A n c):=m.out.cell 1 rfl 2
     go_wp2_with fail
     clear g h f
     refine wp_region_noPanic ?_
     refine wp_region_held_drew (S:=fun W'=>Kept W W' [(W.heap.size+1,87,#[.int .i64 0,.int .i64 0,.slice none 0 0]),(W.heap.size,87,#[.int .i64 wd,.int .i64 sl,.slice A n c])]) (by kernel_rfl) m.out.drew (fun b=>?_)
     have o:Hid (wr.drew.ownsRow (W.heap.size+2) 220 2 (.slice (some ⟨g3,0,none⟩) n n) n (ax (fO cs sl tz k))):=D.out
     clear D
     refine tS 0 b ?_
     refine tS 1 b ?_
     refine tS 2 b ?_
     refine tS 3 b ?_
     refine tS 4 b ?_ (hy:=by(intro W j;(try dsimp only at j);have U:=j.cell 1 rfl 0;have q1:=j.cell 1 rfl 1;have q2:=j.cell 1 rfl 2;simp only[List.getElem?_toArray,List.getElem?_cons_zero,List.getElem?_cons_succ]at U q1 q2;go_simp;try with_reducible rfl))
     refine tS 5 b ?_
     refine wpAnyH_ready (rs:=[6]) (by kernel_rfl) (by simp) ?_
     refine AllReadyH.cons rfl (fun K hK=>?_) AllReadyH.nil
     go_simp
     with_reducible refine(FM wd sl A n c W.heap.size cs _ _ (V.out.below b.bel) b.size r5 r6 H (by omega) ag r3 r4).mono ?_
     rintro e w5 ⟨rfl,F⟩
     have R:=Lib.hid (ye o.out F (Nat.le_refl _))
     have aw:=F.size
     have M:=b.next F
     clear F o
     refine hK.out _ _ M (fun b=>?_)
     clear hK K
     try simp only[Act.put,sI,sZ,sS]
     generalize nQ cs sl (tz-(k:Int))=v at X ⊢
     obtain⟨x,y,U,q1,q2,q3,_⟩:=gG R.out s
     have T:=Lib.hid (oo R.out s v.1 v.2)
     clear R
     refine tS 7 b ?_
     have Z:W.heap.size+2≤g3:=C.out.1
     refine wpAnyH_ready (rs:=[8]) (by kernel_rfl) (by simp) ?_
     refine AllReadyH.cons rfl (fun K hK=>?_) AllReadyH.nil
     go_simp
     refine hK.out _ _ ((b.put_off (by simp;have:=C.out;omega) (by intro x E;simp at E;have:=C.out;rcases E with rfl | rfl<;>simp<;>omega) _).put_off (by simp;have:=C.out;omega) (by intro x E;simp at E;have:=C.out;rcases E with rfl | rfl<;>simp<;>omega) _) (fun b=>?_)
     clear hK K
     try simp only[Act.put,sI,sZ,sS]
     refine wpAnyH_done (by kernel_rfl) ?_ _
     refine NoPanic.normal ?_
     have N:=Lib.hid b
     clear b
     go_wp2
     refine⟨⟨k+1,by omega,by simp,by rw[X.out];exact T,N⟩,by simp[intOf];omega⟩
    ·have ar:IntKind.i64.wrap (tz-(k:Int)+(n:Int))=tz-(k:Int)+(n:Int):=IntWalk.i64_in _ (by omega)
     have L:(tz-(k:Int)+(n:Int)).tmod (n:Int)=(tz-(k:Int))%(n:Int):=by rw[Int.tmod_eq_emod_of_nonneg (by omega),Int.add_emod_right]
     have d0:decide (0≤tz-(k:Int))=false:=by simpa using H
     obtain⟨ad,e,hA,hb,he,x0,x1⟩:=ie V.out s
     have HA:=Lib.hid hA
     clear hA
     have HV:=Lib.hid (show nQ cs sl (tz-(k:Int))=e from by unfold nQ;rw[if_neg (by omega),Y.out];exact fQ he)
     rw[HV.out]at X
     clear HV he
     generalize (tz-(k:Int))%(n:Int)=ix at i1 i2 s X L x0 x1
     have bl:(ad.add (ix.toNat*2)).block<W.heap.size:=World.block_lt_of_cell? W _ x0
     have g:wr.cell? ⟨W.heap.size,0,none⟩=some (.int .i64 wd):=m.out.cell 1 rfl 0
     have h:wr.cell? ⟨W.heap.size,1,none⟩=some (.int .i64 sl):=m.out.cell 1 rfl 1
     have f:wr.cell? ⟨W.heap.size,2,none⟩=some (.slice A n c):=m.out.cell 1 rfl 2
     go_wp2_with fail
     clear g h f
     refine wp_region_noPanic ?_
     refine wp_region_held_drew (S:=fun W'=>Kept W W' [(W.heap.size+1,87,#[.int .i64 0,.int .i64 0,.slice none 0 0]),(W.heap.size,87,#[.int .i64 wd,.int .i64 sl,.slice A n c])]) (by kernel_rfl) m.out.drew (fun b=>?_)
     have o:Hid (wr.drew.ownsRow (W.heap.size+2) 220 2 (.slice (some ⟨g3,0,none⟩) n n) n (ax (fO cs sl tz k))):=D.out
     clear D
     generalize wr.drew=wz at b o ⊢
     refine tS 0 b ?_
     refine tS 1 b ?_
     refine tS 2 b ?_
     refine tS 3 b ?_
     refine tS 4 b ?_
     refine tS 5 b ?_
     refine tS 6 b ?_
     refine tS 7 b ?_ (hy:=by(intro W j;(try dsimp only at j);have U:=j.cell 1 rfl 2;simp only[List.getElem?_toArray,List.getElem?_cons_zero,List.getElem?_cons_succ]at U;go_simp;try with_reducible rfl))
     refine tS 8 b ?_
     refine tS 9 b ?_
     refine tS 10 b ?_
     refine tS 11 b ?_
     refine tS 12 b ?_
     refine tS 13 b ?_ (hy:=by(intro W j;(try dsimp only at j);rw[HA.out];go_simp;try with_reducible rfl))
     refine tS 14 b ?_ (hy:=by(intro W j;(try dsimp only at j);have U:=(j.bel.cell (p:=(ad.add (ix.toNat*2))) bl).trans x0;have q1:=(j.bel.cell (p:=⟨(ad.add (ix.toNat*2)).block,(ad.add (ix.toNat*2)).off+1,none⟩) bl).trans x1;go_simp;try with_reducible rfl))
     obtain⟨x,y,U,q1,q2,q3,_⟩:=gG o.out s
     have T:=Lib.hid (oo o.out s e.1 e.2)
     clear o
     refine tS 15 b ?_
     have Z:W.heap.size+2≤g3:=C.out.1
     refine wpAnyH_ready (rs:=[16]) (by kernel_rfl) (by simp) ?_
     refine AllReadyH.cons rfl (fun K hK=>?_) AllReadyH.nil
     go_simp
     refine hK.out _ _ ((b.put_off (by simp;have:=C.out;omega) (by intro x E;simp at E;have:=C.out;rcases E with rfl | rfl<;>simp<;>omega) _).put_off (by simp;have:=C.out;omega) (by intro x E;simp at E;have:=C.out;rcases E with rfl | rfl<;>simp<;>omega) _) (fun b=>?_)
     clear hK K
     try simp only[Act.put,sI,sZ,sS]
     refine wpAnyH_done (by kernel_rfl) ?_ _
     refine NoPanic.normal ?_
     have N:=Lib.hid b
     clear b
     go_wp2
     refine⟨⟨k+1,by omega,by simp,by rw[X.out];exact T,N⟩,by simp[intOf];omega⟩
   ·have M:k=n:=by omega
    rw[M,HM.out]at D
    have dk:decide ((k:Int)<(n:Int))=false:=by simp;omega
    have C:=Lib.hid (gO D.out g3 rfl)
    have g:wr.cell? ⟨W.heap.size,0,none⟩=some (.int .i64 wd):=m.out.cell 1 rfl 0
    have h:wr.cell? ⟨W.heap.size,1,none⟩=some (.int .i64 sl):=m.out.cell 1 rfl 1
    have f:wr.cell? ⟨W.heap.size,2,none⟩=some (.slice A n c):=m.out.cell 1 rfl 2
    have t:wr.cell? ⟨W.heap.size+1,0,none⟩=some (.int .i64 0):=m.out.cell 0 rfl 0
    have z:wr.frozen? ⟨W.heap.size+1,0,none⟩=false:=m.out.frozen 0 rfl 0
    have q:wr.cell? ⟨W.heap.size+1,1,none⟩=some (.int .i64 0):=m.out.cell 0 rfl 1
    have w:wr.frozen? ⟨W.heap.size+1,1,none⟩=false:=m.out.frozen 0 rfl 1
    have r:wr.cell? ⟨W.heap.size+1,2,none⟩=some (.slice none 0 0):=m.out.cell 0 rfl 2
    have u:wr.frozen? ⟨W.heap.size+1,2,none⟩=false:=m.out.frozen 0 rfl 2
    have ao:=Lib.hid (Reads.of_own D.out)
    have am:∀ g',g'<W.heap.size+2→0<n → ∀ ad,some (⟨g3,0,none⟩:Addr)=some ad→ad.block≠g':=fun g' h' _ ad e=>by injection e with e;subst e;have:=C.out;simp;omega
    go_wp2
    exact bodyPost_ret (kE (je (m.out.blk 0 rfl)) _ (.int .i64 0) rfl rfl) rfl (cB.of J.out ⟨_,n,n,rfl,by simp only[World.size_setCell];exact bE ao.out (am _ (by simp)),bA m.out.bel (by omega),fun ad e=>.inr (by injection e with e;subst e;have:=C.out;simp;omega)⟩)
end
section
open Go.RowKit Go.ChangeShapes
def bump (ok:Bool) (e:Int×Int):Int×Int:=if ok=true then(up e.1 1,e.2) else(e.1,up e.2 1)
def eD (wd sl:Int) (cs:List (Int×Int)) (a:Int) (ok:Bool):Wr:=
 if(eJ wd sl cs a).err=0 then(if a/wd≤(eJ wd sl cs a).sl-(eJ wd sl cs a).cs.length then eJ wd sl cs a else⟨wd,(eJ wd sl cs a).sl,(eJ wd sl cs a).cs.set (a/wd%(eJ wd sl cs a).cs.length).toNat (bump ok ((eJ wd sl cs a).cs.getD (a/wd%(eJ wd sl cs a).cs.length).toNat (0,0))),0⟩) else eJ wd sl cs a
theorem dH {wd sl:Int} {cs:List (Int×Int)}:cj wd sl cs=true ↔ (1≤wd∧wd≤2147483647∧0≤sl∧sl≤1099511627776∧1≤cs.length∧cs.length≤16) ∧ ∀ e ∈ cs,bM e=false:=by
 unfold cj
 rw[Bool.and_eq_true,decide_eq_true_eq]
 simp
theorem uf {cs:List (Int×Int)} {sl tz:Int} (h:∀ e ∈ cs,bM e=false):∀ e ∈ ju cs sl tz,bM e=false:=by
 intro e a
 unfold ju at a
 rw[List.mem_map]at a
 obtain⟨i,b,rfl⟩:=a
 rw[List.mem_range]at b
 split
 ·rfl
 ·refine h _ ?_
  rw[List.getD_eq_getElem?_getD,List.getElem?_eq_getElem b]
  exact List.getElem_mem b
theorem lT {wd sl a:Int} {cs:List (Int×Int)} (b:cj wd sl cs=true) (c:aY a=true):∃ sl' cs',eJ wd sl cs a=⟨wd,sl',cs',0⟩∧cs'.length=cs.length∧sl≤sl'∧a/wd≤sl'∧cj wd sl' cs'=true∧(sl'=sl∧cs'=cs∧a/wd≤sl∨sl'=a/wd∧cs'=ju cs sl (a/wd)∧sl<a/wd):=by
 by_cases h:a/wd≤sl
 ·exact⟨sl,cs,lW b c h,rfl,Int.le_refl _,h,b,.inl ⟨rfl,rfl,h⟩⟩
 ·refine⟨a/wd,ju cs sl (a/wd),oV b c h,gv ..,by omega,Int.le_refl _,?_,.inr ⟨rfl,rfl,by omega⟩⟩
  obtain⟨g,i⟩:=dH.1 b
  obtain⟨d,e⟩:=fZ c
  have j:0≤a/wd:=Int.ediv_nonneg d (by omega)
  have f:a/wd≤1099511627776:=Int.le_trans (Int.ediv_le_self wd d) e
  exact dH.2 ⟨by rw[gv];omega,uf i⟩
theorem rU {wd sl a:Int} {cs:List (Int×Int)} {ok:Bool} (h:(cj wd sl cs&&aY a)=false):eD wd sl cs a ok=⟨wd,sl,cs,1⟩:=by unfold eD;rw[fK h];rfl
theorem mT {wd sl a b:Int} {cs cs':List (Int×Int)} {ok:Bool} (c:eJ wd sl cs a=⟨wd,b,cs',0⟩) (h:a/wd≤b-cs'.length):eD wd sl cs a ok=⟨wd,b,cs',0⟩:=by unfold eD;rw[c,if_pos rfl,if_pos h]
theorem rj {wd sl a b:Int} {cs cs':List (Int×Int)} {ok:Bool} (c:eJ wd sl cs a=⟨wd,b,cs',0⟩) (h:¬ a/wd≤b-cs'.length):eD wd sl cs a ok=⟨wd,b,cs'.set (a/wd%cs'.length).toNat (bump ok (cs'.getD (a/wd%cs'.length).toNat (0,0))),0⟩:=by unfold eD;rw[c,if_pos rfl,if_neg h]
theorem gX:∀ (cs:List (Int×Int)) (i:Nat) (x y x':Int),cs[i]?=some (x,y)→(ax cs).set (i*2) (.int .i64 x')=ax (cs.set i (x',y))
 | [],i,x,y,_,h=>by simp at h
 | e::l,0,x,y,x',h=>by simp at h;subst h;rw[aR,List.set_cons_zero,aR];simp
 | e::l,i+1,x,y,x',h=>by
   rw[aR,List.set_cons_succ,aR,←gX l i x y x' (by simpa using h),show(i+1)*2=i*2+2 from by omega]
   simp
theorem gT:∀ (cs:List (Int×Int)) (i:Nat) (x y y':Int),cs[i]?=some (x,y)→(ax cs).set (i*2+1) (.int .i64 y')=ax (cs.set i (x,y'))
 | [],i,x,y,_,h=>by simp at h
 | e::l,0,x,y,y',h=>by simp at h;subst h;rw[aR,List.set_cons_zero,aR];simp
 | e::l,i+1,x,y,y',h=>by
   rw[aR,List.set_cons_succ,aR,←gT l i x y y' (by simpa using h),show(i+1)*2+1=i*2+1+2 from by omega]
   simp
theorem nY {W:World} {base g n cap j:Nat} {cs cs':List (Int×Int)} {u:Value} (h:W.ownsRow base 220 2 (.slice (some ⟨g,0,none⟩) n cap) n (ax cs)) (b:(ax cs).set j u=ax cs'):
 (W.setCell ⟨g,j,none⟩ u).ownsRow base 220 2 (.slice (some ⟨g,0,none⟩) n cap) n (ax cs'):=by
 have hlen:=h.1
 rcases h.2 with⟨e,_⟩ | ⟨g',cap',cur,l,f,o,i,m,d,k⟩
 ·cases e
 ·injection l with a p c
  injection a with a
  injection a with a
  subst a c
  refine⟨by rw[←b,List.length_set,hlen],.inr ⟨g,cap,cur.setIfInBounds j u,rfl,f,Blk.set_ (t:=220) o j _,i,m,by simp[d],?_⟩⟩
  rw[←b,←k]
  simp only[Array.toList_setIfInBounds]
  rw[List.take_set]
theorem nW {W:World} {g:Nat} {x0 x1 x2:Value} (h:Blk W g 87 #[x0,x1,x2]) (tmps:Array Value) (u:Value) (b:tmps[6]?.getD undef = .pointer (some ⟨g,0,none⟩)) (c:tmps[7]?.getD undef=u):(results Tryz.f165 tmps).run Tryz.prog W = .ok (.tuple #[.agg #[x0,x1,x2],u]) W:=by
 have c0:W.cell? ⟨g,0,none⟩=some x0:=h.cell 0
 have d:W.cell? ⟨g,1,none⟩=some x1:=h.cell 1
 have a:W.cell? ⟨g,2,none⟩=some x2:=h.cell 2
 simp[results,Tryz.results165,go_sem,b,c,c0,d,a]
set_option maxHeartbeats 4000000 in
theorem BY (wd sl:Int) (A:Option Addr) (n c B:Nat) (cs:List (Int×Int)) (a:Int) (ok:Bool) (W:World) (hr:Reads W B 2 A n (ax cs)) (hB:B≤W.heap.size) (hn:n≤9223372036854775807):Calls Tryz.prog 165 #[.agg (pT wd sl A n c),.int .i64 a,.bool ok] W (cB A W (eD wd sl cs a ok)):=by
 have HR:=Lib.hid hr
 have HL:=Lib.hid hr.cell_len
 clear hr
 have H:Hid (Kept W ((W.alloc (.cells #[.int .i64 wd,.int .i64 sl,.slice A n c] 87)).alloc (.cells #[.int .i64 0,.int .i64 0,.slice none 0 0] 87)) [(W.heap.size+1,87,#[.int .i64 0,.int .i64 0,.slice none 0 0]),(W.heap.size,87,#[.int .i64 wd,.int .i64 sl,.slice A n c])]):=(((Kept.start W).alloc_at 87 #[.int .i64 wd,.int .i64 sl,.slice A n c] (W.heap.size) (by simp)).alloc_at 87 #[.int .i64 0,.int .i64 0,.slice none 0 0] (W.heap.size+1) (by simp))
 by_cases hg:(cj wd sl cs&&aY a)=false
 ·have V:=Lib.hid (rU (ok:=ok) hg)
  go_enter Tryz.func165,Tryz.ntmps165
  go_wp2_with fail
  with_reducible refine(Be wd sl A n c B cs a _ (HR.out.below (H.out.bel.mono hB)) (Nat.le_trans hB H.out.size) hn).mono ?_
  rw[fK hg]
  clear hg
  rintro e t ⟨C,n1,J,rfl,L,R,T⟩
  have N:=Lib.hid L
  have bq:n1=n:=by have h1:=L.cell_len;have h2:=HL.out;simp only at h1;omega
  subst n1
  clear L
  have I:=Lib.hid (show ∀ ad,C=some ad→C=A∨W.heap.size+2≤ad.block from fun ad e=>by
   rcases T ad e with h | h
   ·exact .inl h
   ·simp at h;exact .inr (by omega))
  clear T
  have Q:=Lib.hid (show 0<n → ∀ ad,C=some ad→ad.block≠W.heap.size from fun h ad e=>by
   rcases I.out ad e with h' | h'
   ·rw[h']at e;have:=HR.out.lo h ad e;omega
   ·omega)
  have ab:=Lib.hid (show 0<n → ∀ ad,C=some ad→ad.block≠W.heap.size+1 from fun h ad e=>by
   rcases I.out ad e with h' | h'
   ·rw[h']at e;have:=HR.out.lo h ad e;omega
   ·omega)
  have ag:Hid (∀ ad,C=some ad→C=A∨W.heap.size≤ad.block):=fun ad e=>(I.out ad e).imp id (fun h=>by omega)
  have d:Hid (Kept W t [(W.heap.size+1,87,#[.int .i64 0,.int .i64 0,.slice none 0 0]),(W.heap.size,87,#[.int .i64 wd,.int .i64 sl,.slice A n c])]):=H.out.next R
  clear H
  clear R
  have j:t.cell? ⟨W.heap.size,0,none⟩=some (.int .i64 wd):=d.out.cell 1 rfl 0
  have E:t.frozen? ⟨W.heap.size,0,none⟩=false:=d.out.frozen 1 rfl 0
  have m:t.cell? ⟨W.heap.size,1,none⟩=some (.int .i64 sl):=d.out.cell 1 rfl 1
  have F:t.frozen? ⟨W.heap.size,1,none⟩=false:=d.out.frozen 1 rfl 1
  have g:t.cell? ⟨W.heap.size,2,none⟩=some (.slice A n c):=d.out.cell 1 rfl 2
  have G:t.frozen? ⟨W.heap.size,2,none⟩=false:=d.out.frozen 1 rfl 2
  have o:t.cell? ⟨W.heap.size+1,0,none⟩=some (.int .i64 0):=d.out.cell 0 rfl 0
  have w:t.frozen? ⟨W.heap.size+1,0,none⟩=false:=d.out.frozen 0 rfl 0
  have i:t.cell? ⟨W.heap.size+1,1,none⟩=some (.int .i64 0):=d.out.cell 0 rfl 1
  have v:t.frozen? ⟨W.heap.size+1,1,none⟩=false:=d.out.frozen 0 rfl 1
  have k:t.cell? ⟨W.heap.size+1,2,none⟩=some (.slice none 0 0):=d.out.cell 0 rfl 2
  have u:t.frozen? ⟨W.heap.size+1,2,none⟩=false:=d.out.frozen 0 rfl 2
  go_wp2
  exact bodyPost_ret (nW (je ((((d.out.set_ 1 rfl 0 (.int .i64 wd)).set_ 1 rfl 1 (.int .i64 sl)).set_ 1 rfl 2 (.slice C n J)).blk 0 rfl)) _ (.int .i64 1) rfl rfl) rfl (cB.of V.out ⟨C,n,J,rfl,by simp only[World.size_setCell];exact bE (bE N.out Q.out) ab.out,bA (((d.out.set_ 1 rfl 0 (.int .i64 wd)).set_ 1 rfl 1 (.int .i64 sl)).set_ 1 rfl 2 (.slice C n J)).bel (by omega),ag.out⟩)
 have bj:(cj wd sl cs&&aY a)=true:=by simpa using hg
 rw[Bool.and_eq_true]at bj
 obtain⟨bn,ap⟩:=bj
 obtain⟨f,cs',hm,ac,h1,h2,h3,-⟩:=lT bn ap
 obtain⟨⟨r1,r2,r3,r4,r5,r6⟩,-⟩:=dH.1 h3
 rw[ac]at r5 r6
 have bx:=Lib.hid ac
 rw[HL.out]at r5 r6 ac
 obtain⟨t1,t2⟩:=fZ ap
 have D:=Lib.hid (mT (ok:=ok) hm)
 have P:=Lib.hid (rj (ok:=ok) hm)
 rw[ac]at D P
 clear hg bn ap h3
 have bp:=mW (a:=a) (wd:=wd) t1 t2 r1
 have bv:¬ wd=0:=by omega
 have hq:(wd == 0)=false:=by rw[beq_eq_false_iff_ne];omega
 have be:0≤a/wd:=Int.ediv_nonneg t1 (by omega)
 go_enter Tryz.func165,Tryz.ntmps165
 go_wp2_with fail
 with_reducible refine(Be wd sl A n c B cs a _ (HR.out.below (H.out.bel.mono hB)) (Nat.le_trans hB H.out.size) hn).mono ?_
 rw[hm]
 rintro e t ⟨C,n1,J,rfl,L,R,T⟩
 have N:=Lib.hid L
 have bq:n1=n:=by have:=L.cell_len;simp only at this;omega
 subst n1
 clear L hm
 dsimp only at N
 generalize a/wd=tz at h2 D P bp be
 have I:=Lib.hid (show ∀ ad,C=some ad→C=A∨W.heap.size+2≤ad.block from fun ad e=>by
  rcases T ad e with h | h
  ·exact .inl h
  ·simp at h;exact .inr (by omega))
 clear T
 have Q:=Lib.hid (show 0<n → ∀ ad,C=some ad→ad.block≠W.heap.size from fun h ad e=>by
  rcases I.out ad e with h' | h'
  ·rw[h']at e;have:=HR.out.lo h ad e;omega
  ·omega)
 have ab:=Lib.hid (show 0<n → ∀ ad,C=some ad→ad.block≠W.heap.size+1 from fun h ad e=>by
  rcases I.out ad e with h' | h'
  ·rw[h']at e;have:=HR.out.lo h ad e;omega
  ·omega)
 have ag:Hid (∀ ad,C=some ad→C=A∨W.heap.size≤ad.block):=fun ad e=>(I.out ad e).imp id (fun h=>by omega)
 have d:Hid (Kept W t [(W.heap.size+1,87,#[.int .i64 0,.int .i64 0,.slice none 0 0]),(W.heap.size,87,#[.int .i64 wd,.int .i64 sl,.slice A n c])]):=H.out.next R
 clear H
 clear R
 have j:t.cell? ⟨W.heap.size,0,none⟩=some (.int .i64 wd):=d.out.cell 1 rfl 0
 have E:t.frozen? ⟨W.heap.size,0,none⟩=false:=d.out.frozen 1 rfl 0
 have m:t.cell? ⟨W.heap.size,1,none⟩=some (.int .i64 sl):=d.out.cell 1 rfl 1
 have F:t.frozen? ⟨W.heap.size,1,none⟩=false:=d.out.frozen 1 rfl 1
 have g:t.cell? ⟨W.heap.size,2,none⟩=some (.slice A n c):=d.out.cell 1 rfl 2
 have G:t.frozen? ⟨W.heap.size,2,none⟩=false:=d.out.frozen 1 rfl 2
 have o:t.cell? ⟨W.heap.size+1,0,none⟩=some (.int .i64 0):=d.out.cell 0 rfl 0
 have w:t.frozen? ⟨W.heap.size+1,0,none⟩=false:=d.out.frozen 0 rfl 0
 have i:t.cell? ⟨W.heap.size+1,1,none⟩=some (.int .i64 0):=d.out.cell 0 rfl 1
 have v:t.frozen? ⟨W.heap.size+1,1,none⟩=false:=d.out.frozen 0 rfl 1
 have k:t.cell? ⟨W.heap.size+1,2,none⟩=some (.slice none 0 0):=d.out.cell 0 rfl 2
 have u:t.frozen? ⟨W.heap.size+1,2,none⟩=false:=d.out.frozen 0 rfl 2
 by_cases bl:tz≤f-(n:Int)
 ·have dle:decide (tz≤f-(n:Int))=true:=by simpa using bl
  have V:=Lib.hid (D.out (by omega))
  clear D P
  go_wp2
  exact bodyPost_ret (nW (je ((((d.out.set_ 1 rfl 0 (.int .i64 wd)).set_ 1 rfl 1 (.int .i64 f)).set_ 1 rfl 2 (.slice C n J)).blk 0 rfl)) _ (.int .i64 0) rfl rfl) rfl (cB.of V.out ⟨C,n,J,rfl,by simp only[World.size_setCell];exact bE (bE N.out Q.out) ab.out,bA (((d.out.set_ 1 rfl 0 (.int .i64 wd)).set_ 1 rfl 1 (.int .i64 f)).set_ 1 rfl 2 (.slice C n J)).bel (by omega),ag.out⟩)
 have dle:decide (tz≤f-(n:Int))=false:=by simpa using bl
 have V:=Lib.hid (P.out (by omega))
 clear D P
 go_wp2_with fail
 clear j E m F g G o w i v k u
 have bm:Hid (Kept W (t.setCell ⟨W.heap.size,0,none⟩ (.int .i64 wd)) [(W.heap.size+1,87,#[.int .i64 0,.int .i64 0,.slice none 0 0]),(W.heap.size,87,#[.int .i64 wd,.int .i64 sl,.slice A n c])]):=d.out.set_ 1 rfl 0 (.int .i64 wd)
 clear d
 have bk:Hid (Kept W ((t.setCell ⟨W.heap.size,0,none⟩ (.int .i64 wd)).setCell ⟨W.heap.size,1,none⟩ (.int .i64 f)) [(W.heap.size+1,87,#[.int .i64 0,.int .i64 0,.slice none 0 0]),(W.heap.size,87,#[.int .i64 wd,.int .i64 f,.slice A n c])]):=bm.out.set_ 1 rfl 1 (.int .i64 f)
 clear bm
 have Z:Hid (Kept W (((t.setCell ⟨W.heap.size,0,none⟩ (.int .i64 wd)).setCell ⟨W.heap.size,1,none⟩ (.int .i64 f)).setCell ⟨W.heap.size,2,none⟩ (.slice C n J)) [(W.heap.size+1,87,#[.int .i64 0,.int .i64 0,.slice none 0 0]),(W.heap.size,87,#[.int .i64 wd,.int .i64 f,.slice C n J])]):=bk.out.set_ 1 rfl 2 (.slice C n J)
 clear bk
 have al:Hid (Reads (((t.setCell ⟨W.heap.size,0,none⟩ (.int .i64 wd)).setCell ⟨W.heap.size,1,none⟩ (.int .i64 f)).setCell ⟨W.heap.size,2,none⟩ (.slice C n J)) t.heap.size 2 C n (ax cs')):=bE N.out Q.out
 clear N
 have bd:((((t.setCell ⟨W.heap.size,0,none⟩ (.int .i64 wd)).setCell ⟨W.heap.size,1,none⟩ (.int .i64 f)).setCell ⟨W.heap.size,2,none⟩ (.slice C n J))).heap.size=t.heap.size:=by simp only[World.size_setCell]
 generalize ((t.setCell ⟨W.heap.size,0,none⟩ (.int .i64 wd)).setCell ⟨W.heap.size,1,none⟩ (.int .i64 f)).setCell ⟨W.heap.size,2,none⟩ (.slice C n J)=w2 at Z al bd ⊢
 with_reducible refine(tJ C n J w2.heap.size cs' _ (al.out.more (by omega)) (Nat.le_refl _) (by omega)).mono ?_
 rintro e O ⟨v3,rfl,K,bh⟩
 obtain⟨z,q,rfl,bs,br⟩:=K.form (by omega)
 have aw:=Lib.hid (cQ (base':=W.heap.size+2) K (Z.out.lt 0 rfl))
 clear K dle al I Q ab ag bd
 have b:Hid (Kept W O [(W.heap.size+1,87,#[.int .i64 0,.int .i64 0,.slice none 0 0]),(W.heap.size,87,#[.int .i64 wd,.int .i64 f,.slice C n J])]):=Z.out.next bh
 clear Z
 clear bh
 have o:O.cell? ⟨W.heap.size+1,0,none⟩=some (.int .i64 0):=b.out.cell 0 rfl 0
 have i:O.cell? ⟨W.heap.size+1,1,none⟩=some (.int .i64 0):=b.out.cell 0 rfl 1
 have k:O.cell? ⟨W.heap.size+1,2,none⟩=some (.slice none 0 0):=b.out.cell 0 rfl 2
 have j:O.cell? ⟨W.heap.size,0,none⟩=some (.int .i64 wd):=b.out.cell 1 rfl 0
 have E:O.frozen? ⟨W.heap.size,0,none⟩=false:=b.out.frozen 1 rfl 0
 have m:O.cell? ⟨W.heap.size,1,none⟩=some (.int .i64 f):=b.out.cell 1 rfl 1
 have F:O.frozen? ⟨W.heap.size,1,none⟩=false:=b.out.frozen 1 rfl 1
 have g:O.cell? ⟨W.heap.size,2,none⟩=some (.slice C n J):=b.out.cell 1 rfl 2
 have G:O.frozen? ⟨W.heap.size,2,none⟩=false:=b.out.frozen 1 rfl 2
 go_wp2_with fail
 clear o i k j E m F g G
 have U:=Lib.hid (gO aw.out z rfl)
 have ae:=Lib.hid (sv aw.out (p:=⟨W.heap.size,2,none⟩) (by simp[Value.ownBlock];have:=U.out;omega) (.slice (some ⟨z,0,none⟩) n q))
 have bb:=U.out.2
 have Y:Hid (Kept W (O.setCell ⟨W.heap.size,2,none⟩ (.slice (some ⟨z,0,none⟩) n q)) [(W.heap.size+1,87,#[.int .i64 0,.int .i64 0,.slice none 0 0]),(W.heap.size,87,#[.int .i64 wd,.int .i64 f,.slice (some ⟨z,0,none⟩) n q])]):=b.out.set_ 1 rfl 2 (.slice (some ⟨z,0,none⟩) n q)
 clear b
 clear aw
 generalize O.setCell ⟨W.heap.size,2,none⟩ (.slice (some ⟨z,0,none⟩) n q)=w4 at Y ae ⊢
 have i1:(0:Int)≤tz%(n:Int):=Int.emod_nonneg _ (by omega)
 have i2:tz%(n:Int)<(n:Int):=Int.emod_lt_of_pos _ (by omega)
 have bi:(tz%(n:Int)).toNat<n:=by omega
 have bt:¬ n=0:=by omega
 have bo:tz.tmod (n:Int)=tz%(n:Int):=Int.tmod_eq_emod_of_nonneg be
 obtain⟨x,y,q0,q1,q2,q3,X⟩:=gG ae.out bi
 rw[fQ X]at V
 have HX:=Lib.hid X
 clear X bb
 generalize tz%(n:Int)=ix at i1 i2 bi V HX bo q0 q1 q2 q3
 refine wp_region_noPanic ?_
 refine wp_region_held_drew (S:=fun W'=>Kept W W' [(W.heap.size+1,87,#[.int .i64 0,.int .i64 0,.slice none 0 0]),(W.heap.size,87,#[.int .i64 wd,.int .i64 f,.slice (some ⟨z,0,none⟩) n q])]) (by kernel_rfl) Y.out.drew (fun s=>?_)
 refine tS 0 s ?_
 refine tS 1 s ?_ (hy:=by(intro W bc;(try dsimp only at bc);have q0:=bc.cell 1 rfl 2;simp only[List.getElem?_toArray,List.getElem?_cons_zero,List.getElem?_cons_succ]at q0;go_simp;try with_reducible rfl))
 refine tS 2 s ?_
 refine tS 3 s ?_
 refine tS 4 s ?_
 refine tS 5 s ?_
 refine tS 6 s ?_
 refine wpAnyH_done (by kernel_rfl) ?_ _
 refine NoPanic.normal ?_
 clear s
 have l:=Lib.hid (Y.out.drew)
 have ba:Hid (w4.drew.ownsRow (W.heap.size+2) 220 2 (.slice (some ⟨z,0,none⟩) n q) n (ax cs')):=ae.out
 replace q0:w4.drew.cell? _=_:=q0
 replace q1:w4.drew.cell? _=_:=q1
 replace q2:w4.drew.frozen? _=_:=q2
 replace q3:w4.drew.frozen? _=_:=q3
 clear ae Y
 generalize w4.drew=r at l ba q0 q1 q2 q3 ⊢
 cases ok
 ·have j:r.cell? ⟨W.heap.size,0,none⟩=some (.int .i64 wd):=l.out.cell 1 rfl 0
  have m:r.cell? ⟨W.heap.size,1,none⟩=some (.int .i64 f):=l.out.cell 1 rfl 1
  have g:r.cell? ⟨W.heap.size,2,none⟩=some (.slice (some ⟨z,0,none⟩) n q):=l.out.cell 1 rfl 2
  have o:r.cell? ⟨W.heap.size+1,0,none⟩=some (.int .i64 0):=l.out.cell 0 rfl 0
  have w:r.frozen? ⟨W.heap.size+1,0,none⟩=false:=l.out.frozen 0 rfl 0
  have i:r.cell? ⟨W.heap.size+1,1,none⟩=some (.int .i64 0):=l.out.cell 0 rfl 1
  have v:r.frozen? ⟨W.heap.size+1,1,none⟩=false:=l.out.frozen 0 rfl 1
  have k:r.cell? ⟨W.heap.size+1,2,none⟩=some (.slice none 0 0):=l.out.cell 0 rfl 2
  have u:r.frozen? ⟨W.heap.size+1,2,none⟩=false:=l.out.frozen 0 rfl 2
  go_wp2_with fail
  refine(nR _ _ _).mono ?_
  rintro e w6 ⟨rfl,rfl⟩
  have ar:=Lib.hid (nY ba.out (gT cs' ix.toNat x y (up y 1) HX.out))
  have b:=Lib.hid (l.out.put_off (p:=⟨z,ix.toNat*2+1,none⟩) (by simp;have:=U.out;omega) (by intro x X;simp at X;have:=U.out;rcases X with rfl | rfl<;>simp<;>omega) (.int .i64 (up y 1)))
  clear j m g o w i v k u
  rw[show bump false (x,y)=(x,up y 1) from rfl]at V
  have M:=Reads.of_own ar.out
  simp only[World.size_setCell]at M
  have am:=Lib.hid M
  clear M
  have ao:Hid (0<n → ∀ ad,some (⟨z,0,none⟩:Addr)=some ad→ad.block≠W.heap.size+1):=fun _ ad e=>by injection e with e;subst e;have:=U.out;simp;omega
  have j:(r.setCell ⟨z,ix.toNat*2+1,none⟩ (.int .i64 (up y 1))).cell? ⟨W.heap.size,0,none⟩=some (.int .i64 wd):=b.out.cell 1 rfl 0
  have m:(r.setCell ⟨z,ix.toNat*2+1,none⟩ (.int .i64 (up y 1))).cell? ⟨W.heap.size,1,none⟩=some (.int .i64 f):=b.out.cell 1 rfl 1
  have g:(r.setCell ⟨z,ix.toNat*2+1,none⟩ (.int .i64 (up y 1))).cell? ⟨W.heap.size,2,none⟩=some (.slice (some ⟨z,0,none⟩) n q):=b.out.cell 1 rfl 2
  have o:(r.setCell ⟨z,ix.toNat*2+1,none⟩ (.int .i64 (up y 1))).cell? ⟨W.heap.size+1,0,none⟩=some (.int .i64 0):=b.out.cell 0 rfl 0
  have w:(r.setCell ⟨z,ix.toNat*2+1,none⟩ (.int .i64 (up y 1))).frozen? ⟨W.heap.size+1,0,none⟩=false:=b.out.frozen 0 rfl 0
  have i:(r.setCell ⟨z,ix.toNat*2+1,none⟩ (.int .i64 (up y 1))).cell? ⟨W.heap.size+1,1,none⟩=some (.int .i64 0):=b.out.cell 0 rfl 1
  have v:(r.setCell ⟨z,ix.toNat*2+1,none⟩ (.int .i64 (up y 1))).frozen? ⟨W.heap.size+1,1,none⟩=false:=b.out.frozen 0 rfl 1
  have k:(r.setCell ⟨z,ix.toNat*2+1,none⟩ (.int .i64 (up y 1))).cell? ⟨W.heap.size+1,2,none⟩=some (.slice none 0 0):=b.out.cell 0 rfl 2
  have u:(r.setCell ⟨z,ix.toNat*2+1,none⟩ (.int .i64 (up y 1))).frozen? ⟨W.heap.size+1,2,none⟩=false:=b.out.frozen 0 rfl 2
  go_wp2
  exact bodyPost_ret (nW (je (b.out.blk 0 rfl)) _ (.int .i64 0) rfl rfl) rfl (cB.of V.out ⟨_,n,q,rfl,by simp only[World.size_setCell];exact bE am.out ao.out,bA b.out.bel (by omega),fun ad e=>.inr (by injection e with e;subst e;have:=U.out;simp;omega)⟩)
 ·have j:r.cell? ⟨W.heap.size,0,none⟩=some (.int .i64 wd):=l.out.cell 1 rfl 0
  have m:r.cell? ⟨W.heap.size,1,none⟩=some (.int .i64 f):=l.out.cell 1 rfl 1
  have g:r.cell? ⟨W.heap.size,2,none⟩=some (.slice (some ⟨z,0,none⟩) n q):=l.out.cell 1 rfl 2
  have o:r.cell? ⟨W.heap.size+1,0,none⟩=some (.int .i64 0):=l.out.cell 0 rfl 0
  have w:r.frozen? ⟨W.heap.size+1,0,none⟩=false:=l.out.frozen 0 rfl 0
  have i:r.cell? ⟨W.heap.size+1,1,none⟩=some (.int .i64 0):=l.out.cell 0 rfl 1
  have v:r.frozen? ⟨W.heap.size+1,1,none⟩=false:=l.out.frozen 0 rfl 1
  have k:r.cell? ⟨W.heap.size+1,2,none⟩=some (.slice none 0 0):=l.out.cell 0 rfl 2
  have u:r.frozen? ⟨W.heap.size+1,2,none⟩=false:=l.out.frozen 0 rfl 2
  go_wp2_with fail
  refine(nR _ _ _).mono ?_
  rintro e w6 ⟨rfl,rfl⟩
  have ar:=Lib.hid (nY ba.out (gX cs' ix.toNat x y (up x 1) HX.out))
  have b:=Lib.hid (l.out.put_off (p:=⟨z,ix.toNat*2,none⟩) (by simp;have:=U.out;omega) (by intro x X;simp at X;have:=U.out;rcases X with rfl | rfl<;>simp<;>omega) (.int .i64 (up x 1)))
  clear j m g o w i v k u
  rw[show bump true (x,y)=(up x 1,y) from rfl]at V
  have M:=Reads.of_own ar.out
  simp only[World.size_setCell]at M
  have am:=Lib.hid M
  clear M
  have ao:Hid (0<n → ∀ ad,some (⟨z,0,none⟩:Addr)=some ad→ad.block≠W.heap.size+1):=fun _ ad e=>by injection e with e;subst e;have:=U.out;simp;omega
  have j:(r.setCell ⟨z,ix.toNat*2,none⟩ (.int .i64 (up x 1))).cell? ⟨W.heap.size,0,none⟩=some (.int .i64 wd):=b.out.cell 1 rfl 0
  have m:(r.setCell ⟨z,ix.toNat*2,none⟩ (.int .i64 (up x 1))).cell? ⟨W.heap.size,1,none⟩=some (.int .i64 f):=b.out.cell 1 rfl 1
  have g:(r.setCell ⟨z,ix.toNat*2,none⟩ (.int .i64 (up x 1))).cell? ⟨W.heap.size,2,none⟩=some (.slice (some ⟨z,0,none⟩) n q):=b.out.cell 1 rfl 2
  have o:(r.setCell ⟨z,ix.toNat*2,none⟩ (.int .i64 (up x 1))).cell? ⟨W.heap.size+1,0,none⟩=some (.int .i64 0):=b.out.cell 0 rfl 0
  have w:(r.setCell ⟨z,ix.toNat*2,none⟩ (.int .i64 (up x 1))).frozen? ⟨W.heap.size+1,0,none⟩=false:=b.out.frozen 0 rfl 0
  have i:(r.setCell ⟨z,ix.toNat*2,none⟩ (.int .i64 (up x 1))).cell? ⟨W.heap.size+1,1,none⟩=some (.int .i64 0):=b.out.cell 0 rfl 1
  have v:(r.setCell ⟨z,ix.toNat*2,none⟩ (.int .i64 (up x 1))).frozen? ⟨W.heap.size+1,1,none⟩=false:=b.out.frozen 0 rfl 1
  have k:(r.setCell ⟨z,ix.toNat*2,none⟩ (.int .i64 (up x 1))).cell? ⟨W.heap.size+1,2,none⟩=some (.slice none 0 0):=b.out.cell 0 rfl 2
  have u:(r.setCell ⟨z,ix.toNat*2,none⟩ (.int .i64 (up x 1))).frozen? ⟨W.heap.size+1,2,none⟩=false:=b.out.frozen 0 rfl 2
  go_wp2
  exact bodyPost_ret (nW (je (b.out.blk 0 rfl)) _ (.int .i64 0) rfl rfl) rfl (cB.of V.out ⟨_,n,q,rfl,by simp only[World.size_setCell];exact bE am.out ao.out,bA b.out.bel (by omega),fun ad e=>.inr (by injection e with e;subst e;have:=U.out;simp;omega)⟩)
end
section
open Go.RowKit Go.ChangeShapes
theorem mF {W:World} {g:Nat} {x0 x1 x2:Value} (h:Blk W g 87 #[x0,x1,x2]) (tmps:Array Value) (u:Value) (b:tmps[6]?.getD undef = .pointer (some ⟨g,0,none⟩)) (c:tmps[7]?.getD undef=u):(results Tryz.f87 tmps).run Tryz.prog W = .ok (.tuple #[.agg #[x0,x1,x2],u]) W:=by
 have c0:W.cell? ⟨g,0,none⟩=some x0:=h.cell 0
 have d:W.cell? ⟨g,1,none⟩=some x1:=h.cell 1
 have a:W.cell? ⟨g,2,none⟩=some x2:=h.cell 2
 simp[results,Tryz.results87,go_sem,b,c,c0,d,a]
set_option maxHeartbeats 4000000 in
theorem uQ (wd sl:Int) (A:Option Addr) (n c B:Nat) (cs:List (Int×Int)) (a:Int) (ok:Bool) (W:World) (hr:Reads W B 2 A n (ax cs)) (hB:B≤W.heap.size) (hn:n≤9223372036854775807):Calls Tryz.prog 87 #[.agg (pT wd sl A n c),.int .i64 a,.bool ok] W (cB A W (eD wd sl cs a ok)):=by
 have HR:=Lib.hid hr
 have HL:=Lib.hid hr.cell_len
 clear hr
 have L:Hid (Kept W ((W.alloc (.cells #[.int .i64 wd,.int .i64 sl,.slice A n c] 87)).alloc (.cells #[.int .i64 0,.int .i64 0,.slice none 0 0] 87)) [(W.heap.size+1,87,#[.int .i64 0,.int .i64 0,.slice none 0 0]),(W.heap.size,87,#[.int .i64 wd,.int .i64 sl,.slice A n c])]):=(((Kept.start W).alloc_at 87 #[.int .i64 wd,.int .i64 sl,.slice A n c] (W.heap.size) (by simp)).alloc_at 87 #[.int .i64 0,.int .i64 0,.slice none 0 0] (W.heap.size+1) (by simp))
 by_cases hg:(cj wd sl cs&&aY a)=false
 ·have X:=Lib.hid (rU (ok:=ok) hg)
  go_enter Tryz.func87,Tryz.ntmps87
  go_wp2_with fail
  with_reducible refine(vV wd sl A n c B cs a _ (HR.out.below (L.out.bel.mono hB)) (Nat.le_trans hB L.out.size) hn).mono ?_
  rw[fK hg]
  clear hg
  rintro e g ⟨m,n1,G,rfl,Q,al,am⟩
  have V:=Lib.hid Q
  have cb:n1=n:=by have h1:=Q.cell_len;have h2:=HL.out;simp only at h1;omega
  subst n1
  clear Q
  have N:=Lib.hid (show ∀ ad,m=some ad→m=A∨W.heap.size+2≤ad.block from fun ad e=>by
   rcases am ad e with h | h
   ·exact .inl h
   ·simp at h;exact .inr (by omega))
  clear am
  have ag:=Lib.hid (show 0<n → ∀ ad,m=some ad→ad.block≠W.heap.size from fun h ad e=>by
   rcases N.out ad e with h' | h'
   ·rw[h']at e;have:=HR.out.lo h ad e;omega
   ·omega)
  have ap:=Lib.hid (show 0<n → ∀ ad,m=some ad→ad.block≠W.heap.size+1 from fun h ad e=>by
   rcases N.out ad e with h' | h'
   ·rw[h']at e;have:=HR.out.lo h ad e;omega
   ·omega)
  have bb:Hid (∀ ad,m=some ad→m=A∨W.heap.size≤ad.block):=fun ad e=>(N.out ad e).imp id (fun h=>by omega)
  have f:Hid (Kept W g [(W.heap.size+1,87,#[.int .i64 0,.int .i64 0,.slice none 0 0]),(W.heap.size,87,#[.int .i64 wd,.int .i64 sl,.slice A n c])]):=L.out.next al
  clear L
  clear al
  have t:g.cell? ⟨W.heap.size,0,none⟩=some (.int .i64 wd):=f.out.cell 1 rfl 0
  have s:g.frozen? ⟨W.heap.size,0,none⟩=false:=f.out.frozen 1 rfl 0
  have v:g.cell? ⟨W.heap.size,1,none⟩=some (.int .i64 sl):=f.out.cell 1 rfl 1
  have C:g.frozen? ⟨W.heap.size,1,none⟩=false:=f.out.frozen 1 rfl 1
  have q:g.cell? ⟨W.heap.size,2,none⟩=some (.slice A n c):=f.out.cell 1 rfl 2
  have D:g.frozen? ⟨W.heap.size,2,none⟩=false:=f.out.frozen 1 rfl 2
  have w:g.cell? ⟨W.heap.size+1,0,none⟩=some (.int .i64 0):=f.out.cell 0 rfl 0
  have F:g.frozen? ⟨W.heap.size+1,0,none⟩=false:=f.out.frozen 0 rfl 0
  have r:g.cell? ⟨W.heap.size+1,1,none⟩=some (.int .i64 0):=f.out.cell 0 rfl 1
  have E:g.frozen? ⟨W.heap.size+1,1,none⟩=false:=f.out.frozen 0 rfl 1
  have u:g.cell? ⟨W.heap.size+1,2,none⟩=some (.slice none 0 0):=f.out.cell 0 rfl 2
  have z:g.frozen? ⟨W.heap.size+1,2,none⟩=false:=f.out.frozen 0 rfl 2
  go_wp2
  exact bodyPost_ret (mF (je ((((f.out.set_ 1 rfl 0 (.int .i64 wd)).set_ 1 rfl 1 (.int .i64 sl)).set_ 1 rfl 2 (.slice m n G)).blk 0 rfl)) _ (.int .i64 1) rfl rfl) rfl (cB.of X.out ⟨m,n,G,rfl,by simp only[World.size_setCell];exact bE (bE V.out ag.out) ap.out,bA (((f.out.set_ 1 rfl 0 (.int .i64 wd)).set_ 1 rfl 1 (.int .i64 sl)).set_ 1 rfl 2 (.slice m n G)).bel (by omega),bb.out⟩)
 have bq:(cj wd sl cs&&aY a)=true:=by simpa using hg
 rw[Bool.and_eq_true]at bq
 obtain⟨bv,bl⟩:=bq
 obtain⟨j,cs',hm,ar,h1,h2,h3,-⟩:=lT bv bl
 obtain⟨⟨r1,r2,r3,r4,r5,r6⟩,-⟩:=dH.1 h3
 rw[ar]at r5 r6
 have ce:=Lib.hid ar
 rw[HL.out]at r5 r6 ar
 obtain⟨t1,t2⟩:=fZ bl
 have o:=Lib.hid (mT (ok:=ok) hm)
 have ae:=Lib.hid (rj (ok:=ok) hm)
 rw[ar]at o ae
 clear hg bv bl h3
 have bx:=mW (a:=a) (wd:=wd) t1 t2 r1
 have cd:¬ wd=0:=by omega
 have hq:(wd == 0)=false:=by rw[beq_eq_false_iff_ne];omega
 have bi:0≤a/wd:=Int.ediv_nonneg t1 (by omega)
 go_enter Tryz.func87,Tryz.ntmps87
 go_wp2_with fail
 with_reducible refine(vV wd sl A n c B cs a _ (HR.out.below (L.out.bel.mono hB)) (Nat.le_trans hB L.out.size) hn).mono ?_
 rw[hm]
 rintro e g ⟨m,n1,G,rfl,Q,al,am⟩
 have V:=Lib.hid Q
 have cb:n1=n:=by have:=Q.cell_len;simp only at this;omega
 subst n1
 clear Q hm
 dsimp only at V
 generalize a/wd=tz at h2 o ae bx bi
 have N:=Lib.hid (show ∀ ad,m=some ad→m=A∨W.heap.size+2≤ad.block from fun ad e=>by
  rcases am ad e with h | h
  ·exact .inl h
  ·simp at h;exact .inr (by omega))
 clear am
 have ag:=Lib.hid (show 0<n → ∀ ad,m=some ad→ad.block≠W.heap.size from fun h ad e=>by
  rcases N.out ad e with h' | h'
  ·rw[h']at e;have:=HR.out.lo h ad e;omega
  ·omega)
 have ap:=Lib.hid (show 0<n → ∀ ad,m=some ad→ad.block≠W.heap.size+1 from fun h ad e=>by
  rcases N.out ad e with h' | h'
  ·rw[h']at e;have:=HR.out.lo h ad e;omega
  ·omega)
 have bb:Hid (∀ ad,m=some ad→m=A∨W.heap.size≤ad.block):=fun ad e=>(N.out ad e).imp id (fun h=>by omega)
 have f:Hid (Kept W g [(W.heap.size+1,87,#[.int .i64 0,.int .i64 0,.slice none 0 0]),(W.heap.size,87,#[.int .i64 wd,.int .i64 sl,.slice A n c])]):=L.out.next al
 clear L
 clear al
 have t:g.cell? ⟨W.heap.size,0,none⟩=some (.int .i64 wd):=f.out.cell 1 rfl 0
 have s:g.frozen? ⟨W.heap.size,0,none⟩=false:=f.out.frozen 1 rfl 0
 have v:g.cell? ⟨W.heap.size,1,none⟩=some (.int .i64 sl):=f.out.cell 1 rfl 1
 have C:g.frozen? ⟨W.heap.size,1,none⟩=false:=f.out.frozen 1 rfl 1
 have q:g.cell? ⟨W.heap.size,2,none⟩=some (.slice A n c):=f.out.cell 1 rfl 2
 have D:g.frozen? ⟨W.heap.size,2,none⟩=false:=f.out.frozen 1 rfl 2
 have w:g.cell? ⟨W.heap.size+1,0,none⟩=some (.int .i64 0):=f.out.cell 0 rfl 0
 have F:g.frozen? ⟨W.heap.size+1,0,none⟩=false:=f.out.frozen 0 rfl 0
 have r:g.cell? ⟨W.heap.size+1,1,none⟩=some (.int .i64 0):=f.out.cell 0 rfl 1
 have E:g.frozen? ⟨W.heap.size+1,1,none⟩=false:=f.out.frozen 0 rfl 1
 have u:g.cell? ⟨W.heap.size+1,2,none⟩=some (.slice none 0 0):=f.out.cell 0 rfl 2
 have z:g.frozen? ⟨W.heap.size+1,2,none⟩=false:=f.out.frozen 0 rfl 2
 by_cases bs:tz≤j-(n:Int)
 ·have dle:decide (tz≤j-(n:Int))=true:=by simpa using bs
  have X:=Lib.hid (o.out (by omega))
  clear o ae
  go_wp2
  exact bodyPost_ret (mF (je ((((f.out.set_ 1 rfl 0 (.int .i64 wd)).set_ 1 rfl 1 (.int .i64 j)).set_ 1 rfl 2 (.slice m n G)).blk 0 rfl)) _ (.int .i64 0) rfl rfl) rfl (cB.of X.out ⟨m,n,G,rfl,by simp only[World.size_setCell];exact bE (bE V.out ag.out) ap.out,bA (((f.out.set_ 1 rfl 0 (.int .i64 wd)).set_ 1 rfl 1 (.int .i64 j)).set_ 1 rfl 2 (.slice m n G)).bel (by omega),bb.out⟩)
 have dle:decide (tz≤j-(n:Int))=false:=by simpa using bs
 have X:=Lib.hid (ae.out (by omega))
 clear o ae
 have bt:Hid (Kept W (g.setCell ⟨W.heap.size,0,none⟩ (.int .i64 wd)) [(W.heap.size+1,87,#[.int .i64 0,.int .i64 0,.slice none 0 0]),(W.heap.size,87,#[.int .i64 wd,.int .i64 sl,.slice A n c])]):=f.out.set_ 1 rfl 0 (.int .i64 wd)
 clear f
 have br:Hid (Kept W ((g.setCell ⟨W.heap.size,0,none⟩ (.int .i64 wd)).setCell ⟨W.heap.size,1,none⟩ (.int .i64 j)) [(W.heap.size+1,87,#[.int .i64 0,.int .i64 0,.slice none 0 0]),(W.heap.size,87,#[.int .i64 wd,.int .i64 j,.slice A n c])]):=bt.out.set_ 1 rfl 1 (.int .i64 j)
 clear bt
 have O:Hid (Kept W (((g.setCell ⟨W.heap.size,0,none⟩ (.int .i64 wd)).setCell ⟨W.heap.size,1,none⟩ (.int .i64 j)).setCell ⟨W.heap.size,2,none⟩ (.slice m n G)) [(W.heap.size+1,87,#[.int .i64 0,.int .i64 0,.slice none 0 0]),(W.heap.size,87,#[.int .i64 wd,.int .i64 j,.slice m n G])]):=br.out.set_ 1 rfl 2 (.slice m n G)
 clear br
 have Y:Hid (Reads (((g.setCell ⟨W.heap.size,0,none⟩ (.int .i64 wd)).setCell ⟨W.heap.size,1,none⟩ (.int .i64 j)).setCell ⟨W.heap.size,2,none⟩ (.slice m n G)) g.heap.size 2 m n (ax cs')):=bE V.out ag.out
 clear V
 obtain⟨ad,rfl,-,-⟩:=Y.out.2 (by omega)
 obtain⟨i0,aw,bc,ba,ao⟩:=info_parts Tryz.infoCell
 clear N ag ap bb
 have bn:=dj (((g.setCell ⟨W.heap.size,0,none⟩ (.int .i64 wd)).setCell ⟨W.heap.size,1,none⟩ (.int .i64 j)).setCell ⟨W.heap.size,2,none⟩ (.slice (some ad) n G)) 220 g.heap.size (by simp only[World.size_setCell];exact Nat.le_refl _) 2
 simp only[World.size_setCell]at bn
 have U:=Lib.hid bn
 have I:=Lib.hid (show(((g.setCell ⟨W.heap.size,0,none⟩ (.int .i64 wd)).setCell ⟨W.heap.size,1,none⟩ (.int .i64 j)).setCell ⟨W.heap.size,2,none⟩ (.slice (some ad) n G)).heap.size=g.heap.size from by simp only[World.size_setCell])
 clear bn
 have cc:W.heap.size<g.heap.size:=by have:=O.out.lt 1 rfl;rw[I.out]at this;exact this
 cases ok
 ·skip
  go_wp2_with (at_builtin;go_must (refine aP _ rfl _ _ 85 rfl g.heap.size 220 i0 _ 2 16 Tryz.underlying85 aw bc ba ao rfl (by omega) _ 0 [] rfl U.out g.heap.size (some ad) n G _ rfl (Y.out.alloc (by rw[I.out];exact Nat.le_refl _) _) (iB cs') (by unfold maxLen;omega) (by omega) (by simp) ?_);intro v3 P i M Z;clear Z;have ab:=cT ((Below.refl _ _).alloc (Nat.le_refl _) _) M U.out (by rw[I.out];exact Nat.le_refl _) (by simp);clear M;rw[Nat.zero_add,List.nil_append]at i;obtain⟨g3,k,rfl,bz,bp⟩:=i.form (by omega))
  have J:=Lib.hid (cQ (base':=W.heap.size+2) i (by have:=O.out.lt 0 rfl;rw[I.out]at this;exact this))
  clear i U Y I aw bc ba ao
  clear t v q w r u s C D F E z
  have d:Hid (Kept W P [(W.heap.size+1,87,#[.int .i64 0,.int .i64 0,.slice none 0 0]),(W.heap.size,87,#[.int .i64 wd,.int .i64 j,.slice (some ad) n G])]):=O.out.next ab
  clear O
  clear ab
  have i1:(0:Int)≤tz%(n:Int):=Int.emod_nonneg _ (by omega)
  have i2:tz%(n:Int)<(n:Int):=Int.emod_lt_of_pos _ (by omega)
  have ac:(tz%(n:Int)).toNat<n:=by omega
  have ca:¬ n=0:=by omega
  have be:tz.tmod (n:Int)=tz%(n:Int):=Int.tmod_eq_emod_of_nonneg bi
  have HG:=Lib.hid (gO J.out g3 rfl)
  obtain⟨x,y,q0,q1,q2,q3,H⟩:=gG J.out ac
  rw[fQ H]at X
  have HX:=Lib.hid H
  clear H
  generalize tz%(n:Int)=ix at i1 i2 ac X HX be q0 q1 q2 q3
  refine wp_region_noPanic ?_
  refine wp_region_held_drew (S:=fun W'=>Kept W W' [(W.heap.size+1,87,#[.int .i64 0,.int .i64 0,.slice none 0 0]),(W.heap.size,87,#[.int .i64 wd,.int .i64 j,.slice (some ad) n G])]) (by kernel_rfl) d.out.drew (fun b=>?_)
  have T:Hid (P.drew.ownsRow (W.heap.size+2) 220 2 (.slice (some ⟨g3,0,none⟩) n k) n (ax cs')):=J.out
  replace q0:P.drew.cell? _=_:=q0
  replace q1:P.drew.cell? _=_:=q1
  replace q2:P.drew.frozen? _=_:=q2
  replace q3:P.drew.frozen? _=_:=q3
  replace HG:=Lib.hid (gO T.out g3 rfl)
  clear J d
  generalize P.drew=l at T HG b q0 q1 q2 q3 ⊢
  refine tS 0 b ?_
  refine tS 1 b ?_
  refine tS 2 b ?_
  refine tS 3 b ?_
  refine tS 4 b ?_
  refine tS 5 b ?_
  refine tS 6 b ?_
  refine tS 7 b ?_
  refine tS 8 b ?_
  refine tS 9 b ?_
  refine wpAnyH_ready (rs:=[10]) (by kernel_rfl) (by simp) ?_
  refine AllReadyH.cons rfl (fun K hK=>?_) AllReadyH.nil
  go_simp
  refine hK.out _ _ b (fun b=>?_)
  clear hK K
  try simp only[Act.put,sI,sZ,sS]
  refine wpAnyH_ready (rs:=[11]) (by kernel_rfl) (by simp) ?_
  refine AllReadyH.cons rfl (fun K hK=>?_) AllReadyH.nil
  go_simp
  refine(eW _ _ _).mono ?_
  rintro e w6 ⟨rfl,rfl⟩
  refine hK.out _ _ b (fun b=>?_)
  clear hK K
  try simp only[Act.put,sI,sZ,sS]
  refine tS 12 b ?_
  refine tS 13 b ?_
  have bk:=Lib.hid b
  have bo:W.heap.size+2≤g3:=HG.out.1
  refine wpAnyH_ready (rs:=[14]) (by kernel_rfl) (by simp) ?_
  refine AllReadyH.cons rfl (fun K hK=>?_) AllReadyH.nil
  go_simp
  refine hK.out _ _ (b.put_off (by simp;omega) (by intro x H;simp at H;rcases H with rfl | rfl<;>simp<;>omega) _) (fun b=>?_)
  clear hK K
  try simp only[Act.put,sI,sZ,sS]
  refine wpAnyH_done (by kernel_rfl) ?_ _
  refine NoPanic.normal ?_
  clear b
  have bm:=Lib.hid (nY T.out (gT cs' ix.toNat x y (up y 1) HX.out))
  have d:=Lib.hid (bk.out.put_off (p:=⟨g3,ix.toNat*2+1,none⟩) (by simp;have:=HG.out;omega) (by intro x H;simp at H;have:=HG.out;rcases H with rfl | rfl<;>simp<;>omega) (.int .i64 (up y 1)))
  rw[show bump false (x,y)=(x,up y 1) from rfl]at X
  have R:=Reads.of_own bm.out
  simp only[World.size_setCell]at R
  have bh:=Lib.hid R
  clear R
  have bd:Hid (0<n → ∀ ad,some (⟨g3,0,none⟩:Addr)=some ad→ad.block≠W.heap.size):=fun _ ad e=>by injection e with e;subst e;have:=HG.out;simp;omega
  have bj:Hid (0<n → ∀ ad,some (⟨g3,0,none⟩:Addr)=some ad→ad.block≠W.heap.size+1):=fun _ ad e=>by injection e with e;subst e;have:=HG.out;simp;omega
  have t:(l.setCell ⟨g3,ix.toNat*2+1,none⟩ (.int .i64 (up y 1))).cell? ⟨W.heap.size,0,none⟩=some (.int .i64 wd):=d.out.cell 1 rfl 0
  have s:(l.setCell ⟨g3,ix.toNat*2+1,none⟩ (.int .i64 (up y 1))).frozen? ⟨W.heap.size,0,none⟩=false:=d.out.frozen 1 rfl 0
  have v:(l.setCell ⟨g3,ix.toNat*2+1,none⟩ (.int .i64 (up y 1))).cell? ⟨W.heap.size,1,none⟩=some (.int .i64 j):=d.out.cell 1 rfl 1
  have C:(l.setCell ⟨g3,ix.toNat*2+1,none⟩ (.int .i64 (up y 1))).frozen? ⟨W.heap.size,1,none⟩=false:=d.out.frozen 1 rfl 1
  have q:(l.setCell ⟨g3,ix.toNat*2+1,none⟩ (.int .i64 (up y 1))).cell? ⟨W.heap.size,2,none⟩=some (.slice (some ad) n G):=d.out.cell 1 rfl 2
  have D:(l.setCell ⟨g3,ix.toNat*2+1,none⟩ (.int .i64 (up y 1))).frozen? ⟨W.heap.size,2,none⟩=false:=d.out.frozen 1 rfl 2
  have w:(l.setCell ⟨g3,ix.toNat*2+1,none⟩ (.int .i64 (up y 1))).cell? ⟨W.heap.size+1,0,none⟩=some (.int .i64 0):=d.out.cell 0 rfl 0
  have F:(l.setCell ⟨g3,ix.toNat*2+1,none⟩ (.int .i64 (up y 1))).frozen? ⟨W.heap.size+1,0,none⟩=false:=d.out.frozen 0 rfl 0
  have r:(l.setCell ⟨g3,ix.toNat*2+1,none⟩ (.int .i64 (up y 1))).cell? ⟨W.heap.size+1,1,none⟩=some (.int .i64 0):=d.out.cell 0 rfl 1
  have E:(l.setCell ⟨g3,ix.toNat*2+1,none⟩ (.int .i64 (up y 1))).frozen? ⟨W.heap.size+1,1,none⟩=false:=d.out.frozen 0 rfl 1
  have u:(l.setCell ⟨g3,ix.toNat*2+1,none⟩ (.int .i64 (up y 1))).cell? ⟨W.heap.size+1,2,none⟩=some (.slice none 0 0):=d.out.cell 0 rfl 2
  have z:(l.setCell ⟨g3,ix.toNat*2+1,none⟩ (.int .i64 (up y 1))).frozen? ⟨W.heap.size+1,2,none⟩=false:=d.out.frozen 0 rfl 2
  go_wp2
  exact bodyPost_ret (mF (je ((d.out.set_ 1 rfl 2 (.slice (some ⟨g3,0,none⟩) n k)).blk 0 rfl)) _ (.int .i64 0) rfl rfl) rfl (cB.of X.out ⟨_,n,k,rfl,by simp only[World.size_setCell];exact bE (fC bh.out bd.out _) bj.out,bA (d.out.set_ 1 rfl 2 (.slice (some ⟨g3,0,none⟩) n k)).bel (by omega),fun ad e=>.inr (by injection e with e;subst e;have:=HG.out;simp;omega)⟩)
 ·skip
  go_wp2_with (at_builtin;go_must (refine aP _ rfl _ _ 85 rfl g.heap.size 220 i0 _ 2 16 Tryz.underlying85 aw bc ba ao rfl (by omega) _ 0 [] rfl U.out g.heap.size (some ad) n G _ rfl (Y.out.alloc (by rw[I.out];exact Nat.le_refl _) _) (iB cs') (by unfold maxLen;omega) (by omega) (by simp) ?_);intro v3 P i M Z;clear Z;have ab:=cT ((Below.refl _ _).alloc (Nat.le_refl _) _) M U.out (by rw[I.out];exact Nat.le_refl _) (by simp);clear M;rw[Nat.zero_add,List.nil_append]at i;obtain⟨g3,k,rfl,bz,bp⟩:=i.form (by omega))
  have J:=Lib.hid (cQ (base':=W.heap.size+2) i (by have:=O.out.lt 0 rfl;rw[I.out]at this;exact this))
  clear i U Y I aw bc ba ao
  clear t v q w r u s C D F E z
  have d:Hid (Kept W P [(W.heap.size+1,87,#[.int .i64 0,.int .i64 0,.slice none 0 0]),(W.heap.size,87,#[.int .i64 wd,.int .i64 j,.slice (some ad) n G])]):=O.out.next ab
  clear O
  clear ab
  have i1:(0:Int)≤tz%(n:Int):=Int.emod_nonneg _ (by omega)
  have i2:tz%(n:Int)<(n:Int):=Int.emod_lt_of_pos _ (by omega)
  have ac:(tz%(n:Int)).toNat<n:=by omega
  have ca:¬ n=0:=by omega
  have be:tz.tmod (n:Int)=tz%(n:Int):=Int.tmod_eq_emod_of_nonneg bi
  have HG:=Lib.hid (gO J.out g3 rfl)
  obtain⟨x,y,q0,q1,q2,q3,H⟩:=gG J.out ac
  rw[fQ H]at X
  have HX:=Lib.hid H
  clear H
  generalize tz%(n:Int)=ix at i1 i2 ac X HX be q0 q1 q2 q3
  refine wp_region_noPanic ?_
  refine wp_region_held_drew (S:=fun W'=>Kept W W' [(W.heap.size+1,87,#[.int .i64 0,.int .i64 0,.slice none 0 0]),(W.heap.size,87,#[.int .i64 wd,.int .i64 j,.slice (some ad) n G])]) (by kernel_rfl) d.out.drew (fun b=>?_)
  have T:Hid (P.drew.ownsRow (W.heap.size+2) 220 2 (.slice (some ⟨g3,0,none⟩) n k) n (ax cs')):=J.out
  replace q0:P.drew.cell? _=_:=q0
  replace q1:P.drew.cell? _=_:=q1
  replace q2:P.drew.frozen? _=_:=q2
  replace q3:P.drew.frozen? _=_:=q3
  replace HG:=Lib.hid (gO T.out g3 rfl)
  clear J d
  generalize P.drew=l at T HG b q0 q1 q2 q3 ⊢
  refine tS 0 b ?_
  refine tS 1 b ?_
  refine tS 2 b ?_
  refine tS 3 b ?_
  refine tS 4 b ?_
  refine tS 5 b ?_
  refine tS 6 b ?_
  refine tS 7 b ?_
  refine tS 8 b ?_
  refine tS 9 b ?_
  refine wpAnyH_ready (rs:=[10]) (by kernel_rfl) (by simp) ?_
  refine AllReadyH.cons rfl (fun K hK=>?_) AllReadyH.nil
  go_simp
  refine hK.out _ _ b (fun b=>?_)
  clear hK K
  try simp only[Act.put,sI,sZ,sS]
  refine wpAnyH_ready (rs:=[11]) (by kernel_rfl) (by simp) ?_
  refine AllReadyH.cons rfl (fun K hK=>?_) AllReadyH.nil
  go_simp
  refine(eW _ _ _).mono ?_
  rintro e w6 ⟨rfl,rfl⟩
  refine hK.out _ _ b (fun b=>?_)
  clear hK K
  try simp only[Act.put,sI,sZ,sS]
  refine tS 12 b ?_
  refine tS 13 b ?_
  have bk:=Lib.hid b
  have bo:W.heap.size+2≤g3:=HG.out.1
  refine wpAnyH_ready (rs:=[14]) (by kernel_rfl) (by simp) ?_
  refine AllReadyH.cons rfl (fun K hK=>?_) AllReadyH.nil
  go_simp
  refine hK.out _ _ (b.put_off (by simp;omega) (by intro x H;simp at H;rcases H with rfl | rfl<;>simp<;>omega) _) (fun b=>?_)
  clear hK K
  try simp only[Act.put,sI,sZ,sS]
  refine wpAnyH_done (by kernel_rfl) ?_ _
  refine NoPanic.normal ?_
  clear b
  have bm:=Lib.hid (nY T.out (gX cs' ix.toNat x y (up x 1) HX.out))
  have d:=Lib.hid (bk.out.put_off (p:=⟨g3,ix.toNat*2,none⟩) (by simp;have:=HG.out;omega) (by intro x H;simp at H;have:=HG.out;rcases H with rfl | rfl<;>simp<;>omega) (.int .i64 (up x 1)))
  rw[show bump true (x,y)=(up x 1,y) from rfl]at X
  have R:=Reads.of_own bm.out
  simp only[World.size_setCell]at R
  have bh:=Lib.hid R
  clear R
  have bd:Hid (0<n → ∀ ad,some (⟨g3,0,none⟩:Addr)=some ad→ad.block≠W.heap.size):=fun _ ad e=>by injection e with e;subst e;have:=HG.out;simp;omega
  have bj:Hid (0<n → ∀ ad,some (⟨g3,0,none⟩:Addr)=some ad→ad.block≠W.heap.size+1):=fun _ ad e=>by injection e with e;subst e;have:=HG.out;simp;omega
  have t:(l.setCell ⟨g3,ix.toNat*2,none⟩ (.int .i64 (up x 1))).cell? ⟨W.heap.size,0,none⟩=some (.int .i64 wd):=d.out.cell 1 rfl 0
  have s:(l.setCell ⟨g3,ix.toNat*2,none⟩ (.int .i64 (up x 1))).frozen? ⟨W.heap.size,0,none⟩=false:=d.out.frozen 1 rfl 0
  have v:(l.setCell ⟨g3,ix.toNat*2,none⟩ (.int .i64 (up x 1))).cell? ⟨W.heap.size,1,none⟩=some (.int .i64 j):=d.out.cell 1 rfl 1
  have C:(l.setCell ⟨g3,ix.toNat*2,none⟩ (.int .i64 (up x 1))).frozen? ⟨W.heap.size,1,none⟩=false:=d.out.frozen 1 rfl 1
  have q:(l.setCell ⟨g3,ix.toNat*2,none⟩ (.int .i64 (up x 1))).cell? ⟨W.heap.size,2,none⟩=some (.slice (some ad) n G):=d.out.cell 1 rfl 2
  have D:(l.setCell ⟨g3,ix.toNat*2,none⟩ (.int .i64 (up x 1))).frozen? ⟨W.heap.size,2,none⟩=false:=d.out.frozen 1 rfl 2
  have w:(l.setCell ⟨g3,ix.toNat*2,none⟩ (.int .i64 (up x 1))).cell? ⟨W.heap.size+1,0,none⟩=some (.int .i64 0):=d.out.cell 0 rfl 0
  have F:(l.setCell ⟨g3,ix.toNat*2,none⟩ (.int .i64 (up x 1))).frozen? ⟨W.heap.size+1,0,none⟩=false:=d.out.frozen 0 rfl 0
  have r:(l.setCell ⟨g3,ix.toNat*2,none⟩ (.int .i64 (up x 1))).cell? ⟨W.heap.size+1,1,none⟩=some (.int .i64 0):=d.out.cell 0 rfl 1
  have E:(l.setCell ⟨g3,ix.toNat*2,none⟩ (.int .i64 (up x 1))).frozen? ⟨W.heap.size+1,1,none⟩=false:=d.out.frozen 0 rfl 1
  have u:(l.setCell ⟨g3,ix.toNat*2,none⟩ (.int .i64 (up x 1))).cell? ⟨W.heap.size+1,2,none⟩=some (.slice none 0 0):=d.out.cell 0 rfl 2
  have z:(l.setCell ⟨g3,ix.toNat*2,none⟩ (.int .i64 (up x 1))).frozen? ⟨W.heap.size+1,2,none⟩=false:=d.out.frozen 0 rfl 2
  go_wp2
  exact bodyPost_ret (mF (je ((d.out.set_ 1 rfl 2 (.slice (some ⟨g3,0,none⟩) n k)).blk 0 rfl)) _ (.int .i64 0) rfl rfl) rfl (cB.of X.out ⟨_,n,k,rfl,by simp only[World.size_setCell];exact bE (fC bh.out bd.out _) bj.out,bA (d.out.set_ 1 rfl 2 (.slice (some ⟨g3,0,none⟩) n k)).bel (by omega),fun ad e=>.inr (by injection e with e;subst e;have:=HG.out;simp;omega)⟩)
end
section
def eR (p:Int):Int:=if p<0 then 0 else if 8≤p then 0 else 2^p.toNat
def aV (n:Int):Nat:=if n≤1 then 0 else if n≤2 then 1 else if n≤4 then 2 else if n≤8 then 3 else if n≤16 then 4 else if n≤32 then 5 else if n≤64 then 6 else if n≤128 then 7 else 8
def bw (f:Nat→Int) (s:Int):Bool:=(List.range 9).all (fun i=>f i == hold (f i))&&(s == hold s)
theorem jo (f:Nat→Int) (s:Int):bw f s=true ↔ (∀ i,i<9→f i=hold (f i))∧s=hold s:=by
 simp only[bw,Bool.and_eq_true,List.all_eq_true,List.mem_range,beq_iff_eq]
def dL (f:Nat→Int) (p:Nat) (v:Int):Nat→Int:=fun i=>if i=p then v else f i
def bU (f:Nat→Int) (s n:Int):Nat→Int:=if bw f s=true∧0≤n then dL f (aV n) (up (f (aV n)) 1) else f
def cW (f:Nat→Int) (s n:Int):Int:=if bw f s=true∧0≤n then up s n else s
def BJ (b:Nat→Int) (part:Int) (k:Nat):Prop:=part*b 8≤1000*b k
instance (b:Nat→Int) (part:Int) (k:Nat):Decidable (BJ b part k):=by unfold BJ;infer_instance
theorem dK (k:Nat) (a:k<8):eR k=2^k:=by unfold eR;rw[if_neg (by omega),if_neg (by omega)];rfl
theorem oQ (n:Int) (k:Nat) (e:k<8) (h:∀ j:Nat,j<k→eR j<n) (hn:n≤eR k):aV n=k:=by
 have b:=dK 0 (by omega);have i:=dK 1 (by omega);have f:=dK 2 (by omega);have a:=dK 3 (by omega)
 have o:=dK 4 (by omega);have c:=dK 5 (by omega);have b6:=dK 6 (by omega);have m:=dK 7 (by omega)
 have l:∀ j:Nat,j<k→(2:Int)^j<n:=fun j d=>by rw[←dK j (by omega)];exact h j d
 rw[dK k e]at hn
 clear h b i f a o c b6 m
 rcases(by omega:k=0∨k=1∨k=2∨k=3∨k=4∨k=5∨k=6∨k=7) with rfl | rfl | rfl | rfl | rfl | rfl | rfl | rfl
 ·unfold aV;rw[if_pos (by simpa using hn)]
 all_goals
  have g:=l _ (Nat.lt_succ_self _)
  simp at g hn
  unfold aV
  repeat rw[if_neg (by omega)]
  rw[if_pos (by omega)]
theorem nE (n:Int) (h:∀ j:Nat,j<8→eR j<n):aV n=8:=by
 have:=h 7 (by omega)
 rw[dK 7 (by omega)]at this
 unfold aV
 repeat rw[if_neg (by omega)]
theorem qy (n:Int):aV n≤8:=by unfold aV;repeat (first | omega | split)
theorem nj {f:Nat→Int} {s:Int} (h:bw f s=true):(∀ i,i<9→0≤f i∧f i≤1099511627776)∧0≤s∧s≤1099511627776:=by
 rw[jo]at h
 refine⟨fun i a=>?_,?_,?_⟩
 ·rw[h.1 i a];exact⟨fN _,ij _⟩
 ·rw[h.2];exact fN _
 ·rw[h.2];exact ij _
end
section
open Go.RowKit
theorem nF {k:IntKind} {a b:Int} (h:a=b):Ending.returned (.int k a) = .returned (.int k b):=by rw[h]
theorem qU {a b:Bool} (h:a=b):Ending.returned (.bool a) = .returned (.bool b):=by rw[h]
theorem FW (f:Nat→Int) (k:Nat) (a:k<9) (w:World):(Instr.index 88 (.agg #[.int .i64 (f 0),.int .i64 (f 1),.int .i64 (f 2),.int .i64 (f 3),.int .i64 (f 4),.int .i64 (f 5),.int .i64 (f 6),.int .i64 (f 7),.int .i64 (f 8)]) (.int .i64 (k:Int))).run Tryz.prog w = .ok (.int .i64 (f k)) w:=by
 rcases(by omega:k=0∨k=1∨k=2∨k=3∨k=4∨k=5∨k=6∨k=7∨k=8) with rfl | rfl | rfl | rfl | rfl | rfl | rfl | rfl | rfl
 all_goals kernel_rfl
theorem EG (f:Nat→Int) (s:Int) (k:Nat) (a:k<9) (w:World):(w.alloc (.cells #[.int .i64 (f 0),.int .i64 (f 1),.int .i64 (f 2),.int .i64 (f 3),.int .i64 (f 4),.int .i64 (f 5),.int .i64 (f 6),.int .i64 (f 7),.int .i64 (f 8),.int .i64 s] 90)).cell? ⟨w.heap.size,k,none⟩=some (.int .i64 (f k)):=by
 rw[(Blk.new w 90 _).cell k]
 rcases(by omega:k=0∨k=1∨k=2∨k=3∨k=4∨k=5∨k=6∨k=7∨k=8) with rfl | rfl | rfl | rfl | rfl | rfl | rfl | rfl | rfl
 all_goals rfl
theorem wj (p:Int) (w:World):Calls Tryz.prog 258 #[.int .i64 p] w fun e w'=>e = .returned (.int .i64 (eR p))∧w=w':=by
 by_cases b:p<0
 ·go_enter Tryz.func258,Tryz.ntmps258
  go_wp2
  go_ret
  exact⟨nF (by unfold eR;rw[if_pos b]),rfl⟩
 ·by_cases a:8≤p
  ·go_enter Tryz.func258,Tryz.ntmps258
   go_wp2
   go_ret
   exact⟨nF (by unfold eR;rw[if_neg (by omega),if_pos a]),rfl⟩
  ·rcases(by omega:p=0∨p=1∨p=2∨p=3∨p=4∨p=5∨p=6∨p=7) with rfl | rfl | rfl | rfl | rfl | rfl | rfl | rfl
   all_goals
    go_enter Tryz.func258,Tryz.ntmps258
    go_wp2
    go_ret
    exact⟨rfl,rfl⟩
set_option maxHeartbeats 2000000 in
theorem si (p:Int) (w:World):Calls Tryz.prog 213 #[.int .i64 p] w fun e w'=>e = .returned (.int .i64 (eR p))∧Below w.heap.size w w':=by
 by_cases b:p<0
 ·go_enter Tryz.func213,Tryz.ntmps213
  go_wp2
  go_ret
  exact⟨nF (by unfold eR;rw[if_pos b]),(Below.refl _ _).alloc (Nat.le_refl _) _⟩
 ·by_cases a:8≤p
  ·go_enter Tryz.func213,Tryz.ntmps213
   go_wp2
   go_ret
   exact⟨nF (by unfold eR;rw[if_neg (by omega),if_pos a]),(Below.refl _ _).alloc (Nat.le_refl _) _⟩
  ·rcases(by omega:p=0∨p=1∨p=2∨p=3∨p=4∨p=5∨p=6∨p=7) with rfl | rfl | rfl | rfl | rfl | rfl | rfl | rfl
   all_goals
    go_enter Tryz.func213,Tryz.ntmps213
    go_wp2
    go_ret
    exact⟨rfl,(Below.refl _ _).alloc (Nat.le_refl _) _⟩
theorem gq (n:Int) (w:World):Calls Tryz.prog 223 #[.int .i64 n] w fun e w'=>e = .returned (.int .i64 (aV n))∧w=w':=by
 go_enter Tryz.func223,Tryz.ntmps223
 go_wp2
 go_loop [4] (fun i => ∃ k:Nat,k≤8∧i = .int .i64 k∧Hid (∀ j:Nat,j<k→eR j<n)) (fun i=>8-(intOf i).toNat)
 case atStart=>exact⟨0,Nat.zero_le _,rfl,fun j c=>by omega⟩
 case round=>
  obtain⟨k,f,rfl,b⟩:=hrel
  by_cases a:k<8
  ·by_cases d:n≤eR k
   ·go_wp2_with (go_at_call 258;refine(wj _ _).mono ?_;rintro e w' ⟨rfl,rfl⟩)
    go_ret
    exact⟨nF (by rw[oQ n k a b.out d]),rfl⟩
   ·go_wp2_with (go_at_call 258;refine(wj _ _).mono ?_;rintro e w' ⟨rfl,rfl⟩)
    go_round
    case rel=>
     refine⟨k+1,by omega,by go_num,fun j c=>?_⟩
     rcases Nat.lt_or_ge j k with h | h
     ·exact b.out j h
     ·obtain rfl:j=k:=by omega
      omega
    case measure=>simp[intOf];omega
  ·obtain rfl:k=8:=by omega
   go_wp2
   go_ret
   exact⟨nF (by rw[nE n b.out];rfl),rfl⟩
theorem ff (n:Int) (w:World):Calls Tryz.prog 153 #[.int .i64 n] w fun e w'=>e = .returned (.int .i64 (aV n))∧Below w.heap.size w w':=by
 go_enter Tryz.func153,Tryz.ntmps153
 go_wp2
 go_loopw [3] (fun i wr => ∃ k:Nat,k≤8∧i = .int .i64 k∧Hid (∀ j:Nat,j<k→eR j<n)∧Below w.heap.size w wr) (fun i _=>8-(intOf i).toNat)
 case atStart=>exact⟨0,Nat.zero_le _,rfl,fun j l=>by omega,Below.refl _ _⟩
 case round=>
  obtain⟨k,m,rfl,d,a⟩:=hrel
  by_cases c:k<8
  ·by_cases f:n≤eR k
   ·go_wp2_with (go_at_call 213;refine(si _ _).mono ?_;rintro e g ⟨rfl,b⟩)
    go_ret
    exact⟨nF (by rw[oQ n k c d.out f]),a.trans (b.mono a.size)⟩
   ·go_wp2_with (go_at_call 213;refine(si _ _).mono ?_;rintro e g ⟨rfl,b⟩)
    go_roundw
    case rel=>
     refine⟨k+1,by omega,by go_num,fun j l=>?_,a.trans (b.mono a.size)⟩
     rcases Nat.lt_or_ge j k with h | h
     ·exact d.out j h
     ·obtain rfl:j=k:=by omega
      omega
    case measure=>simp[intOf];omega
  ·obtain rfl:k=8:=by omega
   go_wp2
   go_ret
   exact⟨nF (by rw[nE n d.out];rfl),a⟩
theorem qE {f:Nat→Int} {s:Int} {k:Nat} (a:k<9) (h:¬ f k=hold (f k)):bw f s=false:=by
 cases hr:bw f s
 ·rfl
 ·exact absurd (((jo f s).1 hr).1 k a) h
theorem pR {f:Nat→Int} {s:Int} (h:∀ j,j<9→f j=hold (f j)):bw f s=(s == hold s):=by
 rw[Bool.eq_iff_iff,jo,beq_iff_eq]
 exact⟨fun h'=>h'.2,fun h'=>⟨h,h'⟩⟩
theorem eK (f:Nat→Int) (s:Int) (w:World):Calls Tryz.prog 222 #[.agg #[.int .i64 (f 0),.int .i64 (f 1),.int .i64 (f 2),.int .i64 (f 3),.int .i64 (f 4),.int .i64 (f 5),.int .i64 (f 6),.int .i64 (f 7),.int .i64 (f 8),.int .i64 s]] w fun e w'=>e = .returned (.bool (bw f s))∧Below w.heap.size w w':=by
 have HI:=fun k g W=>Lib.hid (FW f k g W)
 go_enter Tryz.func222,Tryz.ntmps222
 go_wp2
 go_loop [7] (fun i => ∃ k:Nat,k≤9∧i = .int .i64 k∧Hid (∀ j:Nat,j<k→f j=hold (f j))) (fun i=>9-(intOf i).toNat)
 case atStart=>exact⟨0,Nat.zero_le _,rfl,fun j m=>by omega⟩
 case round=>
  obtain⟨k,g,rfl,l⟩:=hrel
  by_cases b:k<9
  ·have hidx:=fun W=>(HI k b W).out
   by_cases a:f k=hold (f k)
   ·have d:(f k != hold (f k))=false:=by rw[bne_eq_false_iff_eq];exact a
    have c:=Lib.hid a;clear a
    go_wp2_with (go_at_call 244;refine(nu _ _).mono ?_;rintro e w' ⟨rfl,rfl⟩)
    go_round
    case rel=>
     refine⟨k+1,by omega,by go_num,fun j m=>?_⟩
     rcases Nat.lt_or_ge j k with h | h
     ·exact l.out j h
     ·obtain rfl:j=k:=by omega
      exact c.out
    case measure=>simp[intOf];omega
   ·have d:(f k != hold (f k))=true:=by rw[bne_iff_ne];exact a
    have c:=Lib.hid a;clear a
    go_wp2_with (go_at_call 244;refine(nu _ _).mono ?_;rintro e w' ⟨rfl,rfl⟩)
    go_ret
    exact⟨qU (qE b c.out).symm,(Below.refl _ _).alloc (Nat.le_refl _) _⟩
  ·obtain rfl:k=9:=by omega
   go_wp2
   go_quiet ((go_at_call 244;exact uY (nu _ _)))
   go_wp2
   go_ret
   exact⟨qU (pR l.out).symm,below_drewN ((Below.refl _ _).alloc (Nat.le_refl _) _) _⟩
theorem dQ (f:Nat→Int) (s:Int) (w:World):Calls Tryz.prog 152 #[.agg #[.int .i64 (f 0),.int .i64 (f 1),.int .i64 (f 2),.int .i64 (f 3),.int .i64 (f 4),.int .i64 (f 5),.int .i64 (f 6),.int .i64 (f 7),.int .i64 (f 8),.int .i64 s]] w fun e w'=>e = .returned (.bool (bw f s))∧Below w.heap.size w w':=by
 go_enter Tryz.func152,Tryz.ntmps152
 go_wp2
 go_loopw [3] (fun i wr => ∃ k m:Nat,k≤9∧i = .int .i64 k∧Hid (∀ j:Nat,j<k→f j=hold (f j))∧wr=(w.alloc (.cells #[.int .i64 (f 0),.int .i64 (f 1),.int .i64 (f 2),.int .i64 (f 3),.int .i64 (f 4),.int .i64 (f 5),.int .i64 (f 6),.int .i64 (f 7),.int .i64 (f 8),.int .i64 s] 90)).drewN m) (fun i _=>9-(intOf i).toNat)
 case atStart=>exact⟨0,0,Nat.zero_le _,rfl,fun j l=>by omega,rfl⟩
 case round=>
  obtain⟨k,m,n,rfl,g,rfl⟩:=hrel
  by_cases b:k<9
  ·have hcell:=EG f s k b w
   by_cases a:f k=hold (f k)
   ·have d:(f k != hold (f k))=false:=by rw[bne_eq_false_iff_eq];exact a
    have c:=Lib.hid a;clear a
    go_wp2
    go_quiet ((go_at_call 155;exact gU (nT _ _)))
    go_wp2
    go_roundw
    case rel=>
     refine⟨k+1,_,by omega,by go_num,fun j l=>?_,rfl⟩
     rcases Nat.lt_or_ge j k with h | h
     ·exact g.out j h
     ·obtain rfl:j=k:=by omega
      exact c.out
    case measure=>simp[intOf];omega
   ·have d:(f k != hold (f k))=true:=by rw[bne_iff_ne];exact a
    have c:=Lib.hid a;clear a
    go_wp2
    go_quiet ((go_at_call 155;exact gU (nT _ _)))
    go_wp2
    go_ret
    exact⟨qU (qE b c.out).symm,below_drewN (below_drewN ((Below.refl _ _).alloc (Nat.le_refl _) _) _) _⟩
  ·obtain rfl:k=9:=by omega
   go_wp2
   go_quiet ((go_at_call 155;exact gU (nT _ _)))
   go_wp2
   go_ret
   exact⟨qU (pR g.out).symm,below_drewN (below_drewN ((Below.refl _ _).alloc (Nat.le_refl _) _) _) _⟩
end
section
open Go.RowKit
set_option maxHeartbeats 4000000 in
theorem DR (f:Nat→Int) (s n:Int) (w:World) (h:¬ (bw f s=true∧0≤n)):Calls Tryz.prog 88 #[.agg #[.int .i64 (f 0),.int .i64 (f 1),.int .i64 (f 2),.int .i64 (f 3),.int .i64 (f 4),.int .i64 (f 5),.int .i64 (f 6),.int .i64 (f 7),.int .i64 (f 8),.int .i64 s],.int .i64 n] w fun e w'=>e = .returned (.agg #[.int .i64 (f 0),.int .i64 (f 1),.int .i64 (f 2),.int .i64 (f 3),.int .i64 (f 4),.int .i64 (f 5),.int .i64 (f 6),.int .i64 (f 7),.int .i64 (f 8),.int .i64 s])∧Below w.heap.size w w':=by
 have g:=fun W=>Lib.hid (dQ f s W)
 by_cases hR:bw f s=true
 ·have hn:n<0:=by
   rcases Int.lt_or_le n 0 with h' | h'
   ·exact h'
   ·exact absurd ⟨hR,h'⟩ h
  clear h
  go_enter Tryz.func88,Tryz.ntmps88
  go_wp2_with (go_at_call 152;refine((g _).out).mono ?_;rintro e w1 ⟨rfl,a⟩;obtain⟨b,d⟩:=cC a;have c:w.heap.size+1<w1.heap.size:=(by have:=a.size;simp at this;omega))
  have hbase:Below w.heap.size w w1:=(((Below.refl _ _).alloc (Nat.le_refl _) _).alloc (by simp) _).trans (a.mono (by simp;omega))
  refine bodyPost_ret (v := .agg #[.int .i64 (f 0),.int .i64 (f 1),.int .i64 (f 2),.int .i64 (f 3),.int .i64 (f 4),.int .i64 (f 5),.int .i64 (f 6),.int .i64 (f 7),.int .i64 (f 8),.int .i64 s]) (by simp[results,Tryz.results88,go_sem,b]) rfl ⟨rfl,?_⟩
  repeat (refine Below.setCell ?_ (by simp) _)
  exact hbase
 ·have i:bw f s=false:=by simpa using hR
  clear h hR
  go_enter Tryz.func88,Tryz.ntmps88
  go_wp2_with (go_at_call 152;refine((g _).out).mono ?_;rintro e w1 ⟨rfl,a⟩;obtain⟨b,d⟩:=cC a;have c:w.heap.size+1<w1.heap.size:=(by have:=a.size;simp at this;omega))
  have hbase:Below w.heap.size w w1:=(((Below.refl _ _).alloc (Nat.le_refl _) _).alloc (by simp) _).trans (a.mono (by simp;omega))
  refine bodyPost_ret (v := .agg #[.int .i64 (f 0),.int .i64 (f 1),.int .i64 (f 2),.int .i64 (f 3),.int .i64 (f 4),.int .i64 (f 5),.int .i64 (f 6),.int .i64 (f 7),.int .i64 (f 8),.int .i64 s]) (by simp[results,Tryz.results88,go_sem,b]) rfl ⟨rfl,?_⟩
  repeat (refine Below.setCell ?_ (by simp) _)
  exact hbase
set_option maxHeartbeats 4000000 in
theorem yz (f:Nat→Int) (s n:Int) (w:World) (hR:bw f s=true) (hn:0≤n) (o:aV n=0):Calls Tryz.prog 88 #[.agg #[.int .i64 (f 0),.int .i64 (f 1),.int .i64 (f 2),.int .i64 (f 3),.int .i64 (f 4),.int .i64 (f 5),.int .i64 (f 6),.int .i64 (f 7),.int .i64 (f 8),.int .i64 s],.int .i64 n] w fun e w'=>e = .returned (.agg #[.int .i64 (up (f 0) 1),.int .i64 (f 1),.int .i64 (f 2),.int .i64 (f 3),.int .i64 (f 4),.int .i64 (f 5),.int .i64 (f 6),.int .i64 (f 7),.int .i64 (f 8),.int .i64 (up s n)])∧Below w.heap.size w w':=by
 have x:=fun W=>Lib.hid (dQ f s W)
 have r:=Lib.hid o;clear o
 go_enter Tryz.func88,Tryz.ntmps88
 go_wp2_with (first
  | (go_at_call 152;refine((x _).out).mono ?_;rintro e k ⟨rfl,b⟩;obtain⟨c,j⟩:=cC b;have u:w.heap.size+1<k.heap.size:=(by have:=b.size;simp at this;omega);have g:k.cell? ⟨w.heap.size,0,none⟩=some (.int .i64 (f 0)):=(by have h:=c w.heap.size 0 (by simp;omega);simpa using h);have i:k.cell? ⟨w.heap.size,9,none⟩=some (.int .i64 s):=by have h:=c w.heap.size 9 (by simp;omega);simpa using h)
  | (go_at_call 153;refine(ff _ _).mono ?_;rintro e w2 ⟨rfl,a⟩;have d:=b.trans (a.mono b.size);have m:w2.cell? ⟨w.heap.size,0,none⟩=some (.int .i64 (f 0)):=(by rw[a.cell (p:=⟨w.heap.size,0,none⟩) (by show w.heap.size<_;omega)];exact g);have q:w2.cell? ⟨w.heap.size,9,none⟩=some (.int .i64 s):=(by rw[a.cell (p:=⟨w.heap.size,9,none⟩) (by show w.heap.size<_;omega)];exact i);have y:w.heap.size+1<w2.heap.size:=(by have:=a.size;omega);clear c j g i;obtain⟨l,t⟩:=cC d;rw[r.out])
  | (go_at_call 91;refine(eW _ _ _).mono ?_;rintro e w' ⟨rfl,rfl⟩))
 have hbase:Below w.heap.size w w2:=((((Below.refl _ _).alloc (Nat.le_refl _) _).alloc (by simp) _).trans (b.mono (by simp;omega))).trans (a.mono (by omega))
 refine bodyPost_ret (v := .agg #[.int .i64 (up (f 0) 1),.int .i64 (f 1),.int .i64 (f 2),.int .i64 (f 3),.int .i64 (f 4),.int .i64 (f 5),.int .i64 (f 6),.int .i64 (f 7),.int .i64 (f 8),.int .i64 (up s n)]) (by simp[results,Tryz.results88,go_sem,l]) rfl ⟨rfl,?_⟩
 repeat (refine Below.setCell ?_ (by simp) _)
 exact hbase
set_option maxHeartbeats 4000000 in
theorem zq (f:Nat→Int) (s n:Int) (w:World) (hR:bw f s=true) (hn:0≤n) (o:aV n=1):Calls Tryz.prog 88 #[.agg #[.int .i64 (f 0),.int .i64 (f 1),.int .i64 (f 2),.int .i64 (f 3),.int .i64 (f 4),.int .i64 (f 5),.int .i64 (f 6),.int .i64 (f 7),.int .i64 (f 8),.int .i64 s],.int .i64 n] w fun e w'=>e = .returned (.agg #[.int .i64 (f 0),.int .i64 (up (f 1) 1),.int .i64 (f 2),.int .i64 (f 3),.int .i64 (f 4),.int .i64 (f 5),.int .i64 (f 6),.int .i64 (f 7),.int .i64 (f 8),.int .i64 (up s n)])∧Below w.heap.size w w':=by
 have x:=fun W=>Lib.hid (dQ f s W)
 have r:=Lib.hid o;clear o
 go_enter Tryz.func88,Tryz.ntmps88
 go_wp2_with (first
  | (go_at_call 152;refine((x _).out).mono ?_;rintro e k ⟨rfl,b⟩;obtain⟨c,j⟩:=cC b;have u:w.heap.size+1<k.heap.size:=(by have:=b.size;simp at this;omega);have g:k.cell? ⟨w.heap.size,1,none⟩=some (.int .i64 (f 1)):=(by have h:=c w.heap.size 1 (by simp;omega);simpa using h);have i:k.cell? ⟨w.heap.size,9,none⟩=some (.int .i64 s):=by have h:=c w.heap.size 9 (by simp;omega);simpa using h)
  | (go_at_call 153;refine(ff _ _).mono ?_;rintro e w2 ⟨rfl,a⟩;have d:=b.trans (a.mono b.size);have m:w2.cell? ⟨w.heap.size,1,none⟩=some (.int .i64 (f 1)):=(by rw[a.cell (p:=⟨w.heap.size,1,none⟩) (by show w.heap.size<_;omega)];exact g);have q:w2.cell? ⟨w.heap.size,9,none⟩=some (.int .i64 s):=(by rw[a.cell (p:=⟨w.heap.size,9,none⟩) (by show w.heap.size<_;omega)];exact i);have y:w.heap.size+1<w2.heap.size:=(by have:=a.size;omega);clear c j g i;obtain⟨l,t⟩:=cC d;rw[r.out])
  | (go_at_call 91;refine(eW _ _ _).mono ?_;rintro e w' ⟨rfl,rfl⟩))
 have hbase:Below w.heap.size w w2:=((((Below.refl _ _).alloc (Nat.le_refl _) _).alloc (by simp) _).trans (b.mono (by simp;omega))).trans (a.mono (by omega))
 refine bodyPost_ret (v := .agg #[.int .i64 (f 0),.int .i64 (up (f 1) 1),.int .i64 (f 2),.int .i64 (f 3),.int .i64 (f 4),.int .i64 (f 5),.int .i64 (f 6),.int .i64 (f 7),.int .i64 (f 8),.int .i64 (up s n)]) (by simp[results,Tryz.results88,go_sem,l]) rfl ⟨rfl,?_⟩
 repeat (refine Below.setCell ?_ (by simp) _)
 exact hbase
set_option maxHeartbeats 4000000 in
theorem xK (f:Nat→Int) (s n:Int) (w:World) (hR:bw f s=true) (hn:0≤n) (o:aV n=2):Calls Tryz.prog 88 #[.agg #[.int .i64 (f 0),.int .i64 (f 1),.int .i64 (f 2),.int .i64 (f 3),.int .i64 (f 4),.int .i64 (f 5),.int .i64 (f 6),.int .i64 (f 7),.int .i64 (f 8),.int .i64 s],.int .i64 n] w fun e w'=>e = .returned (.agg #[.int .i64 (f 0),.int .i64 (f 1),.int .i64 (up (f 2) 1),.int .i64 (f 3),.int .i64 (f 4),.int .i64 (f 5),.int .i64 (f 6),.int .i64 (f 7),.int .i64 (f 8),.int .i64 (up s n)])∧Below w.heap.size w w':=by
 have x:=fun W=>Lib.hid (dQ f s W)
 have r:=Lib.hid o;clear o
 go_enter Tryz.func88,Tryz.ntmps88
 go_wp2_with (first
  | (go_at_call 152;refine((x _).out).mono ?_;rintro e k ⟨rfl,b⟩;obtain⟨c,j⟩:=cC b;have u:w.heap.size+1<k.heap.size:=(by have:=b.size;simp at this;omega);have g:k.cell? ⟨w.heap.size,2,none⟩=some (.int .i64 (f 2)):=(by have h:=c w.heap.size 2 (by simp;omega);simpa using h);have i:k.cell? ⟨w.heap.size,9,none⟩=some (.int .i64 s):=by have h:=c w.heap.size 9 (by simp;omega);simpa using h)
  | (go_at_call 153;refine(ff _ _).mono ?_;rintro e w2 ⟨rfl,a⟩;have d:=b.trans (a.mono b.size);have m:w2.cell? ⟨w.heap.size,2,none⟩=some (.int .i64 (f 2)):=(by rw[a.cell (p:=⟨w.heap.size,2,none⟩) (by show w.heap.size<_;omega)];exact g);have q:w2.cell? ⟨w.heap.size,9,none⟩=some (.int .i64 s):=(by rw[a.cell (p:=⟨w.heap.size,9,none⟩) (by show w.heap.size<_;omega)];exact i);have y:w.heap.size+1<w2.heap.size:=(by have:=a.size;omega);clear c j g i;obtain⟨l,t⟩:=cC d;rw[r.out])
  | (go_at_call 91;refine(eW _ _ _).mono ?_;rintro e w' ⟨rfl,rfl⟩))
 have hbase:Below w.heap.size w w2:=((((Below.refl _ _).alloc (Nat.le_refl _) _).alloc (by simp) _).trans (b.mono (by simp;omega))).trans (a.mono (by omega))
 refine bodyPost_ret (v := .agg #[.int .i64 (f 0),.int .i64 (f 1),.int .i64 (up (f 2) 1),.int .i64 (f 3),.int .i64 (f 4),.int .i64 (f 5),.int .i64 (f 6),.int .i64 (f 7),.int .i64 (f 8),.int .i64 (up s n)]) (by simp[results,Tryz.results88,go_sem,l]) rfl ⟨rfl,?_⟩
 repeat (refine Below.setCell ?_ (by simp) _)
 exact hbase
set_option maxHeartbeats 4000000 in
theorem xM (f:Nat→Int) (s n:Int) (w:World) (hR:bw f s=true) (hn:0≤n) (o:aV n=3):Calls Tryz.prog 88 #[.agg #[.int .i64 (f 0),.int .i64 (f 1),.int .i64 (f 2),.int .i64 (f 3),.int .i64 (f 4),.int .i64 (f 5),.int .i64 (f 6),.int .i64 (f 7),.int .i64 (f 8),.int .i64 s],.int .i64 n] w fun e w'=>e = .returned (.agg #[.int .i64 (f 0),.int .i64 (f 1),.int .i64 (f 2),.int .i64 (up (f 3) 1),.int .i64 (f 4),.int .i64 (f 5),.int .i64 (f 6),.int .i64 (f 7),.int .i64 (f 8),.int .i64 (up s n)])∧Below w.heap.size w w':=by
 have x:=fun W=>Lib.hid (dQ f s W)
 have r:=Lib.hid o;clear o
 go_enter Tryz.func88,Tryz.ntmps88
 go_wp2_with (first
  | (go_at_call 152;refine((x _).out).mono ?_;rintro e k ⟨rfl,b⟩;obtain⟨c,j⟩:=cC b;have u:w.heap.size+1<k.heap.size:=(by have:=b.size;simp at this;omega);have g:k.cell? ⟨w.heap.size,3,none⟩=some (.int .i64 (f 3)):=(by have h:=c w.heap.size 3 (by simp;omega);simpa using h);have i:k.cell? ⟨w.heap.size,9,none⟩=some (.int .i64 s):=by have h:=c w.heap.size 9 (by simp;omega);simpa using h)
  | (go_at_call 153;refine(ff _ _).mono ?_;rintro e w2 ⟨rfl,a⟩;have d:=b.trans (a.mono b.size);have m:w2.cell? ⟨w.heap.size,3,none⟩=some (.int .i64 (f 3)):=(by rw[a.cell (p:=⟨w.heap.size,3,none⟩) (by show w.heap.size<_;omega)];exact g);have q:w2.cell? ⟨w.heap.size,9,none⟩=some (.int .i64 s):=(by rw[a.cell (p:=⟨w.heap.size,9,none⟩) (by show w.heap.size<_;omega)];exact i);have y:w.heap.size+1<w2.heap.size:=(by have:=a.size;omega);clear c j g i;obtain⟨l,t⟩:=cC d;rw[r.out])
  | (go_at_call 91;refine(eW _ _ _).mono ?_;rintro e w' ⟨rfl,rfl⟩))
 have hbase:Below w.heap.size w w2:=((((Below.refl _ _).alloc (Nat.le_refl _) _).alloc (by simp) _).trans (b.mono (by simp;omega))).trans (a.mono (by omega))
 refine bodyPost_ret (v := .agg #[.int .i64 (f 0),.int .i64 (f 1),.int .i64 (f 2),.int .i64 (up (f 3) 1),.int .i64 (f 4),.int .i64 (f 5),.int .i64 (f 6),.int .i64 (f 7),.int .i64 (f 8),.int .i64 (up s n)]) (by simp[results,Tryz.results88,go_sem,l]) rfl ⟨rfl,?_⟩
 repeat (refine Below.setCell ?_ (by simp) _)
 exact hbase
set_option maxHeartbeats 4000000 in
theorem yS (f:Nat→Int) (s n:Int) (w:World) (hR:bw f s=true) (hn:0≤n) (o:aV n=4):Calls Tryz.prog 88 #[.agg #[.int .i64 (f 0),.int .i64 (f 1),.int .i64 (f 2),.int .i64 (f 3),.int .i64 (f 4),.int .i64 (f 5),.int .i64 (f 6),.int .i64 (f 7),.int .i64 (f 8),.int .i64 s],.int .i64 n] w fun e w'=>e = .returned (.agg #[.int .i64 (f 0),.int .i64 (f 1),.int .i64 (f 2),.int .i64 (f 3),.int .i64 (up (f 4) 1),.int .i64 (f 5),.int .i64 (f 6),.int .i64 (f 7),.int .i64 (f 8),.int .i64 (up s n)])∧Below w.heap.size w w':=by
 have x:=fun W=>Lib.hid (dQ f s W)
 have r:=Lib.hid o;clear o
 go_enter Tryz.func88,Tryz.ntmps88
 go_wp2_with (first
  | (go_at_call 152;refine((x _).out).mono ?_;rintro e k ⟨rfl,b⟩;obtain⟨c,j⟩:=cC b;have u:w.heap.size+1<k.heap.size:=(by have:=b.size;simp at this;omega);have g:k.cell? ⟨w.heap.size,4,none⟩=some (.int .i64 (f 4)):=(by have h:=c w.heap.size 4 (by simp;omega);simpa using h);have i:k.cell? ⟨w.heap.size,9,none⟩=some (.int .i64 s):=by have h:=c w.heap.size 9 (by simp;omega);simpa using h)
  | (go_at_call 153;refine(ff _ _).mono ?_;rintro e w2 ⟨rfl,a⟩;have d:=b.trans (a.mono b.size);have m:w2.cell? ⟨w.heap.size,4,none⟩=some (.int .i64 (f 4)):=(by rw[a.cell (p:=⟨w.heap.size,4,none⟩) (by show w.heap.size<_;omega)];exact g);have q:w2.cell? ⟨w.heap.size,9,none⟩=some (.int .i64 s):=(by rw[a.cell (p:=⟨w.heap.size,9,none⟩) (by show w.heap.size<_;omega)];exact i);have y:w.heap.size+1<w2.heap.size:=(by have:=a.size;omega);clear c j g i;obtain⟨l,t⟩:=cC d;rw[r.out])
  | (go_at_call 91;refine(eW _ _ _).mono ?_;rintro e w' ⟨rfl,rfl⟩))
 have hbase:Below w.heap.size w w2:=((((Below.refl _ _).alloc (Nat.le_refl _) _).alloc (by simp) _).trans (b.mono (by simp;omega))).trans (a.mono (by omega))
 refine bodyPost_ret (v := .agg #[.int .i64 (f 0),.int .i64 (f 1),.int .i64 (f 2),.int .i64 (f 3),.int .i64 (up (f 4) 1),.int .i64 (f 5),.int .i64 (f 6),.int .i64 (f 7),.int .i64 (f 8),.int .i64 (up s n)]) (by simp[results,Tryz.results88,go_sem,l]) rfl ⟨rfl,?_⟩
 repeat (refine Below.setCell ?_ (by simp) _)
 exact hbase
set_option maxHeartbeats 4000000 in
theorem yD (f:Nat→Int) (s n:Int) (w:World) (hR:bw f s=true) (hn:0≤n) (o:aV n=5):Calls Tryz.prog 88 #[.agg #[.int .i64 (f 0),.int .i64 (f 1),.int .i64 (f 2),.int .i64 (f 3),.int .i64 (f 4),.int .i64 (f 5),.int .i64 (f 6),.int .i64 (f 7),.int .i64 (f 8),.int .i64 s],.int .i64 n] w fun e w'=>e = .returned (.agg #[.int .i64 (f 0),.int .i64 (f 1),.int .i64 (f 2),.int .i64 (f 3),.int .i64 (f 4),.int .i64 (up (f 5) 1),.int .i64 (f 6),.int .i64 (f 7),.int .i64 (f 8),.int .i64 (up s n)])∧Below w.heap.size w w':=by
 have x:=fun W=>Lib.hid (dQ f s W)
 have r:=Lib.hid o;clear o
 go_enter Tryz.func88,Tryz.ntmps88
 go_wp2_with (first
  | (go_at_call 152;refine((x _).out).mono ?_;rintro e k ⟨rfl,b⟩;obtain⟨c,j⟩:=cC b;have u:w.heap.size+1<k.heap.size:=(by have:=b.size;simp at this;omega);have g:k.cell? ⟨w.heap.size,5,none⟩=some (.int .i64 (f 5)):=(by have h:=c w.heap.size 5 (by simp;omega);simpa using h);have i:k.cell? ⟨w.heap.size,9,none⟩=some (.int .i64 s):=by have h:=c w.heap.size 9 (by simp;omega);simpa using h)
  | (go_at_call 153;refine(ff _ _).mono ?_;rintro e w2 ⟨rfl,a⟩;have d:=b.trans (a.mono b.size);have m:w2.cell? ⟨w.heap.size,5,none⟩=some (.int .i64 (f 5)):=(by rw[a.cell (p:=⟨w.heap.size,5,none⟩) (by show w.heap.size<_;omega)];exact g);have q:w2.cell? ⟨w.heap.size,9,none⟩=some (.int .i64 s):=(by rw[a.cell (p:=⟨w.heap.size,9,none⟩) (by show w.heap.size<_;omega)];exact i);have y:w.heap.size+1<w2.heap.size:=(by have:=a.size;omega);clear c j g i;obtain⟨l,t⟩:=cC d;rw[r.out])
  | (go_at_call 91;refine(eW _ _ _).mono ?_;rintro e w' ⟨rfl,rfl⟩))
 have hbase:Below w.heap.size w w2:=((((Below.refl _ _).alloc (Nat.le_refl _) _).alloc (by simp) _).trans (b.mono (by simp;omega))).trans (a.mono (by omega))
 refine bodyPost_ret (v := .agg #[.int .i64 (f 0),.int .i64 (f 1),.int .i64 (f 2),.int .i64 (f 3),.int .i64 (f 4),.int .i64 (up (f 5) 1),.int .i64 (f 6),.int .i64 (f 7),.int .i64 (f 8),.int .i64 (up s n)]) (by simp[results,Tryz.results88,go_sem,l]) rfl ⟨rfl,?_⟩
 repeat (refine Below.setCell ?_ (by simp) _)
 exact hbase
set_option maxHeartbeats 4000000 in
theorem yu (f:Nat→Int) (s n:Int) (w:World) (hR:bw f s=true) (hn:0≤n) (o:aV n=6):Calls Tryz.prog 88 #[.agg #[.int .i64 (f 0),.int .i64 (f 1),.int .i64 (f 2),.int .i64 (f 3),.int .i64 (f 4),.int .i64 (f 5),.int .i64 (f 6),.int .i64 (f 7),.int .i64 (f 8),.int .i64 s],.int .i64 n] w fun e w'=>e = .returned (.agg #[.int .i64 (f 0),.int .i64 (f 1),.int .i64 (f 2),.int .i64 (f 3),.int .i64 (f 4),.int .i64 (f 5),.int .i64 (up (f 6) 1),.int .i64 (f 7),.int .i64 (f 8),.int .i64 (up s n)])∧Below w.heap.size w w':=by
 have x:=fun W=>Lib.hid (dQ f s W)
 have r:=Lib.hid o;clear o
 go_enter Tryz.func88,Tryz.ntmps88
 go_wp2_with (first
  | (go_at_call 152;refine((x _).out).mono ?_;rintro e k ⟨rfl,b⟩;obtain⟨c,j⟩:=cC b;have u:w.heap.size+1<k.heap.size:=(by have:=b.size;simp at this;omega);have g:k.cell? ⟨w.heap.size,6,none⟩=some (.int .i64 (f 6)):=(by have h:=c w.heap.size 6 (by simp;omega);simpa using h);have i:k.cell? ⟨w.heap.size,9,none⟩=some (.int .i64 s):=by have h:=c w.heap.size 9 (by simp;omega);simpa using h)
  | (go_at_call 153;refine(ff _ _).mono ?_;rintro e w2 ⟨rfl,a⟩;have d:=b.trans (a.mono b.size);have m:w2.cell? ⟨w.heap.size,6,none⟩=some (.int .i64 (f 6)):=(by rw[a.cell (p:=⟨w.heap.size,6,none⟩) (by show w.heap.size<_;omega)];exact g);have q:w2.cell? ⟨w.heap.size,9,none⟩=some (.int .i64 s):=(by rw[a.cell (p:=⟨w.heap.size,9,none⟩) (by show w.heap.size<_;omega)];exact i);have y:w.heap.size+1<w2.heap.size:=(by have:=a.size;omega);clear c j g i;obtain⟨l,t⟩:=cC d;rw[r.out])
  | (go_at_call 91;refine(eW _ _ _).mono ?_;rintro e w' ⟨rfl,rfl⟩))
 have hbase:Below w.heap.size w w2:=((((Below.refl _ _).alloc (Nat.le_refl _) _).alloc (by simp) _).trans (b.mono (by simp;omega))).trans (a.mono (by omega))
 refine bodyPost_ret (v := .agg #[.int .i64 (f 0),.int .i64 (f 1),.int .i64 (f 2),.int .i64 (f 3),.int .i64 (f 4),.int .i64 (f 5),.int .i64 (up (f 6) 1),.int .i64 (f 7),.int .i64 (f 8),.int .i64 (up s n)]) (by simp[results,Tryz.results88,go_sem,l]) rfl ⟨rfl,?_⟩
 repeat (refine Below.setCell ?_ (by simp) _)
 exact hbase
set_option maxHeartbeats 4000000 in
theorem xA (f:Nat→Int) (s n:Int) (w:World) (hR:bw f s=true) (hn:0≤n) (o:aV n=7):Calls Tryz.prog 88 #[.agg #[.int .i64 (f 0),.int .i64 (f 1),.int .i64 (f 2),.int .i64 (f 3),.int .i64 (f 4),.int .i64 (f 5),.int .i64 (f 6),.int .i64 (f 7),.int .i64 (f 8),.int .i64 s],.int .i64 n] w fun e w'=>e = .returned (.agg #[.int .i64 (f 0),.int .i64 (f 1),.int .i64 (f 2),.int .i64 (f 3),.int .i64 (f 4),.int .i64 (f 5),.int .i64 (f 6),.int .i64 (up (f 7) 1),.int .i64 (f 8),.int .i64 (up s n)])∧Below w.heap.size w w':=by
 have x:=fun W=>Lib.hid (dQ f s W)
 have r:=Lib.hid o;clear o
 go_enter Tryz.func88,Tryz.ntmps88
 go_wp2_with (first
  | (go_at_call 152;refine((x _).out).mono ?_;rintro e k ⟨rfl,b⟩;obtain⟨c,j⟩:=cC b;have u:w.heap.size+1<k.heap.size:=(by have:=b.size;simp at this;omega);have g:k.cell? ⟨w.heap.size,7,none⟩=some (.int .i64 (f 7)):=(by have h:=c w.heap.size 7 (by simp;omega);simpa using h);have i:k.cell? ⟨w.heap.size,9,none⟩=some (.int .i64 s):=by have h:=c w.heap.size 9 (by simp;omega);simpa using h)
  | (go_at_call 153;refine(ff _ _).mono ?_;rintro e w2 ⟨rfl,a⟩;have d:=b.trans (a.mono b.size);have m:w2.cell? ⟨w.heap.size,7,none⟩=some (.int .i64 (f 7)):=(by rw[a.cell (p:=⟨w.heap.size,7,none⟩) (by show w.heap.size<_;omega)];exact g);have q:w2.cell? ⟨w.heap.size,9,none⟩=some (.int .i64 s):=(by rw[a.cell (p:=⟨w.heap.size,9,none⟩) (by show w.heap.size<_;omega)];exact i);have y:w.heap.size+1<w2.heap.size:=(by have:=a.size;omega);clear c j g i;obtain⟨l,t⟩:=cC d;rw[r.out])
  | (go_at_call 91;refine(eW _ _ _).mono ?_;rintro e w' ⟨rfl,rfl⟩))
 have hbase:Below w.heap.size w w2:=((((Below.refl _ _).alloc (Nat.le_refl _) _).alloc (by simp) _).trans (b.mono (by simp;omega))).trans (a.mono (by omega))
 refine bodyPost_ret (v := .agg #[.int .i64 (f 0),.int .i64 (f 1),.int .i64 (f 2),.int .i64 (f 3),.int .i64 (f 4),.int .i64 (f 5),.int .i64 (f 6),.int .i64 (up (f 7) 1),.int .i64 (f 8),.int .i64 (up s n)]) (by simp[results,Tryz.results88,go_sem,l]) rfl ⟨rfl,?_⟩
 repeat (refine Below.setCell ?_ (by simp) _)
 exact hbase
set_option maxHeartbeats 4000000 in
theorem yf (f:Nat→Int) (s n:Int) (w:World) (hR:bw f s=true) (hn:0≤n) (o:aV n=8):Calls Tryz.prog 88 #[.agg #[.int .i64 (f 0),.int .i64 (f 1),.int .i64 (f 2),.int .i64 (f 3),.int .i64 (f 4),.int .i64 (f 5),.int .i64 (f 6),.int .i64 (f 7),.int .i64 (f 8),.int .i64 s],.int .i64 n] w fun e w'=>e = .returned (.agg #[.int .i64 (f 0),.int .i64 (f 1),.int .i64 (f 2),.int .i64 (f 3),.int .i64 (f 4),.int .i64 (f 5),.int .i64 (f 6),.int .i64 (f 7),.int .i64 (up (f 8) 1),.int .i64 (up s n)])∧Below w.heap.size w w':=by
 have x:=fun W=>Lib.hid (dQ f s W)
 have r:=Lib.hid o;clear o
 go_enter Tryz.func88,Tryz.ntmps88
 go_wp2_with (first
  | (go_at_call 152;refine((x _).out).mono ?_;rintro e k ⟨rfl,b⟩;obtain⟨c,j⟩:=cC b;have u:w.heap.size+1<k.heap.size:=(by have:=b.size;simp at this;omega);have g:k.cell? ⟨w.heap.size,8,none⟩=some (.int .i64 (f 8)):=(by have h:=c w.heap.size 8 (by simp;omega);simpa using h);have i:k.cell? ⟨w.heap.size,9,none⟩=some (.int .i64 s):=by have h:=c w.heap.size 9 (by simp;omega);simpa using h)
  | (go_at_call 153;refine(ff _ _).mono ?_;rintro e w2 ⟨rfl,a⟩;have d:=b.trans (a.mono b.size);have m:w2.cell? ⟨w.heap.size,8,none⟩=some (.int .i64 (f 8)):=(by rw[a.cell (p:=⟨w.heap.size,8,none⟩) (by show w.heap.size<_;omega)];exact g);have q:w2.cell? ⟨w.heap.size,9,none⟩=some (.int .i64 s):=(by rw[a.cell (p:=⟨w.heap.size,9,none⟩) (by show w.heap.size<_;omega)];exact i);have y:w.heap.size+1<w2.heap.size:=(by have:=a.size;omega);clear c j g i;obtain⟨l,t⟩:=cC d;rw[r.out])
  | (go_at_call 91;refine(eW _ _ _).mono ?_;rintro e w' ⟨rfl,rfl⟩))
 have hbase:Below w.heap.size w w2:=((((Below.refl _ _).alloc (Nat.le_refl _) _).alloc (by simp) _).trans (b.mono (by simp;omega))).trans (a.mono (by omega))
 refine bodyPost_ret (v := .agg #[.int .i64 (f 0),.int .i64 (f 1),.int .i64 (f 2),.int .i64 (f 3),.int .i64 (f 4),.int .i64 (f 5),.int .i64 (f 6),.int .i64 (f 7),.int .i64 (up (f 8) 1),.int .i64 (up s n)]) (by simp[results,Tryz.results88,go_sem,l]) rfl ⟨rfl,?_⟩
 repeat (refine Below.setCell ?_ (by simp) _)
 exact hbase
theorem rQ (f:Nat→Int) (s n:Int) (w:World):Calls Tryz.prog 88 #[.agg #[.int .i64 (f 0),.int .i64 (f 1),.int .i64 (f 2),.int .i64 (f 3),.int .i64 (f 4),.int .i64 (f 5),.int .i64 (f 6),.int .i64 (f 7),.int .i64 (f 8),.int .i64 s],.int .i64 n] w fun e w'=>e = .returned (.agg #[.int .i64 (bU f s n 0),.int .i64 (bU f s n 1),.int .i64 (bU f s n 2),.int .i64 (bU f s n 3),.int .i64 (bU f s n 4),.int .i64 (bU f s n 5),.int .i64 (bU f s n 6),.int .i64 (bU f s n 7),.int .i64 (bU f s n 8),.int .i64 (cW f s n)])∧Below w.heap.size w w':=by
 by_cases h:bw f s=true∧0≤n
 ·obtain⟨hR,hn⟩:=h
  have g:=qy n
  rcases(by omega:aV n=0∨aV n=1∨aV n=2∨aV n=3∨aV n=4∨aV n=5∨aV n=6∨aV n=7∨aV n=8) with a | a | a | a | a | a | a | a | a
  ·have d:=yz f s n w hR hn a
   have b:bU f s n=dL f 0 (up (f 0) 1):=by unfold bU;rw[if_pos ⟨hR,hn⟩,a]
   have c:cW f s n=up s n:=by unfold cW;rw[if_pos ⟨hR,hn⟩]
   rw[b,c]
   simpa [dL] using d
  ·have d:=zq f s n w hR hn a
   have b:bU f s n=dL f 1 (up (f 1) 1):=by unfold bU;rw[if_pos ⟨hR,hn⟩,a]
   have c:cW f s n=up s n:=by unfold cW;rw[if_pos ⟨hR,hn⟩]
   rw[b,c]
   simpa [dL] using d
  ·have d:=xK f s n w hR hn a
   have b:bU f s n=dL f 2 (up (f 2) 1):=by unfold bU;rw[if_pos ⟨hR,hn⟩,a]
   have c:cW f s n=up s n:=by unfold cW;rw[if_pos ⟨hR,hn⟩]
   rw[b,c]
   simpa [dL] using d
  ·have d:=xM f s n w hR hn a
   have b:bU f s n=dL f 3 (up (f 3) 1):=by unfold bU;rw[if_pos ⟨hR,hn⟩,a]
   have c:cW f s n=up s n:=by unfold cW;rw[if_pos ⟨hR,hn⟩]
   rw[b,c]
   simpa [dL] using d
  ·have d:=yS f s n w hR hn a
   have b:bU f s n=dL f 4 (up (f 4) 1):=by unfold bU;rw[if_pos ⟨hR,hn⟩,a]
   have c:cW f s n=up s n:=by unfold cW;rw[if_pos ⟨hR,hn⟩]
   rw[b,c]
   simpa [dL] using d
  ·have d:=yD f s n w hR hn a
   have b:bU f s n=dL f 5 (up (f 5) 1):=by unfold bU;rw[if_pos ⟨hR,hn⟩,a]
   have c:cW f s n=up s n:=by unfold cW;rw[if_pos ⟨hR,hn⟩]
   rw[b,c]
   simpa [dL] using d
  ·have d:=yu f s n w hR hn a
   have b:bU f s n=dL f 6 (up (f 6) 1):=by unfold bU;rw[if_pos ⟨hR,hn⟩,a]
   have c:cW f s n=up s n:=by unfold cW;rw[if_pos ⟨hR,hn⟩]
   rw[b,c]
   simpa [dL] using d
  ·have d:=xA f s n w hR hn a
   have b:bU f s n=dL f 7 (up (f 7) 1):=by unfold bU;rw[if_pos ⟨hR,hn⟩,a]
   have c:cW f s n=up s n:=by unfold cW;rw[if_pos ⟨hR,hn⟩]
   rw[b,c]
   simpa [dL] using d
  ·have d:=yf f s n w hR hn a
   have b:bU f s n=dL f 8 (up (f 8) 1):=by unfold bU;rw[if_pos ⟨hR,hn⟩,a]
   have c:cW f s n=up s n:=by unfold cW;rw[if_pos ⟨hR,hn⟩]
   rw[b,c]
   simpa [dL] using d
 ·have b:bU f s n=f:=by unfold bU;rw[if_neg h]
  have c:cW f s n=s:=by unfold cW;rw[if_neg h]
  rw[b,c]
  exact DR f s n w h
end
section
open Go.RowKit
def eF (room has:Int):Bool:=decide (0≤room∧room≤2147483647∧0≤has∧has≤room)
abbrev qY (room has:Int):Array Value:=#[.int .i64 room,.int .i64 has]
theorem jU (room has:Int) (w:World):Calls Tryz.prog 217 #[.agg (qY room has)] w fun e w'=>e = .returned (.bool (eF room has))∧Below w.heap.size w w':=by
 go_enter Tryz.func217,Tryz.ntmps217
 go_wp2
 all_goals
  go_ret
  refine⟨bf ?_,(Below.refl _ _).alloc (Nat.le_refl _) _⟩
  unfold eF
  first | (symm;rw[decide_eq_false_iff_not];omega) | (rw[Bool.eq_iff_iff,decide_eq_true_eq,decide_eq_true_eq];omega)
theorem uC (room has:Int) (p:eF room has=true) (w:World) (X:List Nat) (hX:XOk X w):Calls Tryz.prog 158 #[.int .i64 room,.int .i64 has] w fun e w'=>e = .returned (.tuple #[.agg (qY room has),.int .i64 0])∧Below w.heap.size w w':=by
 have m:Hid (an w [] X ((w.alloc (.cells #[.int .i64 0,.int .i64 0] 92)).alloc (.cells #[.int .i64 room,.int .i64 has] 92)) [.box (w.heap.size+1) 92 #[.int .i64 room,.int .i64 has],.box (w.heap.size) 92 #[.int .i64 0,.int .i64 0]] []):=(((an.start w hX).alloc_at 92 #[.int .i64 0,.int .i64 0] (w.heap.size) (by simp)).alloc_at 92 #[.int .i64 room,.int .i64 has] (w.heap.size+1) (by simp))
 go_enter Tryz.func158,Tryz.ntmps158
 go_wp2_with fail
 refine(jU _ _ _).mono ?_
 rw[p]
 rintro e l ⟨rfl,n⟩
 have a:Hid (an w [] X l [.box (w.heap.size+1) 92 #[.int .i64 room,.int .i64 has],.box (w.heap.size) 92 #[.int .i64 0,.int .i64 0]] []):=(m.out.on n)
 clear m
 clear n
 have f:l.cell? ⟨w.heap.size+1,0,none⟩=some (.int .i64 room):=a.out.cell 0 rfl 0
 have h:l.cell? ⟨w.heap.size+1,1,none⟩=some (.int .i64 has):=a.out.cell 0 rfl 1
 have d:l.cell? ⟨w.heap.size,0,none⟩=some (.int .i64 0):=a.out.cell 1 rfl 0
 have g:l.frozen? ⟨w.heap.size,0,none⟩=false:=a.out.frozen 1 rfl 0
 have i:l.cell? ⟨w.heap.size,1,none⟩=some (.int .i64 0):=a.out.cell 1 rfl 1
 have j:l.frozen? ⟨w.heap.size,1,none⟩=false:=a.out.frozen 1 rfl 1
 go_wp2
 clear f h d g i j
 have k:Hid (an w [] X ((l.setCell ⟨w.heap.size,0,none⟩ (.int .i64 room)).setCell ⟨w.heap.size,1,none⟩ (.int .i64 has)) [.box (w.heap.size+1) 92 #[.int .i64 room,.int .i64 has],.box (w.heap.size) 92 #[.int .i64 room,.int .i64 has]] []):=((a.out.set_ 1 rfl 0 (.int .i64 room)).set_ 1 rfl 1 (.int .i64 has))
 clear a
 generalize (l.setCell ⟨w.heap.size,0,none⟩ (.int .i64 room)).setCell ⟨w.heap.size,1,none⟩ (.int .i64 has)=o at k ⊢
 have b:o.cell? ⟨w.heap.size,0,none⟩=some (.int .i64 room):=k.out.cell 1 rfl 0
 have c:o.cell? ⟨w.heap.size,1,none⟩=some (.int .i64 has):=k.out.cell 1 rfl 1
 exact bodyPost_ret (v := .tuple #[.agg (qY room has),.int .i64 0]) (by simp[results,Tryz.results158,go_sem,b,c]) rfl ⟨rfl,k.out.below⟩
def ig (has n:Int):Int:=has-min n has
theorem wJ (room has n:Int) (y:eF room has=true) (hn:0≤n) (w:World) (X:List Nat) (hX:XOk X w):Calls Tryz.prog 168 #[.agg #[.int .i64 room,.int .i64 has],.int .i64 n] w fun e w'=>e = .returned (.tuple #[.agg (qY room (ig has n)),.bool (decide (n≤has))])∧Below w.heap.size w w':=by
 have s:=y
 unfold eF at s
 rw[decide_eq_true_eq]at s
 obtain⟨B,D,C,E⟩:=s
 have t:Hid (an w [] X ((w.alloc (.cells #[.int .i64 room,.int .i64 has] 92)).alloc (.cells #[.int .i64 0,.int .i64 0] 92)) [.box (w.heap.size+1) 92 #[.int .i64 0,.int .i64 0],.box (w.heap.size) 92 #[.int .i64 room,.int .i64 has]] []):=(((an.start w hX).alloc_at 92 #[.int .i64 room,.int .i64 has] (w.heap.size) (by simp)).alloc_at 92 #[.int .i64 0,.int .i64 0] (w.heap.size+1) (by simp))
 go_enter Tryz.func168,Tryz.ntmps168
 go_wp2_with fail
 refine(jU _ _ _).mono ?_
 rw[y]
 rintro e m ⟨rfl,x⟩
 have a:Hid (an w [] X m [.box (w.heap.size+1) 92 #[.int .i64 0,.int .i64 0],.box (w.heap.size) 92 #[.int .i64 room,.int .i64 has]] []):=(t.out.on x)
 clear t
 clear x
 have q:¬ (w.heap.size=w.heap.size+1):=a.out.ne 1 0 (by decide) rfl rfl
 have r:¬ (w.heap.size+1=w.heap.size):=a.out.ne 0 1 (by decide) rfl rfl
 by_cases z:n≤has
 ·skip
  have o:m.cell? ⟨w.heap.size,0,none⟩=some (.int .i64 room):=a.out.cell 1 rfl 0
  have j:m.frozen? ⟨w.heap.size,0,none⟩=false:=a.out.frozen 1 rfl 0
  have l:m.cell? ⟨w.heap.size,1,none⟩=some (.int .i64 has):=a.out.cell 1 rfl 1
  have i:m.frozen? ⟨w.heap.size,1,none⟩=false:=a.out.frozen 1 rfl 1
  have k:m.cell? ⟨w.heap.size+1,0,none⟩=some (.int .i64 0):=a.out.cell 0 rfl 0
  have f:m.frozen? ⟨w.heap.size+1,0,none⟩=false:=a.out.frozen 0 rfl 0
  have g:m.cell? ⟨w.heap.size+1,1,none⟩=some (.int .i64 0):=a.out.cell 0 rfl 1
  have d:m.frozen? ⟨w.heap.size+1,1,none⟩=false:=a.out.frozen 0 rfl 1
  go_wp2
  clear q r o j l i k f g d
  have p:Hid (an w [] X (m.setCell ⟨w.heap.size,1,none⟩ (.int .i64 (has-n))) [.box (w.heap.size+1) 92 #[.int .i64 0,.int .i64 0],.box (w.heap.size) 92 #[.int .i64 room,.int .i64 (has-n)]] []):=a.out.set_ 1 rfl 1 (.int .i64 (has-n))
  clear a
  have b:Hid (an w [] X (((m.setCell ⟨w.heap.size,1,none⟩ (.int .i64 (has-n))).setCell ⟨w.heap.size+1,0,none⟩ (.int .i64 room)).setCell ⟨w.heap.size+1,1,none⟩ (.int .i64 (has-n))) [.box (w.heap.size+1) 92 #[.int .i64 room,.int .i64 (has-n)],.box (w.heap.size) 92 #[.int .i64 room,.int .i64 (has-n)]] []):=((p.out.set_ 0 rfl 0 (.int .i64 room)).set_ 0 rfl 1 (.int .i64 (has-n)))
  clear p
  generalize ((m.setCell ⟨w.heap.size,1,none⟩ (.int .i64 (has-n))).setCell ⟨w.heap.size+1,0,none⟩ (.int .i64 room)).setCell ⟨w.heap.size+1,1,none⟩ (.int .i64 (has-n))=u at b ⊢
  have h:u.cell? ⟨w.heap.size+1,0,none⟩=some (.int .i64 room):=b.out.cell 0 rfl 0
  have c:u.cell? ⟨w.heap.size+1,1,none⟩=some (.int .i64 (has-n)):=b.out.cell 0 rfl 1
  exact bodyPost_ret (v := .tuple #[.agg (qY room (has-n)),.bool true]) (by simp[results,Tryz.results168,go_sem,h,c]) rfl ⟨by unfold ig;rw[Int.min_eq_left (by omega),decide_eq_true (show n≤has by omega)],b.out.below⟩
 ·skip
  have A:has<n:=by omega
  have o:m.cell? ⟨w.heap.size,0,none⟩=some (.int .i64 room):=a.out.cell 1 rfl 0
  have j:m.frozen? ⟨w.heap.size,0,none⟩=false:=a.out.frozen 1 rfl 0
  have l:m.cell? ⟨w.heap.size,1,none⟩=some (.int .i64 has):=a.out.cell 1 rfl 1
  have i:m.frozen? ⟨w.heap.size,1,none⟩=false:=a.out.frozen 1 rfl 1
  have k:m.cell? ⟨w.heap.size+1,0,none⟩=some (.int .i64 0):=a.out.cell 0 rfl 0
  have f:m.frozen? ⟨w.heap.size+1,0,none⟩=false:=a.out.frozen 0 rfl 0
  have g:m.cell? ⟨w.heap.size+1,1,none⟩=some (.int .i64 0):=a.out.cell 0 rfl 1
  have d:m.frozen? ⟨w.heap.size+1,1,none⟩=false:=a.out.frozen 0 rfl 1
  go_wp2
  clear q r o j l i k f g d
  have p:Hid (an w [] X (m.setCell ⟨w.heap.size,1,none⟩ (.int .i64 (0))) [.box (w.heap.size+1) 92 #[.int .i64 0,.int .i64 0],.box (w.heap.size) 92 #[.int .i64 room,.int .i64 (0)]] []):=a.out.set_ 1 rfl 1 (.int .i64 (0))
  clear a
  have b:Hid (an w [] X (((m.setCell ⟨w.heap.size,1,none⟩ (.int .i64 (0))).setCell ⟨w.heap.size+1,0,none⟩ (.int .i64 room)).setCell ⟨w.heap.size+1,1,none⟩ (.int .i64 (0))) [.box (w.heap.size+1) 92 #[.int .i64 room,.int .i64 (0)],.box (w.heap.size) 92 #[.int .i64 room,.int .i64 (0)]] []):=((p.out.set_ 0 rfl 0 (.int .i64 room)).set_ 0 rfl 1 (.int .i64 (0)))
  clear p
  generalize ((m.setCell ⟨w.heap.size,1,none⟩ (.int .i64 (0))).setCell ⟨w.heap.size+1,0,none⟩ (.int .i64 room)).setCell ⟨w.heap.size+1,1,none⟩ (.int .i64 (0))=u at b ⊢
  have h:u.cell? ⟨w.heap.size+1,0,none⟩=some (.int .i64 room):=b.out.cell 0 rfl 0
  have c:u.cell? ⟨w.heap.size+1,1,none⟩=some (.int .i64 (0)):=b.out.cell 0 rfl 1
  exact bodyPost_ret (v := .tuple #[.agg (qY room (0)),.bool (decide (n≤has))]) (by simp[results,Tryz.results168,go_sem,h,c]) rfl ⟨by unfold ig;rw[Int.min_eq_right (by omega),Int.sub_self],b.out.below⟩
def mC (room has n:Int):Int:=has+min n (room-has)
theorem Fb (room has n:Int) (y:eF room has=true) (hn:0≤n) (w:World) (X:List Nat) (hX:XOk X w):Calls Tryz.prog 169 #[.agg #[.int .i64 room,.int .i64 has],.int .i64 n] w fun e w'=>e = .returned (.agg (qY room (mC room has n)))∧Below w.heap.size w w':=by
 have s:=y
 unfold eF at s
 rw[decide_eq_true_eq]at s
 obtain⟨B,D,C,E⟩:=s
 have t:Hid (an w [] X ((w.alloc (.cells #[.int .i64 room,.int .i64 has] 92)).alloc (.cells #[.int .i64 0,.int .i64 0] 92)) [.box (w.heap.size+1) 92 #[.int .i64 0,.int .i64 0],.box (w.heap.size) 92 #[.int .i64 room,.int .i64 has]] []):=(((an.start w hX).alloc_at 92 #[.int .i64 room,.int .i64 has] (w.heap.size) (by simp)).alloc_at 92 #[.int .i64 0,.int .i64 0] (w.heap.size+1) (by simp))
 go_enter Tryz.func169,Tryz.ntmps169
 go_wp2_with fail
 refine(jU _ _ _).mono ?_
 rw[y]
 rintro e m ⟨rfl,x⟩
 have a:Hid (an w [] X m [.box (w.heap.size+1) 92 #[.int .i64 0,.int .i64 0],.box (w.heap.size) 92 #[.int .i64 room,.int .i64 has]] []):=(t.out.on x)
 clear t
 clear x
 have q:¬ (w.heap.size=w.heap.size+1):=a.out.ne 1 0 (by decide) rfl rfl
 have r:¬ (w.heap.size+1=w.heap.size):=a.out.ne 0 1 (by decide) rfl rfl
 by_cases z:n≤room-has
 ·skip
  have o:m.cell? ⟨w.heap.size,0,none⟩=some (.int .i64 room):=a.out.cell 1 rfl 0
  have j:m.frozen? ⟨w.heap.size,0,none⟩=false:=a.out.frozen 1 rfl 0
  have l:m.cell? ⟨w.heap.size,1,none⟩=some (.int .i64 has):=a.out.cell 1 rfl 1
  have i:m.frozen? ⟨w.heap.size,1,none⟩=false:=a.out.frozen 1 rfl 1
  have k:m.cell? ⟨w.heap.size+1,0,none⟩=some (.int .i64 0):=a.out.cell 0 rfl 0
  have f:m.frozen? ⟨w.heap.size+1,0,none⟩=false:=a.out.frozen 0 rfl 0
  have g:m.cell? ⟨w.heap.size+1,1,none⟩=some (.int .i64 0):=a.out.cell 0 rfl 1
  have d:m.frozen? ⟨w.heap.size+1,1,none⟩=false:=a.out.frozen 0 rfl 1
  go_wp2
  clear q r o j l i k f g d
  have p:Hid (an w [] X (m.setCell ⟨w.heap.size,1,none⟩ (.int .i64 (has+n))) [.box (w.heap.size+1) 92 #[.int .i64 0,.int .i64 0],.box (w.heap.size) 92 #[.int .i64 room,.int .i64 (has+n)]] []):=a.out.set_ 1 rfl 1 (.int .i64 (has+n))
  clear a
  have b:Hid (an w [] X (((m.setCell ⟨w.heap.size,1,none⟩ (.int .i64 (has+n))).setCell ⟨w.heap.size+1,0,none⟩ (.int .i64 room)).setCell ⟨w.heap.size+1,1,none⟩ (.int .i64 (has+n))) [.box (w.heap.size+1) 92 #[.int .i64 room,.int .i64 (has+n)],.box (w.heap.size) 92 #[.int .i64 room,.int .i64 (has+n)]] []):=((p.out.set_ 0 rfl 0 (.int .i64 room)).set_ 0 rfl 1 (.int .i64 (has+n)))
  clear p
  generalize ((m.setCell ⟨w.heap.size,1,none⟩ (.int .i64 (has+n))).setCell ⟨w.heap.size+1,0,none⟩ (.int .i64 room)).setCell ⟨w.heap.size+1,1,none⟩ (.int .i64 (has+n))=u at b ⊢
  have h:u.cell? ⟨w.heap.size+1,0,none⟩=some (.int .i64 room):=b.out.cell 0 rfl 0
  have c:u.cell? ⟨w.heap.size+1,1,none⟩=some (.int .i64 (has+n)):=b.out.cell 0 rfl 1
  exact bodyPost_ret (v := .agg (qY room (has+n))) (by simp[results,Tryz.results169,go_sem,h,c]) rfl ⟨by unfold mC;rw[Int.min_eq_left (by omega)],b.out.below⟩
 ·skip
  have A:room-has<n:=by omega
  have o:m.cell? ⟨w.heap.size,0,none⟩=some (.int .i64 room):=a.out.cell 1 rfl 0
  have j:m.frozen? ⟨w.heap.size,0,none⟩=false:=a.out.frozen 1 rfl 0
  have l:m.cell? ⟨w.heap.size,1,none⟩=some (.int .i64 has):=a.out.cell 1 rfl 1
  have i:m.frozen? ⟨w.heap.size,1,none⟩=false:=a.out.frozen 1 rfl 1
  have k:m.cell? ⟨w.heap.size+1,0,none⟩=some (.int .i64 0):=a.out.cell 0 rfl 0
  have f:m.frozen? ⟨w.heap.size+1,0,none⟩=false:=a.out.frozen 0 rfl 0
  have g:m.cell? ⟨w.heap.size+1,1,none⟩=some (.int .i64 0):=a.out.cell 0 rfl 1
  have d:m.frozen? ⟨w.heap.size+1,1,none⟩=false:=a.out.frozen 0 rfl 1
  go_wp2
  clear q r o j l i k f g d
  have p:Hid (an w [] X (m.setCell ⟨w.heap.size,1,none⟩ (.int .i64 (has+(room-has)))) [.box (w.heap.size+1) 92 #[.int .i64 0,.int .i64 0],.box (w.heap.size) 92 #[.int .i64 room,.int .i64 (has+(room-has))]] []):=a.out.set_ 1 rfl 1 (.int .i64 (has+(room-has)))
  clear a
  have b:Hid (an w [] X (((m.setCell ⟨w.heap.size,1,none⟩ (.int .i64 (has+(room-has)))).setCell ⟨w.heap.size+1,0,none⟩ (.int .i64 room)).setCell ⟨w.heap.size+1,1,none⟩ (.int .i64 (has+(room-has)))) [.box (w.heap.size+1) 92 #[.int .i64 room,.int .i64 (has+(room-has))],.box (w.heap.size) 92 #[.int .i64 room,.int .i64 (has+(room-has))]] []):=((p.out.set_ 0 rfl 0 (.int .i64 room)).set_ 0 rfl 1 (.int .i64 (has+(room-has))))
  clear p
  generalize ((m.setCell ⟨w.heap.size,1,none⟩ (.int .i64 (has+(room-has)))).setCell ⟨w.heap.size+1,0,none⟩ (.int .i64 room)).setCell ⟨w.heap.size+1,1,none⟩ (.int .i64 (has+(room-has)))=u at b ⊢
  have h:u.cell? ⟨w.heap.size+1,0,none⟩=some (.int .i64 room):=b.out.cell 0 rfl 0
  have c:u.cell? ⟨w.heap.size+1,1,none⟩=some (.int .i64 (has+(room-has))):=b.out.cell 0 rfl 1
  exact bodyPost_ret (v := .agg (qY room (has+(room-has)))) (by simp[results,Tryz.results169,go_sem,h,c]) rfl ⟨by unfold mC;rw[Int.min_eq_right (by omega)],b.out.below⟩
end
section
open Go.RowKit
structure Cmp where
 nm:ByteArray
 role:Int
 mode:Int
 wd:Int
 sl:Int
 cells:List (Int×Int)
 h:Nat→Int
 hs:Int
 room:Int
 has:Int
 ct:Nat→Int
abbrev aL (c:Cmp) (A:Option Addr) (n cp:Nat):List Value:=[.string c.nm,.int .i64 c.role,.int .i64 c.mode,.int .i64 c.wd,.int .i64 c.sl,.slice A n cp,.int .i64 (c.h 0),.int .i64 (c.h 1),.int .i64 (c.h 2),.int .i64 (c.h 3),.int .i64 (c.h 4),.int .i64 (c.h 5),.int .i64 (c.h 6),.int .i64 (c.h 7),.int .i64 (c.h 8),.int .i64 c.hs,.int .i64 c.room,.int .i64 c.has,.int .i64 (c.ct 0),.int .i64 (c.ct 1),.int .i64 (c.ct 2)]
def aa (w:World) (X:List Nat) (A:Option Addr) (n:Nat) (cs:List (Int×Int)):Prop:=n=cs.length∧Reads w w.heap.size 2 A n (ax cs)∧(0<n → ∀ ad,A=some ad→ad.block ∉ X)
theorem aa.keep {w w':World} {X:List Nat} {A:Option Addr} {n:Nat} {cs:List (Int×Int)} (h:aa w X A n cs) (k:js X w w'):aa w' X A n cs:=by
 obtain⟨f,c,b⟩:=h
 refine⟨f,⟨c.1,fun hn=>?_⟩,b⟩
 obtain⟨ad,e,a,d⟩:=c.2 hn
 exact⟨ad,e,Nat.lt_of_lt_of_le a k.size,fun j u g=>(k.cell (by rw[aO];exact a) (by rw[aO];exact b hn ad e)).trans (d j u g)⟩
theorem aa.more {w:World} {X X':List Nat} {A:Option Addr} {n:Nat} {cs:List (Int×Int)} (h:aa w X A n cs) (k:∀ b,b<w.heap.size→b ∈ X'→b ∈ X):aa w X' A n cs:=
 ⟨h.1,h.2.1,fun hn ad e a=>h.2.2 hn ad e (k _ (h.2.1.lo hn ad e) a)⟩
def aa.fact (A:Option Addr) (n:Nat) (cs:List (Int×Int)):Fact:=⟨fun w X=>aa w X A n cs,fun h k=>h.keep k,fun h k=>h.more k⟩
theorem aa.zero (w:World) (X:List Nat):aa w X none 0 []:=⟨rfl,Reads.none_,fun h=>absurd h (by omega)⟩
theorem aa.rd {w:World} {X:List Nat} {A:Option Addr} {n:Nat} {cs:List (Int×Int)} (h:aa w X A n cs):Reads w w.heap.size 2 A n (ax cs):=h.2.1
theorem aa.of_win {d:Option Addr} {f:Nat} {cs0:List (Int×Int)} {X:List Nat} {W:World} {r:Wr} {e:Ending} {w':World} (h:cB d W r e w') (hX:XOk X W) (k:aa W X d f cs0) (hn:0<f∨d=none):
 ∃ A n c,e = .returned (.tuple #[.agg #[.int .i64 r.wd,.int .i64 r.sl,.slice A n c],.int .i64 r.err])∧Below W.heap.size W w'∧aa w' X A n r.cs:=by
 obtain⟨A,n,c,rfl,g,i,j⟩:=h
 refine⟨A,n,c,rfl,i,?_,g,fun l ad e a=>?_⟩
 ·have:=g.1
  rw[cy]at this
  omega
 ·rcases j ad e with rfl | m
  ·rcases hn with b | b
   ·exact k.2.2 b ad e a
   ·rw[b]at e;cases e
  ·have:=hX _ a
   omega
def aB:Sh Cmp where
 size:=21
 rep w X vs c := ∃ A n cp,vs=aL c A n cp∧aa w X A n c.cells∧c.nm.size≤maxLen
 len:=by rintro w X vs a ⟨A,n,c,rfl,_⟩;rfl
 one:=by
  rintro w X vs a ⟨A,n,c,rfl,_⟩ u hu
  simp only[aL,List.mem_cons,List.not_mem_nil,or_false]at hu
  rcases hu with rfl | rfl | rfl | rfl | rfl | rfl | rfl | rfl | rfl | rfl | rfl | rfl | rfl | rfl | rfl | rfl | rfl | rfl | rfl | rfl | rfl<;>rfl
 keep:=by rintro w w' X vs a ⟨A,n,c,rfl,h,r⟩ k;exact⟨A,n,c,rfl,h.keep k,r⟩
 more:=by rintro w X X' vs a ⟨A,n,c,rfl,h,r⟩ k;exact⟨A,n,c,rfl,h.more k,r⟩
end
section
def cu (k:Int):Nat:=if k<1∨10<k then 0 else if k=2 then 3 else if k=3 then 2 else 1
def cR (k:Int):(Int×Int)×(Int×Int)×(Int×Int):=
 if k=1 then((1,3),(0,0),(0,0)) else if k=2 then((0,2147483647),(0,2147483647),(0,2147483647))
 else if k=3 then((0,2),(0,2147483647),(0,0)) else if k=4 then((0,2),(0,0),(0,0))
 else if k=8∨k=10 then((1,2147483647),(0,0),(0,0)) else((0,2147483647),(0,0),(0,0))
def inB (n:Int) (b:Int×Int):Bool:=decide (b.1≤n)&&decide (n≤b.2)
def cJ (e:Evt):Bool:=inB e.x (cR e.k).1&&inB e.y (cR e.k).2.1&&inB e.z (cR e.k).2.2
def dN (s:ByteArray):Bool:=decide (1≤s.size)&&decide (s.size≤24)
def bX (e:Evt):Int:=
 if cu e.k=0 then 2 else if dN e.cm=false then 3 else if cJ e=false then 4
 else if e.a<0∨1099511627776<e.a then 5 else if e.q<0∨4294967296<e.q then 1 else 0
def bD (k:Int):Int:=if k=1∨k=2 then 0 else if k=3∨k=4 then 1 else if k=5∨k=6∨k=7 then 2 else if k=8∨k=9∨k=10 then 3 else -1
def jX (e:Evt):List Int:=[e.x,e.y,e.z].take (cu e.k)
def kX (e:Evt) (l:List Int):Evt:={ e with x:=l.getD 0 0,y:=l.getD 1 0,z:=l.getD 2 0 }
theorem cK {e:Evt} (h:bX e=0):1≤e.k∧e.k≤10∧dN e.cm=true∧cJ e=true∧0≤e.a∧e.a≤1099511627776∧0≤e.q∧e.q≤4294967296:=by
 unfold bX at h
 by_cases c:cu e.k=0
 ·rw[if_pos c]at h;omega
 rw[if_neg c]at h
 have b:1≤e.k∧e.k≤10:=by
  unfold cu at c
  by_cases b:e.k<1∨10<e.k
  ·rw[if_pos b]at c;omega
  ·omega
 by_cases d:dN e.cm=false
 ·rw[if_pos d]at h;omega
 rw[if_neg d]at h
 by_cases f:cJ e=false
 ·rw[if_pos f]at h;omega
 rw[if_neg f]at h
 by_cases g:e.a<0∨1099511627776<e.a
 ·rw[if_pos g]at h;omega
 rw[if_neg g]at h
 by_cases i:e.q<0∨4294967296<e.q
 ·rw[if_pos i]at h;omega
 exact⟨b.1,b.2,by simpa using d,by simpa using f,by omega,by omega,by omega,by omega⟩
theorem rD (n:Int) (b:Int×Int):inB n b=true ↔ b.1≤n∧n≤b.2:=by simp[inB]
theorem dB {e:Evt} (a:1≤e.k∧e.k≤10) (h:cJ e=true):(0≤e.x∧e.x≤2147483647)∧(0≤e.y∧e.y≤2147483647)∧(0≤e.z∧e.z≤2147483647)∧(cu e.k≤1→e.y=0)∧(cu e.k≤2→e.z=0):=by
 unfold cJ at h
 rw[Bool.and_eq_true,Bool.and_eq_true,rD,rD,rD]at h
 obtain⟨⟨b,hy⟩,c⟩:=h
 unfold cu
 rw[if_neg (by omega)]
 rcases(by omega:e.k=1∨e.k=2∨e.k=3∨e.k=4∨e.k=8∨e.k=10∨(e.k=5∨e.k=6∨e.k=7∨e.k=9)) with a | a | a | a | a | a | (a | a | a | a) <;>
  (rw[a]at b hy c ⊢;simp[cR]at b hy c ⊢;omega)
theorem xq {e:Evt} (d:1≤e.k∧e.k≤10) (h:cJ e=true) (b:Evt) (f:b={ e with x:=b.x,y:=b.y,z:=b.z }):kX b (jX e)=e:=by
 obtain⟨_,_,_,hy,c⟩:=dB d h
 rw[f]
 unfold kX jX
 have a:cu e.k=1∨cu e.k=2∨cu e.k=3:=by
  unfold cu
  rw[if_neg (by omega)]
  split
  ·omega
  ·split<;>omega
 rcases a with a | a | a
 ·rw[a]at hy c ⊢
  have:=hy (by omega)
  have:=c (by omega)
  cases e;simp_all
 ·rw[a]at hy c ⊢
  have:=c (by omega)
  cases e;simp_all
 ·rw[a]at hy c ⊢
  cases e;simp_all
end
section
def dr (c:Cmp):Prop:=(1≤c.nm.size∧c.nm.size≤24)∧(aY (c.ct 0)=true∧aY (c.ct 1)=true∧aY (c.ct 2)=true) ∧
 ((c.role=1∧0≤c.mode∧c.mode≤2∧cj c.wd c.sl c.cells=true∧bw c.h c.hs=true∧c.room=0∧c.has=0) ∨
  (c.role=2∧c.mode=0∧c.wd=0∧c.sl=0∧c.cells = []∧(∀ i,c.h i=0)∧c.hs=0∧eF c.room c.has=true) ∨
  (c.role=3∧0≤c.mode∧c.mode≤2147483647∧c.wd=0∧c.sl=0∧c.cells = []∧bw c.h c.hs=true∧eF c.room c.has=true))
def gH (role:Int) (e:Evt):Bool:=if role=1 then decide (1≤e.x∧1≤e.y∧e.y≤16∧e.z=0) else if role=2 then decide (e.y≤e.x∧e.z=0) else decide (e.y=0∧e.z=0)
def iw (c:Cmp) (e:Evt):Int:=
 if bX e≠0 then bX e else if e.cm≠c.nm then 6 else if e.k=1 then 7 else if bD e.k≠0∧bD e.k≠c.role then 8 else if e.k=2∧gH c.role e=false then 4 else 0
def zf:Nat→Int:=fun _=>0
def jm (nm:ByteArray) (role a:Int):Cmp:=if role=1 then⟨nm,1,0,10,a/10,List.replicate 4 (0,0),zf,0,0,0,zf⟩ else⟨nm,role,0,0,0,[],zf,0,10,10,zf⟩
def pW (c:Cmp) (i:Nat):Cmp:={ c with ct:=dL c.ct i (up (c.ct i) 1) }
def yV (c:Cmp) (r:Wr):Cmp:={ c with wd:=r.wd,sl:=r.sl,cells:=r.cs }
def cH (c:Cmp) (e:Evt):Cmp:=
 if e.k=2 then(if c.role=1 then yV c (newR e.x e.y e.a) else if c.role=2 then { c with room:=e.x,has:=e.y } else { c with room:=e.x,has:=e.x })
 else if e.k=3 then pW { yV c (eD c.wd c.sl c.cells e.a (e.x == 0)) with h:=bU c.h c.hs e.y,hs:=cW c.h c.hs e.y } e.x.toNat
 else if e.k=4 then(if e.x=0 then yV { c with mode:=e.x } (newR c.wd c.cells.length e.a) else { c with mode:=e.x })
 else if e.k=5 then pW { c with has:=ig c.has e.x } 0
 else if e.k=6 then pW c 1
 else if e.k=7 then pW { c with has:=mC c.room c.has e.x } 2
 else if e.k=8 then pW { c with has:=ig c.has 1,mode:=e.x } 0
 else if e.k=9 then pW { c with h:=bU c.h c.hs e.x,hs:=cW c.h c.hs e.x } 1
 else if e.k=10 then pW { c with mode:=0 } 2
 else c
structure St where
 cs:List Cmp
 q:Int
 a:Int
def cF (s:St):Prop:=s.cs.length≤12∧0≤s.q∧s.q≤4294967296∧0≤s.a∧s.a≤1099511627776∧(∀ c ∈ s.cs,dr c)∧Srt Cmp.nm s.cs
abbrev fu (cs:List Cmp) (nm:ByteArray):Nat:=fF Cmp.nm cs nm
def cS (s:St) (e:Evt):Int:=
 if bX e≠0 then bX e else if e.q≠s.q+1 then 1 else if e.a<s.a then 5 else
 match s.cs[fu s.cs e.cm]? with
 | some c=>if e.k=1 then 7 else iw c e
 | none=>if e.k=1 then(if s.cs.length=12 then 9 else 0) else 6
def bJ (s:St) (e:Evt):St:=
 ⟨if e.k=1 then eY Cmp.nm (jm e.cm e.x e.a) s.cs else match s.cs[fu s.cs e.cm]? with
  | some c=>s.cs.set (fu s.cs e.cm) (cH c e)
  | none=>s.cs,e.q,e.a⟩
end
section
def placeOf (l:List (List UInt8)) (s:List UInt8):Nat:=if s ∈ l then l.idxOf s+1 else 0
def cE (s:List UInt8):Bool:=decide (1≤s.length∧s.length≤24)
def dn (l:List (List UInt8)):Bool:=decide (l.length≤32∧l.Nodup ∧ ∀ s ∈ l,cE s=true)
theorem lN (l:List (List UInt8)) (s:List UInt8):placeOf l s≤l.length:=by
 unfold placeOf
 split
 ·rename_i h;have:=List.idxOf_lt_length_of_mem h;omega
 ·omega
theorem dG (l:List (List UInt8)) (s:List UInt8):placeOf l s=0 ↔ s ∉ l:=by
 unfold placeOf;split<;>simp_all
theorem jx (l m:List (List UInt8)) (s:List UInt8) (h:placeOf l s≠0):placeOf (l++m) s=placeOf l s:=by
 have a:s ∈ l:=by
  rcases Classical.em (s ∈ l) with h' | h'
  ·exact h'
  ·exact absurd ((dG l s).2 h') h
 unfold placeOf
 rw[if_pos a,if_pos (List.mem_append_left _ a),List.idxOf_append,if_pos a]
theorem iP (l:List (List UInt8)) (s:List UInt8) (h:placeOf l s=0):placeOf (l ++ [s]) s=l.length+1:=by
 have a:=(dG l s).1 h
 unfold placeOf
 rw[if_pos (by simp),List.idxOf_append,if_neg a]
 simp
theorem fm (l:List (List UInt8)) (s x:List UInt8) (a:x≠s):placeOf (l ++ [x]) s=placeOf l s:=by
 rcases Classical.em (s ∈ l) with h | h
 ·exact jx l [x] s (fun e=>(dG l s).1 e h)
 ·rw[(dG l s).2 h,dG]
  simp[h]
  exact fun e=>a e.symm
theorem lA (l:List (List UInt8)) (s:List UInt8):(l ++ [s]).Nodup ↔ l.Nodup∧s ∉ l:=by
 rw[List.nodup_append]
 simp
 intro _
 constructor
 ·intro h e;exact h s e rfl
 ·rintro h a b rfl;exact h b
end
section
open Go.RowKit Go.Maps Go.WideMaps
def lists (ss:List ByteArray):List (List UInt8):=ss.map (·.data.toList)
theorem fj (ss:List ByteArray):(lists ss).length=ss.length:=by simp[lists]
theorem ql (ss:List ByteArray) (k:Nat) (s:ByteArray) (h:ss[k]?=some s):(lists ss)[k]?=some s.data.toList:=by simp[lists,h]
theorem Reads.str_at {w:World} {B n k:Nat} {A:Option Addr} {ss:List ByteArray} (h:Reads w B 1 A n (ss.map Value.string)) (c:k<n):∃ ad s,A=some ad∧ad.block<B∧ss[k]?=some s∧w.cell? (ad.add k)=some (.string s):=by
 obtain⟨ad,u,rfl,e,b,a⟩:=h.at_ c
 obtain⟨s,d,rfl⟩:∃ s,ss[k]?=some s∧Value.string s=u:=by simpa using b
 exact⟨ad,s,rfl,e,d,a⟩
def oB (w:World) (b:Nat) (l:List (List UInt8)):Prop:=
 ∃ D:DataW Unit,w.ownsMap Tryz.prog 9 (plainElem Tryz.prog 3) b l.length D∧(∀ s,Maps.has D (.string s)=decide (placeOf l s≠0)) ∧
   (∀ s,D.atKey (.string s) (.lit (.int .i64 0)) = .lit (.int .i64 (placeOf l s)))∧Maps.size D≤l.length∧(Maps.size D=l.length ↔ l.Nodup)
theorem pL:Keyed Tryz.prog 9:=string_keyed Tryz.underlying9
theorem qJ (w:World):(zeroValue 3).run Tryz.prog w = .ok (.int .i64 0) w:=by kernel_rfl
theorem vw (w:World):oB (w.alloc (.map #[] 0)) w.heap.size []:=
 ⟨.map [],World.ownsMap_made _ _ _ _,fun s=>by simp[Maps.has,placeOf],fun s=>by simp[DataW.atKey,placeOf],by simp[Maps.size],by simp[Maps.size]⟩
theorem zk {w:World} {b:Nat} {l:List (List UInt8)} {s:List UInt8} (h:oB w b l) (d:placeOf l s≠0):oB w b (l ++ [s]):=by
 obtain⟨D,f,i,e,k,j⟩:=h
 have g:s ∈ l:=by
  rcases Classical.em (s ∈ l) with h' | h'
  ·exact h'
  ·exact absurd ((dG l s).2 h') d
 have c:∀ x,placeOf (l ++ [s]) x=placeOf l x:=by
  intro x
  rcases Classical.em (s=x) with rfl | a
  ·exact jx l [s] s d
  ·exact fm l x s a
 refine⟨D,f.mono (by simp),fun x=>by rw[i,c],fun x=>by rw[e,c],by simp;omega,?_⟩
 rw[lA]
 simp only[List.length_append,List.length_singleton]
 constructor
 ·intro h;omega
 ·rintro⟨_,h⟩;exact absurd g h
theorem xI {w':World} {b:Nat} {l:List (List UInt8)} {s:List UInt8} {D:DataW Unit} (d:placeOf l s=0) (g:∀ s,Maps.has D (.string s)=decide (placeOf l s≠0))
 (j:∀ s,D.atKey (.string s) (.lit (.int .i64 0)) = .lit (.int .i64 (placeOf l s))) (m:Maps.size D≤l.length) (i:Maps.size D=l.length ↔ l.Nodup) (f:Maps.Tidy D)
 (k:w'.ownsMap Tryz.prog 9 (plainElem Tryz.prog 3) b (l.length+1) (D.put (.string s) (.lit (.int .i64 ((l.length:Int)+1))))):oB w' b (l ++ [s]):=by
 have h:WideAt.IsKeyLit (.string s):=by simp[WideAt.IsKeyLit]
 have c:Maps.has D (.string s)=false:=by rw[g,d];rfl
 refine⟨_,by simpa using k,fun x=>?_,fun x=>?_,?_,?_⟩
 ·rcases Classical.em (s=x) with rfl | a
  ·rw[Maps.has_put_same f.isMap h,iP l s d];simp
  ·rw[Maps.has_put_other (by simpa using fun e=>a e.symm),g,fm l x s a]
 ·rcases Classical.em (s=x) with rfl | a
  ·rw[Maps.atKey_put_same f.isMap h,iP l s d];rfl
  ·rw[Maps.atKey_put_other (by simpa using fun e=>a e.symm),j,fm l x s a]
 ·rw[Maps.size_put f,c];simp;omega
 ·rw[Maps.size_put f,c,lA,←i]
  have:=(dG l s).1 d
  simp[this]
theorem sF (A:Option Addr) (n c B:Nat) (ss:List ByteArray) (w:World) (v:Reads w B 1 A n (ss.map Value.string)) (hB:B≤w.heap.size) (hn:n≤1000000) (t:∀ s ∈ ss,s.size≤maxLen):
 Calls Tryz.prog 241 #[.slice A n c] w fun e w'=>e = .returned (.map (some w.heap.size))∧oB w' w.heap.size (lists ss)∧Below w.heap.size w w':=by
 have I:ss.length=n:=by simpa using v.1
 have H:=Lib.hid I;clear I
 have x:=fun W=>nh (P:=Tryz.prog) 313 9 3 .i64 (n:Int) Tryz.underlying313 W
 go_enter Tryz.func241,Tryz.ntmps241
 go_wp2
 clear x
 go_loopw [13] (fun i wr => ∃ k:Nat,k≤n∧i = .int .i64 k∧oB wr w.heap.size ((lists ss).take k)∧Below w.heap.size w wr) (fun i _=>n-(intOf i).toNat)
 case atStart=>exact⟨0,Nat.zero_le _,rfl,vw w,(Below.refl _ _).alloc (Nat.le_refl _) _⟩
 case round=>
  obtain⟨k,T,rfl,hmap,d⟩:=hrel
  by_cases u:k<n
  ·have p:=(v.more hB).below d
   obtain⟨ad,s,rfl,U,r,S⟩:=p.str_at u
   have N:=t s (List.mem_of_getElem? r)
   have J:=Lib.hid (show(lists ss).take (k+1)=(lists ss).take k ++ [s.data.toList] by rw[List.take_add_one,ql ss k s r];rfl)
   have y:Hid (((lists ss).take k).length=k):=by rw[List.length_take,fj,H.out];show min k n=k;omega
   have hkey:keyOf Tryz.prog 9 (.string s)=some (.string s.data.toList):=keyOf_string_mk Tryz.underlying9 N
   have a:=Lib.hid hkey
   clear r p hkey v
   by_cases o:placeOf ((lists ss).take k) s.data.toList=0
   ·obtain⟨D,h,m,F,G,E⟩:=hmap
    have O:=fun(w':World)=>Lib.hid (xI (w':=w') (b:=w.heap.size) o m F G E (h.tidy pL))
    have hh:Maps.has D (.string s.data.toList)=false:=by rw[m,o];rfl
    have q:=Lib.hid h
    clear o m F G E h
    go_wp2_with (first
     | (at_lookup;go_must (refine wpList_lookup_own_ok_int _ rfl _ _ 313 rfl 9 3 .i64 pL Tryz.underlying313 Tryz.underlying3 (qJ _) w.heap.size _ D rfl q.out _ _ rfl a.out ?_);intro Q g z;clear g)
     | (at_mapUpdate;go_must (refine wpList_mapUpdate_own _ rfl _ _ _ 313 rfl 9 3 pL Tryz.underlying313 _ w.heap.size _ _ rfl q.out (by rw[y.out];unfold maxLen;omega) _ _ _ rfl rfl a.out _ [] (plainElem_int Tryz.underlying3 (WalkArith.wf_i64 (by omega))) ?_);intro L f C))
    go_roundw
    case rel=>
     refine⟨k+1,by omega,by go_num,?_,d.grown C d.size (fun j R=>by cases R;exact Nat.le_refl _)⟩
     rw[J.out]
     refine(O L).out ?_
     rw[y.out]
     rw[y.out]at f
     exact f
    case measure=>simp[intOf];omega
   ·have M:Hid (oB wr w.heap.size ((lists ss).take k ++ [s.data.toList])):=zk hmap o
    obtain⟨D,h,m,_⟩:=hmap
    have hh:Maps.has D (.string s.data.toList)=true:=by rw[m];simpa using o
    have q:=Lib.hid h
    clear o m h
    go_wp2_with (first
     | (at_lookup;go_must (refine wpList_lookup_own_ok_int _ rfl _ _ 313 rfl 9 3 .i64 pL Tryz.underlying313 Tryz.underlying3 (qJ _) w.heap.size _ D rfl q.out _ _ rfl a.out ?_);intro Q g z;clear g))
    go_roundw
    case rel=>exact⟨k+1,by omega,by go_num,by rw[J.out];exact M.out,d⟩
    case measure=>simp[intOf];omega
  ·have K:=Lib.hid (List.take_of_length_le (l:=lists ss) (i:=k) (by rw[fj,H.out];omega))
   go_wp2
   go_ret
   exact⟨rfl,by rw[←K.out];exact hmap,d⟩
end
section
def firstIdx {α:Type} (p:α→Bool):List α→Int
 | [] => -1
 | x::l=>if p x then 0 else if firstIdx p l<0 then -1 else firstIdx p l+1
theorem ny {α:Type} (p:α→Bool) (l:List α) : -1≤firstIdx p l:=by
 induction l with
 | nil=>simp[firstIdx]
 | cons x l ih=>unfold firstIdx;split<;>(try split)<;>omega
theorem firstIdx_none {α:Type} (p:α→Bool) (l:List α) (h:∀ (j:Nat) x,l[j]?=some x→p x=false):firstIdx p l = -1:=by
 induction l with
 | nil=>rfl
 | cons x l ih=>
   have a:=h 0 x rfl
   have b:=ih (fun j y hy=>h (j+1) y (by simpa using hy))
   unfold firstIdx
   rw[a,b]
   simp
theorem mj {α:Type} (p:α→Bool) (l:List α) (k:Nat) (x:α) (h:∀ (j:Nat) y,j<k→l[j]?=some y→p y=false) (a:l[k]?=some x) (c:p x=true):firstIdx p l=k:=by
 induction l generalizing k with
 | nil=>simp at a
 | cons y l ih=>
   cases k with
   | zero=>
     simp at a
     subst a
     unfold firstIdx
     rw[c];simp
   | succ k=>
     have b:=h 0 y (by omega) rfl
     have d:=ih k (fun j z f e=>h (j+1) z (by omega) (by simpa using e)) (by simpa using a)
     unfold firstIdx
     rw[b,d]
     simp
     omega
theorem mH {α:Type} (p:α→Bool) (l:List α):decide (0≤firstIdx p l)=l.any p:=by
 induction l with
 | nil=>rfl
 | cons x l ih=>
   have:=ny p l
   unfold firstIdx
   rw[List.any_cons,←ih]
   cases p x
   ·rw[if_neg (by decide),Bool.false_or]
    by_cases h:firstIdx p l<0
    ·rw[if_pos h,decide_eq_decide];omega
    ·rw[if_neg h,decide_eq_decide];omega
   ·simp
theorem uc {α:Type} (p:α→Bool) (l:List α) (k:Nat) (h:firstIdx p l=k):∃ x,l[k]?=some x∧p x=true ∧ ∀ (j:Nat) y,j<k→l[j]?=some y→p y=false:=by
 induction l generalizing k with
 | nil=>unfold firstIdx at h;omega
 | cons y l ih=>
   unfold firstIdx at h
   split at h
   ·rename_i hy
    obtain rfl:k=0:=by omega
    exact⟨y,rfl,hy,fun j z c=>by omega⟩
   ·rename_i hy
    split at h
    ·omega
    ·obtain⟨k',rfl⟩:∃ k',k=k'+1:=⟨k-1,by omega⟩
     obtain⟨x,e,b,d⟩:=ih k' (by omega)
     refine⟨x,by simpa using e,b,fun j z c a=>?_⟩
     cases j with
     | zero=>simp at a;subst a;simpa using hy
     | succ j=>exact d j z (by omega) (by simpa using a)
end
end Go.Proofs.YtpokkciheejeiaaGreatDoor
