/- Lemmas and contracts that the proof of TopCut uses, part 4 of 16: each is a theorem for every input that its premises allow. -/
import Derived.IntWalk
import Derived.Deep.DeepCutAuto
import Derived.StillTailTactics
import Derived.Deep.RegionHeld3
import Derived.Laws.BitsLemmas
import Derived.Deep.Slices
import Derived.Deep.Fields
import Derived.ChangeSame
import Derived.ChangeArms
import Derived.Test.YtpokkciheejeiaaGreatDoorRows
import Derived.BigQuiet
import Derived.RangeFuncNested
import Derived.RangeFuncCalls
import Derived.OrdersIn
import Derived.TacticsIn
import Derived.Test.YtpokkciheejeiaaGreatDoorTuC
set_option linter.unusedVariables false
set_option linter.unusedSimpArgs false
set_option maxRecDepth 100000
namespace Go.Proofs.YtpokkciheejeiaaGreatDoor
section
open Go.RowKit
theorem Ct (A:Option Addr) (a c:Nat) (w:World) (y:a+c≤9223372036854775807):Calls Tryz.prog 176 #[.agg #[.slice A a (a+c),.int .i64 (a:Int),.int .i64 0]] w fun e w'=>e = .returned (.tuple #[.agg #[.slice A a (a+c),.int .i64 (a:Int),.int .i64 10],.int .u64 0])∧Below w.heap.size w w':=by
 by_cases x:c=0
 ·subst x
  rw[Nat.add_zero]
  go_enter Tryz.func176,Tryz.ntmps176
  go_wp2_with fail
  refine(cy A a a a _ (by omega) (by omega)).mono ?_
  rintro e u ⟨rfl,i⟩
  have l:=Lib.hid ((Cu.start w #[.slice A a a,.int .i64 a,.int .i64 0] #[.slice none 0 0,.int .i64 0,.int .i64 0]).next i)
  clear i
  obtain⟨k0,o,p,f,g,d,j,m,h,r,q,k⟩:=l.out.cells
  go_wp2_with fail
  refine(bQ _ 0 _ 0 [] _ (-1) rfl Reads.none_ (by omega)).mono ?_
  rintro e s ⟨rfl,rfl⟩
  go_wp2_with fail
  clear k0 o p f g d j m h r q k
  refine(cL A a a a 10 _).mono ?_
  rintro e s ⟨rfl,b⟩
  have n:=Lib.hid (l.out.next b)
  clear b
  obtain⟨k0,o,p,f,g,d,j,m,h,r,q,k⟩:=n.out.cells
  go_wp2
  have t:=n.out.2.2
  exact bodyPost_ret (v := .tuple #[.agg #[.slice A a a,.int .i64 (a:Int),.int .i64 10],.int .u64 0]) (by simp[results,Tryz.results176,go_sem,f,g,d]) rfl ⟨rfl,(by repeat (first | exact((Below.refl _ _).alloc (Nat.le_refl _) _).alloc (by simp) _ | assumption | refine below_drewN ?_ _ | refine Below.setCell ?_ (by simp) _ | refine Below.drew ?_))⟩
 ·rcases A with _ | ad
  ·go_enter Tryz.func176,Tryz.ntmps176
   go_wp2_with fail
   refine(cy none a (a+c) a _ (by omega) (by omega)).mono ?_
   rintro e u ⟨rfl,i⟩
   have l:=Lib.hid ((Cu.start w #[.slice none a (a+c),.int .i64 a,.int .i64 0] #[.slice none 0 0,.int .i64 0,.int .i64 0]).next i)
   clear i
   obtain⟨k0,o,p,f,g,d,j,m,h,r,q,k⟩:=l.out.cells
   go_wp2_with fail
   refine(bQ _ 0 _ 0 [] _ (-1) rfl Reads.none_ (by omega)).mono ?_
   rintro e s ⟨rfl,rfl⟩
   go_wp2_with fail
   clear k0 o p f g d j m h r q k
   refine(cL none a (a+c) a 10 _).mono ?_
   rintro e s ⟨rfl,b⟩
   have n:=Lib.hid (l.out.next b)
   clear b
   obtain⟨k0,o,p,f,g,d,j,m,h,r,q,k⟩:=n.out.cells
   go_wp2
   have t:=n.out.2.2
   exact bodyPost_ret (v := .tuple #[.agg #[.slice none a (a+c),.int .i64 (a:Int),.int .i64 10],.int .u64 0]) (by simp[results,Tryz.results176,go_sem,f,g,d]) rfl ⟨rfl,(by repeat (first | exact((Below.refl _ _).alloc (Nat.le_refl _) _).alloc (by simp) _ | assumption | refine below_drewN ?_ _ | refine Below.setCell ?_ (by simp) _ | refine Below.drew ?_))⟩
  ·go_enter Tryz.func176,Tryz.ntmps176
   go_wp2_with fail
   refine(cy (some ad) a (a+c) a _ (by omega) (by omega)).mono ?_
   rintro e u ⟨rfl,i⟩
   have l:=Lib.hid ((Cu.start w #[.slice (some ad) a (a+c),.int .i64 a,.int .i64 0] #[.slice none 0 0,.int .i64 0,.int .i64 0]).next i)
   clear i
   obtain⟨k0,o,p,f,g,d,j,m,h,r,q,k⟩:=l.out.cells
   go_wp2_with fail
   refine(bQ _ 0 _ 0 [] _ (-1) rfl Reads.none_ (by omega)).mono ?_
   rintro e s ⟨rfl,rfl⟩
   go_wp2_with fail
   clear k0 o p f g d j m h r q k
   refine(cL (some ad) a (a+c) a 10 _).mono ?_
   rintro e s ⟨rfl,b⟩
   have n:=Lib.hid (l.out.next b)
   clear b
   obtain⟨k0,o,p,f,g,d,j,m,h,r,q,k⟩:=n.out.cells
   go_wp2
   have t:=n.out.2.2
   exact bodyPost_ret (v := .tuple #[.agg #[.slice (some ad) a (a+c),.int .i64 (a:Int),.int .i64 10],.int .u64 0]) (by simp[results,Tryz.results176,go_sem,f,g,d]) rfl ⟨rfl,(by repeat (first | exact((Below.refl _ _).alloc (Nat.le_refl _) _).alloc (by simp) _ | assumption | refine below_drewN ?_ _ | refine Below.setCell ?_ (by simp) _ | refine Below.drew ?_))⟩
def bT (bs:List UInt8) (at_ err:Int):Int×Int×Nat:=
 if 0≤at_∧at_≤(bs.length:Int)∧err=0 then
  if(cq 0 (bE (bs.drop at_.toNat))).1=0 then(at_+((cq 0 (bE (bs.drop at_.toNat))).2.2:Nat),0,(cq 0 (bE (bs.drop at_.toNat))).2.1)
  else(at_,((cq 0 (bE (bs.drop at_.toNat))).1:Nat),0)
 else(at_,if err=0 then 1 else err,0)
theorem Cg (bs:List UInt8) (at_ err:Int) (h:err≠0):bT bs at_ err=(at_,err,0):=by
 unfold bT;rw[if_neg (by omega),if_neg h]
theorem Ap (bs:List UInt8) (at_:Int) (h:at_<0∨(bs.length:Int)<at_):bT bs at_ 0=(at_,1,0):=by
 unfold bT;rw[if_neg (by omega),if_pos rfl]
theorem xL (bs:List UInt8) (a:Nat) (h:a≤bs.length):bT bs (a:Int) 0=if(cq 0 (bE (bs.drop a))).1=0 then((a:Int)+((cq 0 (bE (bs.drop a))).2.2:Nat),0,(cq 0 (bE (bs.drop a))).2.1) else((a:Int),(((cq 0 (bE (bs.drop a))).1:Nat):Int),0):=by
 unfold bT;rw[if_pos (by omega),Int.toNat_natCast]
theorem natB_getElem? (l:List UInt8) (j:Nat):(bE l)[j]?=l[j]?.map UInt8.toNat:=by simp[bE]
theorem ig (A:Option Addr) (n c:Nat) (at_ err:Int) (bs:List UInt8) (B:Nat) (w:World) (t:Reads w B 1 A n (byteCells bs)) (hB:B≤w.heap.size) (Q:n≤c) (d:c≤9223372036854775807) (V:n≤10000):
 Calls Tryz.prog 176 #[.agg #[.slice A n c,.int .i64 at_,.int .i64 err]] w fun e w'=>e = .returned (.tuple #[.agg #[.slice A n c,.int .i64 (bT bs at_ err).1,.int .i64 (bT bs at_ err).2.1],.int .u64 ((bT bs at_ err).2.2:Int)])∧Below w.heap.size w w':=by
 have U:=t.lenB
 by_cases M:err=0
 ·subst M
  by_cases T:at_<0∨(n:Int)<at_
  ·rw[Ap bs at_ (by omega)]
   exact zv A n c at_ w T
  ·obtain⟨a,rfl⟩:∃ a:Nat,at_=(a:Int):=⟨at_.toNat,by omega⟩
   obtain⟨m,rfl⟩:∃ m,n=a+m:=⟨n-a,by omega⟩
   obtain⟨cm,rfl⟩:∃ cm,c=a+cm:=⟨c-a,by omega⟩
   rw[xL bs a (by omega)]
   by_cases L:m=0
   ·subst L
    have hnil:bs.drop a = []:=List.drop_eq_nil_iff.2 (by omega)
    rw[hnil]
    exact Ct A a cm w d
   ·obtain⟨ad,rfl,_⟩:=t.2 (by omega)
    obtain⟨q,o⟩:∃ q,q=if m<10 then m else 10:=⟨_,rfl⟩
    have J:q≤m:=by rw[o];split<;>omega
    have P:q≤10:=by rw[o];split<;>omega
    have l:(bs.drop a).length=m:=by rw[List.length_drop];omega
    have K:((bs.drop a).take q).length=q:=by rw[List.length_take,l,Nat.min_eq_left J]
    by_cases hnone:firstIdx gB ((bs.drop a).take q) = -1
    ·have hall:∀ (j:Nat) x,j<q→(bE (bs.drop a))[j]?=some x→128≤x:=by
      intro j x u f
      rw[natB_getElem?,Option.map_eq_some_iff]at f
      obtain⟨y,hy,rfl⟩:=f
      have O:=mM gB ((bs.drop a).take q)
      rw[hnone]at O
      have v:gB y=false:=by
       have F:((bs.drop a).take q).any gB=false:=O.symm
       rw[List.any_eq_false]at F
       have S:=F y (List.mem_of_getElem? (i:=j) (by rw[List.getElem?_take,if_pos u];exact hy))
       simpa using S
      unfold gB at v
      simpa using v
     by_cases b:m<10
     ·have I:q=m:=by rw[o,if_pos b]
      rw[uv (bE (bs.drop a)) 0 (fun x f=>by
       obtain⟨j,u,e⟩:=List.mem_iff_getElem.1 f
       exact hall j x (by rw[dj,l]at u;omega) (by rw[List.getElem?_eq_getElem u,e])) (by rw[dj,l];omega)]
      exact vA ad a m cm bs B w t hB (by omega) (by omega) (by omega) d q o b hnone
     ·have I:q=10:=by rw[o,if_neg b]
      rw[vz (bE (bs.drop a)) 0 (by omega) (fun j x u f=>hall j x (by omega) f) (by rw[dj,l];omega)]
      exact zk ad a m cm bs B w t hB (by omega) (by omega) (by omega) d q o (by omega) hnone
    ·obtain⟨k,H⟩:∃ k:Nat,firstIdx gB ((bs.drop a).take q)=(k:Int):=⟨(firstIdx gB ((bs.drop a).take q)).toNat,by have:=nO gB ((bs.drop a).take q);omega⟩
     obtain⟨x,f,G,D⟩:=tJ gB _ k H
     have g:k<q:=by have h:=(List.getElem?_eq_some_iff.1 f).1;rw[K]at h;exact h
     have r:(bs.drop a)[k]?=some x:=by rw[List.getElem?_take,if_pos g]at f;exact f
     have s:bs[a+k]?=some x:=by rw[List.getElem?_drop]at r;exact r
     have p:x.toNat<128:=by unfold gB at G;simpa using G
     have N:=Ab (bE (bs.drop a)) (kJ _) 0 k x.toNat (by omega) (fun j y u hy=>by
      rw[natB_getElem?,Option.map_eq_some_iff]at hy
      obtain⟨z,R,rfl⟩:=hy
      have F:=D j z u (by rw[List.getElem?_take,if_pos (by omega)];exact R)
      unfold gB at F
      simpa using F) (by rw[natB_getElem?,r];rfl) p
     rw[Nat.zero_add]at N
     by_cases E:(k=9∧1<x.toNat)∨(0<k∧x.toNat=0)
     ·rw[N,if_pos E]
      exact yT ad a m cm bs B w t hB (by omega) (by omega) (by omega) d q o k x g s H E
     ·rw[N,if_neg E,←qz]
      have C:k=0∨(0<k∧k≠9)∨k=9:=by omega
      rcases(by omega:(m<10∨10<m)∨m=10) with b | b
      ·exact DL ad a m cm bs B w t hB (by omega) (by omega) (by omega) d q o b k x C g s H E
      ·exact Dy ad a m cm bs B w t hB (by omega) (by omega) (by omega) d q o b k x C g s H E
 ·rw[Cg bs at_ err M]
  exact Bw A n c at_ err w M
end
section
open Go.RowKit
def cT (bs:List UInt8) (at_ err:Int) (most:Nat):Int×Int×Nat:=
 if most<(bT bs at_ err).2.2 then((bT bs at_ err).1,11,0) else bT bs at_ err
theorem mA (bs:List UInt8) (at_ err:Int) (most:Nat):(cT bs at_ err most).2.2≤most:=by
 unfold cT
 by_cases h:most<(bT bs at_ err).2.2
 ·rw[if_pos h];exact Nat.zero_le _
 ·rw[if_neg h];omega
theorem BN {W:World} {g:Nat} {x0 x1 x2 u:Value} (h:Blk W g 252 #[x0,x1,x2]) (tmps:Array Value) (c:tmps[4]?.getD undef = .pointer (some ⟨g,0,none⟩)) (b:tmps[5]?.getD undef=u):(results Tryz.f260 tmps).run Tryz.prog W = .ok (.tuple #[.agg #[x0,x1,x2],u]) W:=by
 have c0:W.cell? ⟨g,0,none⟩=some x0:=h.cell 0
 have a:W.cell? ⟨g,1,none⟩=some x1:=h.cell 1
 have d:W.cell? ⟨g,2,none⟩=some x2:=h.cell 2
 simp[results,Tryz.results260,go_sem,c,b,c0,a,d]
set_option maxHeartbeats 2000000 in
theorem FJ (A:Option Addr) (n c:Nat) (at_ err:Int) (bs:List UInt8) (B:Nat) (w:World) (hr:Reads w B 1 A n (byteCells bs)) (hB:B≤w.heap.size) (V:n≤c) (X:c≤9223372036854775807) (hn:n≤10000) (most:Nat) (hm:most≤1099511627776):
 Calls Tryz.prog 260 #[.agg #[.slice A n c,.int .i64 at_,.int .i64 err],.int .u64 (most:Int)] w fun e w'=>e = .returned (.tuple #[.agg #[.slice A n c,.int .i64 (cT bs at_ err most).1,.int .i64 (cT bs at_ err most).2.1],.int .i64 ((cT bs at_ err most).2.2:Int)])∧Below w.heap.size w w':=by
 have hX:XOk [] w:=fun _ h=>by cases h
 have Y:=fun W=>Lib.hid (ig A n c at_ err bs B W)
 have Q:Hid (cT bs at_ err most=if most<(bT bs at_ err).2.2 then((bT bs at_ err).1,11,0) else bT bs at_ err):=rfl
 have HR:=Lib.hid hr
 generalize cT bs at_ err most=r at Q ⊢
 generalize bT bs at_ err=u at Y Q
 obtain⟨x,y,v⟩:=u
 simp only at Y Q
 clear hr
 have z:Hid (aq w [] [] ((w.alloc (.cells #[.slice A n c,.int .i64 at_,.int .i64 err] 252)).alloc (.cells #[.slice none 0 0,.int .i64 0,.int .i64 0] 252)) [.box (w.heap.size+1) 252 #[.slice none 0 0,.int .i64 0,.int .i64 0],.box (w.heap.size) 252 #[.slice A n c,.int .i64 at_,.int .i64 err]] []):=(((aq.start w hX).alloc_at 252 #[.slice A n c,.int .i64 at_,.int .i64 err] (w.heap.size) (by simp)).alloc_at 252 #[.slice none 0 0,.int .i64 0,.int .i64 0] (w.heap.size+1) (by simp))
 by_cases hv:most<v
 ·skip
  rw[if_pos hv]at Q
  have U:=Q.out
  subst U
  clear Q
  have Z:(most:Int)<(v:Int):=by omega
  go_enter Tryz.func260,Tryz.ntmps260
  go_wp2_with fail
  with_reducible refine((Y _).out (HR.out.below (z.out.below.mono hB)) (Nat.le_trans hB z.out.size) V X hn).mono ?_
  rintro e d ⟨rfl,P⟩
  have a:Hid (aq w [] [] d [.box (w.heap.size+1) 252 #[.slice none 0 0,.int .i64 0,.int .i64 0],.box (w.heap.size) 252 #[.slice A n c,.int .i64 at_,.int .i64 err]] []):=(z.out.on P)
  clear z
  clear P
  have q:d.cell? ⟨w.heap.size,0,none⟩=some (.slice A n c):=a.out.cell 1 rfl 0
  have o:d.frozen? ⟨w.heap.size,0,none⟩=false:=a.out.frozen 1 rfl 0
  have s:d.cell? ⟨w.heap.size,1,none⟩=some (.int .i64 at_):=a.out.cell 1 rfl 1
  have p:d.frozen? ⟨w.heap.size,1,none⟩=false:=a.out.frozen 1 rfl 1
  have l:d.cell? ⟨w.heap.size,2,none⟩=some (.int .i64 err):=a.out.cell 1 rfl 2
  have m:d.frozen? ⟨w.heap.size,2,none⟩=false:=a.out.frozen 1 rfl 2
  have t:d.cell? ⟨w.heap.size+1,0,none⟩=some (.slice none 0 0):=a.out.cell 0 rfl 0
  have f:d.frozen? ⟨w.heap.size+1,0,none⟩=false:=a.out.frozen 0 rfl 0
  have k:d.cell? ⟨w.heap.size+1,1,none⟩=some (.int .i64 0):=a.out.cell 0 rfl 1
  have j:d.frozen? ⟨w.heap.size+1,1,none⟩=false:=a.out.frozen 0 rfl 1
  have i:d.cell? ⟨w.heap.size+1,2,none⟩=some (.int .i64 0):=a.out.cell 0 rfl 2
  have g:d.frozen? ⟨w.heap.size+1,2,none⟩=false:=a.out.frozen 0 rfl 2
  go_upto_region 3 with(fail)
  clear q o s p l m t f k j i g
  have b:Hid (aq w [] [] (((d.setCell ⟨w.heap.size,0,none⟩ (.slice A n c)).setCell ⟨w.heap.size,1,none⟩ (.int .i64 x)).setCell ⟨w.heap.size,2,none⟩ (.int .i64 y)) [.box (w.heap.size+1) 252 #[.slice none 0 0,.int .i64 0,.int .i64 0],.box (w.heap.size) 252 #[.slice A n c,.int .i64 x,.int .i64 y]] []):=(((a.out.set_ 1 rfl 0 (.slice A n c)).set_ 1 rfl 1 (.int .i64 x)).set_ 1 rfl 2 (.int .i64 y))
  clear a
  generalize ((d.setCell ⟨w.heap.size,0,none⟩ (.slice A n c)).setCell ⟨w.heap.size,1,none⟩ (.int .i64 x)).setCell ⟨w.heap.size,2,none⟩ (.int .i64 y)=C at b ⊢
  have K:C.cell? ⟨w.heap.size,0,none⟩=some (.slice A n c):=b.out.cell 1 rfl 0
  have O:C.frozen? ⟨w.heap.size,0,none⟩=false:=b.out.frozen 1 rfl 0
  have I:C.cell? ⟨w.heap.size,1,none⟩=some (.int .i64 x):=b.out.cell 1 rfl 1
  have L:C.frozen? ⟨w.heap.size,1,none⟩=false:=b.out.frozen 1 rfl 1
  have E:C.cell? ⟨w.heap.size,2,none⟩=some (.int .i64 y):=b.out.cell 1 rfl 2
  have G:C.frozen? ⟨w.heap.size,2,none⟩=false:=b.out.frozen 1 rfl 2
  have F:C.cell? ⟨w.heap.size+1,0,none⟩=some (.slice none 0 0):=b.out.cell 0 rfl 0
  have J:C.frozen? ⟨w.heap.size+1,0,none⟩=false:=b.out.frozen 0 rfl 0
  have N:C.cell? ⟨w.heap.size+1,1,none⟩=some (.int .i64 0):=b.out.cell 0 rfl 1
  have D:C.frozen? ⟨w.heap.size+1,1,none⟩=false:=b.out.frozen 0 rfl 1
  have H:C.cell? ⟨w.heap.size+1,2,none⟩=some (.int .i64 0):=b.out.cell 0 rfl 2
  have M:C.frozen? ⟨w.heap.size+1,2,none⟩=false:=b.out.frozen 0 rfl 2
  go_wp2
  clear K O I L E G F J N D H M
  have R:Hid (aq w [] [] (C.setCell ⟨w.heap.size,2,none⟩ (.int .i64 11)) [.box (w.heap.size+1) 252 #[.slice none 0 0,.int .i64 0,.int .i64 0],.box (w.heap.size) 252 #[.slice A n c,.int .i64 x,.int .i64 11]] []):=b.out.set_ 1 rfl 2 (.int .i64 11)
  clear b
  have S:Hid (aq w [] [] ((((C.setCell ⟨w.heap.size,2,none⟩ (.int .i64 11)).setCell ⟨w.heap.size+1,0,none⟩ (.slice A n c)).setCell ⟨w.heap.size+1,1,none⟩ (.int .i64 x)).setCell ⟨w.heap.size+1,2,none⟩ (.int .i64 11)) [.box (w.heap.size+1) 252 #[.slice A n c,.int .i64 x,.int .i64 11],.box (w.heap.size) 252 #[.slice A n c,.int .i64 x,.int .i64 11]] []):=(((R.out.set_ 0 rfl 0 (.slice A n c)).set_ 0 rfl 1 (.int .i64 x)).set_ 0 rfl 2 (.int .i64 11))
  clear R
  exact bodyPost_ret (BN (S.out.blk 0 rfl) _ rfl rfl) rfl ⟨rfl,S.out.below⟩
 ·skip
  rw[if_neg hv]at Q
  have U:=Q.out
  subst U
  clear Q
  have Z:¬ (most:Int)<(v:Int):=by omega
  have ab:(v:Int)≤(most:Int):=by omega
  have hw:IntKind.i64.wrap (v:Int)=(v:Int):=IntWalk.i64_in _ (by omega)
  go_enter Tryz.func260,Tryz.ntmps260
  go_wp2_with fail
  with_reducible refine((Y _).out (HR.out.below (z.out.below.mono hB)) (Nat.le_trans hB z.out.size) V X hn).mono ?_
  rintro e d ⟨rfl,P⟩
  have a:Hid (aq w [] [] d [.box (w.heap.size+1) 252 #[.slice none 0 0,.int .i64 0,.int .i64 0],.box (w.heap.size) 252 #[.slice A n c,.int .i64 at_,.int .i64 err]] []):=(z.out.on P)
  clear z
  clear P
  have q:d.cell? ⟨w.heap.size,0,none⟩=some (.slice A n c):=a.out.cell 1 rfl 0
  have o:d.frozen? ⟨w.heap.size,0,none⟩=false:=a.out.frozen 1 rfl 0
  have s:d.cell? ⟨w.heap.size,1,none⟩=some (.int .i64 at_):=a.out.cell 1 rfl 1
  have p:d.frozen? ⟨w.heap.size,1,none⟩=false:=a.out.frozen 1 rfl 1
  have l:d.cell? ⟨w.heap.size,2,none⟩=some (.int .i64 err):=a.out.cell 1 rfl 2
  have m:d.frozen? ⟨w.heap.size,2,none⟩=false:=a.out.frozen 1 rfl 2
  have t:d.cell? ⟨w.heap.size+1,0,none⟩=some (.slice none 0 0):=a.out.cell 0 rfl 0
  have f:d.frozen? ⟨w.heap.size+1,0,none⟩=false:=a.out.frozen 0 rfl 0
  have k:d.cell? ⟨w.heap.size+1,1,none⟩=some (.int .i64 0):=a.out.cell 0 rfl 1
  have j:d.frozen? ⟨w.heap.size+1,1,none⟩=false:=a.out.frozen 0 rfl 1
  have i:d.cell? ⟨w.heap.size+1,2,none⟩=some (.int .i64 0):=a.out.cell 0 rfl 2
  have g:d.frozen? ⟨w.heap.size+1,2,none⟩=false:=a.out.frozen 0 rfl 2
  go_wp2
  clear q o s p l m t f k j i g
  have b:Hid (aq w [] [] (((d.setCell ⟨w.heap.size,0,none⟩ (.slice A n c)).setCell ⟨w.heap.size,1,none⟩ (.int .i64 x)).setCell ⟨w.heap.size,2,none⟩ (.int .i64 y)) [.box (w.heap.size+1) 252 #[.slice none 0 0,.int .i64 0,.int .i64 0],.box (w.heap.size) 252 #[.slice A n c,.int .i64 x,.int .i64 y]] []):=(((a.out.set_ 1 rfl 0 (.slice A n c)).set_ 1 rfl 1 (.int .i64 x)).set_ 1 rfl 2 (.int .i64 y))
  clear a
  have T:Hid (aq w [] [] ((((((d.setCell ⟨w.heap.size,0,none⟩ (.slice A n c)).setCell ⟨w.heap.size,1,none⟩ (.int .i64 x)).setCell ⟨w.heap.size,2,none⟩ (.int .i64 y)).setCell ⟨w.heap.size+1,0,none⟩ (.slice A n c)).setCell ⟨w.heap.size+1,1,none⟩ (.int .i64 x)).setCell ⟨w.heap.size+1,2,none⟩ (.int .i64 y)) [.box (w.heap.size+1) 252 #[.slice A n c,.int .i64 x,.int .i64 y],.box (w.heap.size) 252 #[.slice A n c,.int .i64 x,.int .i64 y]] []):=(((b.out.set_ 0 rfl 0 (.slice A n c)).set_ 0 rfl 1 (.int .i64 x)).set_ 0 rfl 2 (.int .i64 y))
  clear b
  exact bodyPost_ret (BN (T.out.blk 0 rfl) _ rfl rfl) rfl ⟨rfl,T.out.below⟩
end
section
open Go.RowKit
theorem kF (bs:List UInt8) (at_ err:Int):(bT bs at_ err).2.2<18446744073709551616:=by
 unfold bT
 split
 ·split
  ·rename_i h
   have a:=lN (bE (bs.drop at_.toNat)) (kJ _) 0 (cq 0 (bE (bs.drop at_.toNat))).2.1 (cq 0 (bE (bs.drop at_.toNat))).2.2 (by omega) (Prod.ext h rfl)
   simpa using a.2.2.1
  ·simp
 ·simp
end
section
open Go.RowKit
theorem yC (ad:Addr) (a m b k:Nat) (bs:List UInt8) (B:Nat) (w:World) (L:Reads w B 1 (some ad) (a+m) (byteCells bs)) (hB:B≤w.heap.size) (C:m≤b) (E:a+b≤9223372036854775807) (H:0<k) (D:k≤m):Calls Tryz.prog 278 #[.agg #[.slice (some ad) (a+m) (a+b),.int .i64 (a:Int),.int .i64 0],.int .i64 k] w fun e w'=>e = .returned (.tuple #[.agg #[.slice (some ad) (a+m) (a+b),.int .i64 ((a:Int)+(k:Int)),.int .i64 0],.slice (some (ad.add a)) k k])∧Below w.heap.size w w':=by
 have M:(a:Int)+(k:Int)≤(a:Int)+(b:Int):=by omega
 have G:(0:Int)≤(a:Int)+(k:Int):=by omega
 have K:((a:Int)+(k:Int)).toNat=a+k:=by omega
 have N:a+k-a=k:=by omega
 have J:¬ k=0:=by omega
 have F:(a:Int)≤(a:Int)+(k:Int):=by omega
 go_enter Tryz.func278,Tryz.ntmps278
 go_wp2_with fail
 refine(cy (some ad) _ (a+b) a _ (by omega) (by omega)).mono ?_
 rintro e I ⟨rfl,c⟩
 have u:=Lib.hid ((Cu.start w #[.slice (some ad) _ (a+b),.int .i64 a,.int .i64 0] #[.slice none 0 0,.int .i64 0,.int .i64 0]).next c)
 clear c
 obtain⟨k0,o,p,f,g,d,i,l,h,r,q,j⟩:=u.out.cells
 go_wp2_with fail
 clear k0 o p f g d i l h r q j
 refine(gR (some ad) _ (a+b) a _ (by omega) (by omega) (by omega)).mono ?_
 rintro e t ⟨rfl,c⟩
 have n:=Lib.hid (u.out.next c)
 clear c
 obtain⟨k0,o,p,f,g,d,i,l,h,r,q,j⟩:=n.out.cells
 have A:(((a+m:Nat):Int))-(a:Int)=(m:Int):=by omega
 have y:decide ((m:Int)<(k:Int))=false:=by simp;omega
 have z:decide ((k:Int)<0)=false:=by simp
 go_wp2
 clear k0 o p f g d i l h r q j
 have x:Hid (Cu w (t.setCell ⟨w.heap.size,1,none⟩ (.int .i64 ((a:Int)+(k:Int)))) #[.slice (some ad) (a+m) (a+b),.int .i64 ((a:Int)+(k:Int)),.int .i64 0] #[.slice none 0 0,.int .i64 0,.int .i64 0]):=⟨n.out.1.set_ 1 _,n.out.2.1.far (by simp) _,n.out.2.2.setCell (by simp) _⟩
 generalize t.setCell ⟨w.heap.size,1,none⟩ (.int .i64 ((a:Int)+(k:Int)))=w3 at *
 obtain⟨k0,o,p,f,g,d,i,l,h,r,q,j⟩:=x.out.cells
 go_region_held3 (fun w'=>w'.cell? ⟨w.heap.size,0,none⟩=some (.slice (some ad) (a+m) (a+b))∧w'.cell? ⟨w.heap.size,1,none⟩=some (.int .i64 ((a:Int)+(k:Int)))∧w'.cell? ⟨w.heap.size,2,none⟩=some (.int .i64 0)) (go_keep) (fail)
 go_wp2
 have s:=x.out.2.2
 exact bodyPost_ret (v := .tuple #[.agg #[.slice (some ad) (a+m) (a+b),.int .i64 ((a:Int)+(k:Int)),.int .i64 0],.slice (some (ad.add a)) k k]) (by simp[results,Tryz.results278,go_sem,f,g,d]) rfl ⟨rfl,(by repeat (first | refine Below.setCell ?_ (by simp) _ | refine Below.drew ?_ | refine below_drewN ?_ _ | exact s))⟩
theorem yU (A:Option Addr) (a m b:Nat) (bs:List UInt8) (B:Nat) (w:World) (E:Reads w B 1 A (a+m) (byteCells bs)) (hB:B≤w.heap.size) (C:m≤b) (D:a+b≤9223372036854775807):Calls Tryz.prog 278 #[.agg #[.slice A (a+m) (a+b),.int .i64 (a:Int),.int .i64 0],.int .i64 0] w fun e w'=>e = .returned (.tuple #[.agg #[.slice A (a+m) (a+b),.int .i64 (a:Int),.int .i64 0],.slice A 0 0])∧Below w.heap.size w w':=by
 have F:(a:Int)≤(a:Int)+(b:Int):=by omega
 rcases A with _ | ad
 ·go_enter Tryz.func278,Tryz.ntmps278
  go_wp2_with fail
  refine(cy none _ (a+b) a _ (by omega) (by omega)).mono ?_
  rintro e z ⟨rfl,c⟩
  have t:=Lib.hid ((Cu.start w #[.slice none _ (a+b),.int .i64 a,.int .i64 0] #[.slice none 0 0,.int .i64 0,.int .i64 0]).next c)
  clear c
  obtain⟨k0,n,o,f,g,d,i,k,h,q,p,j⟩:=t.out.cells
  go_wp2_with fail
  clear k0 n o f g d i k h q p j
  refine(gR none _ (a+b) a _ (by omega) (by omega) (by omega)).mono ?_
  rintro e s ⟨rfl,c⟩
  have l:=Lib.hid (t.out.next c)
  clear c
  obtain⟨k0,n,o,f,g,d,i,k,h,q,p,j⟩:=l.out.cells
  have y:(((a+m:Nat):Int))-(a:Int)=(m:Int):=by omega
  have x:decide ((m:Int)<0)=false:=by simp
  go_wp2
  clear k0 n o f g d i k h q p j
  have u:Hid (Cu w (s.setCell ⟨w.heap.size,1,none⟩ (.int .i64 (a:Int))) #[.slice none (a+m) (a+b),.int .i64 (a:Int),.int .i64 0] #[.slice none 0 0,.int .i64 0,.int .i64 0]):=⟨l.out.1.set_ 1 _,l.out.2.1.far (by simp) _,l.out.2.2.setCell (by simp) _⟩
  generalize s.setCell ⟨w.heap.size,1,none⟩ (.int .i64 (a:Int))=w3 at *
  obtain⟨k0,n,o,f,g,d,i,k,h,q,p,j⟩:=u.out.cells
  go_region_held3 (fun w'=>w'.cell? ⟨w.heap.size,0,none⟩=some (.slice none (a+m) (a+b))∧w'.cell? ⟨w.heap.size,1,none⟩=some (.int .i64 (a:Int))∧w'.cell? ⟨w.heap.size,2,none⟩=some (.int .i64 0)) (go_keep) (fail)
  go_wp2
  have r:=u.out.2.2
  exact bodyPost_ret (v := .tuple #[.agg #[.slice none (a+m) (a+b),.int .i64 (a:Int),.int .i64 0],.slice none 0 0]) (by simp[results,Tryz.results278,go_sem,f,g,d]) rfl ⟨rfl,(by repeat (first | refine Below.setCell ?_ (by simp) _ | refine Below.drew ?_ | refine below_drewN ?_ _ | exact r))⟩
 ·go_enter Tryz.func278,Tryz.ntmps278
  go_wp2_with fail
  refine(cy (some ad) _ (a+b) a _ (by omega) (by omega)).mono ?_
  rintro e z ⟨rfl,c⟩
  have t:=Lib.hid ((Cu.start w #[.slice (some ad) _ (a+b),.int .i64 a,.int .i64 0] #[.slice none 0 0,.int .i64 0,.int .i64 0]).next c)
  clear c
  obtain⟨k0,n,o,f,g,d,i,k,h,q,p,j⟩:=t.out.cells
  go_wp2_with fail
  clear k0 n o f g d i k h q p j
  refine(gR (some ad) _ (a+b) a _ (by omega) (by omega) (by omega)).mono ?_
  rintro e s ⟨rfl,c⟩
  have l:=Lib.hid (t.out.next c)
  clear c
  obtain⟨k0,n,o,f,g,d,i,k,h,q,p,j⟩:=l.out.cells
  have y:(((a+m:Nat):Int))-(a:Int)=(m:Int):=by omega
  have x:decide ((m:Int)<0)=false:=by simp
  go_wp2
  clear k0 n o f g d i k h q p j
  have u:Hid (Cu w (s.setCell ⟨w.heap.size,1,none⟩ (.int .i64 (a:Int))) #[.slice (some ad) (a+m) (a+b),.int .i64 (a:Int),.int .i64 0] #[.slice none 0 0,.int .i64 0,.int .i64 0]):=⟨l.out.1.set_ 1 _,l.out.2.1.far (by simp) _,l.out.2.2.setCell (by simp) _⟩
  generalize s.setCell ⟨w.heap.size,1,none⟩ (.int .i64 (a:Int))=w3 at *
  obtain⟨k0,n,o,f,g,d,i,k,h,q,p,j⟩:=u.out.cells
  go_region_held3 (fun w'=>w'.cell? ⟨w.heap.size,0,none⟩=some (.slice (some ad) (a+m) (a+b))∧w'.cell? ⟨w.heap.size,1,none⟩=some (.int .i64 (a:Int))∧w'.cell? ⟨w.heap.size,2,none⟩=some (.int .i64 0)) (go_keep) (fail)
  go_wp2
  have r:=u.out.2.2
  exact bodyPost_ret (v := .tuple #[.agg #[.slice (some ad) (a+m) (a+b),.int .i64 (a:Int),.int .i64 0],.slice (some ad) 0 0]) (by simp[results,Tryz.results278,go_sem,f,g,d]) rfl ⟨rfl,(by repeat (first | refine Below.setCell ?_ (by simp) _ | refine Below.drew ?_ | refine below_drewN ?_ _ | exact r))⟩
end
section
open Go.RowKit
theorem Fe (A:Option Addr) (n c a k:Nat) (bs:List UInt8) (B:Nat) (w:World) (f:Reads w B 1 A n (byteCells bs)) (hB:B≤w.heap.size) (i:n≤c) (b:c≤9223372036854775807) (j:a+k≤n):
 Calls Tryz.prog 278 #[.agg #[.slice A n c,.int .i64 (a:Int),.int .i64 0],.int .i64 k] w fun e w' => ∃ A',e = .returned (.tuple #[.agg #[.slice A n c,.int .i64 ((a:Int)+(k:Int)),.int .i64 0],.slice A' k k])∧Reads w' B 1 A' k (byteCells ((bs.drop a).take k))∧Below w.heap.size w w':=by
 obtain⟨m,rfl⟩:∃ m,n=a+m:=⟨n-a,by omega⟩
 obtain⟨cm,rfl⟩:∃ cm,c=a+cm:=⟨c-a,by omega⟩
 rcases Nat.eq_zero_or_pos k with rfl | g
 ·refine(yU A a m cm bs B w f hB (by omega) b).mono ?_
  rintro e w' ⟨rfl,d⟩
  exact⟨A,by simp,by simpa [byteCells] using Reads.none_,d⟩
 ·obtain⟨ad,rfl,_⟩:=f.2 (by omega)
  refine(yC ad a m cm k bs B w f hB (by omega) b g (by omega)).mono ?_
  rintro e w' ⟨rfl,d⟩
  refine⟨_,rfl,?_,d⟩
  have h:=((f.below (d.mono hB)).sufB (k:=a) (cap:=a+cm) (by omega) (by omega)).preB (k:=k) (by omega)
  rw[if_neg (by omega),Option.map_some]at h
  exact h
def jI (bs:List UInt8) (at_ err most:Int):Int×Int×List UInt8:=
 if(bT bs at_ err).2.1≠0 then((bT bs at_ err).1,(bT bs at_ err).2.1,[])
 else if most<0∨most<((bT bs at_ err).2.2:Int) then(at_,9,[])
 else if(bs.length:Int)-(bT bs at_ err).1<((bT bs at_ err).2.2:Int) then(at_,10,[])
 else((bT bs at_ err).1+((bT bs at_ err).2.2:Nat),0,(bs.drop (bT bs at_ err).1.toNat).take (bT bs at_ err).2.2)
theorem hJ (bs:List UInt8) (at_ err x:Int) (v:Nat) (h:bT bs at_ err=(x,0,v)):err=0∧0≤x∧x≤(bs.length:Int)∧0≤at_∧at_≤x:=by
 unfold bT at h
 split at h
 ·rename_i d
  split at h
  ·rename_i a
   have b:=lN (bE (bs.drop at_.toNat)) (kJ _) 0 (cq 0 (bE (bs.drop at_.toNat))).2.1 (cq 0 (bE (bs.drop at_.toNat))).2.2 (by omega) (Prod.ext a rfl)
   have c:=b.1
   rw[dj,List.length_drop]at c
   simp only[Prod.mk.injEq]at h
   omega
  ·rename_i a
   simp only[Prod.mk.injEq]at h
   omega
 ·simp only[Prod.mk.injEq]at h
  split at h<;>omega
set_option maxHeartbeats 1000000 in
theorem Co (A:Option Addr) (n c:Nat) (at_ err:Int) (bs:List UInt8) (B:Nat) (w:World) (k:Reads w B 1 A n (byteCells bs)) (hB:B≤w.heap.size) (d:n≤c) (i:c≤9223372036854775807) (z:n≤10000) (most:Int) (x y:Int) (v:Nat) (l:bT bs at_ err=(x,y,v)) (hy:y≠0):
 Calls Tryz.prog 261 #[.agg #[.slice A n c,.int .i64 at_,.int .i64 err],.int .i64 most] w fun e w'=>e = .returned (.tuple #[.agg #[.slice A n c,.int .i64 x,.int .i64 y],.string ⟨#[]⟩])∧Below w.heap.size w w':=by
 have o:=kF bs at_ err
 have p:=k.lenB
 have f:=Lib.hid (fun W (h:Reads W B 1 A n (byteCells bs)) (h':B≤W.heap.size)=>ig A n c at_ err bs B W h h' d i z)
 have D:=Lib.hid k
 rw[l]at f o
 simp only at f o
 have I:(y != 0)=true:=by rw[bne_iff_ne];exact hy
 have r:=Lib.hid l
 clear k l
 go_enter Tryz.func261,Tryz.ntmps261
 go_wp2_with fail
 have g:=Lib.hid (Cu.start w #[.slice A n c,.int .i64 at_,.int .i64 err] #[.slice none 0 0,.int .i64 0,.int .i64 0])
 refine(f.out _ (g.out.reads D.out hB) (by simp;omega)).mono ?_
 rintro e G ⟨rfl,m⟩
 have a:=Lib.hid (g.out.next m)
 clear m g
 obtain⟨k0,K,L,s,t,q,F,J,E,N,M,H⟩:=a.out.cells
 have C:=a.out.1.lt
 have b:=a.out.2.1.lt
 have u:=a.out.size
 go_wp2
 have j:=a.out.2.2
 exact bodyPost_ret (v := .tuple #[.agg #[.slice A n c,.int .i64 x,.int .i64 y],.string ⟨#[]⟩]) (by simp[results,Tryz.results261,go_sem,s,t,q,b]) rfl ⟨rfl,(by repeat (first | refine Below.setCell ?_ (by simp;try omega) _ | refine Below.drew ?_ | refine below_drewN ?_ _ | refine Below.alloc ?_ (by simp;try omega) _ | exact j))⟩
set_option maxHeartbeats 1000000 in
theorem AR (A:Option Addr) (n c:Nat) (at_:Int) (bs:List UInt8) (B:Nat) (w:World) (r:Reads w B 1 A n (byteCells bs)) (hB:B≤w.heap.size) (i:n≤c) (p:c≤9223372036854775807) (P:n≤10000) (most:Int) (L:most≤9223372036854775807) (x:Int) (v:Nat) (f:bT bs at_ 0=(x,0,v)) (K:most<0):
 Calls Tryz.prog 261 #[.agg #[.slice A n c,.int .i64 at_,.int .i64 0],.int .i64 most] w fun e w'=>e = .returned (.tuple #[.agg #[.slice A n c,.int .i64 at_,.int .i64 9],.string ⟨#[]⟩])∧Below w.heap.size w w':=by
 have u:=kF bs at_ 0
 have a:=r.lenB
 obtain⟨_,Q,g,_,_⟩:=hJ bs at_ 0 x v f
 rw[a]at g
 have j:=Lib.hid (fun W (h:Reads W B 1 A n (byteCells bs)) (h':B≤W.heap.size)=>ig A n c at_ 0 bs B W h h' i p P)
 have T:=Lib.hid r
 rw[f]at j u
 simp only at j u
 have V:decide (most<0)=true:=by simpa using K
 have M:=Lib.hid f
 have S:=Lib.hid a
 clear r f a
 go_enter Tryz.func261,Tryz.ntmps261
 go_wp2_with fail
 have o:=Lib.hid (Cu.start w #[.slice A n c,.int .i64 at_,.int .i64 0] #[.slice none 0 0,.int .i64 0,.int .i64 0])
 refine(j.out _ (o.out.reads T.out hB) (by simp;omega)).mono ?_
 rintro e J ⟨rfl,t⟩
 have b:=Lib.hid (o.out.next t)
 clear t o
 obtain⟨k0,D,E,l,m,k,y,C,s,H,F,z⟩:=b.out.cells
 have R:=b.out.1.lt
 have I:=b.out.2.1.lt
 have O:=b.out.size
 have N:=Lib.hid (b.out.next ((Below.refl _ J).alloc (Nat.le_refl _) (.cells #[.slice A n c,.int .i64 x,.int .i64 0] 252)))
 go_wp2_with fail
 clear k0 D E l m k y C s H F z
 refine(cL A n c at_ 9 _).mono ?_
 rintro e U ⟨rfl,d⟩
 have G:=Lib.hid (N.out.next d)
 clear d
 obtain⟨k0,D,E,l,m,k,y,C,s,H,F,z⟩:=G.out.cells
 go_wp2
 have q:=G.out.2.2
 exact bodyPost_ret (v := .tuple #[.agg #[.slice A n c,.int .i64 at_,.int .i64 9],.string ⟨#[]⟩]) (by simp[results,Tryz.results261,go_sem,l,m,k]) rfl ⟨rfl,(by repeat (first | refine Below.setCell ?_ (by simp;try omega) _ | refine Below.drew ?_ | refine below_drewN ?_ _ | refine Below.alloc ?_ (by simp;try omega) _ | exact q))⟩
set_option maxHeartbeats 1000000 in
theorem ze (A:Option Addr) (n c:Nat) (at_:Int) (bs:List UInt8) (B:Nat) (w:World) (s:Reads w B 1 A n (byteCells bs)) (hB:B≤w.heap.size) (i:n≤c) (q:c≤9223372036854775807) (Q:n≤10000) (most:Int) (M:most≤9223372036854775807) (x:Int) (v:Nat) (f:bT bs at_ 0=(x,0,v)) (L:0≤most) (l:most<(v:Int)):
 Calls Tryz.prog 261 #[.agg #[.slice A n c,.int .i64 at_,.int .i64 0],.int .i64 most] w fun e w'=>e = .returned (.tuple #[.agg #[.slice A n c,.int .i64 at_,.int .i64 9],.string ⟨#[]⟩])∧Below w.heap.size w w':=by
 have y:=kF bs at_ 0
 have a:=s.lenB
 obtain⟨_,R,g,_,_⟩:=hJ bs at_ 0 x v f
 rw[a]at g
 have j:=Lib.hid (fun W (h:Reads W B 1 A n (byteCells bs)) (h':B≤W.heap.size)=>ig A n c at_ 0 bs B W h h' i q Q)
 have U:=Lib.hid s
 rw[f]at j y
 simp only at j y
 have X:decide (most<0)=false:=by simpa using L
 have dv:decide (most<(v:Int))=true:=by simpa using l
 have N:=Lib.hid f
 have T:=Lib.hid a
 clear s f a
 go_enter Tryz.func261,Tryz.ntmps261
 go_wp2_with fail
 have p:=Lib.hid (Cu.start w #[.slice A n c,.int .i64 at_,.int .i64 0] #[.slice none 0 0,.int .i64 0,.int .i64 0])
 refine(j.out _ (p.out.reads U.out hB) (by simp;omega)).mono ?_
 rintro e K ⟨rfl,u⟩
 have b:=Lib.hid (p.out.next u)
 clear u p
 obtain⟨k0,E,F,m,o,k,z,D,t,I,G,C⟩:=b.out.cells
 have S:=b.out.1.lt
 have J:=b.out.2.1.lt
 have P:=b.out.size
 have O:=Lib.hid (b.out.next ((Below.refl _ K).alloc (Nat.le_refl _) (.cells #[.slice A n c,.int .i64 x,.int .i64 0] 252)))
 go_wp2_with fail
 clear k0 E F m o k z D t I G C
 refine(cL A n c at_ 9 _).mono ?_
 rintro e V ⟨rfl,d⟩
 have H:=Lib.hid (O.out.next d)
 clear d
 obtain⟨k0,E,F,m,o,k,z,D,t,I,G,C⟩:=H.out.cells
 go_wp2
 have r:=H.out.2.2
 exact bodyPost_ret (v := .tuple #[.agg #[.slice A n c,.int .i64 at_,.int .i64 9],.string ⟨#[]⟩]) (by simp[results,Tryz.results261,go_sem,m,o,k]) rfl ⟨rfl,(by repeat (first | refine Below.setCell ?_ (by simp;try omega) _ | refine Below.drew ?_ | refine below_drewN ?_ _ | refine Below.alloc ?_ (by simp;try omega) _ | exact r))⟩
set_option maxHeartbeats 1000000 in
theorem vC (A:Option Addr) (n c:Nat) (at_:Int) (bs:List UInt8) (B:Nat) (w:World) (H:Reads w B 1 A n (byteCells bs)) (hB:B≤w.heap.size) (z:n≤c) (F:c≤9223372036854775807) (U:n≤10000) (most:Int) (P:most≤9223372036854775807) (x:Int) (v:Nat) (y:bT bs at_ 0=(x,0,v)) (O:0≤most) (D:(v:Int)≤most) (R:(n:Int)-x<(v:Int)):
 Calls Tryz.prog 261 #[.agg #[.slice A n c,.int .i64 at_,.int .i64 0],.int .i64 most] w fun e w'=>e = .returned (.tuple #[.agg #[.slice A n c,.int .i64 at_,.int .i64 10],.string ⟨#[]⟩])∧Below w.heap.size w w':=by
 have K:=kF bs at_ 0
 have a:=H.lenB
 obtain⟨_,I,b,_,_⟩:=hJ bs at_ 0 x v y
 rw[a]at b
 have C:=Lib.hid (fun W (h:Reads W B 1 A n (byteCells bs)) (h':B≤W.heap.size)=>ig A n c at_ 0 bs B W h h' z F U)
 have Z:=Lib.hid H
 rw[y]at C K
 simp only at C K
 have dm:decide (most<0)=false:=by simpa using O
 have dv:decide (most<(v:Int))=false:=by simpa using D
 have dl:decide ((n:Int)-x<(v:Int))=true:=by simp;omega
 have Q:=Lib.hid y
 have Y:=Lib.hid a
 clear H y a
 go_enter Tryz.func261,Tryz.ntmps261
 go_wp2_with fail
 have E:=Lib.hid (Cu.start w #[.slice A n c,.int .i64 at_,.int .i64 0] #[.slice none 0 0,.int .i64 0,.int .i64 0])
 refine(C.out _ (E.out.reads Z.out hB) (by simp;omega)).mono ?_
 rintro e N ⟨rfl,J⟩
 have g:=Lib.hid (E.out.next J)
 clear J E
 obtain⟨k0,r,s,i,j,f,o,q,m,u,t,p⟩:=g.out.cells
 have V:=g.out.1.lt
 have M:=g.out.2.1.lt
 have T:=g.out.size
 have S:=Lib.hid (g.out.next ((Below.refl _ N).alloc (Nat.le_refl _) (.cells #[.slice A n c,.int .i64 x,.int .i64 0] 252)))
 go_wp2_with fail
 clear k0 r s i j f o q m u t p
 refine(gR A n c x _ I b (by omega)).mono ?_
 rintro e X ⟨rfl,d⟩
 have k:=Lib.hid (S.out.next d)
 clear d
 obtain⟨k0,r,s,i,j,f,o,q,m,u,t,p⟩:=k.out.cells
 go_wp2_with fail
 clear k0 r s i j f o q m u t p
 refine(cL A n c at_ 10 _).mono ?_
 rintro e w2 ⟨rfl,l⟩
 have L:=Lib.hid (k.out.next l)
 clear l
 obtain⟨k0,r,s,i,j,f,o,q,m,u,t,p⟩:=L.out.cells
 go_wp2
 have G:=L.out.2.2
 exact bodyPost_ret (v := .tuple #[.agg #[.slice A n c,.int .i64 at_,.int .i64 10],.string ⟨#[]⟩]) (by simp[results,Tryz.results261,go_sem,i,j,f]) rfl ⟨rfl,(by repeat (first | refine Below.setCell ?_ (by simp;try omega) _ | refine Below.drew ?_ | refine below_drewN ?_ _ | refine Below.alloc ?_ (by simp;try omega) _ | exact G))⟩
end
section
open Go.RowKit
set_option maxHeartbeats 2000000 in
theorem Dz (A:Option Addr) (n c:Nat) (at_:Int) (bs:List UInt8) (B:Nat) (w:World) (hr:Reads w B 1 A n (byteCells bs)) (hB:B≤w.heap.size) (J:n≤c) (N:c≤9223372036854775807) (hn:n≤10000) (most:Int) (ae:most≤9223372036854775807) (a v:Nat) (hu:bT bs at_ 0=((a:Int),0,v)) (hm:0≤most) (Z:(v:Int)≤most) (Q:a+v≤n):
 Calls Tryz.prog 261 #[.agg #[.slice A n c,.int .i64 at_,.int .i64 0],.int .i64 most] w fun e w'=>e = .returned (.tuple #[.agg #[.slice A n c,.int .i64 ((a:Int)+(v:Int)),.int .i64 0],.string ⟨((bs.drop a).take v).toArray⟩])∧Below w.heap.size w w':=by
 have hv:=kF bs at_ 0
 have ac:(0:Int)≤(a:Int):=by omega
 have X:(a:Int)≤(n:Int):=by omega
 have P:=Lib.hid (fun W (h:Reads W B 1 A n (byteCells bs)) (h':B≤W.heap.size)=>ig A n c at_ 0 bs B W h h' J N hn)
 have HR:=Lib.hid hr
 rw[hu]at P hv
 simp only at P hv
 have dm:decide (most<0)=false:=by simpa using hm
 have dv:decide (most<(v:Int))=false:=by simpa using Z
 have dl:decide ((n:Int)-(a:Int)<(v:Int))=false:=by simp;omega
 clear hr hu
 go_enter Tryz.func261,Tryz.ntmps261
 go_wp2_with fail
 have V:=Lib.hid (Cu.start w #[.slice A n c,.int .i64 at_,.int .i64 0] #[.slice none 0 0,.int .i64 0,.int .i64 0])
 refine(P.out _ (V.out.reads HR.out hB) (by simp;omega)).mono ?_
 rintro e d ⟨rfl,hb⟩
 have H:=Lib.hid (V.out.next hb)
 clear hb V
 obtain⟨k0,s,t,o,p,q,u,D,y,x,C,z⟩:=H.out.cells
 have al:=H.out.1.lt
 have ad:=H.out.2.1.lt
 have ag:=H.out.size
 have C2:=Lib.hid (H.out.next ((Below.refl _ d).alloc (Nat.le_refl _) (.cells #[.slice A n c,.int .i64 (a:Int),.int .i64 0] 252)))
 have HH:=Lib.hid (Blk.new d 252 #[.slice A n c,.int .i64 (a:Int),.int .i64 0])
 go_wp2_with fail
 clear k0 s t o p q u D y x C z
 refine(gR A n c a _ ac X (by omega)).mono ?_
 rintro e j ⟨rfl,m⟩
 have l:=Lib.hid (C2.out.next m)
 have f:=Lib.hid (HH.out.below m HH.out.lt)
 clear m
 obtain⟨k0,s,t,o,p,q,u,D,y,x,C,z⟩:=l.out.cells
 obtain⟨M,E,I,Y,T,R⟩:j.cell? ⟨d.heap.size,0,none⟩=some (.slice A n c)∧j.cell? ⟨d.heap.size,1,none⟩=some (.int .i64 (a:Int))∧j.cell? ⟨d.heap.size,2,none⟩=some (.int .i64 0)∧j.frozen? ⟨d.heap.size,0,none⟩=false∧j.frozen? ⟨d.heap.size,1,none⟩=false∧j.frozen? ⟨d.heap.size,2,none⟩=false:=⟨f.out.cell 0,f.out.cell 1,f.out.cell 2,f.out.frozen 0,f.out.frozen 1,f.out.frozen 2⟩
 go_wp2_with fail
 clear k0 s t o p q u D y x C z
 clear M E I Y T R
 refine(Fe A n c a v bs B _ (l.out.reads HR.out hB) (Nat.le_trans hB l.out.size) J N Q).mono ?_
 rintro e k ⟨A',rfl,G,r⟩
 have O:=Lib.hid (l.out.next r)
 have g:=Lib.hid (f.out.below r f.out.lt)
 have U:=Lib.hid G
 clear r G
 obtain⟨k0,s,t,o,p,q,u,D,y,x,C,z⟩:=O.out.cells
 obtain⟨M,E,I,Y,T,R⟩:k.cell? ⟨d.heap.size,0,none⟩=some (.slice A n c)∧k.cell? ⟨d.heap.size,1,none⟩=some (.int .i64 (a:Int))∧k.cell? ⟨d.heap.size,2,none⟩=some (.int .i64 0)∧k.frozen? ⟨d.heap.size,0,none⟩=false∧k.frozen? ⟨d.heap.size,1,none⟩=false∧k.frozen? ⟨d.heap.size,2,none⟩=false:=⟨g.out.cell 0,g.out.cell 1,g.out.cell 2,g.out.frozen 0,g.out.frozen 1,g.out.frozen 2⟩
 go_wp2_with fail
 clear k0 s t o p q u D y x C z
 clear M E I Y T R
 have C4:Hid (Cu w (((k.setCell ⟨d.heap.size,0,none⟩ (.slice A n c)).setCell ⟨d.heap.size,1,none⟩ (.int .i64 ((a:Int)+(v:Int)))).setCell ⟨d.heap.size,2,none⟩ (.int .i64 0)) #[.slice A n c,.int .i64 at_,.int .i64 0] #[.slice none 0 0,.int .i64 0,.int .i64 0]):=⟨((O.out.1.far (by simp;omega) _).far (by simp;omega) _).far (by simp;omega) _,((O.out.2.1.far (by simp;omega) _).far (by simp;omega) _).far (by simp;omega) _,((O.out.2.2.setCell (by simp;omega) _).setCell (by simp;omega) _).setCell (by simp;omega) _⟩
 have L:Hid (Blk (((k.setCell ⟨d.heap.size,0,none⟩ (.slice A n c)).setCell ⟨d.heap.size,1,none⟩ (.int .i64 ((a:Int)+(v:Int)))).setCell ⟨d.heap.size,2,none⟩ (.int .i64 0)) d.heap.size 252 #[.slice A n c,.int .i64 ((a:Int)+(v:Int)),.int .i64 0]):=((g.out.set_ 0 _).set_ 1 _).set_ 2 _
 have F:Hid (Reads (((k.setCell ⟨d.heap.size,0,none⟩ (.slice A n c)).setCell ⟨d.heap.size,1,none⟩ (.int .i64 ((a:Int)+(v:Int)))).setCell ⟨d.heap.size,2,none⟩ (.int .i64 0)) B 1 A' v (byteCells ((bs.drop a).take v))):=((U.out.setCell (by simp;omega) _).setCell (by simp;omega) _).setCell (by simp;omega) _
 generalize ((k.setCell ⟨d.heap.size,0,none⟩ (.slice A n c)).setCell ⟨d.heap.size,1,none⟩ (.int .i64 ((a:Int)+(v:Int)))).setCell ⟨d.heap.size,2,none⟩ (.int .i64 0)=w4 at C4 L F ⊢
 obtain⟨k0,s,t,o,p,q,u,D,y,x,C,z⟩:=C4.out.cells
 refine wp_region_noPanic ?_
 refine wp_region_held_drew (S:=fun W=>Blk W d.heap.size 252 #[.slice A n c,.int .i64 ((a:Int)+(v:Int)),.int .i64 0]∧Reads W B 1 A' v (byteCells ((bs.drop a).take v))) (by kernel_rfl) ⟨L.out.drew,F.out.drew⟩ (fun b=>?_)
 refine tS 0 b ?_ (hy:=by(intro W i;(try dsimp only at i);have M:=i.1.cell 0;have E:=i.1.cell 1;have I:=i.1.cell 2;simp only[List.getElem?_toArray,List.getElem?_cons_zero,List.getElem?_cons_succ]at M E I;go_simp;try with_reducible rfl))
 refine tS 1 b ?_
 refine tS 2 b ?_ (hy:=by(intro W i;(try dsimp only at i);have ah:=lT i.2 v;go_simp;try with_reducible rfl))
 refine wpAnyH_ready (rs:=[3]) (by kernel_rfl) (by simp) ?_
 refine AllReadyH.cons rfl (fun K hK=>?_) AllReadyH.nil
 go_simp
 refine hK.out _ _ (by refine⟨?_,?_⟩<;>repeat (first | exact b.1 | exact b.2 | refine Blk.drew ?_ | refine Blk.far ?_ (by simp;omega) _ | refine Reads.drew ?_ | refine Reads.setCell ?_ (by simp;omega) _)) (fun b=>?_)
 clear hK K
 try simp only[Act.put,sI,sZ,sS]
 refine tS 4 b ?_
 refine wpAnyH_done (by kernel_rfl) ?_ _
 refine NoPanic.normal ?_
 go_wp2
 have ab:=C4.out.2.2
 exact bodyPost_ret (v := .tuple #[.agg #[.slice A n c,.int .i64 ((a:Int)+(v:Int)),.int .i64 0],.string ⟨((bs.drop a).take v).toArray⟩]) (by simp[results,Tryz.results261,go_sem,o,p,q]) rfl ⟨rfl,(by repeat (first | refine Below.setCell ?_ (by simp;try omega) _ | refine Below.drew ?_ | refine below_drewN ?_ _ | refine Below.alloc ?_ (by simp;try omega) _ | exact ab))⟩
end
section
open Go.RowKit
theorem Aj (A:Option Addr) (n c:Nat) (at_ err:Int) (bs:List UInt8) (B:Nat) (w:World) (h:Reads w B 1 A n (byteCells bs)) (hB:B≤w.heap.size) (b:n≤c) (d:c≤9223372036854775807) (i:n≤10000) (most:Int) (f:most≤9223372036854775807):
 Calls Tryz.prog 261 #[.agg #[.slice A n c,.int .i64 at_,.int .i64 err],.int .i64 most] w fun e w'=>e = .returned (.tuple #[.agg #[.slice A n c,.int .i64 (jI bs at_ err most).1,.int .i64 (jI bs at_ err most).2.1],.string ⟨(jI bs at_ err most).2.2.toArray⟩])∧Below w.heap.size w w':=by
 have l:=h.lenB
 obtain⟨⟨x,y,v⟩,g⟩:∃ r,bT bs at_ err=r:=⟨_,rfl⟩
 have p:jI bs at_ err most=if y≠0 then(x,y,[]) else if most<0∨most<(v:Int) then(at_,9,[]) else if(bs.length:Int)-x<(v:Int) then(at_,10,[]) else(x+(v:Nat),0,(bs.drop x.toNat).take v):=by unfold jI;rw[g]
 rw[p]
 by_cases hy:y=0
 ·subst hy
  obtain⟨rfl,o,m,_,_⟩:=hJ bs at_ err x v g
  rw[if_neg (by simp)]
  by_cases k:most<0∨most<(v:Int)
  ·rw[if_pos k]
   by_cases j:most<0
   ·exact AR A n c at_ bs B w h hB b d i most f x v g j
   ·exact ze A n c at_ bs B w h hB b d i most f x v g (by omega) (by omega)
  ·rw[if_neg k]
   by_cases j:(bs.length:Int)-x<(v:Int)
   ·rw[if_pos j]
    exact vC A n c at_ bs B w h hB b d i most f x v g (by omega) (by omega) (by omega)
   ·rw[if_neg j]
    obtain⟨a,rfl⟩:∃ a:Nat,x=(a:Int):=⟨x.toNat,by omega⟩
    rw[Int.toNat_natCast]
    exact Dz A n c at_ bs B w h hB b d i most f a v g (by omega) (by omega) (by omega)
 ·rw[if_pos hy]
  exact Co A n c at_ err bs B w h hB b d i most x y v g hy
def b6:List UInt8:=[172,2,1,2,97,98]
end
section
open Go.ChangeShapes Go.WideShapes Go.ChangeAt Go.RowKit Go.Deep
section
variable {H:Type} {enc:TypeId×Value→H}
theorem vq {w:World} {base:Nat} {fuel:Nat} {cs:List Value} {x:DataW H×List MemPlace} (h:DataW.trod enc Tryz.prog w base (fun _=>true) true fuel 44 cs=some x):
 ∃ (q:Int) (a:Int) (k:Int) (b:ByteArray) (x:Int) (y:Int) (z:Int),cs = [.int .i64 q,.int .i64 a,.int .i64 k,.string b,.int .i64 x,.int .i64 y,.int .i64 z]∧(Lit.int .i64 q).wf=true∧(Lit.int .i64 a).wf=true∧(Lit.int .i64 k).wf=true∧b.size≤maxLen∧(Lit.int .i64 x).wf=true∧(Lit.int .i64 y).wf=true∧(Lit.int .i64 z).wf=true:=by
 obtain⟨xs,n,J,_,j,d,hall⟩:=DataW.trod_struct Tryz.underlying44 h
 rw[show Tryz.prog.cellsOf 44=7 from by kernel_rfl]at j
 match cs,j with
 | [c0,c1,c2,c3,c4,c5,c6],_=>
   have c:xs.length=7:=d
   match xs,c with
   | [x0,x1,x2,x3,x4,x5,x6],_=>
     have s:DataW.trod enc Tryz.prog w base (fun _=>true) true n 2 [c0]=some x0:=by
      have h:DataW.trod enc Tryz.prog w base (fun _=>true) true n 2 ((([c0,c1,c2,c3,c4,c5,c6]:List Value).drop 0).take (Tryz.prog.cellsOf 2))=([x0,x1,x2,x3,x4,x5,x6])[0]?:=hall 0 _ rfl
      rw[show Tryz.prog.cellsOf 2=1 from by kernel_rfl]at h
      exact h
     have C:DataW.trod enc Tryz.prog w base (fun _=>true) true n 2 [c1]=some x1:=by
      have h:DataW.trod enc Tryz.prog w base (fun _=>true) true n 2 ((([c0,c1,c2,c3,c4,c5,c6]:List Value).drop 1).take (Tryz.prog.cellsOf 2))=([x0,x1,x2,x3,x4,x5,x6])[1]?:=hall 1 _ rfl
      rw[show Tryz.prog.cellsOf 2=1 from by kernel_rfl]at h
      exact h
     have p:DataW.trod enc Tryz.prog w base (fun _=>true) true n 3 [c2]=some x2:=by
      have h:DataW.trod enc Tryz.prog w base (fun _=>true) true n 3 ((([c0,c1,c2,c3,c4,c5,c6]:List Value).drop 2).take (Tryz.prog.cellsOf 3))=([x0,x1,x2,x3,x4,x5,x6])[2]?:=hall 2 _ rfl
      rw[show Tryz.prog.cellsOf 3=1 from by kernel_rfl]at h
      exact h
     have A:DataW.trod enc Tryz.prog w base (fun _=>true) true n 9 [c3]=some x3:=by
      have h:DataW.trod enc Tryz.prog w base (fun _=>true) true n 9 ((([c0,c1,c2,c3,c4,c5,c6]:List Value).drop 3).take (Tryz.prog.cellsOf 9))=([x0,x1,x2,x3,x4,x5,x6])[3]?:=hall 3 _ rfl
      rw[show Tryz.prog.cellsOf 9=1 from by kernel_rfl]at h
      exact h
     have I:DataW.trod enc Tryz.prog w base (fun _=>true) true n 2 [c4]=some x4:=by
      have h:DataW.trod enc Tryz.prog w base (fun _=>true) true n 2 ((([c0,c1,c2,c3,c4,c5,c6]:List Value).drop 4).take (Tryz.prog.cellsOf 2))=([x0,x1,x2,x3,x4,x5,x6])[4]?:=hall 4 _ rfl
      rw[show Tryz.prog.cellsOf 2=1 from by kernel_rfl]at h
      exact h
     have u:DataW.trod enc Tryz.prog w base (fun _=>true) true n 2 [c5]=some x5:=by
      have h:DataW.trod enc Tryz.prog w base (fun _=>true) true n 2 ((([c0,c1,c2,c3,c4,c5,c6]:List Value).drop 5).take (Tryz.prog.cellsOf 2))=([x0,x1,x2,x3,x4,x5,x6])[5]?:=hall 5 _ rfl
      rw[show Tryz.prog.cellsOf 2=1 from by kernel_rfl]at h
      exact h
     have B:DataW.trod enc Tryz.prog w base (fun _=>true) true n 2 [c6]=some x6:=by
      have h:DataW.trod enc Tryz.prog w base (fun _=>true) true n 2 ((([c0,c1,c2,c3,c4,c5,c6]:List Value).drop 6).take (Tryz.prog.cellsOf 2))=([x0,x1,x2,x3,x4,x5,x6])[6]?:=hall 6 _ rfl
      rw[show Tryz.prog.cellsOf 2=1 from by kernel_rfl]at h
      exact h
     obtain⟨q,o,_,D⟩:=DataW.trod_int Tryz.underlying2 s
     obtain⟨a,g,_,v⟩:=DataW.trod_int Tryz.underlying2 C
     obtain⟨k,m,_,r⟩:=DataW.trod_int Tryz.underlying3 p
     obtain⟨b,f,_,G⟩:=DataW.trod_string Tryz.underlying9 A
     obtain⟨x,i,_,E⟩:=DataW.trod_int Tryz.underlying2 I
     obtain⟨y,e,_,F⟩:=DataW.trod_int Tryz.underlying2 u
     obtain⟨z,l,_,t⟩:=DataW.trod_int Tryz.underlying2 B
     simp only[List.cons.injEq,and_true]at o g m f i e l
     subst o g m f i e l
     exact⟨q,a,k,b,x,y,z,rfl,D,v,r,G,E,F,t⟩
end
end
section
open Go.ChangeShapes Go.WideShapes Go.ChangeAt Go.RowKit Go.Deep
def aH (evs:List Evt):List Value:=evs.flatMap (fun e=>(evA e).toList)
theorem iY (e:Evt) (l:List Evt):aH (e::l)=(evA e).toList++aH l:=by simp[aH]
theorem oy (a b:List Evt):aH (a++b)=aH a++aH b:=by simp[aH]
theorem jz (a:List Evt):(aH a).length=a.length*7:=by
 induction a with
 | nil=>rfl
 | cons e l ih=>rw[iY,List.length_append,ih,List.length_cons];simp;omega
theorem Df:∀ (a:List Evt) (i:Nat) (e:Evt),a[i]?=some e → ∀ j u,(evA e)[j]?=some u→(aH a)[i*7+j]?=some u
 | [],i,e,h,_,_,_=>by simp at h
 | x::l,0,e,h,j,u,hu=>by
   simp at h;subst h
   rw[iY,Nat.zero_mul,Nat.zero_add]
   have b:j<7:=by
    rcases Nat.lt_or_ge j 7 with h | h
    ·exact h
    ·rw[Array.getElem?_eq_none (by simpa using h)]at hu;cases hu
   rw[List.getElem?_append_left (by simpa using b)]
   simpa using hu
 | x::l,i+1,e,h,j,u,hu=>by
   rw[iY,List.getElem?_append_right (by simp;omega)]
   rw[show(i+1)*7+j-(evA x).toList.length=i*7+j from by simp;omega]
   exact Df l i e (by simpa using h) j u hu
theorem Cm {w:World} {B n i:Nat} {A:Option Addr} {b:List Evt} (h:Reads w B 7 A n (aH b)) (t:i<n):
 ∃ (ad:Addr) (e:Evt),A=some ad∧ad.block<B∧b[i]?=some e∧w.cell? (ad.add (i*7))=some (.int .i64 e.q)∧w.cell? ⟨(ad.add (i*7)).block,(ad.add (i*7)).off+1,none⟩=some (.int .i64 e.a)∧w.cell? ⟨(ad.add (i*7)).block,(ad.add (i*7)).off+2,none⟩=some (.int .i64 e.k)∧w.cell? ⟨(ad.add (i*7)).block,(ad.add (i*7)).off+3,none⟩=some (.string e.cm)∧w.cell? ⟨(ad.add (i*7)).block,(ad.add (i*7)).off+4,none⟩=some (.int .i64 e.x)∧w.cell? ⟨(ad.add (i*7)).block,(ad.add (i*7)).off+5,none⟩=some (.int .i64 e.y)∧w.cell? ⟨(ad.add (i*7)).block,(ad.add (i*7)).off+6,none⟩=some (.int .i64 e.z):=by
 have v:b.length=n:=by have:=h.1;rw[jz]at this;omega
 obtain⟨ad,rfl,p,r⟩:=h.2 (by omega)
 obtain⟨e,m⟩:∃ e,b[i]?=some e:=⟨_,List.getElem?_eq_getElem (by omega)⟩
 have q:∀ j u,(evA e)[j]?=some u→w.cell? ((ad.add (i*7)).add j)=some u:=fun j u s=>by rw[cB];exact r _ u (Df b i e m j u s)
 have c:=q 1 _ rfl
 rw[gC _ 1 (by omega)]at c
 have g:=q 2 _ rfl
 rw[gC _ 2 (by omega)]at g
 have o:=q 3 _ rfl
 rw[gC _ 3 (by omega)]at o
 have f:=q 4 _ rfl
 rw[gC _ 4 (by omega)]at f
 have l:=q 5 _ rfl
 rw[gC _ 5 (by omega)]at l
 have d:=q 6 _ rfl
 rw[gC _ 6 (by omega)]at d
 exact⟨ad,e,rfl,p,m,q 0 _ rfl,c,g,o,f,l,d⟩
theorem Reads.ev_len {w:World} {B n:Nat} {A:Option Addr} {a:List Evt} (h:Reads w B 7 A n (aH a)):a.length=n:=by have:=h.1;rw[jz]at this;omega
section
variable {H:Type} {enc:TypeId×Value→H}
end
end
section
open Go.RowKit
theorem wC (a b:Nat) (c:a<9223372036854775808) (e:b<9223372036854775808):bits .or .i64 (a:Int) (b:Int)=((a ||| b:Nat):Int):=by
 have f:a ||| b<2^63:=Nat.or_lt_two_pow (by omega) (by omega)
 have d:∀ a:Nat,a<9223372036854775808→(BitVec.ofInt 64 (a:Int)).toNat=a:=fun a c=>by
  rw[BitVec.ofInt_natCast,BitVec.toNat_ofNat];exact Nat.mod_eq_of_lt (by omega)
 show IntKind.i64.wrap ((BitVec.ofInt 64 (a:Int) ||| BitVec.ofInt 64 (b:Int)).toNat:Int)=_
 rw[BitVec.toNat_or,d a c,d b e,IntKind.wrap_i64]
 omega
theorem Fj (a b:Nat) (c:b<256):a*256 ||| b=256*a+b:=by
 have h:=Nat.two_pow_add_eq_or_of_lt (i:=8) (b:=b) (by omega) a
 rw[show a*256=2^8*a from by omega,←h]
theorem iC (a b:UInt8):bits .or .i64 ((a.toNat:Int)*256) (b.toNat:Int)=((256*a.toNat+b.toNat:Nat):Int):=by
 have d:=a.toNat_lt
 have c:=b.toNat_lt
 rw[show(a.toNat:Int)*256=((a.toNat*256:Nat):Int) from by omega,wC _ _ (by omega) (by omega),Fj _ _ c]
theorem CU (A:Option Addr) (n c:Nat) (at_:Int) (w:World) (h:at_<0∨(n:Int)<at_):
 Calls Tryz.prog 50 #[.slice A n c,.int .i64 at_] w fun e w'=>e = .returned (.tuple #[.int .i64 3,.int .i64 0,.slice none 0 0,.int .i64 0])∧w=w':=by
 by_cases a:at_<0
 ·have d:decide (at_<0)=true:=by simpa using a
  clear h
  go_enter Tryz.func50,Tryz.ntmps50
  go_wp2
  ((try simp only[Exit.inBlock,Exit.then]);refine bodyPost_ret (bW rfl _ _ _) rfl ?_)
  exact⟨rfl,rfl⟩
 ·have d:decide (at_<0)=false:=by simpa using a
  have b:decide ((n:Int)<at_)=true:=by simp;omega
  clear h
  go_enter Tryz.func50,Tryz.ntmps50
  go_wp2
  ((try simp only[Exit.inBlock,Exit.then]);refine bodyPost_ret (bW rfl _ _ _) rfl ?_)
  exact⟨rfl,rfl⟩
theorem Di (A:Option Addr) (n c:Nat) (w:World) (b:n≤c):
 Calls Tryz.prog 50 #[.slice A n c,.int .i64 (n:Int)] w fun e w'=>e = .returned (.tuple #[.int .i64 1,.int .i64 0,.slice none 0 0,.int .i64 0])∧w=w':=by
 by_cases a:c=n
 ·subst a
  go_enter Tryz.func50,Tryz.ntmps50
  go_wp2
  ((try simp only[Exit.inBlock,Exit.then]);refine bodyPost_ret (bW rfl _ _ _) rfl ?_)
  exact⟨rfl,rfl⟩
 ·go_enter Tryz.func50,Tryz.ntmps50
  go_wp2
  ((try simp only[Exit.inBlock,Exit.then]);refine bodyPost_ret (bW rfl _ _ _) rfl ?_)
  exact⟨rfl,rfl⟩
theorem Cs (A:Option Addr) (a m b:Nat) (w:World) (j:0<m) (k:m<7) (h:m≤b) (d:a+b≤9223372036854775807):
 Calls Tryz.prog 50 #[.slice A (a+m) (a+b),.int .i64 (a:Int)] w fun e w'=>e = .returned (.tuple #[.int .i64 2,.int .i64 0,.slice none 0 0,.int .i64 0])∧w=w':=by
 have g:¬ b=0:=by omega
 have i:decide (((a+m:Nat):Int)<(a:Int))=false:=by simp;omega
 have f:((m:Int) == 0)=false:=by rw[beq_eq_false_iff_ne];omega
 have c:decide ((m:Int)<7)=true:=by simp;omega
 go_enter Tryz.func50,Tryz.ntmps50
 go_wp2
 ((try simp only[Exit.inBlock,Exit.then]);refine bodyPost_ret (bW rfl _ _ _) rfl ?_)
 exact⟨rfl,rfl⟩
theorem CL (ad:Addr) (a m l:Nat) (bs:List UInt8) (n j p:UInt8) (B:Nat) (w:World) (N:7≤m) (I:m≤10000) (z:m≤l) (E:a+l≤9223372036854775807)
 (i:Reads w B 1 (some ad) (a+m) (byteCells bs)) (hB:B≤w.heap.size) (v:bs[a]?=some n) (u:bs[a+1]?=some j) (x:bs[a+2]?=some p) (q:Nat) (t:256*n.toNat+j.toNat=q) (H:200<q):
 Calls Tryz.prog 50 #[.slice (some ad) (a+m) (a+l),.int .i64 (a:Int)] w fun e w'=>e = .returned (.tuple #[.int .i64 3,.int .i64 0,.slice none 0 0,.int .i64 0])∧Below w.heap.size w w':=by
 obtain⟨ad',f⟩:∃ ad',ad.add a=ad':=⟨_,rfl⟩
 obtain⟨g,_,h,_,d,c0⟩:=i.byte_at (k:=a) (by omega)
 cases h
 rw[v]at d;cases d
 obtain⟨g,_,h,_,b,o⟩:=i.byte_at (k:=a+1) (by omega)
 cases h
 rw[u]at b;cases b
 obtain⟨g,_,h,_,c,r⟩:=i.byte_at (k:=a+2) (by omega)
 cases h
 rw[x]at c;cases c
 rw[f]at c0
 rw[←cB,f]at o r
 have M:=Lib.hid i
 clear i v u x
 have F:w.cell? ⟨ad'.block,ad'.off+1,none⟩=some (.int .u8 (j.toNat:Int)):=o
 have G:w.cell? ⟨ad'.block,ad'.off+2,none⟩=some (.int .u8 (p.toNat:Int)):=r
 clear o r
 have s:=iC n j
 rw[t]at s
 have d:=n.toNat_lt
 have b:=j.toNat_lt
 have c:=p.toNat_lt
 have y:q<65536:=by omega
 have J:=Lib.hid t
 clear t
 have D:¬ l=0:=by omega
 have L:decide (((a+m:Nat):Int)<(a:Int))=false:=by simp;omega
 have C:((m:Int) == 0)=false:=by rw[beq_eq_false_iff_ne];omega
 have A:decide ((m:Int)<7)=false:=by simp;omega
 have K:decide ((200:Int)<(q:Int))=true:=by simp;omega
 go_enter Tryz.func50,Tryz.ntmps50
 go_wp2
 go_quiet (fail)
 go_wp2
 ((try simp only[Exit.inBlock,Exit.then]);refine bodyPost_ret (bW rfl _ _ _) rfl ?_)
 exact⟨rfl,below_drewN (Below.refl _ _) _⟩
theorem zm (ad:Addr) (a m l:Nat) (bs:List UInt8) (n j p:UInt8) (B:Nat) (w:World) (P:7≤m) (J:m≤10000) (A:m≤l) (F:a+l≤9223372036854775807)
 (i:Reads w B 1 (some ad) (a+m) (byteCells bs)) (hB:B≤w.heap.size) (v:bs[a]?=some n) (u:bs[a+1]?=some j) (x:bs[a+2]?=some p) (q:Nat) (t:256*n.toNat+j.toNat=q) (I:q≤200) (z:m<q+7):
 Calls Tryz.prog 50 #[.slice (some ad) (a+m) (a+l),.int .i64 (a:Int)] w fun e w'=>e = .returned (.tuple #[.int .i64 2,.int .i64 0,.slice none 0 0,.int .i64 0])∧Below w.heap.size w w':=by
 obtain⟨ad',f⟩:∃ ad',ad.add a=ad':=⟨_,rfl⟩
 obtain⟨g,_,h,_,d,c0⟩:=i.byte_at (k:=a) (by omega)
 cases h
 rw[v]at d;cases d
 obtain⟨g,_,h,_,b,o⟩:=i.byte_at (k:=a+1) (by omega)
 cases h
 rw[u]at b;cases b
 obtain⟨g,_,h,_,c,r⟩:=i.byte_at (k:=a+2) (by omega)
 cases h
 rw[x]at c;cases c
 rw[f]at c0
 rw[←cB,f]at o r
 have O:=Lib.hid i
 clear i v u x
 have G:w.cell? ⟨ad'.block,ad'.off+1,none⟩=some (.int .u8 (j.toNat:Int)):=o
 have H:w.cell? ⟨ad'.block,ad'.off+2,none⟩=some (.int .u8 (p.toNat:Int)):=r
 clear o r
 have s:=iC n j
 rw[t]at s
 have d:=n.toNat_lt
 have b:=j.toNat_lt
 have c:=p.toNat_lt
 have y:q<65536:=by omega
 have K:=Lib.hid t
 clear t
 have E:¬ l=0:=by omega
 have N:decide (((a+m:Nat):Int)<(a:Int))=false:=by simp;omega
 have D:((m:Int) == 0)=false:=by rw[beq_eq_false_iff_ne];omega
 have C:decide ((m:Int)<7)=false:=by simp;omega
 have M:decide ((200:Int)<(q:Int))=false:=by simp;omega
 have L:decide ((m:Int)<(q:Int)+7)=true:=by simp;omega
 go_enter Tryz.func50,Tryz.ntmps50
 go_wp2
 go_quiet (fail)
 go_wp2
 ((try simp only[Exit.inBlock,Exit.then]);refine bodyPost_ret (bW rfl _ _ _) rfl ?_)
 exact⟨rfl,below_drewN (Below.refl _ _) _⟩
theorem zz (ad:Addr) (a m n:Nat) (bs:List UInt8) (o l f:UInt8) (B:Nat) (w:World) (S:7≤m) (M:m≤10000) (C:m≤n) (G:a+n≤9223372036854775807)
 (j:Reads w B 1 (some ad) (a+m) (byteCells bs)) (hB:B≤w.heap.size) (x:bs[a]?=some o) (v:bs[a+1]?=some l) (y:bs[a+2]?=some f) (q:Nat) (t:256*o.toNat+l.toNat=q) (K:q≤200) (A:q+7≤m) (u:(f.toNat:Int)<1∨3<(f.toNat:Int)):
 Calls Tryz.prog 50 #[.slice (some ad) (a+m) (a+n),.int .i64 (a:Int)] w fun e w'=>e = .returned (.tuple #[.int .i64 3,.int .i64 0,.slice none 0 0,.int .i64 0])∧Below w.heap.size w w':=by
 obtain⟨ad',g⟩:∃ ad',ad.add a=ad':=⟨_,rfl⟩
 obtain⟨h,_,i,_,d,c0⟩:=j.byte_at (k:=a) (by omega)
 cases i
 rw[x]at d;cases d
 obtain⟨h,_,i,_,b,p⟩:=j.byte_at (k:=a+1) (by omega)
 cases i
 rw[v]at b;cases b
 obtain⟨h,_,i,_,c,r⟩:=j.byte_at (k:=a+2) (by omega)
 cases i
 rw[y]at c;cases c
 rw[g]at c0
 rw[←cB,g]at p r
 have R:=Lib.hid j
 clear j x v y
 have H:w.cell? ⟨ad'.block,ad'.off+1,none⟩=some (.int .u8 (l.toNat:Int)):=p
 have I:w.cell? ⟨ad'.block,ad'.off+2,none⟩=some (.int .u8 (f.toNat:Int)):=r
 clear p r
 have s:=iC o l
 rw[t]at s
 have d:=o.toNat_lt
 have b:=l.toNat_lt
 have c:=f.toNat_lt
 have z:q<65536:=by omega
 have N:=Lib.hid t
 clear t
 have F:¬ n=0:=by omega
 have Q:decide (((a+m:Nat):Int)<(a:Int))=false:=by simp;omega
 have E:((m:Int) == 0)=false:=by rw[beq_eq_false_iff_ne];omega
 have D:decide ((m:Int)<7)=false:=by simp;omega
 have J:=Lib.hid u;clear u
 have P:decide ((200:Int)<(q:Int))=false:=by simp;omega
 have O:decide ((m:Int)<(q:Int)+7)=false:=by simp;omega
 go_enter Tryz.func50,Tryz.ntmps50
 go_wp2
 go_quiet (fail)
 go_wp2_with fail
 refine(zo _ _ J.out).mono ?_
 rintro e L ⟨rfl,rfl⟩
 go_wp2
 ((try simp only[Exit.inBlock,Exit.then]);refine bodyPost_ret (bW rfl _ _ _) rfl ?_)
 exact⟨rfl,below_drewN (Below.refl _ _) _⟩
theorem qP (t:Nat→Nat) (h:∀ i,i<256→t i<4294967296) (A:Option Addr) (n m c B:Nat) (bs:List UInt8) (w:World) (b:n=m+4) (g:Reads w B 1 A n (byteCells bs)) (hB:B≤w.heap.size) (a:n≤c) (j:n≤900000) (f:c≤9223372036854775807) (d:(fK t (bs.take m) == bs)=true):
 Calls Tryz.prog 109 #[.agg (bB t),.slice A n c] w fun e w'=>e = .returned (.tuple #[.slice A m m,.int .i64 0])∧Below w.heap.size w w':=by
 subst b
 exact tQ t h A m c B bs w g hB a (by omega) f true d
theorem wN (t:Nat→Nat) (h:∀ i,i<256→t i<4294967296) (A:Option Addr) (n m c B:Nat) (bs:List UInt8) (w:World) (b:n=m+4) (g:Reads w B 1 A n (byteCells bs)) (hB:B≤w.heap.size) (a:n≤c) (j:n≤900000) (f:c≤9223372036854775807) (d:(fK t (bs.take m) == bs)=false):
 Calls Tryz.prog 109 #[.agg (bB t),.slice A n c] w fun e w'=>e = .returned (.tuple #[.slice none 0 0,.int .i64 12])∧Below w.heap.size w w':=by
 subst b
 exact tQ t h A m c B bs w g hB a (by omega) f false d
theorem CO (ad:Addr) (a m cm:Nat) (bs:List UInt8) (s r i:UInt8) (B:Nat) (w:World) (h7:7≤m) (hm:m≤10000) (P:m≤cm) (V:a+cm≤9223372036854775807)
 (p:Reads w B 1 (some ad) (a+m) (byteCells bs)) (hB:B≤w.heap.size) (H:bs[a]?=some s) (G:bs[a+1]?=some r) (I:bs[a+2]?=some i) (q:Nat) (E:256*s.toNat+r.toNat=q) (hp:q≤200) (O:q+7≤m) (A:1≤(i.toNat:Int)) (z:(i.toNat:Int)≤3) (F:(fK cZ (((bs.drop a).take (q+7)).take (q+3)) == (bs.drop a).take (q+7))=false):
 Calls Tryz.prog 50 #[.slice (some ad) (a+m) (a+cm),.int .i64 (a:Int)] w fun e w'=>e = .returned (.tuple #[.int .i64 3,.int .i64 0,.slice none 0 0,.int .i64 0])∧Below w.heap.size w w':=by
 obtain⟨ad',d⟩:∃ ad',ad.add a=ad':=⟨_,rfl⟩
 obtain⟨j,_,l,_,g,c0⟩:=p.byte_at (k:=a) (by omega)
 cases l
 rw[H]at g;cases g
 obtain⟨j,_,l,_,c,t⟩:=p.byte_at (k:=a+1) (by omega)
 cases l
 rw[G]at c;cases c
 obtain⟨j,_,l,_,f,x⟩:=p.byte_at (k:=a+2) (by omega)
 cases l
 rw[I]at f;cases f
 rw[d]at c0
 rw[←cB,d]at t x
 have HR:=Lib.hid p
 clear p H G I
 have Y:w.cell? ⟨ad'.block,ad'.off+1,none⟩=some (.int .u8 (r.toNat:Int)):=t
 have Z:w.cell? ⟨ad'.block,ad'.off+2,none⟩=some (.int .u8 (i.toNat:Int)):=x
 clear t x
 have C:=iC s r
 rw[E]at C
 have g:=s.toNat_lt
 have c:=r.toNat_lt
 have f:=i.toNat_lt
 have M:q<65536:=by omega
 have HQ:=Lib.hid E
 clear E
 have U:¬ cm=0:=by omega
 have hd:decide (((a+m:Nat):Int)<(a:Int))=false:=by simp;omega
 have T:((m:Int) == 0)=false:=by rw[beq_eq_false_iff_ne];omega
 have R:decide ((m:Int)<7)=false:=by simp;omega
 have N:=Lib.hid F;clear F
 have h2:decide ((200:Int)<(q:Int))=false:=by simp;omega
 have h3:decide ((m:Int)<(q:Int)+7)=false:=by simp;omega
 have u:=Lib.hid (show Reads w B 1 (some ad') (q+7) (byteCells ((bs.drop a).take (q+7))) from by
  have h:=(HR.out.sufB (k:=a) (cap:=a+cm) (by omega) (by omega)).preB (k:=q+7) (by omega)
  rw[if_neg (by omega),Option.map_some,d]at h
  exact h)
 have v:q+7≤cm:=by omega
 have J:(q:Int)+7≤(cm:Int):=by omega
 have X:(0:Int)≤(q:Int)+7:=by omega
 have L:IntKind.i64.wrap ((q:Int)+7)=(q:Int)+7:=IntWalk.i64_in _ (by omega)
 have Q:((q:Int)+7).toNat=q+7:=by omega
 go_enter Tryz.func50,Tryz.ntmps50
 go_wp2
 go_quiet (fail)
 go_wp2_with fail
 refine(lE _ _ A z).mono ?_
 rintro e w1 ⟨rfl,rfl⟩
 go_wp2_with fail
 generalize hW:w.drewN _=w0
 have D:=Lib.hid (show Below w.heap.size w w0 from by rw[←hW];exact below_drewN (Below.refl _ _) _)
 clear hW
 refine wp_region_noPanic ?_
 refine wp_region_held_drew (S:=fun W=>Below w.heap.size w W) (by kernel_rfl) D.out.drew (fun b=>?_)
 refine tS 1 b ?_
 refine tS 2 b ?_
 refine tS 3 b ?_
 refine wpAnyH_ready (rs:=[0]) (by kernel_rfl) (by simp) ?_
 refine AllReadyH.cons rfl (fun K hK=>?_) AllReadyH.nil
 go_simp
 refine(mD _).mono ?_
 rintro e w2 ⟨rfl,n⟩
 refine hK.out _ _ (b.trans (n.mono (Below.size b))) (fun b=>?_)
 clear hK K
 try simp only[Act.put,sI,sZ,sS]
 refine wpAnyH_ready (rs:=[4]) (by kernel_rfl) (by simp) ?_
 refine AllReadyH.cons rfl (fun K hK=>?_) AllReadyH.nil
 go_simp
 refine(wN cZ DD (some ad') (q+7) (q+3) cm B ((bs.drop a).take (q+7)) _ rfl (u.out.below (Below.mono b hB)) (Nat.le_trans hB (Below.size b)) v (by omega) (by omega) N.out).mono ?_
 rintro e w3 ⟨rfl,o⟩
 refine hK.out _ _ (b.trans (o.mono (Below.size b))) (fun b=>?_)
 clear hK K
 try simp only[Act.put,sI,sZ,sS]
 refine tS 5 b ?_
 refine tS 6 b ?_
 refine tS 7 b ?_
 refine tS 8 b ?_
 refine tS 9 b ?_
 refine wpAnyH_done (by kernel_rfl) ?_ _
 refine NoPanic.normal ?_
 have y:Hid (Below w.heap.size w w3):=b
 clear b n o
 go_wp2
 ((try simp only[Exit.inBlock,Exit.then]);refine bodyPost_ret (bW rfl _ _ _) rfl ?_)
 exact⟨rfl,y.out⟩
theorem BX (ad:Addr) (a m cm:Nat) (bs:List UInt8) (x v l:UInt8) (B:Nat) (w:World) (h7:7≤m) (hm:m≤10000) (T:m≤cm) (Z:a+cm≤9223372036854775807)
 (u:Reads w B 1 (some ad) (a+m) (byteCells bs)) (hB:B≤w.heap.size) (J:bs[a]?=some x) (I:bs[a+1]?=some v) (L:bs[a+2]?=some l) (q:Nat) (G:256*x.toNat+v.toNat=q) (hp:q≤200) (R:q+7≤m) (D:1≤(l.toNat:Int)) (C:(l.toNat:Int)≤3) (H:(fK cZ (((bs.drop a).take (q+7)).take (q+3)) == (bs.drop a).take (q+7))=true):
 Calls Tryz.prog 50 #[.slice (some ad) (a+m) (a+cm),.int .i64 (a:Int)] w fun e w' => ∃ A',e = .returned (.tuple #[.int .i64 0,.int .i64 (l.toNat:Int),.slice A' q q,.int .i64 ((q:Int)+7)])∧Reads w' B 1 A' q (byteCells ((bs.drop (a+3)).take q))∧Below w.heap.size w w':=by
 obtain⟨ad',f⟩:∃ ad',ad.add a=ad':=⟨_,rfl⟩
 obtain⟨p,_,r,_,j,c0⟩:=u.byte_at (k:=a) (by omega)
 cases r
 rw[J]at j;cases j
 obtain⟨p,_,r,_,d,y⟩:=u.byte_at (k:=a+1) (by omega)
 cases r
 rw[I]at d;cases d
 obtain⟨p,_,r,_,i,A⟩:=u.byte_at (k:=a+2) (by omega)
 cases r
 rw[L]at i;cases i
 rw[f]at c0
 rw[←cB,f]at y A
 have HR:=Lib.hid u
 clear u J I L
 have ac:w.cell? ⟨ad'.block,ad'.off+1,none⟩=some (.int .u8 (v.toNat:Int)):=y
 have ae:w.cell? ⟨ad'.block,ad'.off+2,none⟩=some (.int .u8 (l.toNat:Int)):=A
 clear y A
 have E:=iC x v
 rw[G]at E
 have j:=x.toNat_lt
 have d:=v.toNat_lt
 have i:=l.toNat_lt
 have P:q<65536:=by omega
 have HQ:=Lib.hid G
 clear G
 have Y:¬ cm=0:=by omega
 have hd:decide (((a+m:Nat):Int)<(a:Int))=false:=by simp;omega
 have X:((m:Int) == 0)=false:=by rw[beq_eq_false_iff_ne];omega
 have V:decide ((m:Int)<7)=false:=by simp;omega
 have Q:=Lib.hid H;clear H
 have h2:decide ((200:Int)<(q:Int))=false:=by simp;omega
 have h3:decide ((m:Int)<(q:Int)+7)=false:=by simp;omega
 have o:=Lib.hid (show Reads w B 1 (some ad') (q+7) (byteCells ((bs.drop a).take (q+7))) from by
  have h:=(HR.out.sufB (k:=a) (cap:=a+cm) (by omega) (by omega)).preB (k:=q+7) (by omega)
  rw[if_neg (by omega),Option.map_some,f]at h
  exact h)
 have z:q+7≤cm:=by omega
 have N:(q:Int)+7≤(cm:Int):=by omega
 have ab:(0:Int)≤(q:Int)+7:=by omega
 have O:IntKind.i64.wrap ((q:Int)+7)=(q:Int)+7:=IntWalk.i64_in _ (by omega)
 have U:((q:Int)+7).toNat=q+7:=by omega
 go_enter Tryz.func50,Tryz.ntmps50
 go_wp2
 go_quiet (fail)
 go_wp2_with fail
 refine(lE _ _ D C).mono ?_
 rintro e w1 ⟨rfl,rfl⟩
 go_wp2_with fail
 generalize hW:w.drewN _=w0
 have F:=Lib.hid (show Below w.heap.size w w0 from by rw[←hW];exact below_drewN (Below.refl _ _) _)
 clear hW
 refine wp_region_noPanic ?_
 refine wp_region_held_drew (S:=fun W=>Below w.heap.size w W) (by kernel_rfl) F.out.drew (fun b=>?_)
 refine tS 1 b ?_
 refine tS 2 b ?_
 refine tS 3 b ?_
 refine wpAnyH_ready (rs:=[0]) (by kernel_rfl) (by simp) ?_
 refine AllReadyH.cons rfl (fun K hK=>?_) AllReadyH.nil
 go_simp
 refine(mD _).mono ?_
 rintro e w2 ⟨rfl,s⟩
 refine hK.out _ _ (b.trans (s.mono (Below.size b))) (fun b=>?_)
 clear hK K
 try simp only[Act.put,sI,sZ,sS]
 refine wpAnyH_ready (rs:=[4]) (by kernel_rfl) (by simp) ?_
 refine AllReadyH.cons rfl (fun K hK=>?_) AllReadyH.nil
 go_simp
 refine(qP cZ DD (some ad') (q+7) (q+3) cm B ((bs.drop a).take (q+7)) _ rfl (o.out.below (Below.mono b hB)) (Nat.le_trans hB (Below.size b)) z (by omega) (by omega) Q.out).mono ?_
 rintro e M ⟨rfl,t⟩
 refine hK.out _ _ (b.trans (t.mono (Below.size b))) (fun b=>?_)
 clear hK K
 try simp only[Act.put,sI,sZ,sS]
 refine tS 5 b ?_
 refine tS 6 b ?_
 refine tS 7 b ?_
 refine tS 8 b ?_
 refine tS 9 b ?_
 refine wpAnyH_done (by kernel_rfl) ?_ _
 refine NoPanic.normal ?_
 have g:Hid (Below w.heap.size w M):=b
 clear b s t
 have c:=Lib.hid (show Reads M B 1 (if q=0 then some ad' else some (ad'.add 3)) q (byteCells ((bs.drop (a+3)).take q)) from by
  have h:=((o.out.below (g.out.mono hB)).preB (k:=q+3) (by omega)).sufB (k:=3) (cap:=q+3) (by omega) (by omega)
  rw[List.take_take,Nat.min_eq_left (by omega),←List.drop_drop]at *
  rw[show q+3-3=q from by omega]at h
  rw[show(List.take q (List.drop 3 (List.drop a bs)))=List.drop 3 (List.take (q+3) (List.drop a bs)) from by rw[List.drop_take];congr 1]
  by_cases n:q=0
  ·rw[if_pos n];rw[if_pos (by omega)]at h;exact h
  ·rw[if_neg n];rw[if_neg (by omega)]at h;exact h)
 by_cases n:q=0
 ·rw[if_pos n]at c
  go_wp2
  go_quiet (fail)
  go_wp2
  ((try simp only[Exit.inBlock,Exit.then]);refine bodyPost_ret (bW rfl _ _ _) rfl ?_)
  exact⟨some ad',by rw[n];rfl,c.out,below_drewN g.out _⟩
 ·rw[if_neg n]at c
  go_wp2
  go_quiet (fail)
  go_wp2
  ((try simp only[Exit.inBlock,Exit.then]);refine bodyPost_ret (bW rfl _ _ _) rfl ?_)
  exact⟨_,rfl,c.out,below_drewN g.out _⟩
end
section
open Go.RowKit
def ew:List UInt8→Nat ⊕ (UInt8×List UInt8)
 | []=>.inl 1
 | [_]=>.inl 2
 | [_,_]=>.inl 2
 | x0::x1::x2::t=>
   if t.length<4 then .inl 2
   else if 200<256*x0.toNat+x1.toNat then .inl 3
   else if t.length<256*x0.toNat+x1.toNat+4 then .inl 2
   else if(x2.toNat:Int)<1∨3<(x2.toNat:Int) then .inl 3
   else if av (x2.toNat:Int) (t.take (256*x0.toNat+x1.toNat)) == (x0::x1::x2::t).take (256*x0.toNat+x1.toNat+7) then .inr (x2,t.take (256*x0.toNat+x1.toNat)) else .inl 3
def dQ (bs:List UInt8) (at_:Int):Nat ⊕ (UInt8×List UInt8):=if at_<0∨(bs.length:Int)<at_ then .inl 3 else ew (bs.drop at_.toNat)
theorem lU (a b c:UInt8) (t:List UInt8):ew (a::b::c::t)=if t.length<4 then .inl 2
 else if 200<256*a.toNat+b.toNat then .inl 3
 else if t.length<256*a.toNat+b.toNat+4 then .inl 2
 else if(c.toNat:Int)<1∨3<(c.toNat:Int) then .inl 3
 else if av (c.toNat:Int) (t.take (256*a.toNat+b.toNat)) == (a::b::c::t).take (256*a.toNat+b.toNat+7) then .inr (c,t.take (256*a.toNat+b.toNat)) else .inl 3:=rfl
theorem AU (r:List UInt8) (h:3≤r.length):∃ x0 x1 x2 t,r=x0::x1::x2::t:=by
 match r,h with
 | x0::x1::x2::t,_=>exact⟨x0,x1,x2,t,rfl⟩
theorem uH (x0 x1 x2:UInt8) (t:List UInt8) (q:Nat) (f:256*x0.toNat+x1.toNat=q) (c:q≤t.length):av (x2.toNat:Int) (t.take q)=fK cZ (((x0::x1::x2::t).take (q+7)).take (q+3)):=by
 unfold av iy
 congr 1
 rw[List.take_take,Nat.min_eq_left (by omega),List.length_take,Nat.min_eq_left c]
 have g:=x0.toNat_lt
 have e:=x1.toNat_lt
 have d:UInt8.ofNat (q/256)=x0:=by
  apply UInt8.toNat_inj.1;simp;omega
 have a:UInt8.ofNat (q%256)=x1:=by
  apply UInt8.toNat_inj.1;simp;omega
 have b:UInt8.ofNat (x2.toNat:Int).toNat=x2:=by simp
 rw[d,a,b]
 rfl
theorem dJ (k:Int) (p q:List UInt8) (f:1≤k) (g:k≤3) (h:p.length≤200):ew (av k p++q) = .inr (UInt8.ofNat k.toNat,p):=by
 have e:av k p++q=UInt8.ofNat (p.length/256)::UInt8.ofNat (p.length%256)::UInt8.ofNat k.toNat::(p++(kU (pW cZ 0 (bE (iy p.length k++p)))++q)):=by
  unfold av fK iy
  simp
 have b:((UInt8.ofNat k.toNat).toNat:Int)=k:=by rw[gP _ (by omega)];omega
 have d:256*(UInt8.ofNat (p.length/256)).toNat+(UInt8.ofNat (p.length%256)).toNat=p.length:=by simp;omega
 have i:(p++(kU (pW cZ 0 (bE (iy p.length k++p)))++q)).length=p.length+4+q.length:=by simp[fm];omega
 have c:(p++(kU (pW cZ 0 (bE (iy p.length k++p)))++q)).take p.length=p:=by simp
 have a:(av k p++q).take (p.length+7)=av k p:=by rw[←aW k p];simp
 rw[e]at a ⊢
 rw[lU,d,if_neg (by omega),if_neg (by omega),if_neg (by omega),b,if_neg (by omega),c,a,if_pos (by simp)]
theorem jO (r:List UInt8) (a:UInt8) (p:List UInt8) (h:ew r = .inr (a,p)):1≤(a.toNat:Int)∧(a.toNat:Int)≤3∧p.length≤200∧p.length+7≤r.length∧r.take (p.length+7)=av (a.toNat:Int) p:=by
 unfold ew at h
 split at h
 ·cases h
 ·cases h
 ·cases h
 ·split at h
  ·cases h
  ·split at h
   ·cases h
   ·split at h
    ·cases h
    ·split at h
     ·cases h
     ·split at h
      ·rename_i b
       simp only[Sum.inr.injEq,Prod.mk.injEq]at h
       obtain⟨rfl,rfl⟩:=h
       rename_i d c a t f g i j
       have e:(t.take (256*d.toNat+c.toNat)).length=256*d.toNat+c.toNat:=by rw[List.length_take,Nat.min_eq_left (by omega)]
       rw[e]
       refine⟨by omega,by omega,by omega,by simp;omega,?_⟩
       rw[beq_iff_eq]at b
       exact b.symm
      ·cases h
theorem qH (r:List UInt8) (k:Nat) (h:ew r = .inl k):1≤k∧k≤3∧(k=1 ↔ r = []):=by
 unfold ew at h
 split at h
 ·cases h;simp
 ·cases h;simp
 ·cases h;simp
 ·split at h
  ·cases h;simp
  ·split at h
   ·cases h;simp
   ·split at h
    ·cases h;simp
    ·split at h
     ·cases h;simp
     ·split at h
      ·cases h
      ·cases h;simp
theorem fX (bs:List UInt8) (a:Nat) (h:a≤bs.length):dQ bs (a:Int)=ew (bs.drop a):=by
 unfold dQ;rw[if_neg (by omega),Int.toNat_natCast]
theorem mY (bs:List UInt8) (at_:Int) (k:Nat) (h:dQ bs at_ = .inl k):1≤k∧k≤3∧(k=1 ↔ at_=(bs.length:Int)):=by
 unfold dQ at h
 split at h
 ·cases h
  refine⟨by omega,by omega,by omega⟩
 ·obtain⟨b,c,a⟩:=qH _ _ h
  refine⟨b,c,?_⟩
  rw[a,List.drop_eq_nil_iff]
  omega
theorem jV (bs:List UInt8) (at_:Int) (a:UInt8) (p:List UInt8) (h:dQ bs at_ = .inr (a,p)):0≤at_∧at_+p.length+7≤bs.length∧1≤(a.toNat:Int)∧(a.toNat:Int)≤3∧p.length≤200∧(bs.drop at_.toNat).take (p.length+7)=av (a.toNat:Int) p:=by
 unfold dQ at h
 split at h
 ·cases h
 ·obtain⟨c,d,b,e,f⟩:=jO _ _ _ h
  rw[List.length_drop]at e
  exact⟨by omega,by omega,c,d,b,f⟩
def FL (s:Nat ⊕ (UInt8×List UInt8)) (B:Nat) (w:World) (e:Ending) (w':World):Prop:=
 Below w.heap.size w w'∧match s with
 | .inl k=>e = .returned (.tuple #[.int .i64 (k:Int),.int .i64 0,.slice none 0 0,.int .i64 0])
 | .inr (x,p) => ∃ A',e = .returned (.tuple #[.int .i64 0,.int .i64 (x.toNat:Int),.slice A' p.length p.length,.int .i64 ((p.length:Int)+7)])∧Reads w' B 1 A' p.length (byteCells p)
theorem Fk (A:Option Addr) (n c:Nat) (at_:Int) (bs:List UInt8) (B:Nat) (w:World) (i:Reads w B 1 A n (byteCells bs)) (hB:B≤w.heap.size) (G:n≤c) (b:c≤9223372036854775807) (K:n≤10000):
 Calls Tryz.prog 50 #[.slice A n c,.int .i64 at_] w (FL (dQ bs at_) B w):=by
 have J:=i.lenB
 by_cases I:at_<0∨(n:Int)<at_
 ·rw[show dQ bs at_ = .inl 3 from by unfold dQ;rw[if_pos (by omega)]]
  refine(CU A n c at_ w I).mono ?_
  rintro e w' ⟨rfl,rfl⟩
  exact⟨Below.refl _ _,rfl⟩
 ·obtain⟨a,rfl⟩:∃ a:Nat,at_=(a:Int):=⟨at_.toNat,by omega⟩
  obtain⟨m,rfl⟩:∃ m,n=a+m:=⟨n-a,by omega⟩
  obtain⟨cm,rfl⟩:∃ cm,c=a+cm:=⟨c-a,by omega⟩
  rw[fX bs a (by omega)]
  have f:(bs.drop a).length=m:=by rw[List.length_drop];omega
  by_cases C:m=0
  ·subst C
   rw[show bs.drop a = [] from List.eq_nil_of_length_eq_zero f]
   refine(Di A a (a+cm) w (by omega)).mono ?_
   rintro e w' ⟨rfl,rfl⟩
   exact⟨Below.refl _ _,rfl⟩
  ·by_cases z:m<7
   ·have e:ew (bs.drop a) = .inl 2:=by
     generalize bs.drop a=r at *
     match r,f with
     | [],h=>simp at h;omega
     | [_],_=>rfl
     | [_,_],_=>rfl
     | x0::x1::x2::t,h=>rw[lU,if_pos (by simp at h;omega)]
    rw[e]
    refine(Cs A a m cm w (by omega) z (by omega) b).mono ?_
    rintro e w' ⟨rfl,rfl⟩
    exact⟨Below.refl _ _,rfl⟩
   ·obtain⟨ad,rfl,_⟩:=i.2 (by omega)
    obtain⟨x0,x1,x2,t,g⟩:=AU (bs.drop a) (by omega)
    have x:∀ j,bs[a+j]?=(bs.drop a)[j]?:=fun j=>by rw[List.getElem?_drop]
    have s:bs[a]?=some x0:=by have:=x 0;rw[g]at this;simpa using this
    have p:bs[a+1]?=some x1:=by rw[x 1,g];rfl
    have u:bs[a+2]?=some x2:=by rw[x 2,g];rfl
    have v:bs.drop (a+3)=t:=by rw[←List.drop_drop,g];rfl
    have H:t.length+3=m:=by rw[g]at f;simpa using f
    obtain⟨q,k⟩:∃ q,256*x0.toNat+x1.toNat=q:=⟨_,rfl⟩
    have e:ew (bs.drop a)=if t.length<4 then .inl 2 else if 200<q then .inl 3 else if t.length<q+4 then .inl 2 else if(x2.toNat:Int)<1∨3<(x2.toNat:Int) then .inl 3 else if av (x2.toNat:Int) (t.take q) == (bs.drop a).take (q+7) then .inr (x2,t.take q) else .inl 3:=by
     rw[g,←k];rfl
    rw[e,if_neg (by omega)]
    clear e
    by_cases E:200<q
    ·rw[if_pos E]
     refine(CL ad a m cm bs x0 x1 x2 B w (by omega) (by omega) (by omega) b i hB s p u q k E).mono ?_
     rintro e w' ⟨rfl,d⟩
     exact⟨d,rfl⟩
    ·rw[if_neg E]
     by_cases F:t.length<q+4
     ·rw[if_pos F]
      refine(zm ad a m cm bs x0 x1 x2 B w (by omega) (by omega) (by omega) b i hB s p u q k (by omega) (by omega)).mono ?_
      rintro e w' ⟨rfl,d⟩
      exact⟨d,rfl⟩
     ·rw[if_neg F]
      by_cases y:(x2.toNat:Int)<1∨3<(x2.toNat:Int)
      ·rw[if_pos y]
       refine(zz ad a m cm bs x0 x1 x2 B w (by omega) (by omega) (by omega) b i hB s p u q k (by omega) (by omega) y).mono ?_
       rintro e w' ⟨rfl,d⟩
       exact⟨d,rfl⟩
      ·rw[if_neg y]
       have D:=uH x0 x1 x2 t q k (by omega)
       rw[←g]at D
       by_cases l:av (x2.toNat:Int) (t.take q) == (bs.drop a).take (q+7)
       ·rw[if_pos l]
        rw[D]at l
        refine(BX ad a m cm bs x0 x1 x2 B w (by omega) (by omega) (by omega) b i hB s p u q k (by omega) (by omega) (by omega) (by omega) l).mono ?_
        rintro e w' ⟨A',rfl,hR,d⟩
        rw[v]at hR
        have o:(t.take q).length=q:=by rw[List.length_take,Nat.min_eq_left (by omega)]
        refine⟨d,A',by rw[o],by rw[o];exact hR⟩
       ·rw[if_neg l]
        rw[D,Bool.not_eq_true]at l
        refine(CO ad a m cm bs x0 x1 x2 B w (by omega) (by omega) (by omega) b i hB s p u q k (by omega) (by omega) (by omega) (by omega) l).mono ?_
        rintro e w' ⟨rfl,d⟩
        exact⟨d,rfl⟩
end
section
def eK (Q:Exit→Act→World→Prop):Exit→Act→World→Prop
 | .normal,a,w=>Q .normal a w
 | _,_,_=>False
theorem eK.normal {Q:Exit→Act→World→Prop} {a:Act} {w:World} (h:Q .normal a w):eK Q .normal a w:=h
theorem eK.imp {Q:Exit→Act→World→Prop}:∀ (e:Exit) (a:Act) (w:World),eK Q e a w→Q e a w:=fun e a w h=>by
 cases e<;>first | exact h | exact(h:False).elim
def og (ops:Array Oper):Bool:=ops.toList.all fun o=>match o.op with
 | .defer _=>false
 | _=>true
theorem xb {ops:Array Oper} (h:og ops=true) {i:Nat} {o:Oper} (e:ops[i]?=some o):∀ c,o.op ≠ .defer c:=fun c d=>by
 have a:o ∈ ops.toList:=by
  have b:ops.toList[i]?=some o:=by rw[Array.getElem?_toList];exact e
  exact List.mem_of_getElem? b
 have:=List.all_eq_true.1 h o a
 rw[d]at this
 cases this
section
variable {P:Program} {ops:Array Oper} {Q:Exit→Act→World→Prop} {md:Region.Mode} {S:World→Prop} {l n:Nat}
theorem EI {row:String} {args:Array Value} {w:World} {R:Value→World→Prop} (h:Rows P row args w R):RowsIn (Fence.wide.inRound l) n P row args w R:=fun c cs _=>
 let ⟨v,w',r,s⟩:=h c cs
 ⟨v,w',r,stepsIn_wide.2 s⟩
theorem EG {o:Oper} {a:Act} {K:Act→World→Prop} {r:Result Next} (h:o.upon P a K Q r):o.uponIn (Fence.wide.inRound l) n P a K Q r:=by
 cases r with
 | ok x w'=>
   cases x with
   | enter f args=>
     refine⟨fun b=>by simp[Fence.wide]at b,CallsIn.inRound l (callsIn_wide.2 ?_)⟩
     exact Calls.mono h (fun e w'' c=>by cases e<;>exact c)
   | row row args=>exact⟨fun b=>by simp[Fence.wide]at b,EI h⟩
   | _=>first | exact h | exact(h:False).elim
 | halt x w'=>cases x<;>first | exact h | exact(h:False).elim
theorem DK (d:og ops=true) {i:Nat} {K:Act→World→Prop} {a:Act} {w:World} (h:wpOp P ops (eK Q) i K a w):wpOpIn (Fence.wide.inRound l) n P ops (eK Q) i K a w:=by
 unfold wpOp at h
 unfold wpOpIn
 split
 ·rename_i b
  rw[b]at h
  exact h
 ·rename_i o b
  rw[b]at h
  simp only at h
  split
  ·rename_i c
   rw[if_pos c]at h
   rcases h with h | ⟨-,a',w',h⟩
   ·refine⟨fun _ _=>trivial,?_⟩
    rw[Fence.inRound_round,Oper.semAt_some l a.eval o (xb d b)]
    exact EG h
   ·exact(h:False).elim
  ·rename_i c
   rw[if_neg c]at h
   exact⟨fun _ _=>trivial,h⟩
end
end
section
open Go.RowKit Go.Shelf
attribute [local go_sem] Oper.semAt_some
theorem wj (A:Option Addr) (len cap:Nat) (w:World):
 Calls Tryz.prog 78 #[.slice A len cap] w fun e w'=>e = .returned (.func (.func 144) #[] #[.pointer (some ⟨w.heap.size,0,none⟩)])∧w'=w.alloc (.cells #[.slice A len cap] 32):=by
 go_enter Tryz.func78,Tryz.ntmps78
 go_wp2
 go_ret
 exact⟨rfl,rfl⟩
theorem wK (A:Option Addr) (len cap:Nat) (w:World):
 Calls Tryz.prog 80 #[.slice A len cap] w fun e w'=>e = .returned (.func (.func 146) #[] #[.pointer (some ⟨w.heap.size,0,none⟩)])∧w'=w.alloc (.cells #[.slice A len cap] 75):=by
 go_enter Tryz.func80,Tryz.ntmps80
 go_wp2
 go_ret
 exact⟨rfl,rfl⟩
end
section
open Go.RowKit Go.ChangeShapes
def oQ (evs:List Evt):Bool:=evs.all (fun e=>decide (e.cm.size≤100))
theorem sC {a:List Evt} {k:Nat} {e:Evt} (h:a[k]?=some e) (b:100<e.cm.size):oQ a=false:=by
 unfold oQ
 rw[List.all_eq_false]
 exact⟨e,List.mem_of_getElem? h,by simp;omega⟩
theorem uR {a:List Evt} {n:Nat} (d:a.length=n) (h:∀ (j:Nat) e,j<n→a[j]?=some e→e.cm.size≤100):oQ a=true:=by
 unfold oQ
 rw[List.all_eq_true]
 intro e c
 obtain⟨j,b⟩:=List.mem_iff_getElem?.1 c
 have:=h j e (by have:=(List.getElem?_eq_some_iff.1 b).1;omega) b
 simpa using this
theorem GO (A:Option Addr) (n c B:Nat) (b:List Evt) (W:World) (h:Reads W B 7 A n (aH b)) (hB:B≤W.heap.size) (H:n≤9223372036854775807):Calls Tryz.prog 7 #[.slice A n c] W fun e w'=>e = .returned (.bool (oQ b))∧Below W.heap.size W w':=by
 have C:=Lib.hid h
 have v:=Lib.hid h.ev_len
 clear h
 go_enter Tryz.func7,Tryz.ntmps7
 go_wp2
 go_loopw [3] (fun i wr => ∃ (k:Nat),k≤n∧i = .int .i64 k∧Hid (∀ (j:Nat) e,j<k→b[j]?=some e→e.cm.size≤100)∧W=wr) (fun i _=>n-(intOf i).toNat)
 case atStart=>exact⟨0,Nat.zero_le _,rfl,Lib.hid (fun j e r=>absurd r (by omega)),rfl⟩
 case round=>
  obtain⟨k,E,rfl,p,rfl⟩:=hrel
  by_cases m:k<n
  ·obtain⟨ad,e,rfl,D,s,t,z,w,I,u,x,y⟩:=Cm C.out m
   have q:=Lib.hid s
   have G:(0:Int)≤(k:Int):=by omega
   have F:(k:Int)<(n:Int):=by omega
   clear s t z w u x y
   by_cases o:100<e.cm.size
   ·have d:decide ((100:Int)<(e.cm.size:Int))=true:=by simp;omega
    have g:=Lib.hid (sC q.out o)
    go_wp2
    go_ret
    exact⟨gi g.out.symm,Below.refl _ _⟩
   ·have d:decide ((100:Int)<(e.cm.size:Int))=false:=by simp;omega
    have f:=Lib.hid (show ∀ (j:Nat) e,j<k+1→b[j]?=some e→e.cm.size≤100 from fun j e' r a=>by
     by_cases l:j<k
     ·exact p.out j e' l a
     ·obtain rfl:j=k:=by omega
      rw[q.out]at a;injection a with a;subst a;omega)
    clear o
    go_wp2
    exact⟨⟨k+1,by omega,rfl,f,trivial⟩,by simp[intOf];omega⟩
  ·obtain rfl:n=k:=by omega
   have g:=Lib.hid (uR v.out p.out)
   go_wp2
   go_ret
   exact⟨gi g.out.symm,Below.refl _ _⟩
theorem GH (b c:Evt) (h:b≠c):b.q=c.q→b.a=c.a→b.k=c.k→b.cm.toList=c.cm.toList→b.x=c.x→b.y=c.y → ¬ b.z=c.z:=by
 intro g i f e j l m
 apply h
 rw[ByteArray.toList_eq,ByteArray.toList_eq]at e
 have d:b.cm=c.cm:=by cases hc:b.cm;cases hd:c.cm;rw[hc,hd]at e;congr 1;exact Array.toList_inj.1 e
 cases b;cases c;simp only at g i f d j l m;subst g i f d j l m;rfl
theorem yP (A:Option Addr) (n c B:Nat) (xs:List Evt) (A2:Option Addr) (c2:Nat) (ys:List Evt) (W:World) (T:Reads W B 7 A n (aH xs)) (u:Reads W B 7 A2 n (aH ys)) (hB:B≤W.heap.size) (hn:n≤9223372036854775807):Calls Tryz.prog 16 #[.slice A n c,.slice A2 n c2] W fun e w' => ∃ r,e = .returned (.bool r)∧(r=true ↔ xs=ys)∧Below W.heap.size W w':=by
 have HR:=Lib.hid T
 have M:=Lib.hid u
 have K:=Lib.hid T.ev_len
 have Q:=Lib.hid u.ev_len
 clear T u
 have x0:((n:Int) != (n:Int))=false:=by simp
 have D:=Lib.hid (Kept.start W)
 go_enter Tryz.func16,Tryz.ntmps16
 go_wp2
 clear x0
 go_loopw [5] (fun i wr => ∃ (k:Nat),k≤n∧i = .int .i64 k∧Hid (∀ (j:Nat) e,j<k→xs[j]?=some e→ys[j]?=some e)∧Hid (Kept W wr [])) (fun i _=>n-(intOf i).toNat)
 case atStart=>exact⟨0,Nat.zero_le _,rfl,Lib.hid (fun j e z=>absurd z (by omega)),D⟩
 case round=>
  clear D
  obtain⟨k,hk,rfl,HS,J⟩:=hrel
  by_cases E:k<n
  ·obtain⟨ad,e1,rfl,ab,G,I,X,N,U,P,R,O⟩:=Cm HR.out E
   obtain⟨d,Z,rfl,ac,H,g,o,m,s,y,l,q⟩:=Cm M.out E
   have C:=Lib.hid G
   have x:=Lib.hid H
   clear G H
   have i1:(0:Int)≤(k:Int):=by omega
   have i2:(k:Int)<(n:Int):=by omega
   have t:(ad.add (k*7)).block<W.heap.size:=World.block_lt_of_cell? W _ I
   have f:(d.add (k*7)).block<W.heap.size:=World.block_lt_of_cell? W _ g
   go_wp2_with fail
   refine wp_region_noPanic ?_
   refine wp_region_held_drew (S:=fun W'=>Kept W W' []) (by kernel_rfl) J.out.drew (fun a=>?_)
   refine tS 0 a ?_
   refine tS 1 a ?_
   refine tS 2 a ?_
   refine tS 3 a ?_ (hy:=by(intro W b;(try dsimp only at b);have q0:=(b.bel.cell (p:=(ad.add (k*7))) t).trans I;have q1:=(b.bel.cell (p:=⟨(ad.add (k*7)).block,(ad.add (k*7)).off+1,none⟩) t).trans X;have q2:=(b.bel.cell (p:=⟨(ad.add (k*7)).block,(ad.add (k*7)).off+2,none⟩) t).trans N;have q3:=(b.bel.cell (p:=⟨(ad.add (k*7)).block,(ad.add (k*7)).off+3,none⟩) t).trans U;have q4:=(b.bel.cell (p:=⟨(ad.add (k*7)).block,(ad.add (k*7)).off+4,none⟩) t).trans P;have q5:=(b.bel.cell (p:=⟨(ad.add (k*7)).block,(ad.add (k*7)).off+5,none⟩) t).trans R;have q6:=(b.bel.cell (p:=⟨(ad.add (k*7)).block,(ad.add (k*7)).off+6,none⟩) t).trans O;go_simp;try with_reducible rfl))
   refine tS 4 a ?_
   refine tS 5 a ?_
   refine tS 6 a ?_
   refine tS 7 a ?_ (hy:=by(intro W b;(try dsimp only at b);have q0:=(b.bel.cell (p:=(d.add (k*7))) f).trans g;have q1:=(b.bel.cell (p:=⟨(d.add (k*7)).block,(d.add (k*7)).off+1,none⟩) f).trans o;have q2:=(b.bel.cell (p:=⟨(d.add (k*7)).block,(d.add (k*7)).off+2,none⟩) f).trans m;have q3:=(b.bel.cell (p:=⟨(d.add (k*7)).block,(d.add (k*7)).off+3,none⟩) f).trans s;have q4:=(b.bel.cell (p:=⟨(d.add (k*7)).block,(d.add (k*7)).off+4,none⟩) f).trans y;have q5:=(b.bel.cell (p:=⟨(d.add (k*7)).block,(d.add (k*7)).off+5,none⟩) f).trans l;have q6:=(b.bel.cell (p:=⟨(d.add (k*7)).block,(d.add (k*7)).off+6,none⟩) f).trans q;go_simp;try with_reducible rfl))
   by_cases w:e1=Z
   ·subst w
    refine tS 8 a ?_
    refine wpAnyH_done (by kernel_rfl) ?_ _
    refine NoPanic.normal ?_
    have Y:=Lib.hid (show ∀ (j:Nat) e,j<k+1→xs[j]?=some e→ys[j]?=some e from fun j e z F=>by
     by_cases L:j<k
     ·exact HS.out j e L F
     ·obtain rfl:j=k:=by omega
      rw[C.out]at F;injection F with F;subst F;exact x.out)
    have V:=Lib.hid a
    clear a J I X N U P R O g o m s y l q
    go_wp2
    exact⟨⟨k+1,by omega,rfl,Y,V⟩,by simp[intOf];omega⟩
   ·refine aG 8 (v := .bool true) rfl (by kernel_rfl) (by kernel_rfl) (by kernel_rfl) rfl (fun _ _ _ h=>h) (Or.inl ⟨by rfl,?y8u15⟩) a ?r8u15
    case y8u15=>(intro W b;(try dsimp only at b);go_simp;exact GH e1 Z w)
    simp only[Act.put,sI,sZ,sS]
    refine wpAnyH_done (by kernel_rfl) ?_ _
    refine NoPanic.normal ?_
    clear J I X N U P R O g o m s y l q
    go_wp2
    go_ret
    exact⟨false,rfl,by constructor;(intro h;cases h);(intro h;subst h;rw[C.out]at x;exact absurd (Option.some.inj x.out) w),a.bel⟩
  ·obtain rfl:n=k:=by omega
   have HE:=Lib.hid (show xs=ys from by
    apply List.ext_getElem?
    intro j
    by_cases z:j<n
    ·rw[HS.out j _ z (List.getElem?_eq_getElem (by rw[K.out];exact z)),List.getElem?_eq_getElem (by rw[K.out];exact z)]
    ·rw[List.getElem?_eq_none (by rw[K.out];omega),List.getElem?_eq_none (by rw[Q.out];omega)])
   go_wp2
   go_ret
   exact⟨true,rfl,⟨fun _=>HE.out,fun _=>rfl⟩,J.out.bel⟩
theorem BY (A:Option Addr) (n c B:Nat) (xs:List Evt) (f:Option Addr) (b g:Nat) (ys:List Evt) (W:World) (d:Reads W B 7 A n (aH xs)) (a:Reads W B 7 f b (aH ys)) (hB:B≤W.heap.size) (j:n≤9223372036854775807) (k:b≤9223372036854775807):Calls Tryz.prog 16 #[.slice A n c,.slice f b g] W fun e w' => ∃ r,e = .returned (.bool r)∧(r=true ↔ xs=ys)∧Below W.heap.size W w':=by
 by_cases h:n=b
 ·subst h
  exact yP A n c B xs f g ys W d a hB j
 ·have l:((n:Int) != (b:Int))=true:=by rw[bne_iff_ne];omega
  have i:=Lib.hid (show ¬ xs=ys from by intro e;subst e;exact h (d.ev_len.symm.trans a.ev_len))
  clear d a
  go_enter Tryz.func16,Tryz.ntmps16
  go_wp2
  go_ret
  exact⟨false,rfl,⟨fun h=>(by cases h),fun h=>absurd h i.out⟩,Below.refl _ _⟩
end
end Go.Proofs.YtpokkciheejeiaaGreatDoor
