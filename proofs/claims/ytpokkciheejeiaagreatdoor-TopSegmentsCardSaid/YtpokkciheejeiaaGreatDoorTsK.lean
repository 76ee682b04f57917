/- Lemmas and contracts that the proof of TopSegments uses, part 11 of 14: each is a theorem for every input that its premises allow. -/
import Derived.Test.YtpokkciheejeiaaGreatDoorTsJ
set_option linter.unusedVariables false
set_option linter.unusedSimpArgs false
set_option maxRecDepth 100000
namespace Go.Proofs.YtpokkciheejeiaaGreatDoor
section
open Go.RowKit
theorem pF {n:Int} (h:aY n=true):0≤n∧n≤1099511627776:=by
 unfold aY at h
 simpa using h
set_option maxHeartbeats 1500000 in
theorem fE (c:Cmp) (A:Option Addr) (n x:Nat) (X:List Nat) (w:World) (hX:XOk X w) (d:aa w X A n c.cells) (o:dr c):
 Calls Tryz.prog 149 #[.agg (aL c A n x).toArray] w fun e w'=>e = .returned (.bool true)∧Below w.heap.size w w':=by
 obtain⟨nm,role,mode,wd,sl,cells,h,b,room,has,g⟩:=c
 obtain⟨⟨L,R⟩,⟨j,t,z⟩,B⟩:=o
 simp only at L R j t z B d
 simp only[aL]
 have V:¬ (nm.size:Int)<1:=by omega
 have Y:¬ (24:Int)<(nm.size:Int):=by omega
 have O:Hid (∀ k,k<3→0≤g k∧g k≤1099511627776):=Lib.hid (by
  intro k M
  rcases(by omega:k=0∨k=1∨k=2) with rfl | rfl | rfl
  ·exact pF j
  ·exact pF t
  ·exact pF z)
 have P:=Lib.hid B
 have m:=Lib.hid d.1
 obtain⟨bh,p⟩:=BB h b
 clear j t z B
 go_enter Tryz.func149,Tryz.ntmps149
 go_upto_region 1 with(fail)
 refine(hstart hX).cw fun W K=>?_
 have K:=K.k0 (f:=aa.fact A n cells) d
 clear d
 have c0:=K.r 0 rfl
 go_upto_region 3 with(fail)
 go_wp2
 go_loop [3] (fun i => ∃ k:Nat,k≤3∧i = .int .i64 k) (fun i=>3-(intOf i).toNat)
 case atStart=>exact⟨0,Nat.zero_le _,rfl⟩
 case round=>
  obtain⟨k,M,rfl⟩:=hrel
  by_cases y:k<3
  ·have u:W.cell? ⟨w.heap.size,18+k,none⟩=some (.int .i64 (g k)):=by
    rw[c0]
    rcases(by omega:k=0∨k=1∨k=2) with rfl | rfl | rfl<;>rfl
   have C:=O.out k y
   generalize g k=v at u C
   clear c0
   have Z:(0:Int)≤(k:Int):=by omega
   have j2:(k:Int)<3:=by omega
   have U:¬ v<0:=by omega
   have T:¬ 1099511627776<v:=by omega
   go_wp2
   go_round
   case rel=>exact⟨k+1,by omega,by go_num⟩
   case measure=>simp[intOf];omega
  ·obtain rfl:k=3:=by omega
   rcases P.out with⟨rfl,q,D,s,hh,rfl,rfl⟩ | ⟨rfl,rfl,rfl,rfl,rfl,G,rfl,a⟩ | ⟨rfl,q,D,rfl,rfl,rfl,hh,a⟩
   ·have F:n≤16:=by have:=aZ s;have:=m.out;omega
    have I:=Lib.hid s;have HH:=Lib.hid hh
    clear s hh
    have N:(0:Int)≤mode:=q
    have S:mode≤2:=D
    have j7:¬ wd=0:=by have:=aZ I.out;omega
    go_upto_region 9 with(fail)
    go_upto_region 10 with(refine bu (K.sub 0 rfl 6 [.int .i64 (h 0),.int .i64 (h 1),.int .i64 (h 2),.int .i64 (h 3),.int .i64 (h 4),.int .i64 (h 5),.int .i64 (h 6),.int .i64 (h 7),.int .i64 (h 8),.int .i64 b]) ?_)
    go_upto_region 11 with(refine bu (K.sub 0 rfl 16 [.int .i64 0,.int .i64 0]) ?_)
    go_wp2_with (refine bu (K.sub 0 rfl 3 [.int .i64 wd,.int .i64 sl,.slice A n x]) ?_)
    refine(qu wd sl A n x W.heap.size cells W (K.fa 0 rfl).rd (Nat.le_refl _) (by omega)).mono ?_
    rw[I.out]
    rintro e H ⟨rfl,a⟩
    have K:=K.on a
    clear a c0
    have c0:=K.r 0 rfl
    go_wp2_with (refine bu (K.sub 0 rfl 6 [.int .i64 (h 0),.int .i64 (h 1),.int .i64 (h 2),.int .i64 (h 3),.int .i64 (h 4),.int .i64 (h 5),.int .i64 (h 6),.int .i64 (h 7),.int .i64 (h 8),.int .i64 b]) ?_)
    refine(dQ h b _).mono ?_
    rw[HH.out]
    rintro e Q ⟨rfl,a⟩
    have K:=K.on a
    clear a
    have c0:=K.r 0 rfl
    go_wp2
    go_ret
    exact⟨rfl,K.below⟩
   ·obtain rfl:h=fun _=>0:=funext G
    have l:=Lib.hid a
    obtain rfl:n=0:=m.out
    have hA:=xX
    obtain⟨J,E⟩:=vX room has
    clear a G p
    go_upto_region 9 with(fail)
    go_upto_region 10 with(refine bu (K.sub 0 rfl 6 [.int .i64 0,.int .i64 0,.int .i64 0,.int .i64 0,.int .i64 0,.int .i64 0,.int .i64 0,.int .i64 0,.int .i64 0,.int .i64 0]) ?_)
    go_upto_region 11 with(refine bu (K.sub 0 rfl 16 [.int .i64 room,.int .i64 has]) ?_)
    go_wp2_with (refine bu (K.sub 0 rfl 16 [.int .i64 room,.int .i64 has]) ?_)
    refine(fH room has l.out _).mono ?_
    rintro e H ⟨rfl,a⟩
    have K:=K.on a
    go_wp2
    go_ret
    exact⟨rfl,K.below⟩
   ·have l:=Lib.hid a;have HH:=Lib.hid hh
    obtain rfl:n=0:=m.out
    obtain⟨J,E⟩:=vX room has
    clear a hh
    have N:(0:Int)≤mode:=q
    have S:mode≤2147483647:=D
    go_upto_region 9 with(fail)
    go_upto_region 10 with(refine bu (K.sub 0 rfl 6 [.int .i64 (h 0),.int .i64 (h 1),.int .i64 (h 2),.int .i64 (h 3),.int .i64 (h 4),.int .i64 (h 5),.int .i64 (h 6),.int .i64 (h 7),.int .i64 (h 8),.int .i64 b]) ?_)
    go_upto_region 11 with(refine bu (K.sub 0 rfl 16 [.int .i64 room,.int .i64 has]) ?_)
    go_wp2_with (refine bu (K.sub 0 rfl 6 [.int .i64 (h 0),.int .i64 (h 1),.int .i64 (h 2),.int .i64 (h 3),.int .i64 (h 4),.int .i64 (h 5),.int .i64 (h 6),.int .i64 (h 7),.int .i64 (h 8),.int .i64 b]) ?_)
    refine(dQ h b _).mono ?_
    rw[HH.out]
    rintro e Q ⟨rfl,a⟩
    have K:=K.on a
    clear a
    have c0:=K.r 0 rfl
    go_wp2_with (refine bu (K.sub 0 rfl 16 [.int .i64 room,.int .i64 has]) ?_)
    refine(fH room has l.out _).mono ?_
    rintro e H ⟨rfl,a⟩
    have K:=K.on a
    go_wp2
    go_ret
    exact⟨rfl,K.below⟩
end
section
open Go.RowKit
set_option maxHeartbeats 1500000 in
theorem Ci (c:Cmp) (A:Option Addr) (n l:Nat) (g:Option Addr) (a d:Nat) (X:List Nat) (w:World) (hX:XOk X w) (j:aa w X A n c.cells) (b:aa w X g a c.cells) (hn:n≤9223372036854775807):
 Calls Tryz.prog 56 #[.agg (aL c A n l).toArray,.agg (aL c g a d).toArray] w fun e w'=>e = .returned (.bool true)∧Below w.heap.size w w':=by
 obtain⟨nm,role,mode,wd,sl,cells,h,q,room,has,m⟩:=c
 obtain rfl:a=n:=by rw[j.1,b.1]
 simp only at *
 simp only[aL]
 have hA:=fun W=>og 9997 h W
 have i:=fun W=>wS 9998 m W
 simp only[Nat.reduceAdd]at hA i
 go_enter Tryz.func56,Tryz.ntmps56
 go_wp2_with fail
 refine(hstart hX).cl fun W K=>?_
 have K:=(K.k0 (f:=aa.fact A a cells) j).k0 (f:=aa.fact g a cells) b
 refine(Dd wd sl A a l cells wd sl g a d cells W.heap.size W (K.fa 1 rfl).rd (K.fa 0 rfl).rd (Nat.le_refl _) hn hn).mono ?_
 rw[show sk wd sl cells wd sl cells=true by unfold sk;simp]
 rintro e o ⟨rfl,k⟩
 have K:=K.on k
 clear k
 have c0:=K.r 0 rfl
 have p:=K.r 1 rfl
 go_wp2
 go_ret
 exact⟨rfl,K.below⟩
end
section
open Go.RowKit
set_option maxHeartbeats 1500000 in
theorem eV (s:St) (A:Option Addr) (n d:Nat) (X:List Nat) (w:World) (hX:XOk X w) (o:Sl aB w X A n d s.cs) (g:cF s):
 Calls Tryz.prog 83 #[.agg #[.slice A n d,.int .i64 s.q,.int .i64 s.a]] w fun e w'=>e = .returned (.bool true)∧Below w.heap.size w w':=by
 obtain⟨cs,q,a⟩:=s
 obtain⟨o1,T,o3,o4,P,H,L⟩:=g
 simp only at *
 have D:=o.len
 have hn:¬ (12:Int)<(n:Int):=by omega
 have Z:¬ q<0:=by omega
 have j2:¬ 4294967296<q:=by omega
 have U:¬ a<0:=by omega
 have Q:¬ 1099511627776<a:=by omega
 have J:=Lib.hid o
 have C:=Lib.hid D
 clear o D
 go_enter Tryz.func83,Tryz.ntmps83
 go_upto_region 1 with(fail)
 refine(hstart hX).cw fun W K=>?_
 have K:=K.ksl0 J.out
 have c0:=K.r 0 rfl
 go_wp2
 clear c0
 go_loopw [3] (fun i wr => ∃ (k:Nat),k≤n∧i = .int .i64 k∧HH w [] X wr [.box w.heap.size 37 #[.slice A n d,.int .i64 q,.int .i64 a]] [Sl.fact aB A n d cs]) (fun i _=>n-(intOf i).toNat)
 case atStart=>exact⟨0,Nat.zero_le _,rfl,K⟩
 case round=>
  obtain⟨k,S,rfl,K⟩:=hrel
  by_cases M:k<n
  ·obtain⟨x,l⟩:∃ x,cs[k]?=some x:=⟨_,List.getElem?_eq_getElem (by have:=C.out;omega)⟩
   obtain⟨ad,r,rfl,K,⟨u,t,j,rfl,c,G⟩⟩:=K.elem 0 rfl l
   have K:=K.kn (f:=aa.fact u t x.cells) c
   have p:=Lib.hid l
   have V:(0:Int)≤(k:Int):=by omega
   have Y:(k:Int)<(n:Int):=by omega
   clear l c
   have c0:=K.r 0 rfl
   go_upto_region 6 with(fail)
   clear c0
   refine K.rg fun W K=>?_
   refine tK 0 K ?_
   refine tL 1 (fun _ h=>h.r 0 rfl) K ?_
   refine tK 2 K ?_
   refine tK 3 K ?_
   refine tL 4 (fun _ h=>h.at' 1 rfl) K ?_ (hy:=fun w z=>aD z)
   refine tC 5 fun K' hK=>?_
   go_simp
   refine(fE x u t j _ _ K.xok (K.fa 0 rfl) (H x (List.mem_of_getElem? p.out))).mono ?_
   rintro e w2 ⟨rfl,v⟩
   refine hK.out _ _ (K.on v) fun K=>?_
   clear hK K' v
   try simp only[Act.put,aq,aj,ai]
   refine tK 6 K ?_
   refine tK 7 K ?_
   refine tK 8 K ?_
   cases k with
   | zero=>
     refine tK 9 K ?_
     refine tK 10 K ?_
     refine tN 11 K ?_
     refine tN 12 K ?_
     refine tN 13 K ?_
     refine tN 14 K ?_
     refine tN 15 K ?_
     refine tN 16 K ?_
     refine tN 17 K ?_
     refine tN 18 K ?_
     refine tN 19 K ?_
     refine tN 20 K ?_
     refine tN 21 K ?_
     refine tN 22 K ?_
     refine tN 23 K ?_
     refine tN 24 K ?_
     refine tK 25 K ?_
     refine tK 26 K ?_
     refine tE ?_
     go_wp2
     go_roundw
     case rel=>exact⟨1,by omega,by go_num,K.ft.ft⟩
     case measure=>simp[intOf];omega
   | succ m=>
     obtain⟨y,hy⟩:∃ y,cs[m]?=some y:=⟨_,List.getElem?_eq_getElem (by have:=C.out;omega)⟩
     have b:Op.bytesLess y.nm.toList x.nm.toList=true:=L.lt (Nat.lt_succ_self m) hy p.out
     have E:Op.bytesLess x.nm.toList y.nm.toList=false:=kz b
     have B:(x.nm.toList == y.nm.toList)=false:=by
      rw[beq_eq_false_iff_ne]
      intro e
      rw[e,kN]at b
      cases b
     have O:=Lib.hid hy
     clear hy
     have R:(m:Int)<(n:Int):=by omega
     have i4:(0:Int)≤(m:Int):=by omega
     have i5:(0:Int)<(m:Int)+1:=by omega
     have I:(0:Int)≤(m:Int)+1:=by omega
     have F:(m:Int)+1<(n:Int):=by omega
     have N:((m:Int)+1).toNat=m+1:=by omega
     refine tK 9 K ?_
     refine tK 10 K ?_
     refine tK 11 K ?_
     refine tL 12 (fun _ h=>h.r 0 rfl) K ?_
     refine tK 13 K ?_
     refine tK 14 K ?_
     refine tK 15 K ?_
     refine tL 16 (fun _ h=>eS (h.sl 2 rfl) p.out) K ?_
     refine tK 17 K ?_
     refine tL 18 (fun _ h=>h.r 0 rfl) K ?_
     refine tK 19 K ?_
     refine tK 20 K ?_ (hy:=by(intro W _;have z:=IntWalk.i64_in (m:Int) (by omega);go_simp;try with_reducible rfl))
     refine tK 21 K ?_
     refine tK 22 K ?_
     refine tL 23 (fun _ h=>eS (h.sl 2 rfl) O.out) K ?_
     refine tK 24 K ?_
     refine tK 25 K ?_
     refine tK 26 K ?_
     refine tE ?_
     clear I F N
     go_wp2
     go_roundw
     case rel=>exact⟨m+1+1,by omega,by go_num,K.ft.ft⟩
     case measure=>simp[intOf];omega
  ·obtain rfl:k=n:=by omega
   have c0:=K.r 0 rfl
   go_wp2
   go_ret
   exact⟨rfl,K.below⟩
end
section
open Go.RowKit
set_option maxHeartbeats 1500000 in
theorem iO (s:St) (nm:ByteArray) (A:Option Addr) (n m:Nat) (X:List Nat) (w:World) (hX:XOk X w) (B:Sl aB w X A n m s.cs) (hn:n≤12):
 Calls Tryz.prog 36 #[.agg #[.slice A n m,.int .i64 s.q,.int .i64 s.a],.string nm] w fun e w'=>e = .returned (.int .i64 (cX s.cs nm))∧Below w.heap.size w w':=by
 obtain⟨cs,q,a⟩:=s
 simp only at *
 have y:=Lib.hid B.len
 go_enter Tryz.func36,Tryz.ntmps36
 go_upto_region 1 with(fail)
 refine(hstart hX).cw fun W K=>?_
 have K:=K.ksl0 B
 clear B
 go_wp2
 go_loopw [5] (fun i wr => ∃ (k:Nat),k≤n∧i = .int .i64 k∧Hid (∀ (j:Nat) d,j<k→cs[j]?=some d→d.nm≠nm)∧HH w [] X wr [.box w.heap.size 37 #[.slice A n m,.int .i64 q,.int .i64 a]] [Sl.fact aB A n m cs]) (fun i _=>n-(intOf i).toNat)
 case atStart=>exact⟨0,Nat.zero_le _,rfl,Lib.hid (fun j d o=>absurd o (Nat.not_lt_zero _)),K⟩
 case round=>
  obtain⟨k,N,rfl,t,K⟩:=hrel
  have c0:=K.r 0 rfl
  by_cases J:k<n
  ·obtain⟨x,g⟩:∃ x,cs[k]?=some x:=⟨_,List.getElem?_eq_getElem (by have:=y.out;omega)⟩
   obtain⟨ad,r,rfl,E,D,⟨O,M,H,rfl,C,G⟩,p⟩:=(K.sl 0 rfl).at' g
   have R:=eS (K.sl 0 rfl) g
   have F:=Lib.hid g
   have P:(0:Int)≤(k:Int):=by omega
   have Q:(k:Int)<(n:Int):=by omega
   clear g E D C p
   by_cases c:x.nm=nm
   ·have v:Hid (cX cs nm=(k:Int)):=Lib.hid (by
     have u:=mG (f:=Cmp.nm) F.out c t.out
     unfold cX
     rw[u,if_pos (by have:=y.out;omega)])
    have I:(x.nm.toList == nm.toList)=true:=by rw[c];simp
    clear c
    go_wp2
    go_ret
    exact⟨by rw[v.out];rfl,K.below⟩
   ·have I:(x.nm.toList == nm.toList)=false:=by rw[beq_eq_false_iff_ne];exact fun h=>c (fL h)
    have L:=Lib.hid c
    clear c
    go_wp2
    go_roundw
    case rel=>
     refine⟨k+1,by omega,by go_num,Lib.hid (fun j d o b=>?_),K⟩
     by_cases z:j=k
     ·subst z
      rw[F.out]at b
      injection b with b
      subst b
      exact L.out
     ·exact t.out j d (by omega) b
    case measure=>simp[intOf];omega
  ·obtain rfl:k=n:=by omega
   have v:Hid (cX cs nm = -1):=Lib.hid (by
    have u:=jF (f:=Cmp.nm) (l:=cs) (nm:=nm) (fun d b=>by
     obtain⟨j,o,rfl⟩:=List.mem_iff_getElem.1 b
     exact t.out j _ (by have:=y.out;omega) (List.getElem?_eq_getElem o))
    unfold cX
    rw[u,if_neg (Nat.lt_irrefl _)])
   go_wp2
   go_ret
   exact⟨by rw[v.out];rfl,K.below⟩
set_option maxHeartbeats 1500000 in
theorem BD (s:St) (A:Option Addr) (n l:Nat) (o:Option Addr) (n2 b:Nat) (X:List Nat) (w:World) (hX:XOk X w) (m:Sl aB w X A n l s.cs) (d:Sl aB w X o n2 b s.cs) (hn:n≤12) (z:∀ c ∈ s.cs,c.cells.length≤1000):
 Calls Tryz.prog 17 #[.agg #[.slice A n l,.int .i64 s.q,.int .i64 s.a],.agg #[.slice o n2 b,.int .i64 s.q,.int .i64 s.a]] w fun e w'=>e = .returned (.bool true)∧Below w.heap.size w w':=by
 obtain⟨cs,q,a⟩:=s
 simp only at *
 obtain rfl:n2=n:=by rw[m.len,d.len]
 have N:(q != q)=false:=by simp
 have S:(a != a)=false:=by simp
 have H:=Lib.hid m.len
 go_enter Tryz.func17,Tryz.ntmps17
 go_upto_region 1 with(fail)
 refine(hstart hX).cw fun W K=>?_
 have K:=(K.ksl0 d).ksl0 m
 clear m d
 have c0:=K.r 0 rfl
 have v:=K.r 1 rfl
 go_wp2
 clear c0 v
 go_loopw [5] (fun i wr => ∃ (k:Nat),k≤n2∧i = .int .i64 k∧HH w [] X wr [.box (w.heap.size+1) 37 #[.slice o n2 b,.int .i64 q,.int .i64 a],.box w.heap.size 37 #[.slice A n2 l,.int .i64 q,.int .i64 a]] [Sl.fact aB A n2 l cs,Sl.fact aB o n2 b cs]) (fun i _=>n2-(intOf i).toNat)
 case atStart=>exact⟨0,Nat.zero_le _,rfl,K⟩
 case round=>
  obtain⟨k,M,rfl,K⟩:=hrel
  have v:=K.r 1 rfl
  by_cases I:k<n2
  ·obtain⟨x,g⟩:∃ x,cs[k]?=some x:=⟨_,List.getElem?_eq_getElem (by have:=H.out;omega)⟩
   obtain⟨ad,r,rfl,K,⟨y,j,t,rfl,C,-⟩⟩:=K.elem 0 rfl g
   have K:=K.kn (f:=aa.fact y j x.cells) C
   obtain⟨L,Q,rfl,K,⟨G,D,p,rfl,F,-⟩⟩:=K.elem 3 rfl g
   have K:=K.kn (f:=aa.fact G D x.cells) F
   have J:=Lib.hid g
   have O:(0:Int)≤(k:Int):=by omega
   have P:(k:Int)<(n2:Int):=by omega
   clear g C F
   have B:j≤9223372036854775807:=by have:=z x (List.mem_of_getElem? J.out);have:=(K.fa (f:=aa.fact y j x.cells) 2 rfl).1;omega
   go_upto_region 6 with(fail)
   clear v
   refine K.rg fun W K=>?_
   refine tK 0 K ?_
   refine tL 1 (fun _ h=>h.r 1 rfl) K ?_
   refine tK 2 K ?_
   refine tK 3 K ?_
   refine tL 4 (fun _ h=>h.at' 3 rfl) K ?_ (hy:=fun w u=>aD u)
   refine tK 5 K ?_
   refine tL 6 (fun _ h=>h.r 0 rfl) K ?_
   refine tK 7 K ?_
   refine tK 8 K ?_
   refine tL 9 (fun _ h=>h.at' 1 rfl) K ?_ (hy:=fun w u=>aD u)
   refine tC 10 fun K' hK=>?_
   go_simp
   refine(Ci x y j t G D p _ _ K.xok (K.fa 2 rfl) (K.fa 0 rfl) B).mono ?_
   rintro e R ⟨rfl,E⟩
   refine hK.out _ _ (K.on E) fun K=>?_
   clear hK K' E
   try simp only[Act.put,aq,aj,ai]
   refine tK 11 K ?_
   refine tE ?_
   go_wp2
   go_roundw
   case rel=>exact⟨k+1,by omega,by go_num,K.ft.ft.ft.ft⟩
   case measure=>simp[intOf];omega
  ·obtain rfl:k=n2:=by omega
   go_wp2
   go_ret
   exact⟨rfl,K.below⟩
end
section
open Go.RowKit
def lO (c:Cmp) (e0:Evt) (m:Int):Prop := ∀ (A:Option Addr) (n cp:Nat) (X:List Nat) (w:World),XOk X w→aa w X A n c.cells→dr c→e0.cm.size≤maxLen →
 Calls Tryz.prog 84 #[.agg (aL c A n cp).toArray,.agg (evA e0)] w fun e w'=>e = .returned (.int .i64 m)∧Below w.heap.size w w'
theorem zO {c:Cmp} {d:Evt} (p:¬ bX d=0):lO c d (bX d):=by
 intro A n k X w hX i a g
 obtain⟨nm,role,mode,wd,sl,cells,h,l,room,has,m⟩:=c
 obtain⟨eq,ea,v,j,ex,o,q⟩:=d
 simp only at *
 simp only[aL,evA]
 go_enter Tryz.func84,Tryz.ntmps84
 go_upto_region 1 with(fail)
 refine(hstart hX).cw fun W K=>?_
 refine wp_region_lit (K.ld 1 rfl ?_)
 go_wp2_with fail
 have K:=K.k0 (f:=aa.fact A n cells) i
 clear i
 refine(fE ⟨nm,role,mode,wd,sl,cells,h,l,room,has,m⟩ A n k _ W K.xok (K.fa 0 rfl) a).mono ?_
 rintro e u ⟨rfl,b⟩
 have K:=K.on b
 clear b a
 go_upto_region 3 with(fail)
 refine wp_region_lit (K.ld 0 rfl ?_)
 go_wp2_with fail
 refine(dA ⟨_,_,_,_,_,_,_⟩ g _).mono ?_
 rintro e s ⟨rfl,b⟩
 have K:=K.on b
 clear b
 have c0:=K.r 0 rfl
 have t:=K.r 1 rfl
 go_wp2
 go_ret
 exact⟨rfl,K.below⟩
theorem Dn {c:Cmp} {d:Evt} (p:bX d=0) (v:(d.cm.toList == c.nm.toList)=false):lO c d (6):=by
 intro A n k X w hX i a g
 obtain⟨nm,role,mode,wd,sl,cells,h,l,room,has,m⟩:=c
 obtain⟨eq,ea,x,j,ex,o,q⟩:=d
 simp only at *
 simp only[aL,evA]
 go_enter Tryz.func84,Tryz.ntmps84
 go_upto_region 1 with(fail)
 refine(hstart hX).cw fun W K=>?_
 refine wp_region_lit (K.ld 1 rfl ?_)
 go_wp2_with fail
 have K:=K.k0 (f:=aa.fact A n cells) i
 clear i
 refine(fE ⟨nm,role,mode,wd,sl,cells,h,l,room,has,m⟩ A n k _ W K.xok (K.fa 0 rfl) a).mono ?_
 rintro e u ⟨rfl,b⟩
 have K:=K.on b
 clear b a
 go_upto_region 3 with(fail)
 refine wp_region_lit (K.ld 0 rfl ?_)
 go_wp2_with fail
 refine(dA ⟨_,_,_,_,_,_,_⟩ g _).mono ?_
 rintro e s ⟨rfl,b⟩
 have K:=K.on b
 clear b
 have c0:=K.r 0 rfl
 have t:=K.r 1 rfl
 go_wp2
 go_ret
 exact⟨rfl,K.below⟩
theorem Az {c:Cmp} {b:Evt} (s:bX b=0) (y:(b.cm.toList == c.nm.toList)=true) (j:b.k=1):lO c b (7):=by
 intro A n m X w hX i a g
 obtain⟨nm,role,mode,wd,sl,cells,h,o,room,has,p⟩:=c
 obtain⟨eq,ea,z,l,ex,q,t⟩:=b
 simp only at *
 simp only[aL,evA]
 subst j
 go_enter Tryz.func84,Tryz.ntmps84
 go_upto_region 1 with(fail)
 refine(hstart hX).cw fun W K=>?_
 refine wp_region_lit (K.ld 1 rfl ?_)
 go_wp2_with fail
 have K:=K.k0 (f:=aa.fact A n cells) i
 clear i
 refine(fE ⟨nm,role,mode,wd,sl,cells,h,o,room,has,p⟩ A n m _ W K.xok (K.fa 0 rfl) a).mono ?_
 rintro e x ⟨rfl,d⟩
 have K:=K.on d
 clear d a
 go_upto_region 3 with(fail)
 refine wp_region_lit (K.ld 0 rfl ?_)
 go_wp2_with fail
 refine(dA ⟨_,_,_,_,_,_,_⟩ g _).mono ?_
 rintro e u ⟨rfl,d⟩
 have K:=K.on d
 clear d
 have c0:=K.r 0 rfl
 have v:=K.r 1 rfl
 go_wp2
 go_ret
 exact⟨rfl,K.below⟩
theorem zi {c:Cmp} {a:Evt} (v:bX a=0) (D:(a.cm.toList == c.nm.toList)=true) (t:¬ a.k=1) (y:0<bD a.k) (j:¬ bD a.k=c.role):lO c a (8):=by
 intro A n m X w hX i b g
 obtain⟨nm,role,mode,wd,sl,cells,h,o,room,has,p⟩:=c
 obtain⟨eq,ea,q,l,ex,u,x⟩:=a
 simp only at *
 simp only[aL,evA]
 have s:(bD q != role)=true:=by simpa using j
 go_enter Tryz.func84,Tryz.ntmps84
 go_upto_region 1 with(fail)
 refine(hstart hX).cw fun W K=>?_
 refine wp_region_lit (K.ld 1 rfl ?_)
 go_wp2_with fail
 have K:=K.k0 (f:=aa.fact A n cells) i
 clear i
 refine(fE ⟨nm,role,mode,wd,sl,cells,h,o,room,has,p⟩ A n m _ W K.xok (K.fa 0 rfl) b).mono ?_
 rintro e C ⟨rfl,d⟩
 have K:=K.on d
 clear d b
 go_upto_region 3 with(fail)
 refine wp_region_lit (K.ld 0 rfl ?_)
 go_wp2_with fail
 refine(dA ⟨_,_,_,_,_,_,_⟩ g _).mono ?_
 rintro e z ⟨rfl,d⟩
 have K:=K.on d
 clear d
 have c0:=K.r 0 rfl
 have B:=K.r 1 rfl
 go_wp2_with (go_at_call 150;refine(rJ _ _).mono ?_;rintro e w' ⟨rfl,rfl⟩)
 go_ret
 exact⟨rfl,K.below⟩
set_option maxHeartbeats 2000000 in
theorem Bb {c:Cmp} {a:Evt} (D:bX a=0) (I:(a.cm.toList == c.nm.toList)=true) (p:a.k=2) (j:0≤a.y∧0≤a.z) (m:Int) (o:Hid (m=if gH c.role a=true then 0 else 4)):lO c a (m):=by
 intro A n v X w hX l b i
 obtain⟨nm,role,mode,wd,sl,cells,h,x,room,has,B⟩:=c
 obtain⟨eq,ea,J,q,ex,C,E⟩:=a
 simp only at *
 simp only[aL,evA]
 subst p
 have u:=Lib.hid (bO b)
 have s:bD 2=0:=rfl
 have t:=Lib.hid j
 clear j
 go_enter Tryz.func84,Tryz.ntmps84
 go_upto_region 1 with(fail)
 refine(hstart hX).cw fun W K=>?_
 refine wp_region_lit (K.ld 1 rfl ?_)
 go_wp2_with fail
 have K:=K.k0 (f:=aa.fact A n cells) l
 clear l
 refine(fE ⟨nm,role,mode,wd,sl,cells,h,x,room,has,B⟩ A n v _ W K.xok (K.fa 0 rfl) b).mono ?_
 rintro e G ⟨rfl,d⟩
 have K:=K.on d
 clear d b
 go_upto_region 3 with(fail)
 refine wp_region_lit (K.ld 0 rfl ?_)
 go_wp2_with fail
 refine(dA ⟨_,_,_,_,_,_,_⟩ i _).mono ?_
 rintro e H ⟨rfl,d⟩
 have K:=K.on d
 clear d
 have c0:=K.r 0 rfl
 have F:=K.r 1 rfl
 rcases u.out with g | g | g
 all_goals
  try simp only at g
  subst g
  go_wp2_with (go_at_call 150;refine(rJ _ _).mono ?_;rw[s];rintro e w' ⟨rfl,rfl⟩)
  all_goals
   go_ret
   refine⟨?_,K.below⟩
   have j:=t.out
   first
    | (show Ending.returned (.int .i64 0)=Ending.returned (.int .i64 m);rw[o.out,if_pos (by simp[gH]<;>omega)])
    | (show Ending.returned (.int .i64 4)=Ending.returned (.int .i64 m);rw[o.out,if_neg (by simp[gH]<;>omega)])
theorem Cc {c:Cmp} {a:Evt} (u:bX a=0) (B:(a.cm.toList == c.nm.toList)=true) (s:¬ a.k=1) (q:¬ a.k=2) (l:bD a.k=c.role):lO c a (0):=by
 intro A n m X w hX i b g
 obtain⟨nm,role,mode,wd,sl,cells,h,o,room,has,p⟩:=c
 obtain⟨eq,ea,C,j,ex,t,v⟩:=a
 simp only at *
 simp only[aL,evA]
 go_enter Tryz.func84,Tryz.ntmps84
 go_upto_region 1 with(fail)
 refine(hstart hX).cw fun W K=>?_
 refine wp_region_lit (K.ld 1 rfl ?_)
 go_wp2_with fail
 have K:=K.k0 (f:=aa.fact A n cells) i
 clear i
 refine(fE ⟨nm,role,mode,wd,sl,cells,h,o,room,has,p⟩ A n m _ W K.xok (K.fa 0 rfl) b).mono ?_
 rintro e z ⟨rfl,d⟩
 have K:=K.on d
 clear d b
 go_upto_region 3 with(fail)
 refine wp_region_lit (K.ld 0 rfl ?_)
 go_wp2_with fail
 refine(dA ⟨_,_,_,_,_,_,_⟩ g _).mono ?_
 rintro e x ⟨rfl,d⟩
 have K:=K.on d
 clear d
 have c0:=K.r 0 rfl
 have y:=K.r 1 rfl
 go_wp2_with (go_at_call 150;refine(rJ _ _).mono ?_;rw[l];rintro e w' ⟨rfl,rfl⟩)
 all_goals
  go_ret
  exact⟨rfl,K.below⟩
theorem BH {e:Evt} (h:bX e=0):0≤bD e.k:=by
 obtain⟨b,a,_⟩:=cK h
 unfold bD
 repeat (first | (split;(try omega)) | omega)
theorem eL (c:Cmp) (A:Option Addr) (n p:Nat) (a:Evt) (X:List Nat) (w:World) (hX:XOk X w) (q:aa w X A n c.cells) (l:dr c) (m:a.cm.size≤maxLen):
 Calls Tryz.prog 84 #[.agg (aL c A n p).toArray,.agg (evA a)] w fun e w'=>e = .returned (.int .i64 (iw c a))∧Below w.heap.size w w':=by
 suffices h:lO c a (iw c a) from h A n p X w hX q l m
 unfold iw
 by_cases b:bX a=0
 ·rw[if_neg (by simpa using b)]
  by_cases j:a.cm=c.nm
  ·have d:(a.cm.toList == c.nm.toList)=true:=by rw[j];simp
   rw[if_neg (by simpa using j)]
   by_cases f:a.k=1
   ·rw[if_pos f];exact Az b d f
   ·rw[if_neg f]
    by_cases i:bD a.k≠0∧bD a.k≠c.role
    ·rw[if_pos i];exact zi b d f (by have:=BH b;have:=i.1;omega) i.2
    ·rw[if_neg i]
     by_cases g:a.k=2
     ·have o:=dB ⟨(cK b).1,(cK b).2.1⟩ (cK b).2.2.2.1
      have r:0≤a.y∧0≤a.z:=⟨o.2.1.1,o.2.2.1.1⟩
      have:=Bb b d g r _ (Lib.hid rfl)
      cases h6:gH c.role a with
      | false=>rw[if_pos ⟨g,rfl⟩];rw[h6,if_neg (by simp)]at this;exact this
      | true=>rw[if_neg (by simp)];rw[h6,if_pos rfl]at this;exact this
     ·rw[if_neg (fun h=>g h.1)]
      refine Cc b d f g ?_
      obtain⟨u,s,_⟩:=cK b
      have t:bD a.k≠0:=by
       unfold bD
       rw[if_neg (by omega)]
       repeat (first | (split;(try omega)) | omega)
      omega
  ·rw[if_pos (by simpa using j)]
   exact Dn b (by rw[beq_eq_false_iff_ne];exact fun h=>j (fL h))
 ·rw[if_pos (by simpa using b)];exact zO b
end
section
open Go.RowKit
def gj (s:St) (e0:Evt) (m:Int):Prop := ∀ (A:Option Addr) (n cp:Nat) (X:List Nat) (w:World),XOk X w→Sl aB w X A n cp s.cs→cF s→e0.cm.size≤maxLen →
 Calls Tryz.prog 33 #[.agg #[.slice A n cp,.int .i64 s.q,.int .i64 s.a],.agg (evA e0)] w fun e w'=>e = .returned (.int .i64 m)∧Below w.heap.size w w'
theorem yQ {s:St} {d:Evt} (u:¬ bX d=0):gj s d (bX d):=by
 intro A n o X w hX f b g
 obtain⟨cs,q,a⟩:=s
 obtain⟨eq,ea,D,j,ex,t,x⟩:=d
 simp only at *
 obtain⟨l,k,p,m,i,v,C⟩:=id b
 have hn:n≤12:=by have:=f.len;simp only at l;omega
 have B:=Lib.hid f.len
 simp only at k p m i
 simp only[evA]
 go_enter Tryz.func33,Tryz.ntmps33
 go_wp2_with fail
 refine(hstart hX).cl fun W K=>?_
 have K:=K.ksl0 f
 clear f
 refine(eV ⟨cs,q,a⟩ A _ o _ W K.xok (K.sl 0 rfl) b).mono ?_
 rintro e z ⟨rfl,c⟩
 have K:=K.on c
 clear c
 have h:=K.r 1 rfl
 have c0:=K.r 0 rfl
 go_wp2_with fail
 refine(dA ⟨_,_,_,_,_,_,_⟩ g _).mono ?_
 skip
 rintro e y ⟨rfl,c⟩
 have K:=K.on c
 clear c c0 h
 have c0:=K.r 0 rfl
 have h:=K.r 1 rfl
 go_wp2
 go_ret
 exact⟨rfl,K.below⟩
theorem zh {s:St} {d:Evt} (g:bX d=0) (G:¬ d.q=s.q+1):gj s d (1):=by
 intro A n t X w hX f b h
 obtain⟨cs,q,a⟩:=s
 obtain⟨eq,ea,I,k,ex,y,B⟩:=d
 simp only at *
 obtain⟨o,m,u,p,j,z,F⟩:=id b
 have hn:n≤12:=by have:=f.len;simp only at o;omega
 have E:=Lib.hid f.len
 simp only at m u p j
 have v:=(cK g).2.2.2.2.2.2
 simp only at v
 have x:wrap64 (eq-1)=eq-1:=by unfold wrap64;omega
 have H:¬ eq-1=q:=by omega
 have l:=Lib.hid g
 clear g
 simp only[evA]
 go_enter Tryz.func33,Tryz.ntmps33
 go_wp2_with fail
 refine(hstart hX).cl fun W K=>?_
 have K:=K.ksl0 f
 clear f
 refine(eV ⟨cs,q,a⟩ A _ t _ W K.xok (K.sl 0 rfl) b).mono ?_
 rintro e D ⟨rfl,c⟩
 have K:=K.on c
 clear c
 have i:=K.r 1 rfl
 have c0:=K.r 0 rfl
 go_wp2_with fail
 refine(dA ⟨_,_,_,_,_,_,_⟩ h _).mono ?_
 rw[l.out]
 rintro e C ⟨rfl,c⟩
 have K:=K.on c
 clear c c0 i
 have c0:=K.r 0 rfl
 have i:=K.r 1 rfl
 go_wp2
 go_ret
 exact⟨rfl,K.below⟩
theorem uJ {s:St} {c:Evt} (h:bX c=0) (u:c.q=s.q+1) (y:c.a<s.a):gj s c (5):=by
 intro A n t X w hX f b g
 obtain⟨cs,q,a⟩:=s
 obtain⟨eq,ea,H,k,ex,z,C⟩:=c
 simp only at *
 obtain⟨o,m,v,p,j,B,G⟩:=id b
 have hn:n≤12:=by have:=f.len;simp only at o;omega
 have F:=Lib.hid f.len
 simp only at m v p j
 have l:=Lib.hid h
 clear h
 subst u
 have x:wrap64 (q+1-1)=q:=by unfold wrap64;omega
 simp only[evA]
 go_enter Tryz.func33,Tryz.ntmps33
 go_wp2_with fail
 refine(hstart hX).cl fun W K=>?_
 have K:=K.ksl0 f
 clear f
 refine(eV ⟨cs,q,a⟩ A _ t _ W K.xok (K.sl 0 rfl) b).mono ?_
 rintro e E ⟨rfl,d⟩
 have K:=K.on d
 clear d
 have i:=K.r 1 rfl
 have c0:=K.r 0 rfl
 go_wp2_with fail
 refine(dA ⟨_,_,_,_,_,_,_⟩ g _).mono ?_
 rw[l.out]
 rintro e D ⟨rfl,d⟩
 have K:=K.on d
 clear d c0 i
 have c0:=K.r 0 rfl
 have i:=K.r 1 rfl
 go_wp2
 go_ret
 exact⟨rfl,K.below⟩
theorem sU {s:St} {c:Evt} (l:bX c=0) {i:Nat} (m:cX s.cs c.cm=(i:Int)) (B:c.q=s.q+1) (E:¬ c.a<s.a) (z:c.k=1):gj s c (7):=by
 intro A n o X w hX g d j
 obtain⟨cs,q,a⟩:=s
 obtain⟨eq,ea,P,h,ex,F,H⟩:=c
 simp only at *
 obtain⟨x,u,C,y,p,G,M⟩:=id d
 have hn:n≤12:=by have:=g.len;simp only at x;omega
 have L:=Lib.hid g.len
 simp only at u C y p
 have t:=Lib.hid l
 clear l
 have v:=Lib.hid m
 clear m
 subst B
 have D:wrap64 (q+1-1)=q:=by unfold wrap64;omega
 subst z
 have O:(0:Int)≤(i:Int):=by omega
 simp only[evA]
 go_enter Tryz.func33,Tryz.ntmps33
 go_wp2_with fail
 refine(hstart hX).cl fun W K=>?_
 have K:=K.ksl0 g
 clear g
 refine(eV ⟨cs,q,a⟩ A _ o _ W K.xok (K.sl 0 rfl) d).mono ?_
 rintro e J ⟨rfl,b⟩
 have K:=K.on b
 clear b
 have f:=K.r 1 rfl
 have c0:=K.r 0 rfl
 go_wp2_with fail
 refine(dA ⟨_,_,_,_,_,_,_⟩ j _).mono ?_
 rw[t.out]
 rintro e I ⟨rfl,b⟩
 have K:=K.on b
 clear b c0 f
 have c0:=K.r 0 rfl
 have f:=K.r 1 rfl
 go_wp2_with fail
 refine(iO ⟨cs,q,a⟩ h A _ o _ _ K.xok (K.sl 0 rfl) hn).mono ?_
 rw[v.out]
 rintro e N ⟨rfl,b⟩
 have K:=K.on b
 clear b c0 f
 have c0:=K.r 0 rfl
 have f:=K.r 1 rfl
 go_wp2
 go_ret
 exact⟨rfl,K.below⟩
theorem vf {s:St} {c:Evt} (j:bX c=0) (l:cX s.cs c.cm = -1) (B:c.q=s.q+1) (F:¬ c.a<s.a) (x:c.k=1) (D:s.cs.length=12):gj s c (9):=by
 intro A n m X w hX g d i
 obtain⟨cs,q,a⟩:=s
 obtain⟨eq,ea,O,h,ex,G,I⟩:=c
 simp only at *
 obtain⟨v,t,C,y,o,H,M⟩:=id d
 have hn:n≤12:=by have:=g.len;simp only at v;omega
 have z:=Lib.hid g.len
 simp only at t C y o
 have p:=Lib.hid j
 clear j
 have u:=Lib.hid l
 clear l
 subst B
 have E:wrap64 (q+1-1)=q:=by unfold wrap64;omega
 subst x
 obtain rfl:n=12:=by have:=z.out;omega
 simp only[evA]
 go_enter Tryz.func33,Tryz.ntmps33
 go_wp2_with fail
 refine(hstart hX).cl fun W K=>?_
 have K:=K.ksl0 g
 clear g
 refine(eV ⟨cs,q,a⟩ A _ m _ W K.xok (K.sl 0 rfl) d).mono ?_
 rintro e L ⟨rfl,b⟩
 have K:=K.on b
 clear b
 have f:=K.r 1 rfl
 have c0:=K.r 0 rfl
 go_wp2_with fail
 refine(dA ⟨_,_,_,_,_,_,_⟩ i _).mono ?_
 rw[p.out]
 rintro e J ⟨rfl,b⟩
 have K:=K.on b
 clear b c0 f
 have c0:=K.r 0 rfl
 have f:=K.r 1 rfl
 go_wp2_with fail
 refine(iO ⟨cs,q,a⟩ h A _ m _ _ K.xok (K.sl 0 rfl) hn).mono ?_
 rw[u.out]
 rintro e N ⟨rfl,b⟩
 have K:=K.on b
 clear b c0 f
 have c0:=K.r 0 rfl
 have f:=K.r 1 rfl
 go_wp2
 go_ret
 exact⟨rfl,K.below⟩
theorem xP {s:St} {c:Evt} (j:bX c=0) (l:cX s.cs c.cm = -1) (C:c.q=s.q+1) (F:¬ c.a<s.a) (y:c.k=1) (p:¬ s.cs.length=12):gj s c (0):=by
 intro A n m X w hX g d i
 obtain⟨cs,q,a⟩:=s
 obtain⟨eq,ea,P,h,ex,G,I⟩:=c
 simp only at *
 obtain⟨x,u,D,z,o,H,M⟩:=id d
 have hn:n≤12:=by have:=g.len;simp only at x;omega
 have B:=Lib.hid g.len
 simp only at u D z o
 have t:=Lib.hid j
 clear j
 have v:=Lib.hid l
 clear l
 subst C
 have E:wrap64 (q+1-1)=q:=by unfold wrap64;omega
 subst y
 have O:¬ (12:Int)≤(n:Int):=by have:=B.out;omega
 clear p
 simp only[evA]
 go_enter Tryz.func33,Tryz.ntmps33
 go_wp2_with fail
 refine(hstart hX).cl fun W K=>?_
 have K:=K.ksl0 g
 clear g
 refine(eV ⟨cs,q,a⟩ A _ m _ W K.xok (K.sl 0 rfl) d).mono ?_
 rintro e L ⟨rfl,b⟩
 have K:=K.on b
 clear b
 have f:=K.r 1 rfl
 have c0:=K.r 0 rfl
 go_wp2_with fail
 refine(dA ⟨_,_,_,_,_,_,_⟩ i _).mono ?_
 rw[t.out]
 rintro e J ⟨rfl,b⟩
 have K:=K.on b
 clear b c0 f
 have c0:=K.r 0 rfl
 have f:=K.r 1 rfl
 go_wp2_with fail
 refine(iO ⟨cs,q,a⟩ h A _ m _ _ K.xok (K.sl 0 rfl) hn).mono ?_
 rw[v.out]
 rintro e N ⟨rfl,b⟩
 have K:=K.on b
 clear b c0 f
 have c0:=K.r 0 rfl
 have f:=K.r 1 rfl
 go_wp2
 go_ret
 exact⟨rfl,K.below⟩
theorem zj {s:St} {c:Evt} (j:bX c=0) (l:cX s.cs c.cm = -1) (y:c.q=s.q+1) (C:¬ c.a<s.a) (G:¬ c.k=1):gj s c (6):=by
 intro A n m X w hX g d i
 obtain⟨cs,q,a⟩:=s
 obtain⟨eq,ea,N,h,ex,D,F⟩:=c
 simp only at *
 obtain⟨v,t,z,x,o,E,L⟩:=id d
 have hn:n≤12:=by have:=g.len;simp only at v;omega
 have J:=Lib.hid g.len
 simp only at t z x o
 have p:=Lib.hid j
 clear j
 have u:=Lib.hid l
 clear l
 subst y
 have B:wrap64 (q+1-1)=q:=by unfold wrap64;omega
 simp only[evA]
 go_enter Tryz.func33,Tryz.ntmps33
 go_wp2_with fail
 refine(hstart hX).cl fun W K=>?_
 have K:=K.ksl0 g
 clear g
 refine(eV ⟨cs,q,a⟩ A _ m _ W K.xok (K.sl 0 rfl) d).mono ?_
 rintro e I ⟨rfl,b⟩
 have K:=K.on b
 clear b
 have f:=K.r 1 rfl
 have c0:=K.r 0 rfl
 go_wp2_with fail
 refine(dA ⟨_,_,_,_,_,_,_⟩ i _).mono ?_
 rw[p.out]
 rintro e H ⟨rfl,b⟩
 have K:=K.on b
 clear b c0 f
 have c0:=K.r 0 rfl
 have f:=K.r 1 rfl
 go_wp2_with fail
 refine(iO ⟨cs,q,a⟩ h A _ m _ _ K.xok (K.sl 0 rfl) hn).mono ?_
 rw[u.out]
 rintro e M ⟨rfl,b⟩
 have K:=K.on b
 clear b c0 f
 have c0:=K.r 0 rfl
 have f:=K.r 1 rfl
 go_wp2
 go_ret
 exact⟨rfl,K.below⟩
theorem vF {s:St} {d:Evt} (z:bX d=0) {i:Nat} {c:Cmp} (B:cX s.cs d.cm=(i:Int)) (t:s.cs[i]?=some c) (O:d.q=s.q+1) (S:¬ d.a<s.a) (Y:¬ d.k=1):gj s d (iw c d):=by
 intro A n C X w hX p g l
 obtain⟨cs,q,a⟩:=s
 obtain⟨eq,ea,ek,j,ex,T,V⟩:=d
 simp only at *
 obtain⟨L,H,P,M,E,I,o7⟩:=id g
 have hn:n≤12:=by have:=p.len;simp only at L;omega
 have N:=Lib.hid p.len
 simp only at H P M E
 have G:=Lib.hid z
 clear z
 have J:=Lib.hid B
 clear B
 subst O
 have R:wrap64 (q+1-1)=q:=by unfold wrap64;omega
 have hi:(0:Int)≤(i:Int):=by omega
 have Q:(i:Int)<(n:Int):=by have:=(List.getElem?_eq_some_iff.1 t).1;have:=N.out;omega
 have D:=Lib.hid t
 clear t
 simp only[evA]
 go_enter Tryz.func33,Tryz.ntmps33
 go_wp2_with fail
 refine(hstart hX).cl fun W K=>?_
 have K:=K.ksl0 p
 clear p
 refine(eV ⟨cs,q,a⟩ A _ C _ W K.xok (K.sl 0 rfl) g).mono ?_
 rintro e w1 ⟨rfl,b⟩
 have K:=K.on b
 clear b
 have m:=K.r 1 rfl
 have c0:=K.r 0 rfl
 go_wp2_with fail
 refine(dA ⟨_,_,_,_,_,_,_⟩ l _).mono ?_
 rw[G.out]
 rintro e Z ⟨rfl,b⟩
 have K:=K.on b
 clear b c0 m
 have c0:=K.r 0 rfl
 have m:=K.r 1 rfl
 go_wp2_with fail
 refine(iO ⟨cs,q,a⟩ j A _ C _ _ K.xok (K.sl 0 rfl) hn).mono ?_
 rw[J.out]
 rintro e w3 ⟨rfl,b⟩
 have K:=K.on b
 clear b c0 m
 have c0:=K.r 0 rfl
 have m:=K.r 1 rfl
 go_upto_region 19 with(fail)
 obtain⟨ad,r,rfl,K,⟨y,x,u,rfl,o,F⟩⟩:=K.elem 0 rfl D.out
 have K:=K.kn (f:=aa.fact y x c.cells) o
 have U:(0:Int)≤(i:Int):=by omega
 clear c0 m o
 refine K.rg fun W K=>?_
 refine tK 0 K ?_
 refine tL 1 (fun _ h=>h.r 1 rfl) K ?_
 refine tK 2 K ?_
 refine tK 3 K ?_
 refine tL 4 (fun _ h=>h) K ?_ (hy:=fun w v=>aD (v.at' 1 rfl))
 refine tL 5 (fun _ h=>h) K ?_ (hy:=fun w v=>aD (v.at_ 0 rfl))
 refine tC 6 fun K' hK=>?_
 go_simp
 refine(eL c y x u ⟨_,_,_,j,_,_,_⟩ _ _ K.xok (K.fa 0 rfl) (I c (List.mem_of_getElem? D.out)) l).mono ?_
 rintro e w4 ⟨rfl,b⟩
 refine hK.out _ _ (K.on b) fun K=>?_
 clear hK K' b
 try simp only[Act.put,aq,aj,ai]
 refine tK 7 K ?_
 refine tE ?_
 go_wp2
 go_ret
 exact⟨rfl,K.below⟩
end
section
open Go.RowKit
theorem qW (s:St) (b:Evt):gj s b (cS s b):=by
 unfold cS
 by_cases e:bX b=0
 ·rw[if_neg (by simpa using e)]
  by_cases f:b.q=s.q+1
  ·rw[if_neg (by simpa using f)]
   by_cases g:b.a<s.a
   ·rw[if_pos g];exact uJ e f g
   ·rw[if_neg g]
    cases hc:s.cs[fu s.cs b.cm]? with
    | none=>
      have h:cX s.cs b.cm = -1:=by unfold cX;rw[if_neg (show ¬ fF Cmp.nm s.cs b.cm<s.cs.length from Nat.not_lt.2 (List.getElem?_eq_none_iff.1 hc))]
      by_cases d:b.k=1
      ·simp only[d,if_true]
       by_cases i:s.cs.length=12
       ·rw[if_pos i];exact vf e h f g d i
       ·rw[if_neg i];exact xP e h f g d i
      ·simp only[d,if_false];exact zj e h f g d
    | some c=>
      have h:cX s.cs b.cm=(fu s.cs b.cm:Int):=by unfold cX;rw[if_pos (show fF Cmp.nm s.cs b.cm<s.cs.length from(List.getElem?_eq_some_iff.1 hc).1)]
      by_cases d:b.k=1
      ·simp only[d,if_true];exact sU e h f g d
      ·simp only[d,if_false];exact vF e h hc f g d
  ·rw[if_pos (by simpa using f)];exact zh e f
 ·rw[if_pos (by simpa using e)];exact yQ e
end
section
open Go.RowKit
def nq (l:List Evt):Bool:=l.all fun e=>decide (e.cm.size≤100)
set_option maxHeartbeats 1000000 in
theorem ya (l:List Evt) (A:Option Addr) (n c:Nat) (X:List Nat) (w:World) (hX:XOk X w) (h:Sl fc w X A n c l) (hn:n≤1000):
 Calls Tryz.prog 7 #[.slice A n c] w fun e w'=>e = .returned (.bool (nq l))∧Below w.heap.size w w':=by
 have q:=Lib.hid h.len
 have v:=Lib.hid h
 clear h
 go_enter Tryz.func7,Tryz.ntmps7
 go_wp2
 go_loopw [3] (fun i wr => ∃ (k:Nat),k≤n∧i = .int .i64 k∧Hid (∀ (j:Nat) d,j<k→l[j]?=some d→d.cm.size≤100)∧HH w [] X wr [] [Sl.fact fc A n c l]) (fun i _=>n-(intOf i).toNat)
 case atStart=>exact⟨0,Nat.zero_le _,rfl,Lib.hid (fun j d b=>absurd b (Nat.not_lt_zero _)),(hstart hX).ksl0 v.out⟩
 case round=>
  obtain⟨k,z,rfl,p,K⟩:=hrel
  by_cases y:k<n
  ·obtain⟨x,f⟩:∃ x,l[k]?=some x:=⟨_,List.getElem?_eq_getElem (by have:=q.out;omega)⟩
   obtain⟨ad,r,rfl,K,⟨rfl,u⟩⟩:=K.elem 0 rfl f
   have D:wr.cell? ⟨(ad.add (k*7)).block,(ad.add (k*7)).off+3,none⟩=some (.string x.cm):=K.at' 0 rfl 3 _ rfl
   have s:=Lib.hid f
   have B:(0:Int)≤(k:Int):=by omega
   have C:(k:Int)<(n:Int):=by omega
   clear f
   by_cases o:x.cm.size≤100
   ·have t:¬ (100:Int)<(x.cm.size:Int):=by omega
    go_wp2
    go_roundw
    case rel=>
     refine⟨k+1,by omega,by go_num,Lib.hid (fun j d b a=>?_),K.ft⟩
     by_cases g:j=k
     ·subst g
      rw[s.out]at a
      injection a with a
      subst a
      exact o
     ·exact p.out j d (by omega) a
    case measure=>simp[intOf];omega
   ·have t:(100:Int)<(x.cm.size:Int):=by omega
    have m:Hid (nq l=false):=Lib.hid (by
     unfold nq
     rw[List.all_eq_false]
     exact⟨x,List.mem_of_getElem? s.out,by simpa using o⟩)
    go_wp2
    go_ret
    exact⟨by rw[m.out];rfl,K.below⟩
  ·obtain rfl:k=n:=by omega
   have m:Hid (nq l=true):=Lib.hid (by
    unfold nq
    rw[List.all_eq_true]
    intro d a
    obtain⟨j,b,rfl⟩:=List.mem_iff_getElem.1 a
    exact decide_eq_true (p.out j _ (by have:=q.out;omega) (List.getElem?_eq_getElem b)))
   go_wp2
   go_ret
   exact⟨by rw[m.out];rfl,K.below⟩
def mrg (c:Cmp):Bool→List Cmp→List Cmp
 | put,[]=>if put=true then [] else [c]
 | put,d::l=>(if put=false∧ltB d.nm c.nm=false then [c] else [])++(if d.nm=c.nm then [] else [d])++mrg c (put || !ltB d.nm c.nm) l
theorem qP (c:Cmp):∀ l:List Cmp,(∀ d ∈ l,d.nm≠c.nm)→mrg c true l=l
 | [],_=>rfl
 | d::l,h=>by
   have a:=h d (by simp)
   simp[mrg,a,qP c l (fun e b=>h e (by simp[b]))]
theorem xd (c:Cmp):∀ l:List Cmp,Srt Cmp.nm l→(∀ d ∈ l,d.nm≠c.nm)→mrg c false l=eY Cmp.nm c l
 | [],_,_=>rfl
 | d::l,hs,h=>by
   have b:=h d (by simp)
   have a:=(List.pairwise_cons.1 hs).2
   have h':∀ e ∈ l,e.nm≠c.nm:=fun e f=>h e (by simp[f])
   cases hlt:ltB d.nm c.nm with
   | true=>simp[mrg,eY,hlt,b,xd c l a h']
   | false=>simp[mrg,eY,hlt,b,qP c l h']
theorem wF (c:Cmp):∀ (l:List Cmp) (i:Nat) (d:Cmp),Srt Cmp.nm l→l[i]?=some d→d.nm=c.nm→mrg c false l=l.set i c
 | [],i,d,_,h,_=>by simp at h
 | e::l,0,d,hs,h,hd=>by
   simp only[List.getElem?_cons_zero,Option.some.injEq]at h
   subst h
   have b:=List.pairwise_cons.1 hs
   have h':∀ x ∈ l,x.nm≠c.nm:=fun x j k=>by
    have:=b.1 x j
    rw[hd,k,ji]at this
    cases this
   simp[mrg,hd,ji,qP c l h']
 | e::l,i+1,d,hs,h,hd=>by
   have b:=List.pairwise_cons.1 hs
   have a:l[i]?=some d:=by simpa using h
   have f:=b.1 d (List.mem_of_getElem? a)
   rw[hd]at f
   have g:e.nm≠c.nm:=jj f
   simp[mrg,f,g,wF c l i d b.2 a hd]
end
section
open Go.RowKit
theorem Dg {a:Int} (b:0≤a) (c:a≤1099511627776):newR 10 4 a=⟨10,a/10,List.replicate 4 (0,0),0⟩:=by
 unfold newR oE
 rw[if_pos (by rw[decide_eq_true_eq];omega)]
 rfl
set_option maxHeartbeats 1500000 in
theorem Dr (nm:ByteArray) (role a:Int) (q:1≤nm.size) (u:nm.size≤24) (l:1≤role) (m:role≤3) (k:0≤a) (p:a≤1099511627776) (X:List Nat) (w:World) (hX:XOk X w):
 Calls Tryz.prog 34 #[.string nm,.int .i64 role,.int .i64 a] w (kF (jm nm role a) X w):=by
 have r:¬ (nm.size:Int)<1:=by omega
 have s:¬ (24:Int)<(nm.size:Int):=by omega
 have b:aY a=true:=by unfold aY;simp;omega
 have c:=Lib.hid (Dg k p)
 have o:role=1∨role=2∨role=3:=by omega
 clear l m
 rcases o with rfl | rfl | rfl
 ·go_enter Tryz.func34,Tryz.ntmps34
  go_upto_region 5 with(fail)
  refine(hstart hX).cw fun W K=>?_
  go_wp2_with fail
  refine(lH a _).mono ?_
  rw[b]
  rintro e i ⟨rfl,rfl⟩
  go_upto_region 9 with(refine K.lw fun W K=>?_;refine K.sr 0 rfl fun W K=>?_)
  go_wp2_with fail
  refine(uy 10 4 a _).mono ?_
  intro e t g
  obtain⟨A,n,j,rfl,h,d⟩:=aa.of_win (X:=Exs _++X) g K.xok (aa.zero _ _) (.inr rfl)
  have K:=(K.on h).kn (f:=aa.fact A n _) d
  rw[c.out]at K ⊢
  clear h d g
  go_upto_region 10 with(refine K.lw fun W K=>?_;refine K.sr 0 rfl fun W K=>?_)
  go_upto_region 12 with(first | refine K.ld 0 rfl ?_ | refine K.ss (new:=(aL (jm nm 1 a) A n j).toArray) 1 rfl fun W K=>?_)
  go_wp2_with (first | refine K.ld 1 rfl ?_ | refine K.sr 2 rfl fun W K=>?_)
  exact K.rc2 2 rfl rfl ⟨A,n,j,rfl,K.below,K.back (K.fa 0 rfl)⟩
 ·go_enter Tryz.func34,Tryz.ntmps34
  go_upto_region 5 with(fail)
  refine(hstart hX).cw fun W K=>?_
  go_wp2_with fail
  refine(lH a _).mono ?_
  rw[b]
  rintro e i ⟨rfl,rfl⟩
  go_upto_region 11 with(refine K.lw fun W K=>?_;refine K.sr 0 rfl fun W K=>?_)
  go_upto_region 12 with(refine K.ss (new:=(aL (jm nm 2 a) none 0 0).toArray) 0 rfl fun W K=>?_)
  go_wp2_with (first | refine K.ld 0 rfl ?_ | refine K.sr 1 rfl fun W K=>?_)
  exact K.rc2 1 rfl rfl ⟨none,0,0,rfl,K.below,aa.zero _ _⟩
 ·go_enter Tryz.func34,Tryz.ntmps34
  go_upto_region 5 with(fail)
  refine(hstart hX).cw fun W K=>?_
  go_wp2_with fail
  refine(lH a _).mono ?_
  rw[b]
  rintro e i ⟨rfl,rfl⟩
  go_upto_region 11 with(refine K.lw fun W K=>?_;refine K.sr 0 rfl fun W K=>?_)
  go_upto_region 12 with(refine K.ss (new:=(aL (jm nm 3 a) none 0 0).toArray) 0 rfl fun W K=>?_)
  go_wp2_with (first | refine K.ld 0 rfl ?_ | refine K.sr 1 rfl fun W K=>?_)
  exact K.rc2 1 rfl rfl ⟨none,0,0,rfl,K.below,aa.zero _ _⟩
end
section
open Go.RowKit
def ia (c:Cmp) (e0:Evt) (c':Cmp):Prop := ∀ (A:Option Addr) (n cp:Nat) (X:List Nat) (w:World),XOk X w→aa w X A n c.cells→dr c→e0.cm.size≤maxLen→iw c e0=0→(e0.x=0∨e0.x=1∨e0.x=2∨e0.k≠3) →
 Calls Tryz.prog 35 #[.agg (aL c A n cp).toArray,.agg (evA e0)] w (kF c' X w)
theorem Aj {c:Cmp} {a:Evt} (o:a.k=6):ia c a (cH c a):=by
 intro A n m X w hX j b g d x
 obtain⟨nm,role,mode,wd,sl,cells,h,t,room,has,u⟩:=c
 obtain⟨eq,ea,B,p,ex,v,y⟩:=a
 simp only at *
 subst o
 obtain rfl:role=2:=by
  have q:=(cD d).2.2.2.1
  simp[bD]at q
  omega
 simp only[aL,evA]
 go_enter Tryz.func35,Tryz.ntmps35
 go_upto_region 1 with(fail)
 refine(hstart hX).cw fun W K=>?_
 have K:=K.k0 (f:=aa.fact A n cells) j
 refine wp_region_lit (K.ld 2 rfl ?_)
 have i:=K.r 1 rfl
 go_wp2_with fail
 clear i
 refine(eL ⟨nm,_,mode,wd,sl,cells,h,t,room,has,u⟩ A n m ⟨_,_,_,_,_,_,_⟩ _ W K.xok (K.fa 0 rfl) b g).mono ?_
 rw[d]
 rintro e z ⟨rfl,l⟩
 have K:=K.on l
 clear l j d
 have i:=K.r 1 rfl
 have s:=K.c 2 rfl
 go_upto_region 44 with(go_at_call 91;refine(eW _ _ _).mono ?_;rintro e w' ⟨rfl,rfl⟩)
 refine K.cw fun W K=>?_
 clear i s
 go_wp2_with (first | refine K.ld 2 rfl ?_ | refine K.sr 0 rfl fun W K=>?_)
 exact K.rc2 0 rfl rfl ⟨A,n,m,rfl,K.below,K.back (K.fa 0 rfl)⟩
theorem yy {c:Cmp} {a:Evt} (o:a.k=10):ia c a (cH c a):=by
 intro A n m X w hX j b g d x
 obtain⟨nm,role,mode,wd,sl,cells,h,t,room,has,u⟩:=c
 obtain⟨eq,ea,B,p,ex,v,y⟩:=a
 simp only at *
 subst o
 obtain rfl:role=3:=by
  have q:=(cD d).2.2.2.1
  simp[bD]at q
  omega
 simp only[aL,evA]
 go_enter Tryz.func35,Tryz.ntmps35
 go_upto_region 1 with(fail)
 refine(hstart hX).cw fun W K=>?_
 have K:=K.k0 (f:=aa.fact A n cells) j
 refine wp_region_lit (K.ld 2 rfl ?_)
 have i:=K.r 1 rfl
 go_wp2_with fail
 clear i
 refine(eL ⟨nm,_,mode,wd,sl,cells,h,t,room,has,u⟩ A n m ⟨_,_,_,_,_,_,_⟩ _ W K.xok (K.fa 0 rfl) b g).mono ?_
 rw[d]
 rintro e z ⟨rfl,l⟩
 have K:=K.on l
 clear l j d
 have i:=K.r 1 rfl
 have s:=K.c 2 rfl
 go_upto_region 44 with(go_at_call 91;refine(eW _ _ _).mono ?_;rintro e w' ⟨rfl,rfl⟩)
 refine K.cw fun W K=>?_
 clear i s
 go_wp2_with (first | refine K.ld 2 rfl ?_ | refine K.sr 0 rfl fun W K=>?_)
 exact K.rc2 0 rfl rfl ⟨A,n,m,rfl,K.below,K.back (K.fa 0 rfl)⟩
set_option maxHeartbeats 1000000 in
theorem zT {c:Cmp} {j:Evt} (u:j.k=5):ia c j (cH c j):=by
 intro A n o X w hX q b m l z
 obtain⟨nm,role,mode,wd,sl,cells,h,s,room,has,t⟩:=c
 obtain⟨eq,ea,E,v,ex,y,B⟩:=j
 simp only at *
 subst u
 obtain rfl:role=2:=by
  have x:=(cD l).2.2.2.1
  simp[bD]at x
  omega
 have i:=mV b (by simp)
 have g:=yd l
 simp only at i g
 simp only[aL,evA]
 go_enter Tryz.func35,Tryz.ntmps35
 go_upto_region 1 with(fail)
 refine(hstart hX).cw fun W K=>?_
 have K:=K.k0 (f:=aa.fact A n cells) q
 refine wp_region_lit (K.ld 2 rfl ?_)
 have a:=K.r 1 rfl
 go_wp2_with fail
 clear a
 refine(eL ⟨nm,_,mode,wd,sl,cells,h,s,room,has,t⟩ A n o ⟨_,_,_,_,_,_,_⟩ _ W K.xok (K.fa 0 rfl) b m).mono ?_
 rw[l]
 rintro e D ⟨rfl,d⟩
 have K:=K.on d
 clear d q l
 have a:=K.r 1 rfl
 have p:=K.c 2 rfl
 go_upto_region 38 with(fail)
 clear a
 have a:=K.r 1 rfl
 go_wp2_with (refine bu (K.sub 2 rfl 16 [.int .i64 room,.int .i64 has]) ?_)
 refine K.cl fun W K=>?_
 obtain⟨tb,hT⟩:=sV room has ex i g.1 W
 refine hT.mono ?_
 rintro e C ⟨rfl,d⟩
 have K:=K.on d
 clear d a p hT
 go_upto_region 39 with(refine K.lw fun W K=>?_;refine K.sr 0 rfl fun W K=>?_)
 go_upto_region 40 with(first | refine K.ld 0 rfl ?_ | refine K.ss (new:=(aL (⟨nm,2,mode,wd,sl,cells,h,s,room,ig has ex,t⟩:Cmp) A n o).toArray) 3 rfl fun W K=>?_)
 have a:=K.r 2 rfl
 have p:=K.c 3 rfl
 go_upto_region 44 with(go_at_call 91;refine(eW _ _ _).mono ?_;rintro e w' ⟨rfl,rfl⟩)
 refine K.cw fun W K=>?_
 clear a p
 go_wp2_with (first | refine K.ld 3 rfl ?_ | refine K.sr 1 rfl fun W K=>?_)
 exact K.rc2 1 rfl rfl ⟨A,n,o,rfl,K.below,K.back (K.fa 0 rfl)⟩
set_option maxHeartbeats 1000000 in
theorem AA {c:Cmp} {j:Evt} (u:j.k=7):ia c j (cH c j):=by
 intro A n o X w hX q b m l z
 obtain⟨nm,role,mode,wd,sl,cells,h,s,room,has,t⟩:=c
 obtain⟨eq,ea,E,v,ex,y,B⟩:=j
 simp only at *
 subst u
 obtain rfl:role=2:=by
  have x:=(cD l).2.2.2.1
  simp[bD]at x
  omega
 have i:=mV b (by simp)
 have g:=yd l
 simp only at i g
 simp only[aL,evA]
 go_enter Tryz.func35,Tryz.ntmps35
 go_upto_region 1 with(fail)
 refine(hstart hX).cw fun W K=>?_
 have K:=K.k0 (f:=aa.fact A n cells) q
 refine wp_region_lit (K.ld 2 rfl ?_)
 have a:=K.r 1 rfl
 go_wp2_with fail
 clear a
 refine(eL ⟨nm,_,mode,wd,sl,cells,h,s,room,has,t⟩ A n o ⟨_,_,_,_,_,_,_⟩ _ W K.xok (K.fa 0 rfl) b m).mono ?_
 rw[l]
 rintro e D ⟨rfl,d⟩
 have K:=K.on d
 clear d q l
 have a:=K.r 1 rfl
 have p:=K.c 2 rfl
 go_upto_region 41 with(fail)
 clear a
 have a:=K.r 1 rfl
 go_wp2_with (refine bu (K.sub 2 rfl 16 [.int .i64 room,.int .i64 has]) ?_)
 refine(DQ room has ex i g.1 _).mono ?_
 rintro e C ⟨rfl,d⟩
 have K:=K.on d
 clear d a p
 go_upto_region 42 with(refine K.ss (new:=(aL (⟨nm,2,mode,wd,sl,cells,h,s,room,mC room has ex,t⟩:Cmp) A n o).toArray) 2 rfl fun W K=>?_)
 have a:=K.r 1 rfl
 have p:=K.c 2 rfl
 go_upto_region 44 with(go_at_call 91;refine(eW _ _ _).mono ?_;rintro e w' ⟨rfl,rfl⟩)
 refine K.cw fun W K=>?_
 clear a p
 go_wp2_with (first | refine K.ld 2 rfl ?_ | refine K.sr 0 rfl fun W K=>?_)
 exact K.rc2 0 rfl rfl ⟨A,n,o,rfl,K.below,K.back (K.fa 0 rfl)⟩
set_option maxHeartbeats 1000000 in
theorem BG {c:Cmp} {i:Evt} (u:i.k=8):ia c i (cH c i):=by
 intro A n m X w hX q b l j z
 obtain⟨nm,role,mode,wd,sl,cells,h,s,room,has,t⟩:=c
 obtain⟨eq,ea,E,v,ex,y,B⟩:=i
 simp only at *
 subst u
 obtain rfl:role=3:=by
  have x:=(cD j).2.2.2.1
  simp[bD]at x
  omega
 have g:=mV b (by simp)
 have p:=yd j
 simp only at g p
 simp only[aL,evA]
 go_enter Tryz.func35,Tryz.ntmps35
 go_upto_region 1 with(fail)
 refine(hstart hX).cw fun W K=>?_
 have K:=K.k0 (f:=aa.fact A n cells) q
 refine wp_region_lit (K.ld 2 rfl ?_)
 have a:=K.r 1 rfl
 go_wp2_with fail
 clear a
 refine(eL ⟨nm,_,mode,wd,sl,cells,h,s,room,has,t⟩ A n m ⟨_,_,_,_,_,_,_⟩ _ W K.xok (K.fa 0 rfl) b l).mono ?_
 rw[j]
 rintro e D ⟨rfl,d⟩
 have K:=K.on d
 clear d q j
 have a:=K.r 1 rfl
 have o:=K.c 2 rfl
 go_upto_region 11 with(fail)
 clear a
 have a:=K.r 1 rfl
 go_wp2_with (refine bu (K.sub 2 rfl 16 [.int .i64 room,.int .i64 has]) ?_)
 refine K.cl fun W K=>?_
 obtain⟨tb,hT⟩:=sV room has 1 g (by omega) W
 refine hT.mono ?_
 rintro e C ⟨rfl,d⟩
 have K:=K.on d
 clear d a o hT
 go_upto_region 12 with(refine K.lw fun W K=>?_;refine K.sr 0 rfl fun W K=>?_)
 go_upto_region 13 with(first | refine K.ld 0 rfl ?_ | refine K.ss (new:=(aL (⟨nm,3,mode,wd,sl,cells,h,s,room,ig has 1,t⟩:Cmp) A n m).toArray) 3 rfl fun W K=>?_)
 have a:=K.r 2 rfl
 have o:=K.c 3 rfl
 go_upto_region 44 with(go_at_call 91;refine(eW _ _ _).mono ?_;rintro e w' ⟨rfl,rfl⟩)
 refine K.cw fun W K=>?_
 clear a o
 go_wp2_with (first | refine K.ld 3 rfl ?_ | refine K.sr 1 rfl fun W K=>?_)
 exact K.rc2 1 rfl rfl ⟨A,n,m,rfl,K.below,K.back (K.fa 0 rfl)⟩
end
section
open Go.RowKit
set_option maxHeartbeats 1500000 in
theorem Ab {c:Cmp} {j:Evt} (z:j.k=9):ia c j (cH c j):=by
 intro A n t X w hX x l q o G
 obtain⟨nm,role,mode,wd,sl,cells,h,i,room,has,y⟩:=c
 obtain⟨eq,ea,L,B,ex,F,H⟩:=j
 simp only at *
 subst z
 obtain rfl:role=3:=by
  have E:=(cD o).2.2.2.1
  simp[bD]at E
  omega
 simp only[aL,evA]
 go_enter Tryz.func35,Tryz.ntmps35
 go_upto_region 1 with(fail)
 refine(hstart hX).cw fun W K=>?_
 have K:=K.k0 (f:=aa.fact A n cells) x
 refine wp_region_lit (K.ld 2 rfl ?_)
 have a:=K.r 1 rfl
 go_wp2_with fail
 clear a
 refine(eL ⟨nm,_,mode,wd,sl,cells,h,i,room,has,y⟩ A n t ⟨_,_,_,_,_,_,_⟩ _ W K.xok (K.fa 0 rfl) l q).mono ?_
 rw[o]
 rintro e J ⟨rfl,g⟩
 have K:=K.on g
 clear g x o
 have a:=K.r 1 rfl
 have u:=K.c 2 rfl
 go_upto_region 15 with(fail)
 clear a
 have a:=K.r 1 rfl
 go_wp2_with (refine bu (K.sub 2 rfl 6 [.int .i64 (h 0),.int .i64 (h 1),.int .i64 (h 2),.int .i64 (h 3),.int .i64 (h 4),.int .i64 (h 5),.int .i64 (h 6),.int .i64 (h 7),.int .i64 (h 8),.int .i64 i]) ?_)
 refine(rQ h i ex _).mono ?_
 obtain⟨p,b⟩:∃ p,p=bU h i ex:=⟨_,rfl⟩
 obtain⟨v,d⟩:∃ v,v=cW h i ex:=⟨_,rfl⟩
 rw[←b,←d]
 have D:=Lib.hid b
 have C:=Lib.hid d
 clear b d
 rintro e I ⟨rfl,g⟩
 have K:=K.on g
 clear g a u
 go_upto_region 16 with(refine K.ss (new:=(aL (⟨nm,3,mode,wd,sl,cells,p,v,room,has,y⟩:Cmp) A n t).toArray) 2 rfl (hn:=by kernel_rfl) fun W K=>?_)
 have a:=K.r 1 rfl
 have u:=K.c 2 rfl
 go_upto_region 44 with(go_at_call 91;refine(eW _ _ _).mono ?_;rintro e w' ⟨rfl,rfl⟩)
 refine K.cw fun W K=>?_
 clear a u
 go_wp2_with (first | refine K.ld 2 rfl ?_ | refine K.sr 0 rfl fun W K=>?_)
 have s:=D.out
 have m:=C.out
 subst s m
 exact K.rc2 0 rfl rfl ⟨A,n,t,rfl,K.below,K.back (K.fa 0 rfl)⟩
set_option maxHeartbeats 1500000 in
theorem xH {c:Cmp} {g:Evt} (i:g.k=2) (y:c.role=1):ia c g (cH c g):=by
 intro A n v X w hX p l m q z
 obtain⟨nm,role,mode,wd,sl,cells,h,s,room,has,t⟩:=c
 obtain⟨eq,ea,E,u,ex,j,B⟩:=g
 simp only at *
 subst i
 subst y
 simp only[aL,evA]
 go_enter Tryz.func35,Tryz.ntmps35
 go_upto_region 1 with(fail)
 refine(hstart hX).cw fun W K=>?_
 have K:=K.k0 (f:=aa.fact A n cells) p
 refine wp_region_lit (K.ld 2 rfl ?_)
 have o:=K.r 1 rfl
 go_wp2_with fail
 clear o
 refine(eL ⟨nm,_,mode,wd,sl,cells,h,s,room,has,t⟩ A n v ⟨_,_,_,_,_,_,_⟩ _ W K.xok (K.fa 0 rfl) l m).mono ?_
 rw[q]
 rintro e D ⟨rfl,d⟩
 have K:=K.on d
 clear d p q
 have o:=K.r 1 rfl
 have x:=K.c 2 rfl
 go_upto_region 25 with(fail)
 go_wp2_with fail
 refine K.cl fun W K=>?_
 refine(uy ex j ea W).mono ?_
 intro e C i
 obtain⟨A',n',b,rfl,d,a⟩:=aa.of_win (X:=Exs _++X) i K.xok (aa.zero _ _) (.inr rfl)
 have K:=(K.on d).kn (f:=aa.fact A' n' _) a
 clear o x a d i
 go_upto_region 26 with(refine K.lw fun W K=>?_;refine K.sr 0 rfl fun W K=>?_)
 go_upto_region 42 with(first | refine K.ld 0 rfl ?_ | refine K.ss (new:=(aL (⟨nm,1,mode,(newR ex j ea).wd,(newR ex j ea).sl,(newR ex j ea).cs,h,s,room,has,t⟩:Cmp) A' n' b).toArray) 3 rfl fun W K=>?_)
 go_wp2_with (first | refine K.ld 3 rfl ?_ | refine K.sr 1 rfl fun W K=>?_)
 exact K.rc2 1 rfl rfl ⟨A',n',b,rfl,K.below,K.back (K.fa 0 rfl)⟩
set_option maxHeartbeats 1500000 in
theorem yM {c:Cmp} {a:Evt} (q:a.k=2) (v:c.role=2):ia c a (cH c a):=by
 intro A n i X w hX j d g m x
 obtain⟨nm,role,mode,wd,sl,cells,h,o,room,has,p⟩:=c
 obtain⟨eq,ea,B,s,ex,t,y⟩:=a
 simp only at *
 subst q
 subst v
 simp only[aL,evA]
 go_enter Tryz.func35,Tryz.ntmps35
 go_upto_region 1 with(fail)
 refine(hstart hX).cw fun W K=>?_
 have K:=K.k0 (f:=aa.fact A n cells) j
 refine wp_region_lit (K.ld 2 rfl ?_)
 have b:=K.r 1 rfl
 go_wp2_with fail
 clear b
 refine(eL ⟨nm,_,mode,wd,sl,cells,h,o,room,has,p⟩ A n i ⟨_,_,_,_,_,_,_⟩ _ W K.xok (K.fa 0 rfl) d g).mono ?_
 rw[m]
 rintro e z ⟨rfl,l⟩
 have K:=K.on l
 clear l j m
 have b:=K.r 1 rfl
 have u:=K.c 2 rfl
 go_upto_region 35 with(fail)
 clear u
 go_upto_region 36 with(refine K.ss (new:=(aL (⟨nm,2,mode,wd,sl,cells,h,o,ex,t,p⟩:Cmp) A n i).toArray) 2 rfl fun W K=>?_)
 clear b
 have b:=K.r 1 rfl
 go_upto_region 42 with(fail)
 go_wp2_with (first | refine K.ld 2 rfl ?_ | refine K.sr 0 rfl fun W K=>?_)
 exact K.rc2 0 rfl rfl ⟨A,n,i,rfl,K.below,K.back (K.fa 0 rfl)⟩
set_option maxHeartbeats 1500000 in
theorem xu {c:Cmp} {a:Evt} (q:a.k=2) (u:c.role=3):ia c a (cH c a):=by
 intro A n i X w hX j d g m x
 obtain⟨nm,role,mode,wd,sl,cells,h,o,room,has,p⟩:=c
 obtain⟨eq,ea,B,s,ex,v,y⟩:=a
 simp only at *
 subst q
 subst u
 simp only[aL,evA]
 go_enter Tryz.func35,Tryz.ntmps35
 go_upto_region 1 with(fail)
 refine(hstart hX).cw fun W K=>?_
 have K:=K.k0 (f:=aa.fact A n cells) j
 refine wp_region_lit (K.ld 2 rfl ?_)
 have b:=K.r 1 rfl
 go_wp2_with fail
 clear b
 refine(eL ⟨nm,_,mode,wd,sl,cells,h,o,room,has,p⟩ A n i ⟨_,_,_,_,_,_,_⟩ _ W K.xok (K.fa 0 rfl) d g).mono ?_
 rw[m]
 rintro e z ⟨rfl,l⟩
 have K:=K.on l
 clear l j m
 have b:=K.r 1 rfl
 have t:=K.c 2 rfl
 go_upto_region 8 with(fail)
 clear t
 go_upto_region 9 with(refine K.ss (new:=(aL (⟨nm,3,mode,wd,sl,cells,h,o,ex,ex,p⟩:Cmp) A n i).toArray) 2 rfl fun W K=>?_)
 clear b
 have b:=K.r 1 rfl
 go_upto_region 42 with(fail)
 go_wp2_with (first | refine K.ld 2 rfl ?_ | refine K.sr 0 rfl fun W K=>?_)
 exact K.rc2 0 rfl rfl ⟨A,n,i,rfl,K.below,K.back (K.fa 0 rfl)⟩
set_option maxHeartbeats 1500000 in
theorem xo {c:Cmp} {b:Evt} (j:b.k=4) (B:b.x=0):ia c b (cH c b):=by
 intro A n v X w hX m l p o D
 obtain⟨nm,role,mode,wd,sl,cells,h,s,room,has,t⟩:=c
 obtain⟨eq,ea,H,u,ex,C,E⟩:=b
 simp only at *
 subst j
 obtain rfl:role=1:=by
  have y:=(cD o).2.2.2.1
  simp[bD]at y
  omega
 subst B
 have z:=Lib.hid m.1
 simp only[aL,evA]
 go_enter Tryz.func35,Tryz.ntmps35
 go_upto_region 1 with(fail)
 refine(hstart hX).cw fun W K=>?_
 have K:=K.k0 (f:=aa.fact A n cells) m
 refine wp_region_lit (K.ld 2 rfl ?_)
 have i:=K.r 1 rfl
 go_wp2_with fail
 clear i
 refine(eL ⟨nm,_,mode,wd,sl,cells,h,s,room,has,t⟩ A n v ⟨_,_,_,_,_,_,_⟩ _ W K.xok (K.fa 0 rfl) l p).mono ?_
 rw[o]
 rintro e G ⟨rfl,g⟩
 have K:=K.on g
 clear g m o
 have i:=K.r 1 rfl
 have q:=K.c 2 rfl
 go_upto_region 22 with(fail)
 refine K.cw fun W K=>?_
 clear i q
 have i:=K.r 1 rfl
 have q:=K.c 2 rfl
 go_wp2_with fail
 refine K.cl fun W K=>?_
 refine(uy wd n ea W).mono ?_
 intro e F j
 obtain⟨A',n',d,rfl,g,a⟩:=aa.of_win (X:=Exs _++X) j K.xok (aa.zero _ _) (.inr rfl)
 have K:=(K.on g).kn (f:=aa.fact A' n' _) a
 clear i q a g j
 go_upto_region 23 with(refine K.lw fun W K=>?_;refine K.sr 0 rfl fun W K=>?_)
 go_upto_region 42 with(first | refine K.ld 0 rfl ?_ | refine K.ss (new:=(aL (⟨nm,1,0,(newR wd n ea).wd,(newR wd n ea).sl,(newR wd n ea).cs,h,s,room,has,t⟩:Cmp) A' n' d).toArray) 3 rfl fun W K=>?_)
 go_wp2_with (first | refine K.ld 3 rfl ?_ | refine K.sr 1 rfl fun W K=>?_)
 have hn:=z.out
 subst hn
 exact K.rc2 1 rfl rfl ⟨A',n',d,rfl,K.below,K.back (K.fa 0 rfl)⟩
set_option maxHeartbeats 1500000 in
theorem yt {c:Cmp} {a:Evt} (t:a.k=4) (B:¬ a.x=0):ia c a (cH c a):=by
 intro A n s X w hX p d l j D
 obtain⟨nm,role,mode,wd,sl,cells,h,m,room,has,o⟩:=c
 obtain⟨eq,ea,F,i,ex,u,v⟩:=a
 simp only at *
 subst t
 obtain rfl:role=1:=by
  have y:=(cD j).2.2.2.1
  simp[bD]at y
  omega
 have g:=Lib.hid B
 simp only[aL,evA]
 go_enter Tryz.func35,Tryz.ntmps35
 go_upto_region 1 with(fail)
 refine(hstart hX).cw fun W K=>?_
 have K:=K.k0 (f:=aa.fact A n cells) p
 refine wp_region_lit (K.ld 2 rfl ?_)
 have b:=K.r 1 rfl
 go_wp2_with fail
 clear b
 refine(eL ⟨nm,_,mode,wd,sl,cells,h,m,room,has,o⟩ A n s ⟨_,_,_,_,_,_,_⟩ _ W K.xok (K.fa 0 rfl) d l).mono ?_
 rw[j]
 rintro e E ⟨rfl,q⟩
 have K:=K.on q
 clear q p j
 have b:=K.r 1 rfl
 have z:=K.c 2 rfl
 go_upto_region 21 with(fail)
 refine K.cw fun W K=>?_
 clear b z
 have b:=K.r 1 rfl
 go_upto_region 42 with(fail)
 go_wp2_with (first | refine K.ld 2 rfl ?_ | refine K.sr 0 rfl fun W K=>?_)
 have C:cH ⟨nm,1,mode,wd,sl,cells,h,m,room,has,o⟩ ⟨eq,ea,4,i,ex,u,v⟩=⟨nm,1,ex,wd,sl,cells,h,m,room,has,o⟩:=by
  unfold cH
  rw[if_neg (by simp),if_neg (by simp),if_pos rfl,if_neg g.out]
 rw[C]
 exact K.rc2 0 rfl rfl ⟨A,n,s,rfl,K.below,K.back (K.fa 0 rfl)⟩
set_option maxHeartbeats 1500000 in
theorem zl {c:Cmp} {o:Evt} (p:o.k=3) (M:o.x=0):ia c o (cH c o):=by
 intro A n z X w hX q l v t N
 obtain⟨nm,role,mode,wd,sl,cells,h,j,room,has,C⟩:=c
 obtain⟨eq,ea,S,H,ex,ey,O⟩:=o
 simp only at *
 subst p
 obtain rfl:role=1:=by
  have L:=(cD t).2.2.2.1
  simp[bD]at L
  omega
 subst M
 have F:=Lib.hid q.1
 have G:=Lib.hid (qK l rfl)
 simp only[aL,evA]
 go_enter Tryz.func35,Tryz.ntmps35
 go_upto_region 1 with(fail)
 refine(hstart hX).cw fun W K=>?_
 have K:=K.k0 (f:=aa.fact A n cells) q
 refine wp_region_lit (K.ld 2 rfl ?_)
 have d:=K.r 1 rfl
 go_wp2_with fail
 clear d
 refine(eL ⟨nm,_,mode,wd,sl,cells,h,j,room,has,C⟩ A n z ⟨_,_,_,_,_,_,_⟩ _ W K.xok (K.fa 0 rfl) l v).mono ?_
 rw[t]
 rintro e Q ⟨rfl,a⟩
 have K:=K.on a
 clear a q t
 have d:=K.r 1 rfl
 have B:=K.c 2 rfl
 have E:n≤16:=by have:=aZ G.out;have:=F.out;omega
 go_upto_region 28 with(fail)
 go_wp2_with (refine bu (K.sub 2 rfl 3 [.int .i64 wd,.int .i64 sl,.slice A n z]) ?_)
 refine K.cl fun W K=>?_
 refine(uQ wd sl A n z W.heap.size cells ea true W (K.fa 0 rfl).rd (Nat.le_refl _) (by omega)).mono ?_
 intro e P p
 obtain⟨A',n',b,rfl,a,m⟩:=aa.of_win (X:=Exs _++X) p K.xok (K.fa 0 rfl) (.inl (by have:=aZ G.out;have:=F.out;omega))
 have K:=(K.on a).kn (f:=aa.fact A' n' _) m
 clear d B m a p
 go_upto_region 29 with(refine K.lw fun W K=>?_;refine K.sr 0 rfl fun W K=>?_)
 go_upto_region 30 with(first | refine K.ld 0 rfl ?_ | refine K.ss (new:=(aL (⟨nm,1,mode,(eD wd sl cells ea true).wd,(eD wd sl cells ea true).sl,(eD wd sl cells ea true).cs,h,j,room,has,C⟩:Cmp) A' n' b).toArray) 3 rfl fun W K=>?_)
 have d:=K.r 2 rfl
 go_wp2_with (refine bu (K.sub 3 rfl 6 [.int .i64 (h 0),.int .i64 (h 1),.int .i64 (h 2),.int .i64 (h 3),.int .i64 (h 4),.int .i64 (h 5),.int .i64 (h 6),.int .i64 (h 7),.int .i64 (h 8),.int .i64 j]) ?_)
 refine(rQ h j ey _).mono ?_
 obtain⟨u,g⟩:∃ u,u=bU h j ey:=⟨_,rfl⟩
 obtain⟨D,i⟩:∃ D,D=cW h j ey:=⟨_,rfl⟩
 rw[←g,←i]
 have J:=Lib.hid g
 have I:=Lib.hid i
 clear g i
 rintro e R ⟨rfl,a⟩
 have K:=K.on a
 clear a d
 go_upto_region 31 with(refine K.ss (new:=(aL (⟨nm,1,mode,(eD wd sl cells ea true).wd,(eD wd sl cells ea true).sl,(eD wd sl cells ea true).cs,u,D,room,has,C⟩:Cmp) A' n' b).toArray) 3 rfl (hn:=by kernel_rfl) fun W K=>?_)
 have d:=K.r 2 rfl
 have B:=K.c 3 rfl
 go_upto_region 44 with(go_at_call 91;refine(eW _ _ _).mono ?_;rintro e w' ⟨rfl,rfl⟩)
 refine K.cw fun W K=>?_
 clear d B
 go_wp2_with (first | refine K.ld 3 rfl ?_ | refine K.sr 1 rfl fun W K=>?_)
 have y:=J.out
 have s:=I.out
 subst y s
 exact K.rc2 1 rfl rfl ⟨A',n',b,rfl,K.below,K.back (K.fa 0 rfl)⟩
set_option maxHeartbeats 1500000 in
theorem ym {c:Cmp} {o:Evt} (p:o.k=3) (M:o.x=1):ia c o (cH c o):=by
 intro A n z X w hX q l v t N
 obtain⟨nm,role,mode,wd,sl,cells,h,j,room,has,C⟩:=c
 obtain⟨eq,ea,S,H,ex,ey,O⟩:=o
 simp only at *
 subst p
 obtain rfl:role=1:=by
  have L:=(cD t).2.2.2.1
  simp[bD]at L
  omega
 subst M
 have F:=Lib.hid q.1
 have G:=Lib.hid (qK l rfl)
 simp only[aL,evA]
 go_enter Tryz.func35,Tryz.ntmps35
 go_upto_region 1 with(fail)
 refine(hstart hX).cw fun W K=>?_
 have K:=K.k0 (f:=aa.fact A n cells) q
 refine wp_region_lit (K.ld 2 rfl ?_)
 have d:=K.r 1 rfl
 go_wp2_with fail
 clear d
 refine(eL ⟨nm,_,mode,wd,sl,cells,h,j,room,has,C⟩ A n z ⟨_,_,_,_,_,_,_⟩ _ W K.xok (K.fa 0 rfl) l v).mono ?_
 rw[t]
 rintro e Q ⟨rfl,a⟩
 have K:=K.on a
 clear a q t
 have d:=K.r 1 rfl
 have B:=K.c 2 rfl
 have E:n≤16:=by have:=aZ G.out;have:=F.out;omega
 go_upto_region 28 with(fail)
 go_wp2_with (refine bu (K.sub 2 rfl 3 [.int .i64 wd,.int .i64 sl,.slice A n z]) ?_)
 refine K.cl fun W K=>?_
 refine(uQ wd sl A n z W.heap.size cells ea false W (K.fa 0 rfl).rd (Nat.le_refl _) (by omega)).mono ?_
 intro e P p
 obtain⟨A',n',b,rfl,a,m⟩:=aa.of_win (X:=Exs _++X) p K.xok (K.fa 0 rfl) (.inl (by have:=aZ G.out;have:=F.out;omega))
 have K:=(K.on a).kn (f:=aa.fact A' n' _) m
 clear d B m a p
 go_upto_region 29 with(refine K.lw fun W K=>?_;refine K.sr 0 rfl fun W K=>?_)
 go_upto_region 30 with(first | refine K.ld 0 rfl ?_ | refine K.ss (new:=(aL (⟨nm,1,mode,(eD wd sl cells ea false).wd,(eD wd sl cells ea false).sl,(eD wd sl cells ea false).cs,h,j,room,has,C⟩:Cmp) A' n' b).toArray) 3 rfl fun W K=>?_)
 have d:=K.r 2 rfl
 go_wp2_with (refine bu (K.sub 3 rfl 6 [.int .i64 (h 0),.int .i64 (h 1),.int .i64 (h 2),.int .i64 (h 3),.int .i64 (h 4),.int .i64 (h 5),.int .i64 (h 6),.int .i64 (h 7),.int .i64 (h 8),.int .i64 j]) ?_)
 refine(rQ h j ey _).mono ?_
 obtain⟨u,g⟩:∃ u,u=bU h j ey:=⟨_,rfl⟩
 obtain⟨D,i⟩:∃ D,D=cW h j ey:=⟨_,rfl⟩
 rw[←g,←i]
 have J:=Lib.hid g
 have I:=Lib.hid i
 clear g i
 rintro e R ⟨rfl,a⟩
 have K:=K.on a
 clear a d
 go_upto_region 31 with(refine K.ss (new:=(aL (⟨nm,1,mode,(eD wd sl cells ea false).wd,(eD wd sl cells ea false).sl,(eD wd sl cells ea false).cs,u,D,room,has,C⟩:Cmp) A' n' b).toArray) 3 rfl (hn:=by kernel_rfl) fun W K=>?_)
 have d:=K.r 2 rfl
 have B:=K.c 3 rfl
 go_upto_region 44 with(go_at_call 91;refine(eW _ _ _).mono ?_;rintro e w' ⟨rfl,rfl⟩)
 refine K.cw fun W K=>?_
 clear d B
 go_wp2_with (first | refine K.ld 3 rfl ?_ | refine K.sr 1 rfl fun W K=>?_)
 have y:=J.out
 have s:=I.out
 subst y s
 exact K.rc2 1 rfl rfl ⟨A',n',b,rfl,K.below,K.back (K.fa 0 rfl)⟩
set_option maxHeartbeats 1500000 in
theorem zc {c:Cmp} {o:Evt} (p:o.k=3) (M:o.x=2):ia c o (cH c o):=by
 intro A n z X w hX q l v t N
 obtain⟨nm,role,mode,wd,sl,cells,h,j,room,has,C⟩:=c
 obtain⟨eq,ea,S,H,ex,ey,O⟩:=o
 simp only at *
 subst p
 obtain rfl:role=1:=by
  have L:=(cD t).2.2.2.1
  simp[bD]at L
  omega
 subst M
 have F:=Lib.hid q.1
 have G:=Lib.hid (qK l rfl)
 simp only[aL,evA]
 go_enter Tryz.func35,Tryz.ntmps35
 go_upto_region 1 with(fail)
 refine(hstart hX).cw fun W K=>?_
 have K:=K.k0 (f:=aa.fact A n cells) q
 refine wp_region_lit (K.ld 2 rfl ?_)
 have d:=K.r 1 rfl
 go_wp2_with fail
 clear d
 refine(eL ⟨nm,_,mode,wd,sl,cells,h,j,room,has,C⟩ A n z ⟨_,_,_,_,_,_,_⟩ _ W K.xok (K.fa 0 rfl) l v).mono ?_
 rw[t]
 rintro e Q ⟨rfl,a⟩
 have K:=K.on a
 clear a q t
 have d:=K.r 1 rfl
 have B:=K.c 2 rfl
 have E:n≤16:=by have:=aZ G.out;have:=F.out;omega
 go_upto_region 28 with(fail)
 go_wp2_with (refine bu (K.sub 2 rfl 3 [.int .i64 wd,.int .i64 sl,.slice A n z]) ?_)
 refine K.cl fun W K=>?_
 refine(uQ wd sl A n z W.heap.size cells ea false W (K.fa 0 rfl).rd (Nat.le_refl _) (by omega)).mono ?_
 intro e P p
 obtain⟨A',n',b,rfl,a,m⟩:=aa.of_win (X:=Exs _++X) p K.xok (K.fa 0 rfl) (.inl (by have:=aZ G.out;have:=F.out;omega))
 have K:=(K.on a).kn (f:=aa.fact A' n' _) m
 clear d B m a p
 go_upto_region 29 with(refine K.lw fun W K=>?_;refine K.sr 0 rfl fun W K=>?_)
 go_upto_region 30 with(first | refine K.ld 0 rfl ?_ | refine K.ss (new:=(aL (⟨nm,1,mode,(eD wd sl cells ea false).wd,(eD wd sl cells ea false).sl,(eD wd sl cells ea false).cs,h,j,room,has,C⟩:Cmp) A' n' b).toArray) 3 rfl fun W K=>?_)
 have d:=K.r 2 rfl
 go_wp2_with (refine bu (K.sub 3 rfl 6 [.int .i64 (h 0),.int .i64 (h 1),.int .i64 (h 2),.int .i64 (h 3),.int .i64 (h 4),.int .i64 (h 5),.int .i64 (h 6),.int .i64 (h 7),.int .i64 (h 8),.int .i64 j]) ?_)
 refine(rQ h j ey _).mono ?_
 obtain⟨u,g⟩:∃ u,u=bU h j ey:=⟨_,rfl⟩
 obtain⟨D,i⟩:∃ D,D=cW h j ey:=⟨_,rfl⟩
 rw[←g,←i]
 have J:=Lib.hid g
 have I:=Lib.hid i
 clear g i
 rintro e R ⟨rfl,a⟩
 have K:=K.on a
 clear a d
 go_upto_region 31 with(refine K.ss (new:=(aL (⟨nm,1,mode,(eD wd sl cells ea false).wd,(eD wd sl cells ea false).sl,(eD wd sl cells ea false).cs,u,D,room,has,C⟩:Cmp) A' n' b).toArray) 3 rfl (hn:=by kernel_rfl) fun W K=>?_)
 have d:=K.r 2 rfl
 have B:=K.c 3 rfl
 go_upto_region 44 with(go_at_call 91;refine(eW _ _ _).mono ?_;rintro e w' ⟨rfl,rfl⟩)
 refine K.cw fun W K=>?_
 clear d B
 go_wp2_with (first | refine K.ld 3 rfl ?_ | refine K.sr 1 rfl fun W K=>?_)
 have y:=J.out
 have s:=I.out
 subst y s
 exact K.rc2 1 rfl rfl ⟨A',n',b,rfl,K.below,K.back (K.fa 0 rfl)⟩
end
section
open Go.RowKit
theorem Ds (c:Cmp) (A:Option Addr) (n f:Nat) (d:Evt) (X:List Nat) (w:World) (hX:XOk X w) (g:aa w X A n c.cells) (a:dr c) (b:d.cm.size≤maxLen) (e:iw c d=0):
 Calls Tryz.prog 35 #[.agg (aL c A n f).toArray,.agg (evA d)] w (kF (cH c d) X w):=by
 obtain⟨o,_,p,_,_⟩:=cD e
 obtain⟨r,q,_,kw,_⟩:=cK o
 have j:d.x=0∨d.x=1∨d.x=2∨d.k≠3:=by
  by_cases m:d.k=3
  ·unfold cJ inB cR at kw
   rw[m]at kw
   simp at kw
   omega
  ·exact .inr (.inr (.inr m))
 rcases(by omega:d.k=2∨d.k=3∨d.k=4∨d.k=5∨d.k=6∨d.k=7∨d.k=8∨d.k=9∨d.k=10) with h | h | h | h | h | h | h | h | h
 ·rcases bO a with l | l | l
  ·exact xH h l A n f X w hX g a b e j
  ·exact yM h l A n f X w hX g a b e j
  ·exact xu h l A n f X w hX g a b e j
 ·rcases j with i | i | i | i
  ·exact zl h i A n f X w hX g a b e (.inl i)
  ·exact ym h i A n f X w hX g a b e (.inr (.inl i))
  ·exact zc h i A n f X w hX g a b e (.inr (.inr (.inl i)))
  ·exact absurd h i
 ·by_cases i:d.x=0
  ·exact xo h i A n f X w hX g a b e j
  ·exact yt h i A n f X w hX g a b e j
 ·exact zT h A n f X w hX g a b e j
 ·exact Aj h A n f X w hX g a b e j
 ·exact AA h A n f X w hX g a b e j
 ·exact BG h A n f X w hX g a b e j
 ·exact Ab h A n f X w hX g a b e j
 ·exact yy h A n f X w hX g a b e j
end
section
open Go.RowKit
theorem eG (c d:Cmp) (put:Bool) (l:List Cmp):mrg c put (d::l)=(if put=false∧ltB d.nm c.nm=false then [c] else [])++(if d.nm=c.nm then [] else [d])++mrg c (put || !ltB d.nm c.nm) l:=rfl
set_option maxHeartbeats 1000000 in
theorem vS (s:St) (e0:Evt) (A:Option Addr) (n b:Nat) (X:List Nat) (w:World) (hX:XOk X w) (d:Sl aB w X A n b s.cs) (g:cF s) (j:e0.cm.size≤maxLen) (h:cS s e0≠0):
 Calls Tryz.prog 9 #[.agg #[.slice A n b,.int .i64 s.q,.int .i64 s.a],.agg (evA e0)] w (jY s (cS s e0) X w):=by
 obtain⟨i,c⟩:∃ i,i=cS s e0:=⟨_,rfl⟩
 have f:=fun(w:World) (X:List Nat) (hX:XOk X w) (d:Sl aB w X A n b s.cs)=>Lib.hid (qW s e0 A n b X w hX d g j)
 simp only[←c]at f h ⊢
 have l:¬ i=0:=h
 clear c h
 simp only[evA]at f ⊢
 go_enter Tryz.func9,Tryz.ntmps9
 go_upto_region 1 with(fail)
 refine(hstart hX).cw fun W K=>?_
 have K:=K.ksl0 d
 clear d
 go_wp2_with (first | refine K.ld 2 rfl ?_ | refine K.ld 1 rfl ?_)
 refine(f _ _ K.xok (K.sl 0 rfl)).out.mono ?_
 rintro e m ⟨rfl,k⟩
 have K:=K.on k
 clear k f
 go_wp2_with (first | refine K.ld 2 rfl ?_ | refine K.sr 0 rfl fun W K=>?_)
 exact K.rc2 0 rfl rfl ⟨A,n,b,rfl,K.below,K.slb 0 rfl⟩
set_option maxHeartbeats 4000000 in
theorem tV (s:St) (g:Evt) (R:g.k=1) (A:Option Addr) (n P:Nat) (X:List Nat) (w:World) (hX:XOk X w) (Q:Sl aB w X A n P s.cs) (I:cF s) (ag:g.cm.size≤maxLen) (hm:cS s g=0):
 Calls Tryz.prog 9 #[.agg #[.slice A n P,.int .i64 s.q,.int .i64 s.a],.agg (evA g)] w (jY (bJ s g) 0 X w):=by
 have o:=fun(w:World) (X:List Nat) (hX:XOk X w) (Q:Sl aB w X A n P s.cs)=>Lib.hid (qW s g A n P X w hX Q I ag)
 have ap:n≤12:=by have:=Q.len;have:=I.1;omega
 have HL:=Lib.hid Q.len
 simp only[hm]at o
 obtain⟨m1,m2,m3,m4⟩:=fM hm
 obtain⟨k1,k2,kn,kw,ka,kb,kq,kr⟩:=cK m1
 have ac:1≤g.cm.size∧g.cm.size≤24:=by unfold dN at kn;simpa using kn
 have ab:1≤g.x∧g.x≤3:=by
  unfold cJ inB cR at kw
  rw[R]at kw
  simp at kw
  omega
 obtain⟨c',E⟩:∃ c',c'=jm g.cm g.x g.a:=⟨_,rfl⟩
 have H:c'.nm=g.cm:=by rw[E];unfold jm;split<;>rfl
 have ae:Hid (bJ s g=⟨mrg c' false s.cs,g.q,g.a⟩):=Lib.hid (by
  have ao:∀ d ∈ s.cs,d.nm≠c'.nm:=by
   rcases m4 with⟨_,hn,_⟩ | ⟨h,_⟩
   ·rw[H];exact mQ hn
   ·exact absurd R h
  rw[xd c' s.cs I.2.2.2.2.2.2 ao,E]
  unfold bJ
  simp only[R,if_true])
 have L:c'.nm.size≤maxLen:=by rw[H];exact ag
 have HC:=Lib.hid E
 clear m1 m2 m3 m4 kn kw kq kr H E hm
 obtain⟨cs,q,a⟩:=s
 obtain⟨eq,ea,ek,S,ex,ey,ez⟩:=g
 simp only at *
 subst R
 simp only[evA]at o ⊢
 go_enter Tryz.func9,Tryz.ntmps9
 go_upto_region 1 with(fail)
 refine(hstart hX).cw fun W K=>?_
 have K:=K.ksl0 Q
 clear Q
 go_wp2_with (first | refine K.ld 2 rfl ?_ | refine K.ld 1 rfl ?_)
 refine(o _ _ K.xok (K.sl 0 rfl)).out.mono ?_
 rintro e w1 ⟨rfl,hb⟩
 have K:=K.on hb
 clear hb o
 have c1:=K.r 1 rfl
 go_upto_region 5 with(refine K.lw fun W K=>?_;refine K.sr 0 rfl fun W K=>?_)
 clear c1
 refine K.cw fun Wa K=>?_
 go_upto_region 6 with(fail)
 refine K.cw fun W K=>?_
 have c3:=K.r 3 rfl
 go_wp2_with fail
 refine(Dr S ex ea ac.1 ac.2 ab.1 ab.2 ka kb _ _ K.xok).mono ?_
 rw[←HC.out]
 rintro e w2 ⟨y,z,p,rfl,hb,am⟩
 have K:=(K.on hb).kn (f:=aa.fact y z c'.cells) am
 clear hb am c3
 go_upto_region 9 with(refine K.sr 0 rfl fun W K=>?_)
 generalize w.heap.size=g2 at K ⊢
 generalize w1.heap.size=g7 at K ⊢
 generalize Wa.heap.size=g8 at K ⊢
 have K:=(K.nrow (e:=95) (size:=21) (n:=0) (v := .slice none 0 0) (xs:=[]) (Below.refl _ _) ⟨rfl,.inl ⟨rfl,rfl⟩⟩).kra (s:=aB) (vs:=[]) (xs:=[]) rfl
 go_wp2
 go_loopw [10,9] (fun i pv wr => ∃ (k m:Nat) (put:Bool) (G:Option Addr) (cap:Nat) (vs:List Value) (acc:List Cmp),k≤n∧i = .int .i64 k∧pv = .bool put∧m≤2*k∧Hid (mrg c' false cs=acc++mrg c' put (cs.drop k))∧HH w [] X wr [.row 95 21 (.slice G m cap) m vs,.box g8 95 (aL c' y z p).toArray,.box g7 37 #[.slice G m cap,.int .i64 eq,.int .i64 ea],.box (g2+2) 37 #[.slice none 0 0,.int .i64 0,.int .i64 0],.box (g2+1) 44 #[.int .i64 eq,.int .i64 ea,.int .i64 1,.string S,.int .i64 ex,.int .i64 ey,.int .i64 ez],.box g2 37 #[.slice A n P,.int .i64 q,.int .i64 a]] [Ra.fact aB vs acc,aa.fact y z c'.cells,Sl.fact aB A n P cs]) (fun i _ _=>n-(intOf i).toNat)
 case atStart=>exact⟨0,0,false,none,0,[],[],Nat.zero_le _,rfl,rfl,by omega,Lib.hid rfl,K⟩
 case round=>
  obtain⟨k,m,put,G,cap,vs,acc,R,rfl,rfl,aw,N,K⟩:=hrel
  have c5:=K.r 5 rfl
  by_cases ar:k<n
  ·obtain⟨d,hd⟩:∃ x,cs[k]?=some x:=⟨_,List.getElem?_eq_getElem (by have:=HL.out;omega)⟩
   have HD:Hid (cs.drop k=d::cs.drop (k+1)):=Lib.hid (by
    obtain⟨hj,rfl⟩:=List.getElem?_eq_some_iff.1 hd
    exact(List.getElem_cons_drop (h:=hj)).symm)
   obtain⟨ad,rr,rfl,K,⟨t,u,b,rfl,Z,M⟩⟩:=K.elem 2 rfl hd
   have K:=K.kn (f:=aa.fact t u d.cells) Z
   have F:=Lib.hid hd
   have i1:(0:Int)≤(k:Int):=by omega
   have i2:(k:Int)<(n:Int):=by omega
   clear hd Z
   go_upto_region 13 with(fail)
   clear c5
   cases put with
   | false=>
     cases h1:ltB d.nm c'.nm with
     | true=>
       have D:=kz h1
       have j:=jj h1
       have O:=Lib.hid h1
       have C:=Lib.hid j
       have e1:Op.bytesLess d.nm.toList c'.nm.toList=true:=h1
       have e2:Op.bytesLess c'.nm.toList d.nm.toList=false:=D
       have e3:(d.nm.toList == c'.nm.toList)=false:=by rw[beq_eq_false_iff_ne];exact fun h=>j (fL h)
       clear h1 D j
       refine K.rg fun W K=>?_
       refine tK 0 K ?_
       refine tK 1 K ?_
       refine tK 2 K ?_
       refine tK 3 K ?_
       refine tL 4 (fun _ h=>h.r 5 rfl) K ?_
       refine tK 5 K ?_
       refine tK 6 K ?_
       refine tK 7 K ?_
       refine tL 8 (fun _ h=>eS (h.sl 4 rfl) F.out) K ?_
       refine tK 9 K ?_
       refine tL 10 (fun _ h=>h.r 1 rfl) K ?_
       refine tK 11 K ?_
       refine tK 12 K ?_
       refine tE ?_
       go_upto_region 16 with(fail)
       refine K.rg fun W K=>?_
       refine tK 0 K ?_
       refine tL 1 (fun _ h=>h.r 5 rfl) K ?_
       refine tK 2 K ?_
       refine tK 3 K ?_
       refine tK 4 K ?_
       refine tL 5 (fun _ h=>eS (h.sl 4 rfl) F.out) K ?_
       refine tK 6 K ?_
       refine tL 7 (fun _ h=>h.r 1 rfl) K ?_
       refine tK 8 K ?_
       refine tE ?_
       go_upto_region 17 with(fail)
       refine K.rgl 10 10 (fun V h=>h.tl) fun W K=>?_
       refine tK 0 K.tl ?_
       refine tL 1 (fun _ h=>h.r 1 rfl) K.tl ?_
       refine tK 2 K.tl ?_
       refine tL 3 (fun _ h=>h.r 4 rfl) K.tl ?_
       refine tK 4 K.tl ?_
       refine tK 5 K.tl ?_
       refine tL 6 (fun _ h=>h.at' 1 rfl) K.tl ?_ (hy:=fun w Y=>aD Y)
       refine tC 7 fun K' hK=>?_
       go_simp
       have K:=K.to (W':=W.alloc (.cells (aL d t u b).toArray 95))
       refine hK.out _ _ K.tl.tl fun _=>?_
       clear hK K'
       try simp only[Act.put,aq,aj,ai]
       refine tA 8 K 192 0 rfl (by omega) (fun v' U h=>h.tl) (fun v' U K=>?_)
       try simp only[Act.put,aq]
       obtain⟨G,cap,rfl,-⟩:=aE (K.row 0 rfl)
       refine tK 9 K.tl ?_
       have l:=K.c 2 rfl
       refine tZ fun K' hK=>?_
       go_simp
       refine hK.out _ _ ?_
       clear hK K' l
       try simp only[Act.put]
       go_upto_region 12 with(fail)
       refine K.cw fun W K=>?_
       have K:=K.kra ((K.ra 2 rfl).append (.single (s:=aB) (x:=d) ⟨t,u,b,rfl,K.fa (f:=aa.fact t u d.cells) 0 rfl,M⟩))
       go_wp2
       go_roundw
       case rel=>
        refine⟨k+1,m+1,false,G,cap,vs++aL d t u b,acc ++ [d],by omega,by go_num,rfl,by omega,Lib.hid (by rw[N.out,HD.out,eG];simp[O.out,C.out]),?_⟩
        exact((((K.up 5 rfl).up 5 rfl).up 2 rfl).out.forget (List.Sublist.cons_cons _ (List.Sublist.cons_cons _ (List.Sublist.cons_cons _ (List.nil_sublist _))))).hh
       case measure=>simp[intOf];omega
     | false=>
       cases D:ltB c'.nm d.nm with
       | false=>
         have j:=mU h1 D
         have O:=Lib.hid h1
         have C:=Lib.hid j
         have e1:Op.bytesLess d.nm.toList c'.nm.toList=false:=h1
         have e2:Op.bytesLess c'.nm.toList d.nm.toList=false:=D
         have e3:(d.nm.toList == c'.nm.toList)=true:=by rw[j];simp
         clear h1 D j
         refine K.rg fun W K=>?_
         refine tK 0 K ?_
         refine tK 1 K ?_
         refine tK 2 K ?_
         refine tK 3 K ?_
         refine tL 4 (fun _ h=>h.r 5 rfl) K ?_
         refine tK 5 K ?_
         refine tK 6 K ?_
         refine tK 7 K ?_
         refine tL 8 (fun _ h=>eS (h.sl 4 rfl) F.out) K ?_
         refine tK 9 K ?_
         refine tL 10 (fun _ h=>h.r 1 rfl) K ?_
         refine tK 11 K ?_
         refine tK 12 K ?_
         refine tE ?_
         have l:=K.c 2 rfl
         go_upto_region 15 with(first | refine K.ld 1 rfl ?_ | (at_builtin;refine K.lw fun W K=>?_;refine K.ap1 192 0 rfl (by omega) fun v' U K=>?_;obtain⟨G,cap,rfl,-⟩:=aE (K.row 0 rfl);have l:=K.c 2 rfl))
         refine K.cw fun W K=>?_
         clear l
         have K:=K.kra ((K.ra 2 rfl).append (.single (s:=aB) (x:=c') ⟨y,z,p,rfl,K.fa (f:=aa.fact y z c'.cells) 3 rfl,L⟩))
         go_upto_region 16 with(fail)
         refine K.rg fun W K=>?_
         refine tK 0 K ?_
         refine tL 1 (fun _ h=>h.r 5 rfl) K ?_
         refine tK 2 K ?_
         refine tK 3 K ?_
         refine tK 4 K ?_
         refine tL 5 (fun _ h=>eS (h.sl 5 rfl) F.out) K ?_
         refine tK 6 K ?_
         refine tL 7 (fun _ h=>h.r 1 rfl) K ?_
         refine tK 8 K ?_
         refine tE ?_
         go_wp2
         go_roundw
         case rel=>
          refine⟨k+1,m+1,true,G,cap,vs++aL c' y z p,acc ++ [c'],by omega,by go_num,rfl,by omega,Lib.hid (by rw[N.out,HD.out,eG];simp[O.out,C.out,show ltB c'.nm c'.nm=false from C.out ▸ O.out]),?_⟩
          exact((((K.up 5 rfl).up 5 rfl).up 2 rfl).out.forget (List.Sublist.cons_cons _ (List.Sublist.cons_cons _ (List.Sublist.cons_cons _ (List.nil_sublist _))))).hh
         case measure=>simp[intOf];omega
       | true=>
         have j:=(jj D).symm
         have O:=Lib.hid h1
         have C:=Lib.hid j
         have e1:Op.bytesLess d.nm.toList c'.nm.toList=false:=h1
         have e2:Op.bytesLess c'.nm.toList d.nm.toList=true:=D
         have e3:(d.nm.toList == c'.nm.toList)=false:=by rw[beq_eq_false_iff_ne];exact fun h=>j (fL h)
         clear h1 D j
         refine K.rg fun W K=>?_
         refine tK 0 K ?_
         refine tK 1 K ?_
         refine tK 2 K ?_
         refine tK 3 K ?_
         refine tL 4 (fun _ h=>h.r 5 rfl) K ?_
         refine tK 5 K ?_
         refine tK 6 K ?_
         refine tK 7 K ?_
         refine tL 8 (fun _ h=>eS (h.sl 4 rfl) F.out) K ?_
         refine tK 9 K ?_
         refine tL 10 (fun _ h=>h.r 1 rfl) K ?_
         refine tK 11 K ?_
         refine tK 12 K ?_
         refine tE ?_
         have l:=K.c 2 rfl
         go_upto_region 15 with(first | refine K.ld 1 rfl ?_ | (at_builtin;refine K.lw fun W K=>?_;refine K.ap1 192 0 rfl (by omega) fun v' U K=>?_;obtain⟨G,cap,rfl,-⟩:=aE (K.row 0 rfl);have l:=K.c 2 rfl))
         refine K.cw fun W K=>?_
         clear l
         have K:=K.kra ((K.ra 2 rfl).append (.single (s:=aB) (x:=c') ⟨y,z,p,rfl,K.fa (f:=aa.fact y z c'.cells) 3 rfl,L⟩))
         go_upto_region 16 with(fail)
         refine K.rg fun W K=>?_
         refine tK 0 K ?_
         refine tL 1 (fun _ h=>h.r 5 rfl) K ?_
         refine tK 2 K ?_
         refine tK 3 K ?_
         refine tK 4 K ?_
         refine tL 5 (fun _ h=>eS (h.sl 5 rfl) F.out) K ?_
         refine tK 6 K ?_
         refine tL 7 (fun _ h=>h.r 1 rfl) K ?_
         refine tK 8 K ?_
         refine tE ?_
         go_upto_region 17 with(fail)
         refine K.rgl 10 10 (fun V h=>h.tl) fun W K=>?_
         refine tK 0 K.tl ?_
         refine tL 1 (fun _ h=>h.r 1 rfl) K.tl ?_
         refine tK 2 K.tl ?_
         refine tL 3 (fun _ h=>h.r 4 rfl) K.tl ?_
         refine tK 4 K.tl ?_
         refine tK 5 K.tl ?_
         refine tL 6 (fun _ h=>h.at' 2 rfl) K.tl ?_ (hy:=fun w Y=>aD Y)
         refine tC 7 fun K' hK=>?_
         go_simp
         have K:=K.to (W':=W.alloc (.cells (aL d t u b).toArray 95))
         refine hK.out _ _ K.tl.tl fun _=>?_
         clear hK K'
         try simp only[Act.put,aq,aj,ai]
         refine tA 8 K 192 0 rfl (by omega) (fun v' U h=>h.tl) (fun v' U K=>?_)
         try simp only[Act.put,aq]
         obtain⟨G,cap,rfl,-⟩:=aE (K.row 0 rfl)
         refine tK 9 K.tl ?_
         have l:=K.c 2 rfl
         refine tZ fun K' hK=>?_
         go_simp
         refine hK.out _ _ ?_
         clear hK K' l
         try simp only[Act.put]
         go_upto_region 12 with(fail)
         refine K.cw fun W K=>?_
         have K:=K.kra ((K.ra 0 rfl).append (.single (s:=aB) (x:=d) ⟨t,u,b,rfl,K.fa (f:=aa.fact t u d.cells) 1 rfl,M⟩))
         go_wp2
         go_roundw
         case rel=>
          refine⟨k+1,m+1+1,true,G,cap,vs++aL c' y z p++aL d t u b,acc ++ [c'] ++ [d],by omega,by go_num,rfl,by omega,Lib.hid (by rw[N.out,HD.out,eG];simp[O.out,C.out]),?_⟩
          exact((((K.up 6 rfl).up 6 rfl).up 2 rfl).out.forget (List.Sublist.cons_cons _ (List.Sublist.cons_cons _ (List.Sublist.cons_cons _ (List.nil_sublist _))))).hh
         case measure=>simp[intOf];omega
   | true=>
     by_cases j:d.nm=c'.nm
     ·have C:=Lib.hid j
      have e3:(d.nm.toList == c'.nm.toList)=true:=by rw[j];simp
      clear j
      refine K.rg fun W K=>?_
      refine tK 0 K ?_
      refine tK 1 K ?_
      refine tK 2 K ?_
      refine tN 3 K ?_
      refine tN 4 K ?_
      refine tN 5 K ?_
      refine tN 6 K ?_
      refine tN 7 K ?_
      refine tN 8 K ?_
      refine tN 9 K ?_
      refine tN 10 K ?_
      refine tN 11 K ?_
      refine tK 12 K ?_
      refine tE ?_
      go_upto_region 16 with(fail)
      refine K.rg fun W K=>?_
      refine tK 0 K ?_
      refine tL 1 (fun _ h=>h.r 5 rfl) K ?_
      refine tK 2 K ?_
      refine tK 3 K ?_
      refine tK 4 K ?_
      refine tL 5 (fun _ h=>eS (h.sl 4 rfl) F.out) K ?_
      refine tK 6 K ?_
      refine tL 7 (fun _ h=>h.r 1 rfl) K ?_
      refine tK 8 K ?_
      refine tE ?_
      go_wp2
      go_roundw
      case rel=>
       refine⟨k+1,m,true,G,cap,vs,acc,by omega,by go_num,rfl,by omega,Lib.hid (by rw[N.out,HD.out,eG];simp[C.out]),?_⟩
       exact((((K.up 4 rfl).up 4 rfl).up 4 rfl).out.forget (List.Sublist.cons_cons _ (List.Sublist.cons_cons _ (List.Sublist.cons_cons _ (List.nil_sublist _))))).hh
      case measure=>simp[intOf];omega
     ·have C:=Lib.hid j
      have e3:(d.nm.toList == c'.nm.toList)=false:=by rw[beq_eq_false_iff_ne];exact fun h=>j (fL h)
      clear j
      refine K.rg fun W K=>?_
      refine tK 0 K ?_
      refine tK 1 K ?_
      refine tK 2 K ?_
      refine tN 3 K ?_
      refine tN 4 K ?_
      refine tN 5 K ?_
      refine tN 6 K ?_
      refine tN 7 K ?_
      refine tN 8 K ?_
      refine tN 9 K ?_
      refine tN 10 K ?_
      refine tN 11 K ?_
      refine tK 12 K ?_
      refine tE ?_
      go_upto_region 16 with(fail)
      refine K.rg fun W K=>?_
      refine tK 0 K ?_
      refine tL 1 (fun _ h=>h.r 5 rfl) K ?_
      refine tK 2 K ?_
      refine tK 3 K ?_
      refine tK 4 K ?_
      refine tL 5 (fun _ h=>eS (h.sl 4 rfl) F.out) K ?_
      refine tK 6 K ?_
      refine tL 7 (fun _ h=>h.r 1 rfl) K ?_
      refine tK 8 K ?_
      refine tE ?_
      go_upto_region 17 with(fail)
      refine K.rgl 10 10 (fun V h=>h.tl) fun W K=>?_
      refine tK 0 K.tl ?_
      refine tL 1 (fun _ h=>h.r 1 rfl) K.tl ?_
      refine tK 2 K.tl ?_
      refine tL 3 (fun _ h=>h.r 4 rfl) K.tl ?_
      refine tK 4 K.tl ?_
      refine tK 5 K.tl ?_
      refine tL 6 (fun _ h=>h.at' 1 rfl) K.tl ?_ (hy:=fun w Y=>aD Y)
      refine tC 7 fun K' hK=>?_
      go_simp
      have K:=K.to (W':=W.alloc (.cells (aL d t u b).toArray 95))
      refine hK.out _ _ K.tl.tl fun _=>?_
      clear hK K'
      try simp only[Act.put,aq,aj,ai]
      refine tA 8 K 192 0 rfl (by omega) (fun v' U h=>h.tl) (fun v' U K=>?_)
      try simp only[Act.put,aq]
      obtain⟨G,cap,rfl,-⟩:=aE (K.row 0 rfl)
      refine tK 9 K.tl ?_
      have l:=K.c 2 rfl
      refine tZ fun K' hK=>?_
      go_simp
      refine hK.out _ _ ?_
      clear hK K' l
      try simp only[Act.put]
      go_upto_region 12 with(fail)
      refine K.cw fun W K=>?_
      have K:=K.kra ((K.ra 2 rfl).append (.single (s:=aB) (x:=d) ⟨t,u,b,rfl,K.fa (f:=aa.fact t u d.cells) 0 rfl,M⟩))
      go_wp2
      go_roundw
      case rel=>
       refine⟨k+1,m+1,true,G,cap,vs++aL d t u b,acc ++ [d],by omega,by go_num,rfl,by omega,Lib.hid (by rw[N.out,HD.out,eG];simp[C.out]),?_⟩
       exact((((K.up 5 rfl).up 5 rfl).up 2 rfl).out.forget (List.Sublist.cons_cons _ (List.Sublist.cons_cons _ (List.Sublist.cons_cons _ (List.nil_sublist _))))).hh
      case measure=>simp[intOf];omega
  ·obtain rfl:k=n:=by omega
   have al:cs.drop k = []:=List.drop_eq_nil_of_le (by have:=HL.out;omega)
   have J:=N.out
   rw[al]at J
   have T:=Lib.hid J
   clear al J
   cases put with
   | true=>
     have l:=K.c 2 rfl
     go_wp2_with (first | refine K.ld 2 rfl ?_ | refine K.sr 3 rfl fun W K=>?_)
     obtain⟨B,bc,e9,KS⟩:=K.out.done_row (s:=aB) (xs:=acc) 0 rfl (K.ra 0 rfl) (by decide) (by simp)
     injection e9 with e4 e5 e6
     have K1:=KS.hh
     rw[←e4,←e6]at K1
     rw[ae.out,T.out]
     simp only[mrg,if_true,List.append_nil]
     exact K.rc2 3 rfl rfl ⟨G,m,cap,rfl,K.below,K1.slb 0 rfl⟩
   | false=>
     have l:=K.c 2 rfl
     go_upto_region 20 with(first | refine K.ld 1 rfl ?_ | (at_builtin;refine K.lw fun W K=>?_;refine K.ap1 192 0 rfl (by omega) fun v' U K=>?_;obtain⟨G,cap,rfl,-⟩:=aE (K.row 0 rfl);have l:=K.c 2 rfl))
     refine K.cw fun W K=>?_
     clear l
     have K:=K.kra ((K.ra 0 rfl).append (.single (s:=aB) (x:=c') ⟨y,z,p,rfl,K.fa (f:=aa.fact y z c'.cells) 1 rfl,L⟩))
     go_wp2_with (first | refine K.ld 2 rfl ?_ | refine K.sr 3 rfl fun W K=>?_)
     obtain⟨B,bc,e9,KS⟩:=K.out.done_row (s:=aB) (xs:=acc ++ [c']) 0 rfl (K.ra 0 rfl) (by decide) (by simp)
     injection e9 with e4 e5 e6
     have K1:=KS.hh
     rw[←e4,←e6]at K1
     rw[ae.out,T.out]
     simp only[mrg,Bool.false_eq_true,if_false]
     exact K.rc2 3 rfl rfl ⟨G,m+1,cap,rfl,K.below,K1.slb 0 rfl⟩
end
section
open Go.RowKit
set_option maxHeartbeats 4000000 in
theorem rO (s:St) (e0:Evt) (hk:¬ e0.k=1) (A:Option Addr) (n J:Nat) (X:List Nat) (w:World) (hX:XOk X w) (T:Sl aB w X A n J s.cs) (L:cF s) (al:e0.cm.size≤maxLen) (hm:cS s e0=0):
 Calls Tryz.prog 9 #[.agg #[.slice A n J,.int .i64 s.q,.int .i64 s.a],.agg (evA e0)] w (jY (bJ s e0) 0 X w):=by
 have l:=fun(w:World) (X:List Nat) (hX:XOk X w) (T:Sl aB w X A n J s.cs)=>Lib.hid (qW s e0 A n J X w hX T L al)
 have ac:n≤12:=by have:=T.len;have:=L.1;omega
 have HL:=Lib.hid T.len
 simp only[hm]at l
 obtain⟨m1,m2,m3,m4⟩:=fM hm
 obtain⟨c,S,aw⟩:∃ c,s.cs[fu s.cs e0.cm]?=some c∧iw c e0=0:=by
  rcases m4 with⟨h,_⟩ | ⟨_,h⟩
  ·exact absurd h hk
  ·exact h
 obtain⟨c',C⟩:∃ c',c'=cH c e0:=⟨_,rfl⟩
 have ag:Hid (bJ s e0=⟨mrg c' false s.cs,e0.q,e0.a⟩):=Lib.hid (by
  rw[wF c' s.cs _ c L.2.2.2.2.2.2 S (by rw[C,mK])]
  unfold bJ
  rw[if_neg hk]
  simp only[S,C])
 have H:fu s.cs e0.cm<s.cs.length:=(List.getElem?_eq_some_iff.1 S).1
 have ao:cX s.cs e0.cm=(fu s.cs e0.cm:Int):=by unfold cX;rw[if_pos (show fF Cmp.nm s.cs e0.cm<s.cs.length from H)]
 have Y:dr c:=L.2.2.2.2.2.1 c (List.mem_of_getElem? S)
 have HC:=Lib.hid C
 have ar:=Lib.hid S
 have ae:=Lib.hid ao
 have HT:=fun A n J X w hX h=>Lib.hid (Ds c A n J e0 X w hX h Y al aw)
 rw[←C]at HT
 clear m1 m2 m3 m4 C S ao hm aw
 generalize fu s.cs e0.cm=i at H ar ae
 have i1:(0:Int)≤(i:Int):=by omega
 have i2:(i:Int)<(n:Int):=by have:=HL.out;omega
 clear H
 obtain⟨cs,q,a⟩:=s
 obtain⟨eq,ea,ek,Z,ex,ey,ez⟩:=e0
 simp only at *
 simp only[evA]at l HT ⊢
 go_enter Tryz.func9,Tryz.ntmps9
 go_upto_region 1 with(fail)
 refine(hstart hX).cw fun W K=>?_
 have K:=K.ksl0 T
 clear T
 go_wp2_with (first | refine K.ld 2 rfl ?_ | refine K.ld 1 rfl ?_)
 refine(l _ _ K.xok (K.sl 0 rfl)).out.mono ?_
 rintro e w1 ⟨rfl,M⟩
 have K:=K.on M
 clear M l
 have c1:=K.r 1 rfl
 go_upto_region 5 with(refine K.lw fun W K=>?_;refine K.sr 0 rfl fun W K=>?_)
 clear c1
 refine K.cw fun Wa K=>?_
 go_upto_region 6 with(fail)
 refine K.cw fun W K=>?_
 have c3:=K.r 3 rfl
 go_upto_region 8 with(fail)
 clear c3
 obtain⟨ad,rr,rfl,K,⟨A0,n0,ba,rfl,z,E⟩⟩:=K.elem 0 rfl ar.out
 have K:=K.kn (f:=aa.fact A0 n0 c.cells) z
 have E:c'.nm.size≤maxLen:=by rw[HC.out,mK];exact E
 clear z
 refine K.rgt (fun V h=>h.tl) fun W K=>?_
 refine tK 0 K.tl ?_
 refine tL 1 (fun _ h=>h.r 3 rfl) K.tl ?_
 refine tL 2 (fun _ h=>h) K.tl ?_ (hy:=fun w y=>aD (y.at_ 3 rfl))
 refine tK 3 K.tl ?_
 refine tL 4 (fun _ h=>h.r 2 rfl) K.tl ?_
 refine tL 8 (fun _ h=>h) K.tl ?_ (hy:=fun w y=>aD (y.at_ 2 rfl))
 refine tC 5 fun K' hK=>?_
 go_simp
 refine(iO ⟨cs,q,a⟩ Z (some ad) n J _ _ K.xok (K.sl 2 rfl) ac).mono ?_
 rw[ae.out]
 rintro e w3 ⟨rfl,M⟩
 have K:=K.on M
 refine hK.out _ _ K.tl fun _=>?_
 clear hK K' M
 try simp only[Act.put,aq,aj,ai]
 refine tK 6 K.tl ?_
 refine tL 7 (fun _ h=>h.at' 1 rfl) K.tl ?_ (hy:=fun w y=>aD y)
 refine tC 9 fun K' hK=>?_
 go_simp
 refine(HT A0 n0 ba _ _ K.xok (K.fa 0 rfl)).out.mono ?_
 rintro e w2 ⟨u,D,o,rfl,M,ap⟩
 have K:=(K.on M).kn (f:=aa.fact u D c'.cells) ap
 refine hK.out _ _ K.tl.ft fun _=>?_
 clear hK K' M ap HT
 try simp only[Act.put,aq,aj,ai]
 refine tK 10 K.tl.ft ?_
 refine tK 11 K.tl.ft ?_
 refine tK 12 K.tl.ft ?_
 refine tSt 13 K 0 rfl (fun U h=>h.tl.ft) fun U K=>?_
 refine tE ?_
 go_upto_region 9 with(fail)
 have K:=(K.out.forget (List.Sublist.cons_cons _ (List.Sublist.cons _ (List.Sublist.cons _ (List.Sublist.cons_cons _ (List.nil_sublist _)))))).hh
 generalize w.heap.size=g2 at K ⊢
 generalize w1.heap.size=g7 at K ⊢
 generalize Wa.heap.size=g8 at K ⊢
 have K:=(K.nrow (e:=95) (size:=21) (n:=0) (v := .slice none 0 0) (xs:=[]) (Below.refl _ _) ⟨rfl,.inl ⟨rfl,rfl⟩⟩).kra (s:=aB) (vs:=[]) (xs:=[]) rfl
 go_wp2
 go_loopw [10,9] (fun i pv wr => ∃ (k m:Nat) (put:Bool) (G:Option Addr) (cap:Nat) (vs:List Value) (acc:List Cmp),k≤n∧i = .int .i64 k∧pv = .bool put∧m≤2*k∧Hid (mrg c' false cs=acc++mrg c' put (cs.drop k))∧HH w [] X wr [.row 95 21 (.slice G m cap) m vs,.box g8 95 (aL c' u D o).toArray,.box g7 37 #[.slice G m cap,.int .i64 eq,.int .i64 ea],.box (g2+2) 37 #[.slice none 0 0,.int .i64 0,.int .i64 0],.box (g2+1) 44 #[.int .i64 eq,.int .i64 ea,.int .i64 ek,.string Z,.int .i64 ex,.int .i64 ey,.int .i64 ez],.box g2 37 #[.slice (some ad) n J,.int .i64 q,.int .i64 a]] [Ra.fact aB vs acc,aa.fact u D c'.cells,Sl.fact aB (some ad) n J cs]) (fun i _ _=>n-(intOf i).toNat)
 case atStart=>exact⟨0,0,false,none,0,[],[],Nat.zero_le _,rfl,rfl,by omega,Lib.hid rfl,K⟩
 case round=>
  obtain⟨k,m,put,G,cap,vs,acc,hk,rfl,rfl,bb,Q,K⟩:=hrel
  have c5:=K.r 5 rfl
  by_cases H:k<n
  ·obtain⟨d,hd⟩:∃ x,cs[k]?=some x:=⟨_,List.getElem?_eq_getElem (by have:=HL.out;omega)⟩
   have HD:Hid (cs.drop k=d::cs.drop (k+1)):=Lib.hid (by
    obtain⟨hj,rfl⟩:=List.getElem?_eq_some_iff.1 hd
    exact(List.getElem_cons_drop (h:=hj)).symm)
   obtain⟨bd,rr,hA,K,⟨p,t,b,rfl,z,P⟩⟩:=K.elem 2 rfl hd
   cases hA
   have K:=K.kn (f:=aa.fact p t d.cells) z
   have N:=Lib.hid hd
   have i1:(0:Int)≤(k:Int):=by omega
   have i2:(k:Int)<(n:Int):=by omega
   clear hd z
   go_upto_region 13 with(fail)
   clear c5
   cases put with
   | false=>
     cases h1:ltB d.nm c'.nm with
     | true=>
       have I:=kz h1
       have g:=jj h1
       have R:=Lib.hid h1
       have F:=Lib.hid g
       have e1:Op.bytesLess d.nm.toList c'.nm.toList=true:=h1
       have e2:Op.bytesLess c'.nm.toList d.nm.toList=false:=I
       have e3:(d.nm.toList == c'.nm.toList)=false:=by rw[beq_eq_false_iff_ne];exact fun h=>g (fL h)
       clear h1 I g
       refine K.rg fun W K=>?_
       refine tK 0 K ?_
       refine tK 1 K ?_
       refine tK 2 K ?_
       refine tK 3 K ?_
       refine tL 4 (fun _ h=>h.r 5 rfl) K ?_
       refine tK 5 K ?_
       refine tK 6 K ?_
       refine tK 7 K ?_
       refine tL 8 (fun _ h=>eS (h.sl 4 rfl) N.out) K ?_
       refine tK 9 K ?_
       refine tL 10 (fun _ h=>h.r 1 rfl) K ?_
       refine tK 11 K ?_
       refine tK 12 K ?_
       refine tE ?_
       go_upto_region 16 with(fail)
       refine K.rg fun W K=>?_
       refine tK 0 K ?_
       refine tL 1 (fun _ h=>h.r 5 rfl) K ?_
       refine tK 2 K ?_
       refine tK 3 K ?_
       refine tK 4 K ?_
       refine tL 5 (fun _ h=>eS (h.sl 4 rfl) N.out) K ?_
       refine tK 6 K ?_
       refine tL 7 (fun _ h=>h.r 1 rfl) K ?_
       refine tK 8 K ?_
       refine tE ?_
       go_upto_region 17 with(fail)
       refine K.rgl 10 10 (fun V h=>h.tl) fun W K=>?_
       refine tK 0 K.tl ?_
       refine tL 1 (fun _ h=>h.r 1 rfl) K.tl ?_
       refine tK 2 K.tl ?_
       refine tL 3 (fun _ h=>h.r 4 rfl) K.tl ?_
       refine tK 4 K.tl ?_
       refine tK 5 K.tl ?_
       refine tL 6 (fun _ h=>h.at' 1 rfl) K.tl ?_ (hy:=fun w y=>aD y)
       refine tC 7 fun K' hK=>?_
       go_simp
       have K:=K.to (W':=W.alloc (.cells (aL d p t b).toArray 95))
       refine hK.out _ _ K.tl.tl fun _=>?_
       clear hK K'
       try simp only[Act.put,aq,aj,ai]
       refine tA 8 K 192 0 rfl (by omega) (fun v' U h=>h.tl) (fun v' U K=>?_)
       try simp only[Act.put,aq]
       obtain⟨G,cap,rfl,-⟩:=aE (K.row 0 rfl)
       refine tK 9 K.tl ?_
       have j:=K.c 2 rfl
       refine tZ fun K' hK=>?_
       go_simp
       refine hK.out _ _ ?_
       clear hK K' j
       try simp only[Act.put]
       go_upto_region 12 with(fail)
       refine K.cw fun W K=>?_
       have K:=K.kra ((K.ra 2 rfl).append (.single (s:=aB) (x:=d) ⟨p,t,b,rfl,K.fa (f:=aa.fact p t d.cells) 0 rfl,P⟩))
       go_wp2
       go_roundw
       case rel=>
        refine⟨k+1,m+1,false,G,cap,vs++aL d p t b,acc ++ [d],by omega,by go_num,rfl,by omega,Lib.hid (by rw[Q.out,HD.out,eG];simp[R.out,F.out]),?_⟩
        exact((((K.up 5 rfl).up 5 rfl).up 2 rfl).out.forget (List.Sublist.cons_cons _ (List.Sublist.cons_cons _ (List.Sublist.cons_cons _ (List.nil_sublist _))))).hh
       case measure=>simp[intOf];omega
     | false=>
       cases I:ltB c'.nm d.nm with
       | false=>
         have g:=mU h1 I
         have R:=Lib.hid h1
         have F:=Lib.hid g
         have e1:Op.bytesLess d.nm.toList c'.nm.toList=false:=h1
         have e2:Op.bytesLess c'.nm.toList d.nm.toList=false:=I
         have e3:(d.nm.toList == c'.nm.toList)=true:=by rw[g];simp
         clear h1 I g
         refine K.rg fun W K=>?_
         refine tK 0 K ?_
         refine tK 1 K ?_
         refine tK 2 K ?_
         refine tK 3 K ?_
         refine tL 4 (fun _ h=>h.r 5 rfl) K ?_
         refine tK 5 K ?_
         refine tK 6 K ?_
         refine tK 7 K ?_
         refine tL 8 (fun _ h=>eS (h.sl 4 rfl) N.out) K ?_
         refine tK 9 K ?_
         refine tL 10 (fun _ h=>h.r 1 rfl) K ?_
         refine tK 11 K ?_
         refine tK 12 K ?_
         refine tE ?_
         have j:=K.c 2 rfl
         go_upto_region 15 with(first | refine K.ld 1 rfl ?_ | (at_builtin;refine K.lw fun W K=>?_;refine K.ap1 192 0 rfl (by omega) fun v' U K=>?_;obtain⟨G,cap,rfl,-⟩:=aE (K.row 0 rfl);have j:=K.c 2 rfl))
         refine K.cw fun W K=>?_
         clear j
         have K:=K.kra ((K.ra 2 rfl).append (.single (s:=aB) (x:=c') ⟨u,D,o,rfl,K.fa (f:=aa.fact u D c'.cells) 3 rfl,E⟩))
         go_upto_region 16 with(fail)
         refine K.rg fun W K=>?_
         refine tK 0 K ?_
         refine tL 1 (fun _ h=>h.r 5 rfl) K ?_
         refine tK 2 K ?_
         refine tK 3 K ?_
         refine tK 4 K ?_
         refine tL 5 (fun _ h=>eS (h.sl 5 rfl) N.out) K ?_
         refine tK 6 K ?_
         refine tL 7 (fun _ h=>h.r 1 rfl) K ?_
         refine tK 8 K ?_
         refine tE ?_
         go_wp2
         go_roundw
         case rel=>
          refine⟨k+1,m+1,true,G,cap,vs++aL c' u D o,acc ++ [c'],by omega,by go_num,rfl,by omega,Lib.hid (by rw[Q.out,HD.out,eG];simp[R.out,F.out,show ltB c'.nm c'.nm=false from F.out ▸ R.out]),?_⟩
          exact((((K.up 5 rfl).up 5 rfl).up 2 rfl).out.forget (List.Sublist.cons_cons _ (List.Sublist.cons_cons _ (List.Sublist.cons_cons _ (List.nil_sublist _))))).hh
         case measure=>simp[intOf];omega
       | true=>
         have g:=(jj I).symm
         have R:=Lib.hid h1
         have F:=Lib.hid g
         have e1:Op.bytesLess d.nm.toList c'.nm.toList=false:=h1
         have e2:Op.bytesLess c'.nm.toList d.nm.toList=true:=I
         have e3:(d.nm.toList == c'.nm.toList)=false:=by rw[beq_eq_false_iff_ne];exact fun h=>g (fL h)
         clear h1 I g
         refine K.rg fun W K=>?_
         refine tK 0 K ?_
         refine tK 1 K ?_
         refine tK 2 K ?_
         refine tK 3 K ?_
         refine tL 4 (fun _ h=>h.r 5 rfl) K ?_
         refine tK 5 K ?_
         refine tK 6 K ?_
         refine tK 7 K ?_
         refine tL 8 (fun _ h=>eS (h.sl 4 rfl) N.out) K ?_
         refine tK 9 K ?_
         refine tL 10 (fun _ h=>h.r 1 rfl) K ?_
         refine tK 11 K ?_
         refine tK 12 K ?_
         refine tE ?_
         have j:=K.c 2 rfl
         go_upto_region 15 with(first | refine K.ld 1 rfl ?_ | (at_builtin;refine K.lw fun W K=>?_;refine K.ap1 192 0 rfl (by omega) fun v' U K=>?_;obtain⟨G,cap,rfl,-⟩:=aE (K.row 0 rfl);have j:=K.c 2 rfl))
         refine K.cw fun W K=>?_
         clear j
         have K:=K.kra ((K.ra 2 rfl).append (.single (s:=aB) (x:=c') ⟨u,D,o,rfl,K.fa (f:=aa.fact u D c'.cells) 3 rfl,E⟩))
         go_upto_region 16 with(fail)
         refine K.rg fun W K=>?_
         refine tK 0 K ?_
         refine tL 1 (fun _ h=>h.r 5 rfl) K ?_
         refine tK 2 K ?_
         refine tK 3 K ?_
         refine tK 4 K ?_
         refine tL 5 (fun _ h=>eS (h.sl 5 rfl) N.out) K ?_
         refine tK 6 K ?_
         refine tL 7 (fun _ h=>h.r 1 rfl) K ?_
         refine tK 8 K ?_
         refine tE ?_
         go_upto_region 17 with(fail)
         refine K.rgl 10 10 (fun V h=>h.tl) fun W K=>?_
         refine tK 0 K.tl ?_
         refine tL 1 (fun _ h=>h.r 1 rfl) K.tl ?_
         refine tK 2 K.tl ?_
         refine tL 3 (fun _ h=>h.r 4 rfl) K.tl ?_
         refine tK 4 K.tl ?_
         refine tK 5 K.tl ?_
         refine tL 6 (fun _ h=>h.at' 2 rfl) K.tl ?_ (hy:=fun w y=>aD y)
         refine tC 7 fun K' hK=>?_
         go_simp
         have K:=K.to (W':=W.alloc (.cells (aL d p t b).toArray 95))
         refine hK.out _ _ K.tl.tl fun _=>?_
         clear hK K'
         try simp only[Act.put,aq,aj,ai]
         refine tA 8 K 192 0 rfl (by omega) (fun v' U h=>h.tl) (fun v' U K=>?_)
         try simp only[Act.put,aq]
         obtain⟨G,cap,rfl,-⟩:=aE (K.row 0 rfl)
         refine tK 9 K.tl ?_
         have j:=K.c 2 rfl
         refine tZ fun K' hK=>?_
         go_simp
         refine hK.out _ _ ?_
         clear hK K' j
         try simp only[Act.put]
         go_upto_region 12 with(fail)
         refine K.cw fun W K=>?_
         have K:=K.kra ((K.ra 0 rfl).append (.single (s:=aB) (x:=d) ⟨p,t,b,rfl,K.fa (f:=aa.fact p t d.cells) 1 rfl,P⟩))
         go_wp2
         go_roundw
         case rel=>
          refine⟨k+1,m+1+1,true,G,cap,vs++aL c' u D o++aL d p t b,acc ++ [c'] ++ [d],by omega,by go_num,rfl,by omega,Lib.hid (by rw[Q.out,HD.out,eG];simp[R.out,F.out]),?_⟩
          exact((((K.up 6 rfl).up 6 rfl).up 2 rfl).out.forget (List.Sublist.cons_cons _ (List.Sublist.cons_cons _ (List.Sublist.cons_cons _ (List.nil_sublist _))))).hh
         case measure=>simp[intOf];omega
   | true=>
     by_cases g:d.nm=c'.nm
     ·have F:=Lib.hid g
      have e3:(d.nm.toList == c'.nm.toList)=true:=by rw[g];simp
      clear g
      refine K.rg fun W K=>?_
      refine tK 0 K ?_
      refine tK 1 K ?_
      refine tK 2 K ?_
      refine tN 3 K ?_
      refine tN 4 K ?_
      refine tN 5 K ?_
      refine tN 6 K ?_
      refine tN 7 K ?_
      refine tN 8 K ?_
      refine tN 9 K ?_
      refine tN 10 K ?_
      refine tN 11 K ?_
      refine tK 12 K ?_
      refine tE ?_
      go_upto_region 16 with(fail)
      refine K.rg fun W K=>?_
      refine tK 0 K ?_
      refine tL 1 (fun _ h=>h.r 5 rfl) K ?_
      refine tK 2 K ?_
      refine tK 3 K ?_
      refine tK 4 K ?_
      refine tL 5 (fun _ h=>eS (h.sl 4 rfl) N.out) K ?_
      refine tK 6 K ?_
      refine tL 7 (fun _ h=>h.r 1 rfl) K ?_
      refine tK 8 K ?_
      refine tE ?_
      go_wp2
      go_roundw
      case rel=>
       refine⟨k+1,m,true,G,cap,vs,acc,by omega,by go_num,rfl,by omega,Lib.hid (by rw[Q.out,HD.out,eG];simp[F.out]),?_⟩
       exact((((K.up 4 rfl).up 4 rfl).up 4 rfl).out.forget (List.Sublist.cons_cons _ (List.Sublist.cons_cons _ (List.Sublist.cons_cons _ (List.nil_sublist _))))).hh
      case measure=>simp[intOf];omega
     ·have F:=Lib.hid g
      have e3:(d.nm.toList == c'.nm.toList)=false:=by rw[beq_eq_false_iff_ne];exact fun h=>g (fL h)
      clear g
      refine K.rg fun W K=>?_
      refine tK 0 K ?_
      refine tK 1 K ?_
      refine tK 2 K ?_
      refine tN 3 K ?_
      refine tN 4 K ?_
      refine tN 5 K ?_
      refine tN 6 K ?_
      refine tN 7 K ?_
      refine tN 8 K ?_
      refine tN 9 K ?_
      refine tN 10 K ?_
      refine tN 11 K ?_
      refine tK 12 K ?_
      refine tE ?_
      go_upto_region 16 with(fail)
      refine K.rg fun W K=>?_
      refine tK 0 K ?_
      refine tL 1 (fun _ h=>h.r 5 rfl) K ?_
      refine tK 2 K ?_
      refine tK 3 K ?_
      refine tK 4 K ?_
      refine tL 5 (fun _ h=>eS (h.sl 4 rfl) N.out) K ?_
      refine tK 6 K ?_
      refine tL 7 (fun _ h=>h.r 1 rfl) K ?_
      refine tK 8 K ?_
      refine tE ?_
      go_upto_region 17 with(fail)
      refine K.rgl 10 10 (fun V h=>h.tl) fun W K=>?_
      refine tK 0 K.tl ?_
      refine tL 1 (fun _ h=>h.r 1 rfl) K.tl ?_
      refine tK 2 K.tl ?_
      refine tL 3 (fun _ h=>h.r 4 rfl) K.tl ?_
      refine tK 4 K.tl ?_
      refine tK 5 K.tl ?_
      refine tL 6 (fun _ h=>h.at' 1 rfl) K.tl ?_ (hy:=fun w y=>aD y)
      refine tC 7 fun K' hK=>?_
      go_simp
      have K:=K.to (W':=W.alloc (.cells (aL d p t b).toArray 95))
      refine hK.out _ _ K.tl.tl fun _=>?_
      clear hK K'
      try simp only[Act.put,aq,aj,ai]
      refine tA 8 K 192 0 rfl (by omega) (fun v' U h=>h.tl) (fun v' U K=>?_)
      try simp only[Act.put,aq]
      obtain⟨G,cap,rfl,-⟩:=aE (K.row 0 rfl)
      refine tK 9 K.tl ?_
      have j:=K.c 2 rfl
      refine tZ fun K' hK=>?_
      go_simp
      refine hK.out _ _ ?_
      clear hK K' j
      try simp only[Act.put]
      go_upto_region 12 with(fail)
      refine K.cw fun W K=>?_
      have K:=K.kra ((K.ra 2 rfl).append (.single (s:=aB) (x:=d) ⟨p,t,b,rfl,K.fa (f:=aa.fact p t d.cells) 0 rfl,P⟩))
      go_wp2
      go_roundw
      case rel=>
       refine⟨k+1,m+1,true,G,cap,vs++aL d p t b,acc ++ [d],by omega,by go_num,rfl,by omega,Lib.hid (by rw[Q.out,HD.out,eG];simp[F.out]),?_⟩
       exact((((K.up 5 rfl).up 5 rfl).up 2 rfl).out.forget (List.Sublist.cons_cons _ (List.Sublist.cons_cons _ (List.Sublist.cons_cons _ (List.nil_sublist _))))).hh
      case measure=>simp[intOf];omega
  ·obtain rfl:k=n:=by omega
   have am:cs.drop k = []:=List.drop_eq_nil_of_le (by have:=HL.out;omega)
   have O:=Q.out
   rw[am]at O
   have ab:=Lib.hid O
   clear am O
   cases put with
   | true=>
     have j:=K.c 2 rfl
     go_wp2_with (first | refine K.ld 2 rfl ?_ | refine K.sr 3 rfl fun W K=>?_)
     obtain⟨B,bc,e9,KS⟩:=K.out.done_row (s:=aB) (xs:=acc) 0 rfl (K.ra 0 rfl) (by decide) (by simp)
     injection e9 with e4 e5 e6
     have K1:=KS.hh
     rw[←e4,←e6]at K1
     rw[ag.out,ab.out]
     simp only[mrg,if_true,List.append_nil]
     exact K.rc2 3 rfl rfl ⟨G,m,cap,rfl,K.below,K1.slb 0 rfl⟩
   | false=>
     have j:=K.c 2 rfl
     go_upto_region 20 with(first | refine K.ld 1 rfl ?_ | (at_builtin;refine K.lw fun W K=>?_;refine K.ap1 192 0 rfl (by omega) fun v' U K=>?_;obtain⟨G,cap,rfl,-⟩:=aE (K.row 0 rfl);have j:=K.c 2 rfl))
     refine K.cw fun W K=>?_
     clear j
     have K:=K.kra ((K.ra 0 rfl).append (.single (s:=aB) (x:=c') ⟨u,D,o,rfl,K.fa (f:=aa.fact u D c'.cells) 1 rfl,E⟩))
     go_wp2_with (first | refine K.ld 2 rfl ?_ | refine K.sr 3 rfl fun W K=>?_)
     obtain⟨B,bc,e9,KS⟩:=K.out.done_row (s:=aB) (xs:=acc ++ [c']) 0 rfl (K.ra 0 rfl) (by decide) (by simp)
     injection e9 with e4 e5 e6
     have K1:=KS.hh
     rw[←e4,←e6]at K1
     rw[ag.out,ab.out]
     simp only[mrg,Bool.false_eq_true,if_false]
     exact K.rc2 3 rfl rfl ⟨G,m+1,cap,rfl,K.below,K1.slb 0 rfl⟩
theorem yw (s:St) (b:Evt) (A:Option Addr) (n f:Nat) (X:List Nat) (w:World) (hX:XOk X w) (g:Sl aB w X A n f s.cs) (c:cF s) (d:b.cm.size≤maxLen):
 Calls Tryz.prog 9 #[.agg #[.slice A n f,.int .i64 s.q,.int .i64 s.a],.agg (evA b)] w (jY (dR s b) (cS s b) X w):=by
 unfold dR
 by_cases e:cS s b=0
 ·rw[if_pos e,e]
  by_cases h:b.k=1
  ·exact tV s b h A n f X w hX g c d e
  ·exact rO s b h A n f X w hX g c d e
 ·rw[if_neg e]
  exact vS s b A n f X w hX g c d e
end
section
open Go.RowKit
theorem jy {room:Int} (h:0≤room∧room≤65536):eO ⟨[],room⟩:=⟨by simp,h.1,h.2,by simp,List.Pairwise.nil,by simpa [aI] using h.1⟩
theorem vo {room:Int} (h:0≤room∧room≤65536):eC [] room [] [] ⟨[],0,0⟩:=⟨jy h,by simp,by simp,by simp,rfl,rfl,by simp,by simp⟩
set_option maxHeartbeats 2000000 in
theorem zB (room b a:Int) (f:0≤room∧room≤65536) (d:dM b a=false) (X:List Nat) (w:World) (hX:XOk X w):
 Calls Tryz.prog 8 #[.agg #[.slice none 0 0,.int .i64 room,.int .i64 (-1),.bool false],.agg #[.int .i64 b,.int .i64 a]] w fun e w'=>e = .returned (.tuple #[.agg #[.slice none 0 0,.int .i64 room,.int .i64 (-1),.bool false,.int .i64 0,.int .i64 0,.slice none 0 0,.int .i64 0,.int .i64 0,.slice none 0 0,.slice none 0 0,.int .i64 0,.int .i64 0,.int .i64 0,.int .i64 0,.bool false],.int .i64 1])∧Below w.heap.size w w':=by
 go_enter Tryz.func8,Tryz.ntmps8
 go_upto_region 1 with(fail)
 refine(hstart hX).cw fun W K=>?_
 go_wp2_with (first | refine K.ld 2 rfl ?_)
 refine(eT ⟨[],room⟩ none 0 0 _ _ K.xok Sl.nil_ (jy f)).mono ?_
 rintro e h ⟨rfl,c⟩
 have K:=K.on c
 clear c
 go_wp2_with (first | refine bu (K.at_ 1 rfl) ?_)
 refine(qX b a _).mono ?_
 rw[d]
 rintro e g ⟨rfl,c⟩
 have K:=K.on c
 clear c
 go_wp2_with (first | refine K.ld 2 rfl ?_ | (refine K.sr 0 rfl fun W K=>?_))
 exact K.rc2 0 rfl rfl ⟨rfl,K.below⟩
theorem CY (A:Option Addr) (n a:Nat) (room:Int) (S:Option Addr) (b:Nat) (X:List Nat) (w:World) (hX:XOk X w):
 Calls Tryz.prog 29 #[.agg #[.slice A n a,.int .i64 room,.int .i64 (-1),.bool false],.slice S 0 b] w fun e w'=>e = .returned (.tuple #[.agg #[.slice A n a,.int .i64 room,.int .i64 (-1),.bool false],.int .i64 0])∧Below w.heap.size w w':=by
 go_enter Tryz.func29,Tryz.ntmps29
 go_upto_region 2 with(fail)
 refine(hstart hX).cw fun W K=>?_
 go_loopw [11] (fun i wr=>i = .int .i64 0∧HH w [] X wr [.box (w.heap.size+1) 30 #[.slice none 0 0,.int .i64 0,.int .i64 0,.bool false],.box w.heap.size 30 #[.slice A n a,.int .i64 room,.int .i64 (-1),.bool false]] []) (fun i _=>0)
 case atStart=>exact⟨rfl,K⟩
 case round=>
  obtain⟨rfl,K⟩:=hrel
  have c:=K.r 1 rfl
  go_wp2_with (refine K.lw fun W K=>?_;refine K.sr 0 rfl fun W K=>?_)
  exact K.rc2 0 rfl rfl ⟨rfl,K.below⟩
set_option maxHeartbeats 4000000 in
theorem qc (room b d:Int) (n:0≤room∧room≤65536) (i:dM b d=true) (X:List Nat) (w:World) (hX:XOk X w) (x:aX w):
 Calls Tryz.prog 8 #[.agg #[.slice none 0 0,.int .i64 room,.int .i64 (-1),.bool false],.agg #[.int .i64 b,.int .i64 d]] w (fP [] room b d [] ⟨0,0,[]⟩ ⟨[],0,0⟩ 0 0 X w):=by
 go_enter Tryz.func8,Tryz.ntmps8
 go_upto_region 1 with(fail)
 refine(hstart hX).cw fun W K=>?_
 go_wp2_with (first | refine K.ld 2 rfl ?_)
 refine(eT ⟨[],room⟩ none 0 0 _ _ K.xok Sl.nil_ (jy n)).mono ?_
 rintro e H ⟨rfl,a⟩
 have K:=K.on a
 clear a
 go_wp2_with (first | refine bu (K.at_ 1 rfl) ?_)
 refine(qX b d _).mono ?_
 rw[i]
 rintro e G ⟨rfl,a⟩
 have K:=K.on a
 clear a
 have y:=K.r 2 rfl
 go_upto_region 5 with(fail)
 clear y
 go_wp2_with (first | refine K.ld 2 rfl ?_)
 refine(uG [] room [] [] ⟨[],0,0⟩ (vo n) none 0 0 _ _ K.xok Sl.nil_ (x.on K.below)).mono ?_
 rintro e I ⟨B,C,bc,O,on,z,p,l,f,rfl,g,m,j,D,a⟩
 have K:=((K.on a).ksl j).ksl g
 obtain rfl:on=0:=m.len
 obtain rfl:C=0:=g.len
 clear a g m j
 go_upto_region 6 with(refine K.lw fun W K=>?_;refine K.sr 0 rfl fun W K=>?_)
 have c0:=K.r 0 rfl
 go_upto_region 8 with(fail)
 clear c0
 refine K.rg fun W K=>?_
 refine tL 0 (fun _ h=>h.at_ 3 rfl) K ?_ (hy:=fun w c=>aD c)
 refine tL 1 (fun _ h=>h.at_ 0 rfl) K ?_ (hy:=fun w c=>aD c)
 refine tC 2 fun K' hK=>?_
 go_simp
 refine(Fi B bc O z _ _).mono ?_
 rintro e L ⟨rfl,a⟩
 have K:=K.on a
 refine hK.out _ _ K fun _=>?_
 clear hK K' a
 try simp only[Act.put,aq,aj,ai]
 refine tC 3 fun K' hK=>?_
 go_simp
 refine(CY none 0 0 room none 0 _ _ K.xok).mono ?_
 rintro e F ⟨rfl,a⟩
 have K:=K.on a
 refine hK.out _ _ K fun _=>?_
 clear hK K' a
 try simp only[Act.put,aq,aj,ai]
 refine tK 4 K ?_
 refine tK 5 K ?_
 refine tK 6 K ?_
 refine tSt 7 K 3 rfl (fun U h=>h) fun U K=>?_
 refine tK 8 K ?_
 refine tE ?_
 go_upto_region 11 with(fail)
 have K:=K.mv 1 rfl
 refine K.rgt (fun V h=>h.tl) fun W K=>?_
 refine tL 0 (fun _ h=>h.at_ 2 rfl) K.tl ?_ (hy:=fun w c=>aD c)
 refine tL 1 (fun _ h=>h.at_ 1 rfl) K.tl ?_ (hy:=fun w c=>aD c)
 refine tK 2 K.tl ?_
 refine tL 3 (fun _ h=>h.r 0 rfl) K.tl ?_
 refine tK 5 K.tl ?_
 refine tL 6 (fun _ h=>h.r 0 rfl) K.tl ?_
 refine tK 8 K.tl ?_
 refine tL 9 (fun _ h=>h.sub 0 rfl 3 [.slice p l f,.int .i64 0,.int .i64 0]) K.tl ?_ (hy:=fun w c=>aD c)
 refine tK 10 K.tl ?_
 refine tK 11 K.tl ?_
 refine tL 12 (fun _ h=>h.r 0 rfl) K.tl ?_
 refine tK 13 K.tl ?_
 refine tL 14 (fun _ h=>h.r 0 rfl) K.tl ?_
 refine tC 4 fun K' hK=>?_
 go_simp
 refine(CE [] B 0 bc _ _ K.xok (K.sl 0 rfl) (by omega)).mono ?_
 rintro e E ⟨s,q,rfl,k,a⟩
 have K:=(K.on a).ksl k
 refine hK.out _ _ K.tl.ft fun _=>?_
 clear hK K' a k
 try simp only[Act.put,aq,aj,ai]
 refine tC 7 fun K' hK=>?_
 go_simp
 refine(wB [] B 0 bc _ _ K.xok (K.sl 1 rfl) (by omega)).mono ?_
 rw[show ah []=⟨0,0,[]⟩ from rfl]
 rintro e J ⟨t,v,u,rfl,o,A,a⟩
 have K:=(K.on a).ksl o
 refine hK.out _ _ K.tl.ft.ft fun _=>?_
 clear hK K' a o
 try simp only[Act.put,aq,aj,ai]
 refine tK 15 K.tl.ft.ft ?_
 refine tSt 16 K 0 rfl (fun U h=>h.tl.ft.ft) fun U K=>?_
 refine tK 17 K.tl.ft.ft ?_
 refine tE ?_
 go_wp2
 exact K.rc2 0 rfl rfl ⟨none,0,0,s,0,q,t,v,u,p,l,f,rfl,Sl.nil_,K.slb 1 rfl,K.slb 0 rfl,K.slb 3 rfl,K.below⟩
end
section
open Go.RowKit
theorem CS {s t:St} {g:Sg} (h:ri s g t) (d:cF s) (n:Nat) (f:1≤n) (e:n≤99999999) (b:g.evs.length≤100000):bH (g.bt n) cM=((g.pr n).s,(g.pr n).st):=by
 have hn:eZ (n:Int)=true:=by unfold eZ;simp;omega
 have a:=h.right d
 unfold Sg.pr Sg.c Sg.c0 Sg.bt Sg.c0
 cases hd:g.sd with
 | false=>
   rw[qz hn a h.2.2.2.1 b]
   simp
 | true=>
   rw[nH hn a h.2.2.2.1 b]
   simp
theorem tH:∀ (gs:List Sg) (fs:List Fil) (n k:Nat) (g:Sg) (s t:St),bK n fs gs→gS s gs t→cF s→n+gs.length≤99999999→(∀ g ∈ gs,g.evs.length≤100000)→gs[k]?=some g →
 ∃ f,fs[k]?=some f∧f.nm=aA (n+k+1)∧f.all=g.bt (n+k+1)∧bH f.all cM=((g.pr (n+k+1)).s,(g.pr (n+k+1)).st)∧(k+1<gs.length→g.sd=true)
 | [],_,_,_,_,_,_,_,_,_,_,_,h=>by simp at h
 | _::_,[],_,_,_,_,_,h,_,_,_,_,_=>h.elim
 | x::gs,f::fs,n,0,g,s,t,⟨f1,f2,f3⟩,⟨u,g1,g2,g3⟩,hs,hn,hl,hg=>by
   simp only[List.getElem?_cons_zero,Option.some.injEq]at hg
   subst hg
   rw[List.length_cons]at hn
   refine⟨f,rfl,f1,f2,by rw[f2];exact CS g1 hs (n+1) (by omega) (by omega) (hl x (by simp)),fun h=>g2 (fun e=>by subst e;simp at h)⟩
 | x::gs,f::fs,n,k+1,g,s,t,⟨f1,f2,f3⟩,⟨u,g1,g2,g3⟩,hs,hn,hl,hg=>by
   rw[List.length_cons]at hn
   have d:=gm _ _ _ hs g1.2.2.2.2
   obtain⟨f',j,b,c,a,i⟩:=tH gs fs (n+1) k g u t f3 g3 d.1 (by omega) (fun y hy=>hl y (by simp[hy])) (by simpa using hg)
   rw[show n+1+k+1=n+(k+1)+1 from by omega]at b c a
   exact⟨f',by simpa using j,b,c,a,fun h=>i (by simp at h;omega)⟩
theorem CF {gs:List Sg} {k:Nat} {g:Sg} (h:gs[k]?=some g):bg (gs.take (k+1))=bg (gs.take k)++g.evs:=by
 obtain⟨a,rfl⟩:=List.getElem?_eq_some_iff.1 h
 rw[List.take_succ_eq_append_getElem a,cO]
structure JD where
 fs:List Fil
 gs:List Sg
 su:Int
 A:Option Addr
 n:Nat
 cp:Nat
 S:Option Addr
 m:Nat
 mc:Nat
 N:Option Addr
 nn:Nat
 cn:Nat
 C:Option Addr
 kk:Nat
 ck:Nat
abbrev JD.cells (d:JD) (room b age:Int) (t:St):Array Value:=(jnA d.A d.n d.cp room b age d.S d.m d.mc (ah (aQ 0 d.gs)).q (ah (aQ 0 d.gs)).a d.N d.nn d.cn d.C d.kk d.ck t.q t.a d.su 0 false).toArray
theorem JQ.jd {room:Int} {k:Nat} {ev:List Evt} {b a:Int} {t:St} {c:Int} {X:List Nat} {w:World} {e:Ending} {w':World} (h:JQ room k ev b a t c X w e w'):
 ∃ d:JD,JI room k d.fs d.gs t d.su∧bg d.gs=ev∧e = .returned (.tuple #[.agg (d.cells room b a t),.int .i64 c])∧Sl az w' X d.A d.n d.cp d.fs∧Sl bC w' X d.S d.m d.mc ((aQ 0 d.gs).map aC)∧Sl af w' X d.N d.nn d.cn (ah (aQ 0 d.gs)).ns∧Sl aB w' X d.C d.kk d.ck t.cs∧Below w.heap.size w w':=by
 obtain⟨fs,gs,su,g,i,A,n,cp,S,m,mc,N,nn,cn,C,kk,ck,f⟩:=h
 exact⟨⟨fs,gs,su,A,n,cp,S,m,mc,N,nn,cn,C,kk,ck⟩,g,i,f⟩
theorem Db {α β γ:Type} {G:α→β→γ→Prop} {T:Prop} (a:Hid (∀ x y z,G x y z)→T) (key:∀ x y z,G x y z):T:=a key
theorem iS (z:Int) (c:1≤z) (b:z≤99999999) (w:World) (a:aX w):Calls Tryz.prog 15 #[.int .i64 z] w fun e w'=>e = .returned (.string (aA z.toNat))∧Below w.heap.size w w':=by
 have h:=iE z.toNat (by omega) (by omega) w a
 rwa [Int.toNat_of_nonneg (by omega)]at h
theorem dr.cells {c:Cmp} (h:dr c):c.cells.length≤16:=by
 rcases h.2.2 with h | h | h
 ·have:=(aZ h.2.2.2.1).2.2.2.2.2;exact this
 ·rw[h.2.2.2.2.1];simp
 ·rw[h.2.2.2.2.2.1];simp
theorem Sl.evs {w:World} {X:List Nat} {A:Option Addr} {n c:Nat} {l:List Evt} (h:Sl fc w X A n c l):Reads w w.heap.size 7 A n (aG l):=by
 obtain⟨vs,b,-,a⟩:=h.reads
 obtain⟨rfl,-⟩:=aM.1 a
 exact b
end
end Go.Proofs.YtpokkciheejeiaaGreatDoor
