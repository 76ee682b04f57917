/- Lemmas and contracts that the proof of TopCut uses, part 10 of 16: each is a theorem for every input that its premises allow. -/
import Derived.Test.YtpokkciheejeiaaGreatDoorTuI
set_option linter.unusedVariables false
set_option linter.unusedSimpArgs false
set_option maxRecDepth 100000
namespace Go.Proofs.YtpokkciheejeiaaGreatDoor
section
open Go.RowKit
def je (x:Sgi) (c:Cx) (b ag:Int) (e:Evt):Bool:=if x.sd=true then false else if eG c e≠0 then true else if b<x.sz+(av 2 (aQ c e)).length then true else decide (ag<e.a-x.fr)
theorem zX (g:Evt) (A:Option Addr) (n h:Nat) (room b c:Int) (S:Option Addr) (d:Nat) (q a:Int) (N:Option Addr) (nn f:Nat) (C:Option Addr) (k j:Nat) (i sa sure kept:Int) (sh:Bool) (X:List Nat) (w:World) (hX:XOk X w):
 Calls Tryz.prog 40 #[.agg (jnA A n h room b c S 0 d q a N nn f C k j i sa sure kept sh).toArray,.agg (evA g)] w fun e w'=>e = .returned (.bool false)∧Below w.heap.size w w':=by
 simp only[jnA,evA]
 go_enter Tryz.func40,Tryz.ntmps40
 go_upto_region 1 with(fail)
 refine(hstart hX).cw fun W K=>?_
 have l:=K.r 1 rfl
 go_wp2
 go_ret
 exact⟨rfl,K.below⟩
set_option maxHeartbeats 2000000 in
theorem nC (l:List Sgi) (x:Sgi) (i:Nat) (p:l[i]?=some x) (ns:List (List UInt8)) (c:Evt) (A:Option Addr) (n H:Nat) (room b j:Int) (S:Option Addr) (E:Nat) (q a:Int) (N:Option Addr) (nn u:Nat) (C:Option Addr) (k O:Nat) (M sa sure kept:Int) (sh:Bool) (X:List Nat) (w:World) (hX:XOk X w)
 (F:Sl bw w X S (i+1) E l) (D:Sl af w X N nn u ns) (z:nn≤1000) (B:c.cm.size≤maxLen) (hi:i≤100) (hf:x.fi<x.la) (Q:0≤x.sz∧x.sz≤1000000) (U:0≤c.a∧c.a≤1099511627776) (J:0≤x.fr∧x.fr≤1099511627776):
 Calls Tryz.prog 40 #[.agg (jnA A n H room b j S (i+1) E q a N nn u C k O M sa sure kept sh).toArray,.agg (evA c)] w fun e w'=>e = .returned (.bool (je x ⟨q,a,ns⟩ b j c))∧Below w.heap.size w w':=by
 simp only[jnA,evA]
 unfold je
 have T:(0:Int)≤(i:Int):=by omega
 have V:(i:Int)<(i:Int)+1:=by omega
 have i3:¬ x.la≤x.fi:=by omega
 cases hsd:x.sd with
 | true=>
   rw[if_pos rfl]
   go_enter Tryz.func40,Tryz.ntmps40
   go_upto_region 1 with(fail)
   refine(hstart hX).cw fun W K=>?_
   have K:=K.ksl0 F
   have t:=K.r 1 rfl
   obtain⟨ad,r,rfl,K,⟨rfl,-⟩⟩:=K.elem 0 rfl p
   simp only[bK,hsd]at K
   clear p
   go_upto_region 5 with(first | refine bF (K.at' 0 rfl) ?_ | (refine K.lw fun W K=>?_;refine K.sr 0 rfl fun W K=>?_))
   clear t
   have c0:=K.r 0 rfl
   go_wp2
   go_ret
   exact⟨rfl,K.below⟩
 | false=>
   rw[if_neg (by simp)]
   have hlen:eG ⟨q,a,ns⟩ c=0→(av 2 (aQ ⟨q,a,ns⟩ c)).length≤111:=fun h=>by rw[aW];have:=gJ h;omega
   have o:=Lib.hid hlen
   clear hlen
   have i7:wrap64 (c.a-x.fr)=c.a-x.fr:=by unfold wrap64;omega
   go_enter Tryz.func40,Tryz.ntmps40
   go_upto_region 1 with(fail)
   refine(hstart hX).cw fun W K=>?_
   have K:=(K.ksl0 D).ksl0 F
   have t:=K.r 1 rfl
   obtain⟨ad,r,rfl,K,⟨rfl,-⟩⟩:=K.elem 0 rfl p
   simp only[bK,hsd]at K
   clear p
   go_upto_region 5 with(first | refine bF (K.at' 0 rfl) ?_ | (refine K.lw fun W K=>?_;refine K.sr 0 rfl fun W K=>?_))
   clear t
   have c0:=K.r 0 rfl
   go_upto_region 7 with(fail)
   clear c0
   go_wp2_with (first | refine bF (K.sub 2 rfl 7 [.int .i64 q,.int .i64 a,.slice N nn u]) ?_ | refine K.ld 1 rfl ?_)
   refine(EX q a ns N nn u c _ _ K.xok (K.sl 2 rfl) z B).mono ?_
   rintro e P ⟨s,⟨g,rfl⟩ | ⟨g,R,G,Z,n4,c4,rfl,I,-⟩⟩
   ·have K:=K.on s
    clear s
    have v:=Lib.hid g
    have y:=g
    generalize eG ⟨q,a,ns⟩ c=er at g y ⊢
    go_wp2_with (refine K.lw fun W K=>?_;refine K.sr 0 rfl fun W K=>?_)
    go_ret
    exact⟨by first | rfl | rw[if_pos v.out],K.below⟩
   ·have K:=K.on s
    clear s I
    have L:=o.out g
    obtain⟨f,d⟩:∃ f,f=(av 2 (aQ ⟨q,a,ns⟩ c)).length:=⟨_,rfl⟩
    rw[←d]at L
    have m:=Lib.hid d
    have v:=Lib.hid g
    rw[←d]
    clear d g
    have Y:wrap64 (x.sz+(f:Int))=x.sz+(f:Int):=by unfold wrap64;omega
    go_upto_region 8 with(refine K.lw fun W K=>?_;refine K.sr 0 rfl fun W K=>?_)
    have t:=K.r 1 rfl
    have c2:=K.r 2 rfl
    have c3:=K.r 3 rfl
    by_cases h5:b<x.sz+(f:Int)
    ·go_wp2
     go_ret
     exact⟨by rw[←m.out,decide_eq_true (show b<x.sz+(f:Int) by omega)];simp,K.below⟩
    ·go_wp2
     go_ret
     exact⟨by rw[←m.out,decide_eq_false (show ¬ b<x.sz+(f:Int) by omega)];simp[v.out],K.below⟩
end
section
open Go.RowKit
abbrev wA (d0 d1 d2 d3 d4 d5:Value) (G:Option Addr) (m cap:Nat) (q a:Int) (N:Option Addr) (nn cn:Nat) (d10:Value) (sq sa su:Int) (d14 d15:Value) (S:Option Addr) (sn sc:Nat) (sz:Int):Array Value:=
 #[d0,d1,d2,d3,d4,d5,.slice G m cap,.int .i64 q,.int .i64 a,.slice N nn cn,d10,.int .i64 sq,.int .i64 sa,.int .i64 su,d14,d15,.slice S sn sc,.int .i64 sz]
abbrev qo (S:Option Addr) (sn sc:Nat) (ss:List Value):Itm := .row 144 1 (.slice S sn sc) sn ss
abbrev wV (g m cap:Nat) (xs:List Value):Itm := .row 67 7 (.slice (some ⟨g,0,none⟩) m cap) m xs
theorem wL (k:Nat) (h:k≤1000000):IntKind.i64.wrap (k:Int)=(k:Int):=IntWalk.i64_in _ (by omega)
theorem dO {α:Type} {pre l:List α} {n:Nat} (h:pre.length=n) (j:Nat):(pre++l)[n+j]?=l[j]?:=by
 rw[List.getElem?_append_right (by omega),←h,Nat.add_sub_cancel_left]
theorem oh {α:Type} {pre l:List α} {n:Nat} (h:pre.length=n) (j:Nat) (v:α):(pre++l).set (n+j) v=pre++l.set j v:=by
 rw[List.set_append_right _ _ (by omega),←h,Nat.add_sub_cancel_left]
def hO (v:Value) (st:Stp):Fact:=⟨fun w X=>cO.rep w X [v] st,fun h k=>cO.keep h k,fun h k=>cO.more h k⟩
set_option maxHeartbeats 4000000 in
theorem xX {w W:World} {X:List Nat} {L:List Itm} {F:List Fact} (u g k cap:Nat) (pre:List Value) (x:Sgi) (steps:List Stp) (ss:List Value) (B:Option Addr) (b bc:Nat) (bs:List UInt8) (E M A J G I:Value) (q a:Int) (N:Option Addr) (nn O:Nat) (s:Value) (P sa H:Int) (j i:Value) (S:Option Addr) (l sc:Nat) (sz:Int)
 (K:HH w [] X W (qo S l sc ss :: .box u 104 (wA E M A J G I (some ⟨g,0,none⟩) (k+1) cap q a N nn O s P sa H j i S l sc sz)::wV g (k+1) cap (pre++bK x)::L) (Sl.fact ak B b bc bs::Ra.fact cO ss steps::F))
 (hp:aV w) (hpre:pre.length=k*7) (hk:k≤100) (t:1≤x.num∧x.num≤99999999) (R:0≤x.sz∧x.sz≤1000000) (Y:0≤sz∧sz≤1000000) (Z:b≤100000) (ab:l≤1000):
 Calls Tryz.prog 101 #[.pointer (some ⟨u,0,none⟩),.slice B b bc] W fun e w' => ∃ S' d ss',(∃ v,e = .returned v)∧HH w [] X w' (qo S' (l+1) d ss' :: .box u 104 (wA E M A J G I (some ⟨g,0,none⟩) (k+1) cap q a N nn O s P sa H j i S' (l+1) d (sz+b))::wV g (k+1) cap (pre++bK { x with sz:=x.sz+b })::L)
  (Ra.fact cO ss' (steps ++ [.wr (az x.num.toNat) bs])::F):=by
 obtain⟨nm,m⟩:∃ nm:Nat,x.num=(nm:Int):=⟨x.num.toNat,by omega⟩
 obtain⟨num,fi,la,fr,tt,p,sd⟩:=x
 simp only at m R t
 subst m
 have i1:(0:Int)≤(k:Int):=by omega
 have i2:(k:Int)<(k:Int)+1:=by omega
 have i5:=wL k (by omega)
 have i3:wrap64 (p+(b:Int))=p+(b:Int):=by unfold wrap64;omega
 have Q:wrap64 (sz+(b:Int))=sz+(b:Int):=by unfold wrap64;omega
 go_enter Tryz.func101,Tryz.ntmps101
 go_upto_region 0 with(fail)
 refine K.rg fun W K=>?_
 refine tK 0 K ?_
 refine tK 1 K ?_
 refine tK 2 K ?_
 refine tK 3 K ?_
 refine tL 4 (fun _ h=>h.r 1 rfl) K ?_
 refine tK 5 K ?_
 refine tK 6 K ?_
 refine tK 7 K ?_
 refine tK 8 K ?_
 refine tL 9 (fun _ h=>h.r 1 rfl) K ?_
 refine tK 10 K ?_
 refine tK 11 K ?_
 refine tK 12 K ?_
 refine tK 13 K ?_
 refine tE ?_
 have r5:=K.rowc 2 rfl (o:=k*7+5) (v := .int .i64 p) (by rw[dO hpre];rfl)
 have f5:=K.rowf 2 rfl (k*7+5)
 go_upto_region 2 with(fail)
 have K:=K.row1 2 rfl (k*7+5) (.int .i64 (p+(b:Int))) (by rw[List.length_append,hpre];simp)
 simp only[aj,ai,oh hpre,bK]at K
 clear r5 f5
 generalize W.setCell ⟨g,k*7+5,none⟩ (.int .i64 (p+(b:Int)))=W1 at K ⊢
 have c0:=K.c 1 rfl
 go_upto_region 3 with(fail)
 clear i3
 refine K.cw fun W K=>?_
 clear c0 Q
 refine K.rgl 16 16 (fun V h=>h.tl) fun W K=>?_
 refine tK 0 K.tl ?_
 refine tK 1 K.tl ?_
 refine tK 2 K.tl ?_
 refine tK 3 K.tl ?_
 refine tL 4 (fun _ h=>h.r 0 rfl) K.tl ?_
 refine tK 5 K.tl ?_
 refine tK 6 K.tl ?_
 refine tK 7 K.tl ?_
 refine tL 8 (T:=fun W=>W.cell? ⟨g,k*7,none⟩=some (.int .i64 (nm:Int))) (fun _ h=>h.rowc 1 rfl (dO hpre 0)) K.tl ?_
 refine tK 10 K.tl ?_
 refine tC 9 fun K' hK=>?_
 go_simp
 refine(dS nm (by omega) (by omega) _ (hp.on K.below)).mono ?_
 rintro e w2 ⟨rfl,n⟩
 have K:=K.on n
 refine hK.out _ _ K.tl fun _=>?_
 clear hK K' n
 try simp only[Act.put,an,ai,aj]
 refine tC 11 fun K' hK=>?_
 go_simp
 refine(Am (az nm) bs B b bc _ _ K.xok (K.sl 0 rfl)).mono ?_
 rintro e w3 ⟨v,rfl,D,n⟩
 have K:=(K.on n).kn (f:=hO v (.wr (az nm) bs)) ⟨v,rfl,D⟩
 obtain⟨C,z,x3,x4,x5,rfl,-⟩:=D
 refine hK.out _ _ K.tl.ft fun _=>?_
 clear hK K' n
 try simp only[Act.put,an,ai,aj]
 refine tC 12 fun K' hK=>?_
 go_simp
 have K:=K.to (W':=w3.alloc (.cells #[.func (.func 224) #[] #[.pointer (some ⟨C,0,none⟩),.pointer (some ⟨z,0,none⟩)]] 144))
 refine hK.out _ _ K.tl.tl.ft fun _=>?_
 clear hK K'
 try simp only[Act.put,an,ai,aj]
 refine tA 13 K 8 0 rfl (by omega) (fun v' U h=>h.tl.ft) (fun v' U K=>?_)
 try simp only[Act.put,an]
 obtain⟨S',d,rfl,-⟩:=aK (K.row 0 rfl)
 refine tK 14 K.tl.ft ?_
 refine tK 15 K.tl.ft ?_
 have c0:=K.c 1 rfl
 refine tZ fun K' hK=>?_
 go_simp
 refine hK.out _ _ ?_
 clear hK K' c0
 try simp only[Act.put]
 go_wp2
 refine K.bp fun W K=>?_
 go_end0
 refine⟨S',d,ss ++ [.func (.func 224) #[] #[.pointer (some ⟨C,0,none⟩),.pointer (some ⟨z,0,none⟩)]],⟨_,rfl⟩,?_⟩
 have y:=(K.ra 2 rfl).append (.single (K.fa (f:=hO _ (.wr (az nm) bs)) 0 rfl))
 exact((K.kra y).out.forget (List.Sublist.cons_cons _ (List.Sublist.cons _ (List.Sublist.cons _ (List.Sublist.cons _ (List.Sublist.refl _)))))).hh
end
section
open Go.RowKit
theorem FN (many q a:Int) (ns:List (List UInt8)) (bs:List UInt8) (c:mz many ⟨q,a,ns⟩=(bs,0)) (N:Option Addr) (nn b:Nat) (X:List Nat) (w:World) (hX:XOk X w) (i:Sl af w X N nn b ns) (f:nn≤1000) (l:many≤1000000):
 Calls Tryz.prog 63 #[.int .i64 many,.agg #[.int .i64 q,.int .i64 a,.slice N nn b]] w fun e w' => ∃ B bc,e = .returned (.tuple #[.slice B bs.length bc,.int .i64 0])∧Sl ak w' X B bs.length bc bs∧Below w.heap.size w w':=by
 have h:=FO many q a ns N nn b X w hX i f (by omega)
 rw[c]at h
 refine h.mono ?_
 rintro e k ⟨g,⟨j,-⟩ | ⟨-,B,bc,rfl,d⟩⟩
 ·exact absurd rfl j
 ·exact⟨B,bc,rfl,d,g⟩
set_option maxHeartbeats 2000000 in
theorem Bb {P W:World} {X:List Nat} {L:List Itm} {F:List Fact} (A g k cap:Nat) (pre:List Value) (x:Sgi) (steps:List Stp) (ss:List Value) (ns:List (List UInt8)) (D I C H E G:Value) (q a:Int) (N:Option Addr) (nn u:Nat) (j:Value) (z sa O:Int) (i d:Value) (S:Option Addr) (n sc:Nat) (sz:Int)
 (K:HH P [] X W (qo S n sc ss :: .box A 104 (wA D I C H E G (some ⟨g,0,none⟩) (k+1) cap q a N nn u j z sa O i d S n sc sz)::wV g (k+1) cap (pre++bK x)::L) (Ra.fact cO ss steps::Sl.fact af N nn u ns::F))
 (hp:aV P) (hpre:pre.length=k*7) (hk:k≤100) (m:1≤x.num∧x.num≤99999999) (Y:0≤x.sz∧x.sz≤1000000) (M:0≤sz∧sz≤900000) (ab:n≤900) (Q:nn≤1000) (many:Int) (R:x.la-x.fi=many) (J:0≤many∧many≤1000000) (bs:List UInt8) (s:mz many ⟨q,a,ns⟩=(bs,0)) (ad:bs.length≤1000):
 Calls Tryz.prog 41 #[.pointer (some ⟨A,0,none⟩)] W fun e w' => ∃ S' b ss',e = .returned (.bool true)∧HH P [] X w' (qo S' (n+2) b ss' :: .box A 104 (wA D I C H E G (some ⟨g,0,none⟩) (k+1) cap 0 0 none 0 0 j z sa z i d S' (n+2) b (sz+bs.length))::wV g (k+1) cap (pre++bK { x with sz:=x.sz+bs.length,sd:=true })::L)
  (Ra.fact cO ss' (steps ++ [.wr (az x.num.toNat) bs,.sy (az x.num.toNat)])::F):=by
 obtain⟨nm,p⟩:∃ nm:Nat,x.num=(nm:Int):=⟨x.num.toNat,by omega⟩
 obtain⟨num,fi,la,fr,tt,xz,sd⟩:=x
 simp only at p Y m R
 subst p
 have i1:(0:Int)≤(k:Int):=by omega
 have i2:(k:Int)<(k:Int)+1:=by omega
 have i5:=wL k (by omega)
 have i6:IntKind.i64.wrap (la-fi)=many:=by rw[R];exact IntWalk.i64_in _ (by omega)
 have HB:=Lib.hid s
 clear R s
 go_enter Tryz.func41,Tryz.ntmps41
 go_upto_region 1 with(fail)
 refine K.rg fun W K=>?_
 refine tK 0 K ?_
 refine tK 1 K ?_
 refine tK 2 K ?_
 refine tK 3 K ?_
 refine tL 4 (fun _ h=>h.r 1 rfl) K ?_
 refine tK 5 K ?_
 refine tK 6 K ?_
 refine tK 7 K ?_
 refine tK 8 K ?_
 refine tL 9 (fun _ h=>h.r 1 rfl) K ?_
 refine tK 10 K ?_
 refine tK 11 K ?_
 refine tK 12 K ?_
 refine tK 13 K ?_
 refine tE ?_
 go_upto_region 2 with(fail)
 refine K.rg fun W K=>?_
 refine tK 0 K ?_
 refine tK 1 K ?_
 refine tK 2 K ?_
 refine tL 3 (T:=fun W=>W.cell? ⟨g,k*7+2,none⟩=some (.int .i64 la)) (fun _ h=>h.rowc 2 rfl (dO hpre 2)) K ?_
 refine tK 4 K ?_
 refine tK 5 K ?_
 refine tK 6 K ?_
 refine tL 7 (T:=fun W=>W.cell? ⟨g,k*7+1,none⟩=some (.int .i64 fi)) (fun _ h=>h.rowc 2 rfl (dO hpre 1)) K ?_
 refine tK 8 K ?_
 refine tK 9 K ?_
 refine tK 10 K ?_
 refine tK 11 K ?_
 refine tK 12 K ?_
 refine tL 13 (fun _ h=>h.sub 1 rfl 7 [.int .i64 q,.int .i64 a,.slice N nn u]) K ?_ (hy:=fun w hw=>aM hw)
 refine tC 14 fun K' hK=>?_
 go_simp
 refine(FN many q a ns bs HB.out N nn u _ _ K.xok (K.sl 1 rfl) Q J.2).mono ?_
 rintro e w2 ⟨B,bc,rfl,t,l⟩
 have K:=(K.on l).ksl t
 refine hK.out _ _ K.ft fun _=>?_
 clear hK K' l t
 try simp only[Act.put,an,ai,aj]
 refine tK 15 K.ft ?_
 refine tK 16 K.ft ?_
 refine tK 17 K.ft ?_
 refine tK 18 K.ft ?_
 refine tK 19 K.ft ?_
 refine tE ?_
 go_wp2_with fail
 refine(xX A g k cap pre ⟨nm,fi,la,fr,tt,xz,sd⟩ steps ss B bs.length bc bs D I C H E G q a N nn u j z sa O i d S n sc sz K hp hpre hk m Y ⟨M.1,by omega⟩ (by omega) (by omega)).mono ?_
 rintro e w3 ⟨S1,ac,ss1,⟨v,rfl⟩,K⟩
 go_upto_region 6 with(fail)
 refine K.rgl 15 15 (fun V h=>h.tl) fun W K=>?_
 refine tK 0 K.tl ?_
 refine tK 1 K.tl ?_
 refine tK 2 K.tl ?_
 refine tK 3 K.tl ?_
 refine tL 4 (fun _ h=>h.r 0 rfl) K.tl ?_
 refine tK 5 K.tl ?_
 refine tK 6 K.tl ?_
 refine tK 7 K.tl ?_
 refine tL 8 (T:=fun W=>W.cell? ⟨g,k*7,none⟩=some (.int .i64 (nm:Int))) (fun _ h=>h.rowc 1 rfl (dO hpre 0)) K.tl ?_
 refine tC 9 fun K' hK=>?_
 go_simp
 refine(dS nm (by omega) (by omega) _ (hp.on K.below)).mono ?_
 rintro e w4 ⟨rfl,l⟩
 have K:=K.on l
 refine hK.out _ _ K.tl fun _=>?_
 clear hK K' l
 try simp only[Act.put,an,ai,aj]
 refine tC 10 fun K' hK=>?_
 go_simp
 refine(nW (az nm) _ _ K.xok).mono ?_
 rintro e w5 ⟨v,rfl,hv,l⟩
 have K:=(K.on l).kn (f:=hO v (.sy (az nm))) ⟨v,rfl,hv⟩
 obtain⟨Z,rfl,-⟩:=hv
 refine hK.out _ _ K.tl.ft fun _=>?_
 clear hK K' l
 try simp only[Act.put,an,ai,aj]
 refine tC 11 fun K' hK=>?_
 go_simp
 have K:=K.to (W':=w5.alloc (.cells #[.func (.func 148) #[] #[.pointer (some ⟨Z,0,none⟩)]] 144))
 refine hK.out _ _ K.tl.tl.ft fun _=>?_
 clear hK K'
 try simp only[Act.put,an,ai,aj]
 refine tA 12 K 8 0 rfl (by omega) (fun v' U h=>h.tl.ft) (fun v' U K=>?_)
 try simp only[Act.put,an]
 obtain⟨S',b,rfl,-⟩:=aK (K.row 0 rfl)
 refine tK 13 K.tl.ft ?_
 refine tK 14 K.tl.ft ?_
 have c0:=K.c 1 rfl
 refine tZ fun K' hK=>?_
 go_simp
 refine hK.out _ _ ?_
 clear hK K' c0
 try simp only[Act.put]
 go_upto_region 7 with(fail)
 refine K.cw fun W K=>?_
 have y:=(K.ra 1 rfl).append (.single (K.fa (f:=hO _ (.sy (az nm))) 0 rfl))
 have K:=K.kra y
 clear y
 have r6:=K.rowc 2 rfl (o:=k*7+6) (v := .bool sd) (by rw[dO hpre];rfl)
 have f6:=K.rowf 2 rfl (k*7+6)
 go_upto_region 8 with(fail)
 have K:=K.row1 2 rfl (k*7+6) (.bool true) (by rw[List.length_append,hpre];simp)
 simp only[aj,ai,oh hpre,bK]at K
 clear r6 f6
 generalize W.setCell ⟨g,k*7+6,none⟩ (.bool true)=W1 at K ⊢
 go_upto_region 9 with(refine K.ss (new:=wA D I C H E G (some ⟨g,0,none⟩) (k+1) cap 0 0 none 0 0 j z sa O i d S' (n+1+1) b (sz+bs.length)) 1 rfl fun W K=>?_)
 have c0:=K.c 1 rfl
 go_wp2
 refine K.bp fun W K=>?_
 go_ret
 refine⟨S',b,ss1 ++ [.func (.func 148) #[] #[.pointer (some ⟨Z,0,none⟩)]],rfl,?_⟩
 simp only[List.append_assoc,List.singleton_append,Int.toNat_natCast]at K
 exact(K.out.forget (List.Sublist.cons_cons _ (List.Sublist.cons _ (List.Sublist.cons _ (List.Sublist.cons _ (List.Sublist.refl _)))))).hh
end
section
open Go.RowKit
theorem Gl (q a:Int) (ns:List (List UInt8)) (b:Evt) (n:eG ⟨q,a,ns⟩ b=0) (N:Option Addr) (nn g:Nat) (X:List Nat) (w:World) (hX:XOk X w) (l:Sl af w X N nn g ns) (i:nn≤1000) (h:b.cm.size≤maxLen):
 Calls Tryz.prog 62 #[.agg #[.int .i64 q,.int .i64 a,.slice N nn g],.agg (evA b)] w fun e w' => ∃ B bc f d c,e = .returned (.tuple #[.slice B (av 2 (aQ ⟨q,a,ns⟩ b)).length bc,.agg #[.int .i64 b.q,.int .i64 b.a,.slice f d c],.int .i64 0]) ∧
  Sl ak w' X B (av 2 (aQ ⟨q,a,ns⟩ b)).length bc (av 2 (aQ ⟨q,a,ns⟩ b))∧Sl af w' X f d c (bJ ⟨q,a,ns⟩ b).ns∧Below w.heap.size w w':=by
 refine(EX q a ns N nn g b X w hX l i h).mono ?_
 rintro e p ⟨k,⟨j,-⟩ | ⟨j,B,bc,f,d,c,rfl,o,m⟩⟩
 ·exact absurd n j
 ·exact⟨B,bc,f,d,c,rfl,o,m,k⟩
set_option maxHeartbeats 3000000 in
theorem mT {w0 W:World} {X:List Nat} {L:List Itm} {F:List Fact} (H g k cap:Nat) (pre:List Value) (x:Sgi) (steps:List Stp) (ss:List Value) (ns:List (List UInt8)) (b:Evt) (J R I Q M P:Value) (q a:Int) (N:Option Addr) (nn u:Nat) (l:Value) (T sa O:Int) (j i:Value) (S:Option Addr) (n sc:Nat) (sz:Int)
 (K:HH w0 [] X W (qo S n sc ss :: .box H 104 (wA J R I Q M P (some ⟨g,0,none⟩) (k+1) cap q a N nn u l T sa O j i S n sc sz)::wV g (k+1) cap (pre++bK x)::L) (Ra.fact cO ss steps::Sl.fact af N nn u ns::F))
 (hp:aV w0) (hpre:pre.length=k*7) (hk:k≤100) (D:1≤x.num∧x.num≤99999999) (hz:0≤x.sz∧x.sz≤1000000) (Y:0≤sz∧sz≤900000) (ae:n≤900) (ab:nn≤1000) (t:b.cm.size≤maxLen) (hc:eG ⟨q,a,ns⟩ b=0) (bs:List UInt8) (s:av 2 (aQ ⟨q,a,ns⟩ b)=bs) (ag:bs.length≤1000):
 Calls Tryz.prog 45 #[.pointer (some ⟨H,0,none⟩),.agg (evA b)] W fun e w' => ∃ S' sc' ss' f c d,e = .returned (.bool true)∧HH w0 [] X w' (qo S' (n+1) sc' ss' :: .box H 104 (wA J R I Q M P (some ⟨g,0,none⟩) (k+1) cap b.q b.a f c d l T sa O j i S' (n+1) sc' (sz+bs.length))::wV g (k+1) cap (pre++bK { x with sz:=x.sz+bs.length,la:=b.q,tt:=b.a })::L)
  (Ra.fact cO ss' (steps ++ [.wr (az x.num.toNat) bs])::Sl.fact af f c d (bJ ⟨q,a,ns⟩ b).ns::F):=by
 have i1:(0:Int)≤(k:Int):=by omega
 have i2:(k:Int)<(k:Int)+1:=by omega
 have i5:=wL k (by omega)
 have HC:=Lib.hid hc
 have ac:=Lib.hid t
 have ad:=Lib.hid s
 have hAdd:=fun(X:List Nat) (w:World) (hX:XOk X w) (hs:Sl af w X N nn u ns)=>Lib.hid (Gl q a ns b hc N nn u X w hX hs ab t)
 simp only[s]at hAdd
 obtain⟨nx,y⟩:∃ nx,nx=(bJ ⟨q,a,ns⟩ b).ns:=⟨_,rfl⟩
 rw[←y]at hAdd ⊢
 clear hc t s y
 obtain⟨eq,ea,ek,ah,ex,ey,ez⟩:=b
 simp only[evA]at hAdd ⊢
 go_enter Tryz.func45,Tryz.ntmps45
 go_upto_region 1 with(fail)
 refine ET (α:=Nat) (β:=World) (γ:=Option Addr) (δ:=Nat) (ε:=Option Addr) (ζ:=Nat) (η:=Nat) (G:=?G) ?main ?key
 case main=>
  intro key
  refine K.rg fun W K=>?_
  refine tK 0 K ?_
  refine tK 1 K ?_
  refine tK 2 K ?_
  refine tK 3 K ?_
  refine tL 4 (fun _ h=>h.sub 2 rfl 7 [.int .i64 q,.int .i64 a,.slice N nn u]) K ?_ (hy:=fun w V=>aM V)
  refine tL 5 (fun _ h=>h.at_ 0 rfl) K ?_ (hy:=fun w V=>aM V)
  refine tC2 6 11 (fun K' hK=>?_) (fun K' hK=>?_)
  ·go_simp
   refine(hAdd _ _ K.xok (K.sl 1 rfl)).out.mono ?_
   rintro e Z ⟨B,bc,f,c,d,rfl,E,C,z⟩
   have m:=K.on z
   have K:=(m.ksl C).ksl E
   refine hK.out _ _ m fun _=>?_
   clear hK K' z E C
   try simp only[Act.put,an,ai,aj]
   refine tK 7 m ?_
   refine tK 8 m ?_
   refine tK 9 m ?_
   refine tK 10 m ?_
   refine tC 11 fun K' hK=>?_
   go_simp
   have K:=K.to (W':=Z.alloc (.cells #[.int .i64 0,.int .i64 0,.slice none 0 0] 34))
   refine hK.out _ _ K.tl.ft.ft fun _=>?_
   clear hK K' m
   try simp only[Act.put,an,ai,aj]
   refine tK 12 K.tl.ft.ft ?_
   refine tSt 13 K 0 rfl (fun U h=>h.tl.ft.ft) fun U K=>?_
   refine tK 14 K.tl.ft.ft ?_
   refine tE ?_
   generalize Z.heap.size=p at K ⊢
   revert K
   exact key.out p U B bc f c d
  ·go_simp
   have K:=K.to (W':=W.alloc (.cells #[.int .i64 0,.int .i64 0,.slice none 0 0] 34))
   refine hK.out _ _ K.tl fun _=>?_
   clear hK K'
   try simp only[Act.put,an,ai,aj]
   refine tC 6 fun K' hK=>?_
   go_simp
   refine(hAdd _ _ K.xok (K.sl 1 rfl)).out.mono ?_
   rintro e Z ⟨B,bc,f,c,d,rfl,E,C,z⟩
   have K:=((K.on z).ksl C).ksl E
   refine hK.out _ _ K.tl.ft.ft fun _=>?_
   clear hK K' z E C
   try simp only[Act.put,an,ai,aj]
   refine tK 7 K.tl.ft.ft ?_
   refine tK 8 K.tl.ft.ft ?_
   refine tK 9 K.tl.ft.ft ?_
   refine tK 10 K.tl.ft.ft ?_
   refine tK 12 K.tl.ft.ft ?_
   refine tSt 13 K 0 rfl (fun U h=>h.tl.ft.ft) fun U K=>?_
   refine tK 14 K.tl.ft.ft ?_
   refine tE ?_
   generalize W.heap.size=p at K ⊢
   revert K
   exact key.out p U B bc f c d
 case key=>
  clear hAdd
  intro p W B bc f c d K
  go_upto_region 4 with(fail)
  have K:=((K.mv 4 rfl).mv 4 rfl).mv 4 rfl
  have K:=(K.up 2 rfl).up 1 rfl
  go_wp2_with fail
  refine(xX H g k cap pre x steps ss B bs.length bc bs J R I Q M P q a N nn u l T sa O j i S n sc sz K hp hpre hk D hz ⟨Y.1,by omega⟩ (by omega) (by omega)).mono ?_
  rintro e w3 ⟨S1,A,ss1,⟨v,rfl⟩,K⟩
  go_upto_region 5 with(fail)
  refine K.rg fun W K=>?_
  refine tK 0 K ?_
  refine tK 1 K ?_
  refine tK 2 K ?_
  refine tK 3 K ?_
  refine tL 4 (fun _ h=>h.r 1 rfl) K ?_
  refine tK 5 K ?_
  refine tK 6 K ?_
  refine tK 7 K ?_
  refine tK 8 K ?_
  refine tL 9 (fun _ h=>h.r 1 rfl) K ?_
  refine tK 10 K ?_
  refine tK 11 K ?_
  refine tK 12 K ?_
  refine tK 13 K ?_
  refine tE ?_
  have r2:=K.rowc 2 rfl (o:=k*7+2) (by rw[dO hpre];rfl)
  have f2:=K.rowf 2 rfl (k*7+2)
  have c4:=K.r 4 rfl
  go_upto_region 7 with(fail)
  have K:=K.row1 2 rfl (k*7+2) (.int .i64 eq) (by rw[List.length_append,hpre];simp)
  simp only[aj,ai,oh hpre,bK]at K
  clear r2 f2 c4
  generalize W.setCell ⟨g,k*7+2,none⟩ (.int .i64 eq)=W1 at K ⊢
  have r2:=K.rowc 2 rfl (o:=k*7+4) (by rw[dO hpre];rfl)
  have f2:=K.rowf 2 rfl (k*7+4)
  have c4:=K.r 4 rfl
  go_upto_region 8 with(fail)
  have K:=K.row1 2 rfl (k*7+4) (.int .i64 ea) (by rw[List.length_append,hpre];simp)
  simp only[aj,ai,oh hpre,bK]at K
  clear r2 f2 c4
  generalize W1.setCell ⟨g,k*7+4,none⟩ (.int .i64 ea)=W2 at K ⊢
  go_wp2_with (first | refine K.ld 3 rfl ?_ | refine K.ss (new:=wA J R I Q M P (some ⟨g,0,none⟩) (k+1) cap eq ea f c d l T sa O j i S1 (n+1) A (sz+bs.length)) 1 rfl fun W K=>?_)
  go_ret
  refine⟨S1,A,ss1,f,c,d,rfl,?_⟩
  have KF:=K.out.forget (F':=Ra.fact cO ss1 _::Sl.fact af f c d nx::F) (List.Sublist.cons_cons _ (List.Sublist.cons _ (List.Sublist.cons_cons _ (List.Sublist.cons _ (List.Sublist.cons _ (List.Sublist.refl _))))))
  exact(KF.drop (List.Sublist.cons_cons _ (List.Sublist.cons_cons _ (List.Sublist.cons_cons _ (List.Sublist.cons _ (List.Sublist.cons _ (List.Sublist.refl _))))))).hh
end
section
open Go.RowKit
theorem Bq (num q a:Int) (bs:List UInt8) (b:kZ num ⟨q,a,[]⟩=(bs,0)) (X:List Nat) (w:World) (hX:XOk X w):
 Calls Tryz.prog 61 #[.int .i64 num,.agg #[.int .i64 q,.int .i64 a,.slice none 0 0]] w fun e w' => ∃ B bc,e = .returned (.tuple #[.slice B bs.length bc,.int .i64 0])∧Sl ak w' X B bs.length bc bs∧Below w.heap.size w w':=by
 have h:=Fh num q a [] none 0 0 X w hX Sl.nil_ (by omega)
 rw[b]at h
 refine h.mono ?_
 rintro e g ⟨d,⟨f,-⟩ | ⟨-,B,bc,rfl,c⟩⟩
 ·exact absurd rfl f
 ·exact⟨B,bc,rfl,c,d⟩
set_option maxHeartbeats 3000000 in
theorem so {w0 W:World} {X:List Nat} {L:List Itm} {F:List Fact} (M m:Nat) (G:Option Addr) (cap:Nat) (xs:List Value) (steps:List Stp) (ss:List Value) (A:Option Addr) (n D:Nat) (I y H z E:Value) (q0 a0:Int) (N:Option Addr) (nn cn:Nat) (j:Value) (a sa C:Int) (i d:Value) (S:Option Addr) (q sc:Nat) (sz:Int)
 (K:HH w0 [] X W (qo S q sc ss :: .box M 104 (wA (.slice A n D) I y H z E G m cap q0 a0 N nn cn j a sa C i d S q sc sz) :: .row 67 7 (.slice G m cap) m xs::L) (Ra.fact cO ss steps::F))
 (hp:aV w0) (Z:xs.length=m*7) (hm:m≤63) (ab:∀ k,m=k+1→xs[k*7]?=some (.int .i64 (m:Int))) (hn:n≤63) (O:0≤sz∧sz≤900000) (ac:q≤900) (bs:List UInt8) (P:kZ ((m+1:Nat):Int) ⟨a,sa,[]⟩=(bs,0)) (ad:bs.length≤1000):
 Calls Tryz.prog 44 #[.pointer (some ⟨M,0,none⟩)] W fun e w' => ∃ S' sc' ss' g cap',e = .returned (.bool true)∧HH w0 [] X w' (qo S' (q+2) sc' ss' :: .box M 104 (wA (.slice A n D) I y H z E (some ⟨g,0,none⟩) (m+1) cap' a sa none 0 0 j a sa C i d S' (q+2) sc' (sz+bs.length))::wV g (m+1) cap' (xs++bK ⟨((m+1:Nat):Int),a,a,sa,sa,bs.length,false⟩)::L)
  (Ra.fact cO ss' (steps ++ [.mk (az (m+1)),.wr (az (m+1)) bs])::F):=by
 have HB:=Lib.hid P
 have HN:=fun(w:World) (h:aV w)=>Lib.hid (dS (m+1) (by omega) (by omega) w h)
 have Q:(az (m+1)).toList.isEmpty=false:=by
  have h1:=(fN (n:=m+1) (by omega)).1
  rw[ByteArray.toList_eq]
  cases hl:(az (m+1)).data.toList with
  | nil=>
    have:(az (m+1)).data.size=12:=h1
    rw[←Array.length_toList,hl]at this
    cases this
  | cons _ _=>rfl
 obtain⟨nm,s⟩:∃ nm,nm=az (m+1):=⟨_,rfl⟩
 simp only[←s]at HN Q ⊢
 have R:=Lib.hid s
 clear P s
 go_enter Tryz.func44,Tryz.ntmps44
 have i6:¬ (64:Int)<(n:Int)+1:=by omega
 cases m with
 | zero=>
   have t:=K.r 1 rfl
   go_upto_region 5 with(fail)
   go_wp2_with fail
   refine(HN _ (hp.on K.below)).out.mono ?_
   rintro e w2 ⟨rfl,b⟩
   have K:=K.on b
   clear b t
   have t:=K.r 1 rfl
   go_upto_region 8 with(fail)
   clear t
   refine K.rg fun W K=>?_
   refine tK 0 K ?_
   refine tK 1 K ?_
   refine tK 2 K ?_
   refine tK 3 K ?_
   refine tK 4 K ?_
   refine tL 5 (fun _ h=>h.r 1 rfl) K ?_
   refine tK 6 K ?_
   refine tK 7 K ?_
   refine tK 8 K ?_
   refine tK 9 K ?_
   refine tK 10 K ?_
   refine tL 11 (fun _ h=>h.r 1 rfl) K ?_
   refine tK 12 K ?_
   refine tC 13 fun K' hK=>?_
   go_simp
   have K:=K.to (W':=W.alloc (.cells #[.int .i64 0,.int .i64 0,.slice none 0 0] 34))
   refine hK.out _ _ K.tl fun _=>?_
   clear hK K'
   try simp only[Act.put,an,ai,aj]
   refine tSt 14 K 0 rfl (fun U h=>h.tl) fun U K=>?_
   refine tE ?_
   generalize W.heap.size=pc at K ⊢
   go_wp2_with (first | refine K.ld 0 rfl ?_)
   refine(Bq _ a sa bs HB.out _ _ K.xok).mono ?_
   rintro e w3 ⟨B,bc,rfl,l,b⟩
   have K:=((K.on b).ksl l).mv 1 rfl
   clear b l
   go_upto_region 12 with(fail)
   refine K.rgl 11 11 (fun V h=>h.tl) fun W K=>?_
   refine tK 0 K.tl ?_
   refine tK 1 K.tl ?_
   refine tK 2 K.tl ?_
   refine tK 3 K.tl ?_
   refine tL 4 (fun _ h=>h.r 1 rfl) K.tl ?_
   refine tK 5 K.tl ?_
   refine tC 6 fun K' hK=>?_
   go_simp
   refine(qG nm _ _ K.xok).mono ?_
   rintro e w4 ⟨v,rfl,T,b⟩
   have K:=(K.on b).kn (f:=hO v (.mk nm)) ⟨v,rfl,T⟩
   obtain⟨x1,rfl,-⟩:=T
   refine hK.out _ _ K.tl.ft fun _=>?_
   clear hK K' b
   try simp only[Act.put,an,ai,aj]
   refine tC 7 fun K' hK=>?_
   go_simp
   have K:=K.to (W':=w4.alloc (.cells #[.func (.func 171) #[] #[.pointer (some ⟨x1,0,none⟩)]] 144))
   refine hK.out _ _ K.tl.tl.ft fun _=>?_
   clear hK K'
   try simp only[Act.put,an,ai,aj]
   refine tA 8 K 8 0 rfl (by omega) (fun v' U h=>h.tl.ft) (fun v' U K=>?_)
   try simp only[Act.put,an]
   obtain⟨S1,x,rfl,-⟩:=aK (K.row 0 rfl)
   refine tK 9 K.tl.ft ?_
   refine tK 10 K.tl.ft ?_
   have c2:=K.c 2 rfl
   refine tZ fun K' hK=>?_
   go_simp
   refine hK.out _ _ ?_
   clear hK K' c2
   try simp only[Act.put]
   go_upto_region 13 with(fail)
   refine K.cw fun W K=>?_
   have p:=(K.ra 2 rfl).append (.single (K.fa (f:=hO _ (.mk nm)) 0 rfl))
   have K:=((K.kra p).mv 3 rfl)
   clear p
   refine K.rgl 21 21 (fun V h=>h.tl) fun W K=>?_
   refine tK 0 K.tl ?_
   refine tK 1 K.tl ?_
   refine tK 2 K.tl ?_
   refine tK 3 K.tl ?_
   refine tK 4 K.tl ?_
   refine tL 5 (fun _ h=>h.r 2 rfl) K.tl ?_
   refine tK 6 K.tl ?_
   refine tK 7 K.tl ?_
   refine tL 8 (fun _ h=>h.r 1 rfl) K.tl ?_
   refine tK 9 K.tl ?_
   refine tL 10 (fun _ h=>h.r 1 rfl) K.tl ?_
   refine tK 11 K.tl ?_
   refine tL 12 (fun _ h=>h.r 1 rfl) K.tl ?_
   refine tK 13 K.tl ?_
   refine tL 14 (fun _ h=>h.r 1 rfl) K.tl ?_
   refine tK 15 K.tl ?_
   refine tC 16 fun K' hK=>?_
   go_simp
   have K:=K.to (W':=W.alloc (.cells #[.int .i64 1,.int .i64 a,.int .i64 a,.int .i64 sa,.int .i64 sa,.int .i64 0,.bool false] 67))
   refine hK.out _ _ K.tl.tl fun _=>?_
   clear hK K'
   try simp only[Act.put,an,ai,aj]
   refine tA 17 K 56 0 rfl (by omega) (fun v' U h=>h.tl) (fun v' U K=>?_)
   try simp only[Act.put,an]
   obtain⟨G2,cap2,rfl,-⟩:=aK (K.row 0 rfl)
   obtain⟨u,rfl⟩:=fC (K.row 0 rfl) (Nat.succ_pos _)
   refine tK 18 K.tl ?_
   refine tK 19 K.tl ?_
   refine tK 20 K.tl ?_
   have c3:=K.c 3 rfl
   refine tZ fun K' hK=>?_
   go_simp
   refine hK.out _ _ ?_
   clear hK K' c3
   try simp only[Act.put]
   go_upto_region 14 with(fail)
   refine K.cw fun W K=>?_
   have K:=((K.mv 3 rfl).mv 2 rfl).up 2 rfl
   go_wp2_with fail
   refine(xX M u 0 cap2 xs ⟨1,a,a,sa,sa,0,false⟩ (steps ++ [.mk nm]) _ B bs.length bc bs (.slice A n D) I y H z E q0 a0 N nn cn j a sa C i d S1 (q+1) x sz K hp Z (by omega) ⟨by simp only;omega,by simp only;omega⟩ ⟨by simp only;omega,by simp only;omega⟩ ⟨O.1,by omega⟩ (by omega) (by omega)).mono ?_
   rintro e w5 ⟨Y,o,ss2,⟨v,rfl⟩,K⟩
   go_wp2_with (first | refine K.ld 3 rfl ?_ | refine K.ss (new:=wA (.slice A n D) I y H z E (some ⟨u,0,none⟩) (0+1) cap2 a sa none 0 0 j a sa C i d Y (q+1+1) o (sz+bs.length)) 1 rfl fun W K=>?_)
   go_ret
   refine⟨Y,o,ss2,u,cap2,rfl,?_⟩
   have e1:az ((1:Int)).toNat=nm:=R.out.symm
   have KF:=K.out.forget (List.Sublist.cons_cons _ (List.Sublist.cons _ (List.Sublist.cons _ (List.Sublist.cons _ (List.Sublist.refl _)))))
   have J:=(KF.drop (List.Sublist.cons_cons _ (List.Sublist.cons_cons _ (List.Sublist.cons_cons _ (List.Sublist.cons _ (List.Sublist.refl _)))))).hh
   simp only[List.append_assoc,List.singleton_append,Int.zero_add,e1]at J
   exact J
 | succ k=>
   have t:=K.r 1 rfl
   obtain⟨g,rfl⟩:=fC (K.row 2 rfl) (Nat.succ_pos k)
   have r0:=K.rowc 2 rfl (ab k rfl)
   have i1:(0:Int)≤(k:Int):=by omega
   have i2:(k:Int)<(k:Int)+1:=by omega
   have i3:wrap64 ((k:Int)+1+1)=(k:Int)+1+1:=by unfold wrap64;omega
   go_upto_region 5 with(fail)
   clear r0
   go_wp2_with fail
   refine(HN _ (hp.on K.below)).out.mono ?_
   rintro e w2 ⟨rfl,b⟩
   have K:=K.on b
   clear b t
   have t:=K.r 1 rfl
   go_upto_region 8 with(fail)
   clear t
   refine K.rg fun W K=>?_
   refine tK 0 K ?_
   refine tK 1 K ?_
   refine tK 2 K ?_
   refine tK 3 K ?_
   refine tK 4 K ?_
   refine tL 5 (fun _ h=>h.r 1 rfl) K ?_
   refine tK 6 K ?_
   refine tK 7 K ?_
   refine tK 8 K ?_
   refine tK 9 K ?_
   refine tK 10 K ?_
   refine tL 11 (fun _ h=>h.r 1 rfl) K ?_
   refine tK 12 K ?_
   refine tC 13 fun K' hK=>?_
   go_simp
   have K:=K.to (W':=W.alloc (.cells #[.int .i64 0,.int .i64 0,.slice none 0 0] 34))
   refine hK.out _ _ K.tl fun _=>?_
   clear hK K'
   try simp only[Act.put,an,ai,aj]
   refine tSt 14 K 0 rfl (fun U h=>h.tl) fun U K=>?_
   refine tE ?_
   generalize W.heap.size=pc at K ⊢
   go_wp2_with (first | refine K.ld 0 rfl ?_)
   refine(Bq _ a sa bs HB.out _ _ K.xok).mono ?_
   rintro e w3 ⟨B,bc,rfl,l,b⟩
   have K:=((K.on b).ksl l).mv 1 rfl
   clear b l
   go_upto_region 12 with(fail)
   refine K.rgl 11 11 (fun V h=>h.tl) fun W K=>?_
   refine tK 0 K.tl ?_
   refine tK 1 K.tl ?_
   refine tK 2 K.tl ?_
   refine tK 3 K.tl ?_
   refine tL 4 (fun _ h=>h.r 1 rfl) K.tl ?_
   refine tK 5 K.tl ?_
   refine tC 6 fun K' hK=>?_
   go_simp
   refine(qG nm _ _ K.xok).mono ?_
   rintro e w4 ⟨v,rfl,T,b⟩
   have K:=(K.on b).kn (f:=hO v (.mk nm)) ⟨v,rfl,T⟩
   obtain⟨x1,rfl,-⟩:=T
   refine hK.out _ _ K.tl.ft fun _=>?_
   clear hK K' b
   try simp only[Act.put,an,ai,aj]
   refine tC 7 fun K' hK=>?_
   go_simp
   have K:=K.to (W':=w4.alloc (.cells #[.func (.func 171) #[] #[.pointer (some ⟨x1,0,none⟩)]] 144))
   refine hK.out _ _ K.tl.tl.ft fun _=>?_
   clear hK K'
   try simp only[Act.put,an,ai,aj]
   refine tA 8 K 8 0 rfl (by omega) (fun v' U h=>h.tl.ft) (fun v' U K=>?_)
   try simp only[Act.put,an]
   obtain⟨S1,x,rfl,-⟩:=aK (K.row 0 rfl)
   refine tK 9 K.tl.ft ?_
   refine tK 10 K.tl.ft ?_
   have c2:=K.c 2 rfl
   refine tZ fun K' hK=>?_
   go_simp
   refine hK.out _ _ ?_
   clear hK K' c2
   try simp only[Act.put]
   go_upto_region 13 with(fail)
   refine K.cw fun W K=>?_
   have p:=(K.ra 2 rfl).append (.single (K.fa (f:=hO _ (.mk nm)) 0 rfl))
   have K:=((K.kra p).mv 3 rfl)
   clear p
   refine K.rgl 21 21 (fun V h=>h.tl) fun W K=>?_
   refine tK 0 K.tl ?_
   refine tK 1 K.tl ?_
   refine tK 2 K.tl ?_
   refine tK 3 K.tl ?_
   refine tK 4 K.tl ?_
   refine tL 5 (fun _ h=>h.r 2 rfl) K.tl ?_
   refine tK 6 K.tl ?_
   refine tK 7 K.tl ?_
   refine tL 8 (fun _ h=>h.r 1 rfl) K.tl ?_
   refine tK 9 K.tl ?_
   refine tL 10 (fun _ h=>h.r 1 rfl) K.tl ?_
   refine tK 11 K.tl ?_
   refine tL 12 (fun _ h=>h.r 1 rfl) K.tl ?_
   refine tK 13 K.tl ?_
   refine tL 14 (fun _ h=>h.r 1 rfl) K.tl ?_
   refine tK 15 K.tl ?_
   refine tC 16 fun K' hK=>?_
   go_simp
   have K:=K.to (W':=W.alloc (.cells #[.int .i64 ((k:Int)+1+1),.int .i64 a,.int .i64 a,.int .i64 sa,.int .i64 sa,.int .i64 0,.bool false] 67))
   refine hK.out _ _ K.tl.tl fun _=>?_
   clear hK K'
   try simp only[Act.put,an,ai,aj]
   refine tA 17 K 56 0 rfl (by omega) (fun v' U h=>h.tl) (fun v' U K=>?_)
   try simp only[Act.put,an]
   obtain⟨G2,cap2,rfl,-⟩:=aK (K.row 0 rfl)
   obtain⟨u,rfl⟩:=fC (K.row 0 rfl) (Nat.succ_pos _)
   refine tK 18 K.tl ?_
   refine tK 19 K.tl ?_
   refine tK 20 K.tl ?_
   have c3:=K.c 3 rfl
   refine tZ fun K' hK=>?_
   go_simp
   refine hK.out _ _ ?_
   clear hK K' c3
   try simp only[Act.put]
   go_upto_region 14 with(fail)
   refine K.cw fun W K=>?_
   have K:=((K.mv 3 rfl).mv 2 rfl).up 2 rfl
   go_wp2_with fail
   refine(xX M u (k+1) cap2 xs ⟨(k:Int)+1+1,a,a,sa,sa,0,false⟩ (steps ++ [.mk nm]) _ B bs.length bc bs (.slice A n D) I y H z E q0 a0 N nn cn j a sa C i d S1 (q+1) x sz K hp Z (by omega) ⟨by simp only;omega,by simp only;omega⟩ ⟨by simp only;omega,by simp only;omega⟩ ⟨O.1,by omega⟩ (by omega) (by omega)).mono ?_
   rintro e w5 ⟨Y,o,ss2,⟨v,rfl⟩,K⟩
   go_wp2_with (first | refine K.ld 3 rfl ?_ | refine K.ss (new:=wA (.slice A n D) I y H z E (some ⟨u,0,none⟩) (k+1+1) cap2 a sa none 0 0 j a sa C i d Y (q+1+1) o (sz+bs.length)) 1 rfl fun W K=>?_)
   go_ret
   refine⟨Y,o,ss2,u,cap2,rfl,?_⟩
   have e1:az (((k:Int)+1+1:Int)).toNat=nm:=R.out.symm
   have KF:=K.out.forget (List.Sublist.cons_cons _ (List.Sublist.cons _ (List.Sublist.cons _ (List.Sublist.cons _ (List.Sublist.refl _)))))
   have J:=(KF.drop (List.Sublist.cons_cons _ (List.Sublist.cons_cons _ (List.Sublist.cons_cons _ (List.Sublist.cons _ (List.Sublist.refl _)))))).hh
   simp only[List.append_assoc,List.singleton_append,Int.zero_add,e1]at J
   exact J
end
section
open Go.RowKit
set_option maxHeartbeats 3000000 in
theorem oM {q W:World} {X:List Nat} {L:List Itm} {F:List Fact} (o m:Nat) (G:Option Addr) (cap:Nat) (xs:List Value) (ss:List Value) (A:Option Addr) (z:Nat) (H x E u B:Value) (C t:Int) (N:Option Addr) (nn v:Nat) (c:Value) (D sa y:Int) (j d:Value) (S:Option Addr) (l sc:Nat) (sz:Int)
 (K:HH q [] X W (qo S l sc ss :: .box o 104 (wA (.slice A 64 z) H x E u B G m cap C t N nn v c D sa y j d S l sc sz) :: .row 67 7 (.slice G m cap) m xs::L) F)
 (s:aV q) (O:xs.length=m*7) (P:m≤64) (f:∀ k,m=k+1→xs[k*7]?=some (.int .i64 (m:Int))):
 Calls Tryz.prog 44 #[.pointer (some ⟨o,0,none⟩)] W fun e w'=>e = .returned (.bool false)∧HH q [] X w' (qo S l sc ss :: .box o 104 (wA (.slice A 64 z) H x E u B G m cap C t N nn v c D sa y j d S l sc sz) :: .row 67 7 (.slice G m cap) m xs::L) F:=by
 have p:=fun(w:World) (h:aV w)=>Lib.hid (dS (m+1) (by omega) (by omega) w h)
 have i:(az (m+1)).toList.isEmpty=false:=by
  have M:=(fN (n:=m+1) (by omega)).1
  rw[ByteArray.toList_eq]
  cases hl:(az (m+1)).data.toList with
  | nil=>
    have:(az (m+1)).data.size=12:=M
    rw[←Array.length_toList,hl]at this
    cases this
  | cons _ _=>rfl
 generalize az (m+1)=nm at p i
 go_enter Tryz.func44,Tryz.ntmps44
 cases m with
 | zero=>
   have b:=K.r 1 rfl
   go_upto_region 5 with(fail)
   go_wp2_with fail
   refine(p _ (s.on K.below)).out.mono ?_
   rintro e I ⟨rfl,a⟩
   have K:=K.on a
   clear a b
   have b:=K.r 1 rfl
   go_wp2
   go_ret
   exact⟨rfl,K⟩
 | succ k=>
   have b:=K.r 1 rfl
   obtain⟨g,rfl⟩:=fC (K.row 2 rfl) (Nat.succ_pos k)
   have J:=K.rowc 2 rfl (f k rfl)
   have R:(0:Int)≤(k:Int):=by omega
   have Q:(k:Int)<(k:Int)+1:=by omega
   have T:wrap64 ((k:Int)+1+1)=(k:Int)+1+1:=by unfold wrap64;omega
   go_upto_region 5 with(fail)
   clear J
   go_wp2_with fail
   refine(p _ (s.on K.below)).out.mono ?_
   rintro e I ⟨rfl,a⟩
   have K:=K.on a
   clear a b
   have b:=K.r 1 rfl
   go_wp2
   go_ret
   exact⟨rfl,K⟩
end
section
open Go.RowKit
theorem cR.le {fs:List Fil} {room:Int} {ps:List Prt} {os:List ByteArray} {k0 t:St} (h:cR fs room ps os k0 t):ps.length≤fs.length:=by
 obtain⟨d,rs,b,c⟩:=h.rows
 have a:=(jo fs h.nm).1
 rw[b]at a
 simp only at a
 rcases c with⟨rfl,-⟩ | ⟨rfl,-⟩
 ·omega
 ·simp
def JPc (fs:List Fil) (room b age:Int) (sg:List Sgi) (c:Cx) (t:St) (su kq:Int) (sh:Bool) (er:Int) (X:List Nat) (w:World) (e:Ending) (w':World):Prop:=
 ∃ A n cp S m mc N nn cn C k ck,e = .returned (.tuple #[.agg (jnA A n cp room b age S m mc c.q c.a N nn cn C k ck t.q t.a su kq sh).toArray,.int .i64 er])∧Sl ax w' X A n cp fs∧Sl bw w' X S m mc sg∧Sl af w' X N nn cn c.ns∧Sl aI w' X C k ck t.cs∧Below w.heap.size w w'
set_option maxHeartbeats 2000000 in
theorem zC (fs:List Fil) (room:Int) (ps:List Prt) (k0 t:St) (h:cR fs room ps [] k0 t) (Q:∀ p ∈ ps,(p.al:Int)≤p.s.size) (b j:Int) (R:dH b j=true) (A:Option Addr) (n F:Nat) (S:Option Addr) (m y:Nat) (N:Option Addr) (nn B:Nat) (C:Option Addr) (k v:Nat) (E:Int) (L:k0.q≤E∧E≤t.q) (o:bD t) (sh:Bool)
 (X:List Nat) (w:World) (hX:XOk X w) (l:Sl ax w X A n F fs) (g:Sl bw w X S m y (ps.map aD)) (u:Sl af w X N nn B (aa ps).ns) (T:nn≤1000) (d:Sl aI w X C k v t.cs) (M:aV w)
 (eq ea D:Int) (f:ByteArray) (ex I z:Int) (O:f.size≤maxLen) (J:cH t ⟨t.q+1,ea,D,f,ex,I,z⟩≠0):
 Calls Tryz.prog 10 #[.agg (jnA A n F room b j S m y (aa ps).q (aa ps).a N nn B C k v t.q t.a E k0.q sh).toArray,.agg #[.int .i64 eq,.int .i64 ea,.int .i64 D,.string f,.int .i64 ex,.int .i64 I,.int .i64 z]] w (JPc fs room b j (ps.map aD) (aa ps) t E k0.q sh (cH t ⟨t.q+1,ea,D,f,ex,I,z⟩) X w):=by
 have ae:=o.2.2.1
 have ad:=o.2.1
 have Z:wrap64 (t.q+1)=t.q+1:=by unfold wrap64;omega
 have U:m≤64:=by
  have h1:=g.len
  have h2:=h.len64
  simp only[List.length_map]at h1
  omega
 have P:=fun(w:World) (X:List Nat) (hX:XOk X w) (l:Sl ax w X A n F fs) (g:Sl bw w X S m y (ps.map aD)) (u:Sl af w X N nn B (aa ps).ns) (d:Sl aI w X C k v t.cs) (M:aV w)=>Lib.hid (eT fs room ps k0 t h Q b j R A n F S m y N nn B C k v E L sh o X w hX l g u T d M)
 have i:=fun(w:World) (X:List Nat) (hX:XOk X w) (d:Sl aI w X C k v t.cs)=>Lib.hid (gh t ⟨t.q+1,ea,D,f,ex,I,z⟩ C k v X w hX d o O)
 simp only[jnA,evA]at P i ⊢
 simp only[gy,if_neg J]at i
 obtain⟨er,G⟩:∃ er,er=cH t ⟨t.q+1,ea,D,f,ex,I,z⟩:=⟨_,rfl⟩
 simp only[←G]at i J ⊢
 have ac:¬ er=0:=J
 clear G J
 go_enter Tryz.func10,Tryz.ntmps10
 go_upto_region 1 with(fail)
 refine(hstart hX).cw fun W K=>?_
 have K:=(((K.ksl0 d).ksl0 u).ksl0 g).ksl0 l
 clear d u g l
 go_wp2_with (first | refine K.ld 2 rfl ?_)
 refine(P _ _ K.xok (K.sl 0 rfl) (K.sl 1 rfl) (K.sl 2 rfl) (K.sl 3 rfl) (M.on K.below)).out.mono ?_
 rintro e w1 ⟨rfl,x⟩
 have K:=K.on x
 clear x P
 have Y:=K.r 2 rfl
 have V:=K.c 1 rfl
 go_upto_region 5 with(fail)
 refine K.cw fun W K=>?_
 clear Y V
 go_wp2_with (first | refine bF (K.sub 2 rfl 10 [.slice C k v,.int .i64 t.q,.int .i64 t.a]) ?_ | refine K.ld 1 rfl ?_)
 refine(i _ _ K.xok (K.sl 3 rfl)).out.mono ?_
 rintro e w2 ⟨C2,k2,ab,rfl,x,H⟩
 have K:=(K.on x).ksl H
 clear x H i
 go_wp2_with (first | refine K.ld 3 rfl ?_ | refine K.ld 2 rfl ?_ | (refine K.lw fun W K=>?_;refine K.sr 0 rfl fun W K=>?_) | (refine K.sr 1 rfl fun W K=>?_))
 exact K.rc2 1 rfl rfl ⟨A,n,F,S,m,y,N,nn,B,C,k,v,rfl,K.slb 1 rfl,K.slb 2 rfl,K.slb 3 rfl,K.slb 4 rfl,K.below⟩
set_option maxHeartbeats 2000000 in
theorem uW (fs:List Fil) (room:Int) (ps:List Prt) (k0 t:St) (h:cR fs room ps [] k0 t) (O:∀ p ∈ ps,(p.al:Int)≤p.s.size) (b j:Int) (P:dH b j=true) (A:Option Addr) (n D:Nat) (S:Option Addr) (m y:Nat) (N:Option Addr) (nn z:Nat) (C:Option Addr) (k v:Nat) (B:Int) (I:k0.q≤B∧B≤t.q) (o:bD t)
 (X:List Nat) (w:World) (hX:XOk X w) (l:Sl ax w X A n D fs) (f:Sl bw w X S m y (ps.map aD)) (u:Sl af w X N nn z (aa ps).ns) (Q:nn≤1000) (d:Sl aI w X C k v t.cs) (J:aV w)
 (eq ea G:Int) (g:ByteArray) (ex H F:Int) (L:g.size≤maxLen) (R:cH t ⟨t.q+1,ea,G,g,ex,H,F⟩=0):
 Calls Tryz.prog 10 #[.agg (jnA A n D room b j S m y (aa ps).q (aa ps).a N nn z C k v t.q t.a B k0.q true).toArray,.agg #[.int .i64 eq,.int .i64 ea,.int .i64 G,.string g,.int .i64 ex,.int .i64 H,.int .i64 F]] w (JPc fs room b j (ps.map aD) (aa ps) t B k0.q true 13 X w):=by
 have ad:=o.2.2.1
 have ac:=o.2.1
 have Y:wrap64 (t.q+1)=t.q+1:=by unfold wrap64;omega
 have T:m≤64:=by
  have Z:=f.len
  have h2:=h.len64
  simp only[List.length_map]at Z
  omega
 have M:=fun(w:World) (X:List Nat) (hX:XOk X w) (l:Sl ax w X A n D fs) (f:Sl bw w X S m y (ps.map aD)) (u:Sl af w X N nn z (aa ps).ns) (d:Sl aI w X C k v t.cs) (J:aV w)=>Lib.hid (eT fs room ps k0 t h O b j P A n D S m y N nn z C k v B I true o X w hX l f u Q d J)
 have i:=fun(w:World) (X:List Nat) (hX:XOk X w) (d:Sl aI w X C k v t.cs)=>Lib.hid (gh t ⟨t.q+1,ea,G,g,ex,H,F⟩ C k v X w hX d o L)
 simp only[jnA,evA]at M i ⊢
 simp only[gy,R,if_true]at i
 generalize aZ t ⟨t.q+1,ea,G,g,ex,H,F⟩=t2 at i
 clear R
 go_enter Tryz.func10,Tryz.ntmps10
 go_upto_region 1 with(fail)
 refine(hstart hX).cw fun W K=>?_
 have K:=(((K.ksl0 d).ksl0 u).ksl0 f).ksl0 l
 clear d u f l
 go_wp2_with (first | refine K.ld 2 rfl ?_)
 refine(M _ _ K.xok (K.sl 0 rfl) (K.sl 1 rfl) (K.sl 2 rfl) (K.sl 3 rfl) (J.on K.below)).out.mono ?_
 rintro e w1 ⟨rfl,x⟩
 have K:=K.on x
 clear x M
 have V:=K.r 2 rfl
 have U:=K.c 1 rfl
 go_upto_region 5 with(fail)
 refine K.cw fun W K=>?_
 clear V U
 go_wp2_with (first | refine bF (K.sub 2 rfl 10 [.slice C k v,.int .i64 t.q,.int .i64 t.a]) ?_ | refine K.ld 1 rfl ?_)
 refine(i _ _ K.xok (K.sl 3 rfl)).out.mono ?_
 rintro e w2 ⟨C2,k2,ab,rfl,x,E⟩
 have K:=(K.on x).ksl E
 clear x E i
 go_upto_region 6 with(refine K.lw fun W K=>?_;refine K.sr 0 rfl fun W K=>?_)
 have c3:=K.r 3 rfl
 go_wp2_with (first | refine K.ld 3 rfl ?_ | refine K.ld 2 rfl ?_ | (refine K.lw fun W K=>?_;refine K.sr 0 rfl fun W K=>?_) | (refine K.sr 1 rfl fun W K=>?_))
 exact K.rc2 1 rfl rfl ⟨A,n,D,S,m,y,N,nn,z,C,k,v,rfl,K.slb 1 rfl,K.slb 2 rfl,K.slb 3 rfl,K.slb 4 rfl,K.below⟩
end
section
open Go.RowKit
def vW (p:Prop) (A B:Ending→World→Prop) (e:Ending) (w:World):Prop:=(p∧A e w)∨(¬ p∧B e w)
theorem HH.mor {P:Program} {ops:Array Oper} {Q:Exit→Act→World→Prop} {md:Region.Mode} {S:World→Prop} {b W:World} {M X:List Nat} {L:List Itm} {F:List Fact} {fuel:Nat} {listed:Array Bool} {a:Act} (K:HH b M X W L F) (hS:∀ V,HH b M X V L F→S V) (h:wpAnyH P md ops Q (fun V=>HH b M X V L F) fuel listed a W):wpAnyH P md ops Q S fuel listed a W:=nP hS fuel h
theorem kD (l:List Sgi):(l.flatMap bK).length=l.length*7:=by
 induction l with
 | nil=>rfl
 | cons y l ih=>rw[List.flatMap_cons,List.length_append,ih,List.length_cons];simp[bK];omega
set_option maxHeartbeats 6000000 in
theorem uh (i:List Sgi) (x:Sgi) (l:Nat) (fs:List Fil) (room:Int) (ps:List Prt) (k0 t:St) (h:cR fs room ps [] k0 t) (be:∀ p ∈ ps,(p.al:Int)≤p.s.size) (b f:Int) (bj:dH b f=true) (A:Option Addr) (n F:Nat) (S:Option Addr) (P:Nat) (N:Option Addr) (nn cn:Nat) (C:Option Addr) (k I:Nat) (E:Int) (bb:k0.q≤E∧E≤t.q) (M:bD t)
 (X:List Nat) (w:World) (hX:XOk X w) (B:Sl ax w X A n F fs) (J:Sl bw w X S (l+1) P (ps.map aD)) (O:Sl af w X N nn cn (aa ps).ns) (Z:nn≤1000) (o:Sl aI w X C k I t.cs) (hp:aV w)
 (eq ea y:Int) (d:ByteArray) (ex u z:Int) (ab:d.size≤maxLen) (hm:cH t ⟨t.q+1,ea,y,d,ex,u,z⟩=0) (Q:ps.map aD=i ++ [x]) (hx:(1≤x.num∧x.num≤99999999)∧True∧x.fi<x.la∧(0≤x.sz∧x.sz≤1000000)∧(0≤x.fr∧x.fr≤1099511627776)) (ap:0≤ea∧ea≤1099511627776) (bm:x.sd=false) (ae:je x (aa ps) b f ⟨t.q+1,ea,y,d,ex,u,z⟩=false)
 (hc:eG (aa ps) ⟨t.q+1,ea,y,d,ex,u,z⟩=0) (bs:List UInt8) (ac:av 2 (aQ (aa ps) ⟨t.q+1,ea,y,d,ex,u,z⟩)=bs) (bl:bs.length≤1000) (hrun:(aA fs:Int)+((bs.length:Int))≤room→fG room [.wr (az x.num.toNat) bs] fs):
 Calls Tryz.prog 10 #[.agg (jnA A n F room b f S (l+1) P (aa ps).q (aa ps).a N nn cn C k I t.q t.a E k0.q false).toArray,.agg #[.int .i64 eq,.int .i64 ea,.int .i64 y,.string d,.int .i64 ex,.int .i64 u,.int .i64 z]] w (vW ((aA fs:Int)+((bs.length:Int))≤room) (JPc (cF [.wr (az x.num.toNat) bs] fs) room b f (i ++ [{ x with sz:=x.sz+bs.length,la:=t.q+1,tt:=ea }]) (bJ (aa ps) ⟨t.q+1,ea,y,d,ex,u,z⟩) (aZ t ⟨t.q+1,ea,y,d,ex,u,z⟩) E k0.q false 0 X w) (JPc fs room b f (ps.map aD) (aa ps) t E k0.q true 13 X w)):=by
 have am:n≤64:=by have R:=B.len;have h2:=h.dk.1;simp only at h2;omega
 have hu64:aA fs≤65536:=by have R:=h.dk.2.2.2.2.2;have h2:=h.dk.2.2.1;simp only at R h2;omega
 have L:=Lib.hid Q
 have ad:=Lib.hid hrun
 have ba:=Lib.hid hc
 have bc:=Lib.hid ac
 clear Q hrun hc ac
 have bk:=Lib.hid ae
 clear ae
 have br:=M.2.2.1
 have bq:=M.2.1
 have bo:wrap64 (t.q+1)=t.q+1:=by unfold wrap64;omega
 have bn:l+1≤64:=by
  have R:=J.len
  have h2:=h.len64
  simp only[List.length_map]at R
  omega
 have HM:=fun(w:World) (X:List Nat) (hX:XOk X w) (B:Sl ax w X A n F fs) (J:Sl bw w X S (l+1) P (ps.map aD)) (O:Sl af w X N nn cn (aa ps).ns) (o:Sl aI w X C k I t.cs) (hp:aV w)=>Lib.hid (eT fs room ps k0 t h be b f bj A n F S (l+1) P N nn cn C k I E bb false M X w hX B J O Z o hp)
 have H:=fun(w:World) (X:List Nat) (hX:XOk X w) (o:Sl aI w X C k I t.cs)=>Lib.hid (gh t ⟨t.q+1,ea,y,d,ex,u,z⟩ C k I X w hX o M ab)
 simp only[jnA,evA]at HM H ⊢
 simp only[gy,hm,if_true]at H
 obtain⟨t2,ah⟩:∃ t2,t2=aZ t ⟨t.q+1,ea,y,d,ex,u,z⟩:=⟨_,rfl⟩
 simp only[←ah]at H ⊢
 clear ah hm
 go_enter Tryz.func10,Tryz.ntmps10
 go_upto_region 1 with(fail)
 refine(hstart hX).cw fun W K=>?_
 have K:=(((K.ksl0 o).ksl0 O).ksl0 J).ksl0 B
 clear o O J B
 go_wp2_with (first | refine K.ld 2 rfl ?_)
 refine(HM _ _ K.xok (K.sl 0 rfl) (K.sl 1 rfl) (K.sl 2 rfl) (K.sl 3 rfl) (hp.on K.below)).out.mono ?_
 rintro e w1 ⟨rfl,j⟩
 have K:=K.on j
 clear j HM
 have c2:=K.r 2 rfl
 have c1:=K.c 1 rfl
 go_upto_region 5 with(fail)
 refine K.cw fun W K=>?_
 clear c2 c1
 go_wp2_with (first | refine bF (K.sub 2 rfl 10 [.slice C k I,.int .i64 t.q,.int .i64 t.a]) ?_ | refine K.ld 1 rfl ?_)
 refine(H _ _ K.xok (K.sl 3 rfl)).out.mono ?_
 rintro e w2 ⟨C2,k2,T,rfl,j,D⟩
 have K:=(K.on j).ksl D
 clear j D H
 go_upto_region 6 with(refine K.lw fun W K=>?_;refine K.sr 0 rfl fun W K=>?_)
 have c3:=K.r 3 rfl
 go_upto_region 10 with(fail)
 clear c3
 go_upto_region 11 with(first | refine K.ld 3 rfl ?_ | (refine K.lw fun W K=>?_;refine K.sr 0 rfl fun W K=>?_))
 have c4:=K.r 4 rfl
 go_wp2_with fail
 refine(gM S (l+1) P _ _ K.xok (K.sl 2 rfl) (by omega)).mono ?_
 rintro e w3 ⟨v,vs,rfl,ag,ho,j⟩
 have K:=(K.kra ag).nrow j ho
 clear c4 j ag ho
 obtain⟨G,cap,rfl,-⟩:=aK (K.row 0 rfl)
 have c1:=K.c 1 rfl
 go_upto_region 12 with(fail)
 refine K.cw fun W K=>?_
 clear c1
 have K:=(K.nrow (e:=144) (size:=1) (n:=0) (v := .slice none 0 0) (xs:=[]) (Below.refl _ _) ⟨rfl,.inl ⟨rfl,rfl⟩⟩).kra (s:=cO) (vs:=[]) (xs:=[]) rfl
 have K:=(((K.mv 2 rfl).mv 1 rfl).up 5 rfl).up 1 rfl
 obtain⟨g,rfl⟩:=fC (K.row 2 rfl) (Nat.succ_pos l)
 have ar:vs=i.flatMap bK++bK x:=by
  rw[(aO.1 (K.ra 3 rfl)).1,L.out]
  simp
 subst ar
 have hpre:(i.flatMap bK).length=l*7:=by
  have R:=(K.sl 6 rfl).len
  rw[L.out,List.length_append,List.length_singleton]at R
  rw[kD]
  omega
 go_wp2_with (first | refine K.ld 6 rfl ?_ | refine K.ld 5 rfl ?_)
 refine(nC (ps.map aD) x l (by
  have R:=(K.sl 6 rfl).len
  rw[L.out,List.length_append,List.length_singleton]at R
  rw[L.out,show l=i.length by omega]
  simp) (aa ps).ns ⟨t.q+1,ea,y,d,ex,u,z⟩ A n F room b f S P (aa ps).q (aa ps).a N nn cn C k I t.q t.a E k0.q false _ _ K.xok (K.sl 6 rfl) (K.sl 1 rfl) Z ab (by omega) hx.2.2.1 hx.2.2.2.1 ap hx.2.2.2.2).mono ?_
 rw[show je x ⟨(aa ps).q,(aa ps).a,(aa ps).ns⟩ b f ⟨t.q+1,ea,y,d,ex,u,z⟩=false from bk.out]
 rintro e w4 ⟨rfl,j⟩
 have K:=K.on j
 clear j
 go_upto_region 14 with(fail)
 go_wp2_with fail
 refine(lA _ g l cap false _ (by omega) (K.r 1 rfl 6) (K.rowc 2 rfl (by rw[dO hpre];simp[bK,bm]))).mono ?_
 rintro e w5 ⟨rfl,rfl⟩
 go_upto_region 16 with(fail)
 refine K.rgt (fun V h=>h.tl.tl.tl.ft.ft) fun W K=>?_
 refine tL 0 (fun _ h=>h.at_ 2 rfl) K.tl.tl.tl.ft.ft ?_ (hy:=fun w hw=>aM hw)
 refine tC 1 fun K' hK=>?_
 go_simp
 refine(mT _ g l cap (i.flatMap bK) x _ _ (aa ps).ns ⟨t.q+1,ea,y,d,ex,u,z⟩ _ _ _ _ _ _ _ _ _ _ _ _ _ _ _ _ _ _ _ _ _ K hp hpre (by omega) hx.1 hx.2.2.2.1 (by omega) (by omega) Z ab ba.out bs bc.out bl).mono ?_
 rintro e w7 ⟨S2,U,ss2,A4,n4,c4,rfl,K⟩
 try simp only[Int.zero_add]at K
 refine hK.out _ _ K.tl.tl.tl.ft.ft fun _=>?_
 clear hK K'
 try simp only[Act.put,an,ai,aj]
 refine K.mor (fun V h=>h.tl.tl.tl.ft.ft) ?_
 refine tK 2 K ?_
 refine tK 3 K ?_
 refine tK 4 K ?_
 refine tL 5 (fun _ h=>h.sub 6 rfl 0 [.slice A n F,.int .i64 room,.int .i64 (-1),.bool false]) K ?_ (hy:=fun w hw=>aM hw)
 refine tK 7 K ?_
 refine tL 8 (fun _ h=>h.r 1 rfl) K ?_
 refine tK 10 K ?_
 refine tK 11 K ?_
 refine tL 12 (fun _ h=>h.r 6 rfl) K ?_
 refine tC 6 fun K' hK=>?_
 go_simp
 refine(fY fs A n F room _ _ K.xok (K.sl 5 rfl) am hu64).mono ?_
 rintro e w8 ⟨rfl,j⟩
 have K:=K.on j
 refine hK.out _ _ K fun _=>?_
 clear hK K' j
 try simp only[Act.put,an,ai,aj]
 have aw:IntKind.i64.wrap ((aA fs:Int)+((bs.length:Int)))=(aA fs:Int)+((bs.length:Int)):=IntWalk.i64_in _ (by omega)
 by_cases hroom:(aA fs:Int)+((bs.length:Int))≤room
 rotate_left
 ·have ao:room<(aA fs:Int)+((bs.length:Int)):=by omega
  refine tK 9 K ?_
  refine tK 13 K ?_
  refine tK 14 K ?_
  refine tE ?_
  go_wp2_with (first | refine K.ld 6 rfl ?_)
  refine(jl A n F room b f S (l+1) P (aa ps).q (aa ps).a N nn cn C k I t.q t.a E k0.q false _ _ K.xok).mono ?_
  rintro e w9 ⟨rfl,j⟩
  have K:=K.on j
  go_wp2_with (first | refine K.sr 4 rfl fun W K=>?_)
  exact K.rc2 4 rfl rfl (Or.inr ⟨by omega,A,n,F,S,(l+1),P,N,nn,cn,C,k,I,rfl,K.slb 5 rfl,K.slb 6 rfl,K.slb 7 rfl,K.slb 8 rfl,K.below⟩)
 have ao:¬ room<(aA fs:Int)+((bs.length:Int)):=by omega
 refine tK 9 K ?_
 refine tK 13 K ?_
 refine tK 14 K ?_
 refine tE ?_
 obtain⟨S3,bp,e3,KS⟩:=K.out.done_row (s:=cO) 0 rfl (K.ra 0 rfl) (by decide) (by simp)
 injection e3 with e4 e5 e6
 subst e4 e6
 have K:=KS.hh
 clear KS e5 aw ao
 have c0:=K.r 0 rfl
 go_wp2_with (first | refine bF (K.sub 5 rfl 0 [.slice A n F,.int .i64 room,.int .i64 (-1),.bool false]) ?_)
 refine(lf [.wr (az x.num.toNat) bs] fs room S2 (0+1) U A n F _ _ K.xok (K.sl 6 rfl) (K.sl 0 rfl) (ad.out hroom) (by omega)).mono ?_
 rintro e w9 ⟨B6,c6,rfl,D,j⟩
 have K:=(K.on j).ksl D
 clear j D c0
 obtain⟨Y,m⟩:∃ fz,fz=cF [.wr (az x.num.toNat) bs] fs:=⟨_,rfl⟩
 rw[←m]at K ⊢
 have bi:=Lib.hid m
 clear m
 go_upto_region 22 with(refine K.lw fun W K=>?_;refine K.sr 0 rfl fun W K=>?_)
 go_upto_region 23 with(first | refine K.ld 0 rfl ?_ | refine K.ss (new:=wA (.slice B6 Y.length c6) (.int .i64 room) (.int .i64 (-1)) (.bool false) (.int .i64 b) (.int .i64 f) (some ⟨g,0,none⟩) (l+1) cap (t.q+1) ea A4 n4 c4 (.slice C k I) t.q t.a E (.int .i64 k0.q) (.bool false) S2 (0+1) U ((bs.length:Int))) 1 rfl fun W K=>?_)
 go_upto_region 24 with(first | refine K.ld 3 rfl ?_ | refine K.ss (new:=wA (.slice B6 Y.length c6) (.int .i64 room) (.int .i64 (-1)) (.bool false) (.int .i64 b) (.int .i64 f) (some ⟨g,0,none⟩) (l+1) cap (t.q+1) ea A4 n4 c4 (.slice C2 k2 T) t2.q t2.a E (.int .i64 k0.q) (.bool false) S2 (0+1) U ((bs.length:Int))) 1 rfl fun W K=>?_)
 go_wp2_with (first | refine bF (K.sub 1 rfl 0 (jnA B6 Y.length c6 room b f (some ⟨g,0,none⟩) (l+1) cap (t.q+1) ea A4 n4 c4 C2 k2 T t2.q t2.a E k0.q false)) ?_ | (refine K.sr 4 rfl fun W K=>?_))
 obtain⟨S4,bt,e7,KS⟩:=K.out.done_row (s:=bw) (xs:=i ++ [{ x with sz:=x.sz+bs.length,la:=t.q+1,tt:=ea }]) 2 rfl (aO.2 ⟨by simp,fun _ _=>trivial⟩) (by decide) (by simp)
 injection e7 with e8 e9 bd
 have K1:=KS.hh
 rw[←e8,←bd]at K1
 have m:=bi.out
 subst m
 exact K.rc2 4 rfl rfl (Or.inl ⟨hroom,B6,_,c6,some ⟨g,0,none⟩,l+1,cap,A4,n4,c4,C2,k2,T,rfl,K.slb 0 rfl,K1.slb 0 rfl,K.slb 3 rfl,K.slb 6 rfl,K.below⟩)
end
section
open Go.RowKit
set_option maxHeartbeats 3000000 in
theorem sK (fs:List Fil) (room:Int) (ps:List Prt) (k0 t:St) (h:cR fs room ps [] k0 t) (B:∀ p ∈ ps,(p.al:Int)≤p.s.size) (b f:Int) (D:dH b f=true) (A:Option Addr) (n o:Nat) (S:Option Addr) (j:Nat) (N:Option Addr) (nn l:Nat) (C:Option Addr) (k u:Nat) (m:Int) (v:k0.q≤m∧m≤t.q) (y:bD t) (sh:Bool)
 (X:List Nat) (w:World) (hX:XOk X w) (g:Sl ax w X A n o fs) (c:Sl bw w X S 0 j (ps.map aD)) (i:Sl af w X N nn l (aa ps).ns) (E:nn≤1000) (d:Sl aI w X C k u t.cs) (x:aV w):
 Calls Tryz.prog 11 #[.agg (jnA A n o room b f S 0 j (aa ps).q (aa ps).a N nn l C k u t.q t.a m k0.q sh).toArray] w (JPc fs room b f (ps.map aD) (aa ps) t m k0.q sh 14 X w):=by
 have G:0≤64:=by
  have I:=c.len
  have L:=h.len64
  simp only[List.length_map]at I
  omega
 have z:=fun(w:World) (X:List Nat) (hX:XOk X w) (g:Sl ax w X A n o fs) (c:Sl bw w X S 0 j (ps.map aD)) (i:Sl af w X N nn l (aa ps).ns) (d:Sl aI w X C k u t.cs) (x:aV w)=>Lib.hid (eT fs room ps k0 t h B b f D A n o S 0 j N nn l C k u m v sh y X w hX g c i E d x)
 simp only[jnA]at z ⊢
 go_enter Tryz.func11,Tryz.ntmps11
 go_upto_region 1 with(fail)
 refine(hstart hX).cw fun W K=>?_
 have K:=(((K.ksl0 d).ksl0 i).ksl0 c).ksl0 g
 clear d i c g
 go_wp2_with (first | refine K.ld 1 rfl ?_)
 refine(z _ _ K.xok (K.sl 0 rfl) (K.sl 1 rfl) (K.sl 2 rfl) (K.sl 3 rfl) (x.on K.below)).out.mono ?_
 rintro e J ⟨rfl,F⟩
 have K:=K.on F
 clear F z
 have H:=K.r 1 rfl
 go_upto_region 5 with(fail)
 clear H
 refine K.rg fun W K=>?_
 refine tK 0 K ?_
 refine tK 1 K ?_
 refine tK 2 K ?_
 refine tN 3 K ?_
 refine tN 4 K ?_
 refine tN 5 K ?_
 refine tN 6 K ?_
 refine tN 7 K ?_
 refine tN 8 K ?_
 refine tN 9 K ?_
 refine tK 10 K ?_
 refine tK 11 K ?_
 refine tN 12 K ?_
 refine tN 13 K ?_
 refine tN 14 K ?_
 refine tN 15 K ?_
 refine tN 16 K ?_
 refine tN 17 K ?_
 refine tN 18 K ?_
 refine tN 19 K ?_
 refine tN 20 K ?_
 refine tN 21 K ?_
 refine tN 22 K ?_
 refine tN 23 K ?_
 refine tN 24 K ?_
 refine tN 25 K ?_
 refine tN 26 K ?_
 refine tK 27 K ?_
 refine tE ?_
 go_wp2_with (first | refine K.ld 1 rfl ?_ | (refine K.sr 0 rfl fun W K=>?_))
 exact K.rc2 0 rfl rfl ⟨A,n,o,S,0,j,N,nn,l,C,k,u,rfl,K.slb 0 rfl,K.slb 1 rfl,K.slb 2 rfl,K.slb 3 rfl,K.below⟩
set_option maxHeartbeats 3000000 in
theorem pg (m:List Sgi) (x:Sgi) (c:Nat) (fs:List Fil) (room:Int) (ps:List Prt) (k0 t:St) (h:cR fs room ps [] k0 t) (L:∀ p ∈ ps,(p.al:Int)≤p.s.size) (b g:Int) (M:dH b g=true) (A:Option Addr) (n D:Nat) (S:Option Addr) (v:Nat) (N:Option Addr) (nn y:Nat) (C:Option Addr) (k E:Nat) (z:Int) (F:k0.q≤z∧z≤t.q) (I:bD t) (sh:Bool)
 (X:List Nat) (w:World) (hX:XOk X w) (i:Sl ax w X A n D fs) (d:Sl bw w X S (c+1) v (ps.map aD)) (l:Sl af w X N nn y (aa ps).ns) (O:nn≤1000) (f:Sl aI w X C k E t.cs) (G:aV w) (o:ps.map aD=m ++ [x]) (P:x.sd=true):
 Calls Tryz.prog 11 #[.agg (jnA A n D room b g S (c+1) v (aa ps).q (aa ps).a N nn y C k E t.q t.a z k0.q sh).toArray] w (JPc fs room b g (ps.map aD) (aa ps) t z k0.q sh 14 X w):=by
 have B:=Lib.hid o
 clear o
 have R:(c+1)≤64:=by
  have H:=d.len
  have h2:=h.len64
  simp only[List.length_map]at H
  omega
 have J:=fun(w:World) (X:List Nat) (hX:XOk X w) (i:Sl ax w X A n D fs) (d:Sl bw w X S (c+1) v (ps.map aD)) (l:Sl af w X N nn y (aa ps).ns) (f:Sl aI w X C k E t.cs) (G:aV w)=>Lib.hid (eT fs room ps k0 t h L b g M A n D S (c+1) v N nn y C k E z F sh I X w hX i d l O f G)
 simp only[jnA]at J ⊢
 go_enter Tryz.func11,Tryz.ntmps11
 go_upto_region 1 with(fail)
 refine(hstart hX).cw fun W K=>?_
 have K:=(((K.ksl0 f).ksl0 l).ksl0 d).ksl0 i
 clear f l d i
 go_wp2_with (first | refine K.ld 1 rfl ?_)
 refine(J _ _ K.xok (K.sl 0 rfl) (K.sl 1 rfl) (K.sl 2 rfl) (K.sl 3 rfl) (G.on K.below)).out.mono ?_
 rintro e Z ⟨rfl,Q⟩
 have K:=K.on Q
 clear Q J
 have U:=K.r 1 rfl
 go_upto_region 5 with(fail)
 clear U
 have u:c=m.length:=by
  have H:=(K.sl 1 rfl).len
  rw[B.out,List.length_append,List.length_singleton]at H
  omega
 obtain⟨ad,rr,rfl,K,⟨rfl,-⟩⟩:=K.elem 1 rfl (j:=c) (x:=x) (by rw[B.out,u];simp)
 simp only[bK,P]at K
 have V:=Lib.hid u
 clear u
 have i3:(0:Int)≤(c:Int):=by omega
 have Y:(c:Int)<(c:Int)+1:=by omega
 have i5:=wL c (by omega)
 refine K.rg fun W K=>?_
 refine tK 0 K ?_
 refine tK 1 K ?_
 refine tK 2 K ?_
 refine tK 3 K ?_
 refine tL 4 (fun _ h=>h.r 1 rfl) K ?_
 refine tK 5 K ?_
 refine tK 6 K ?_
 refine tK 7 K ?_
 refine tK 8 K ?_
 refine tL 9 (T:=fun W=>W.cell? ⟨(ad.add (c*7)).block,(ad.add (c*7)).off+6,none⟩=some (.bool true)) (fun _ h=>h.at' 0 rfl 6 _ rfl) K ?_
 refine tK 10 K ?_
 refine tK 11 K ?_
 refine tN 12 K ?_
 refine tN 13 K ?_
 refine tN 14 K ?_
 refine tN 15 K ?_
 refine tN 16 K ?_
 refine tN 17 K ?_
 refine tN 18 K ?_
 refine tN 19 K ?_
 refine tN 20 K ?_
 refine tN 21 K ?_
 refine tN 22 K ?_
 refine tN 23 K ?_
 refine tN 24 K ?_
 refine tN 25 K ?_
 refine tN 26 K ?_
 refine tK 27 K ?_
 refine tE ?_
 go_wp2_with (first | refine K.ld 1 rfl ?_ | (refine K.sr 0 rfl fun W K=>?_))
 exact K.rc2 0 rfl rfl ⟨A,n,D,some ad,c+1,v,N,nn,y,C,k,E,rfl,K.slb 1 rfl,K.slb 2 rfl,K.slb 3 rfl,K.slb 4 rfl,K.below⟩
set_option maxHeartbeats 6000000 in
theorem rG (f:List Sgi) (x:Sgi) (d:Nat) (fs:List Fil) (room:Int) (ps:List Prt) (k0 t:St) (h:cR fs room ps [] k0 t) (ba:∀ p ∈ ps,(p.al:Int)≤p.s.size) (b i:Int) (bc:dH b i=true) (A:Option Addr) (n z:Nat) (S:Option Addr) (I:Nat) (N:Option Addr) (nn P:Nat) (C:Option Addr) (k E:Nat) (O:Int) (ar:k0.q≤O∧O≤t.q) (bd:bD t) (sh:Bool)
 (X:List Nat) (w:World) (hX:XOk X w) (u:Sl ax w X A n z fs) (y:Sl bw w X S (d+1) I (ps.map aD)) (F:Sl af w X N nn P (aa ps).ns) (ac:nn≤1000) (D:Sl aI w X C k E t.cs) (hp:aV w) (H:ps.map aD=f ++ [x]) (bj:x.sd=false) (hx:(1≤x.num∧x.num≤99999999)∧x.fi<x.la∧(0≤x.sz∧x.sz≤1000000)) (many:Int) (M:x.la-x.fi=many) (B:0≤many∧many≤1000000) (l:List UInt8) (R:mz many (aa ps)=(l,0)) (ah:l.length≤1000)
 (hrun:(aA fs:Int)+l.length≤room→fG room [.wr (az x.num.toNat) l,.sy (az x.num.toNat)] fs):
 Calls Tryz.prog 11 #[.agg (jnA A n z room b i S (d+1) I (aa ps).q (aa ps).a N nn P C k E t.q t.a O k0.q sh).toArray] w (vW ((aA fs:Int)+l.length≤room) (JPc (cF [.wr (az x.num.toNat) l,.sy (az x.num.toNat)] fs) room b i (f ++ [{ x with sz:=x.sz+l.length,sd:=true }]) ⟨0,0,[]⟩ t t.q k0.q sh 0 X w) (JPc fs room b i (ps.map aD) (aa ps) t O k0.q true 13 X w)):=by
 have ag:n≤64:=by have Q:=u.len;have h2:=h.dk.1;simp only at h2;omega
 have hu64:aA fs≤65536:=by have Q:=h.dk.2.2.2.2.2;have h2:=h.dk.2.2.1;simp only at Q h2;omega
 have L:=Lib.hid H
 have Y:=Lib.hid hrun
 have bi:=Lib.hid R
 have i9:decide (x.la≤x.fi)=false:=decide_eq_false (by omega)
 have bl:¬ x.la≤x.fi:=by omega
 clear H hrun R
 have bk:(d+1)≤64:=by
  have Q:=y.len
  have h2:=h.len64
  simp only[List.length_map]at Q
  omega
 have HM:=fun(w:World) (X:List Nat) (hX:XOk X w) (u:Sl ax w X A n z fs) (y:Sl bw w X S (d+1) I (ps.map aD)) (F:Sl af w X N nn P (aa ps).ns) (D:Sl aI w X C k E t.cs) (hp:aV w)=>Lib.hid (eT fs room ps k0 t h ba b i bc A n z S (d+1) I N nn P C k E O ar sh bd X w hX u y F ac D hp)
 simp only[jnA]at HM ⊢
 go_enter Tryz.func11,Tryz.ntmps11
 go_upto_region 1 with(fail)
 refine(hstart hX).cw fun W K=>?_
 have K:=(((K.ksl0 D).ksl0 F).ksl0 y).ksl0 u
 clear D F y u
 go_wp2_with (first | refine K.ld 1 rfl ?_)
 refine(HM _ _ K.xok (K.sl 0 rfl) (K.sl 1 rfl) (K.sl 2 rfl) (K.sl 3 rfl) (hp.on K.below)).out.mono ?_
 rintro e w1 ⟨rfl,o⟩
 have K:=K.on o
 clear o HM
 have c1:=K.r 1 rfl
 go_upto_region 5 with(fail)
 clear c1
 have J:d=f.length:=by
  have Q:=(K.sl 1 rfl).len
  rw[L.out,List.length_append,List.length_singleton]at Q
  omega
 obtain⟨ad,rr,rfl,K,⟨rfl,-⟩⟩:=K.elem 1 rfl (j:=d) (x:=x) (by rw[L.out,J];simp)
 simp only[bK,bj]at K
 have be:=Lib.hid J
 clear J
 have i3:(0:Int)≤(d:Int):=by omega
 have i4:(d:Int)<(d:Int)+1:=by omega
 have i5:=wL d (by omega)
 refine K.rg fun W K=>?_
 refine tK 0 K ?_
 refine tK 1 K ?_
 refine tK 2 K ?_
 refine tK 3 K ?_
 refine tL 4 (fun _ h=>h.r 1 rfl) K ?_
 refine tK 5 K ?_
 refine tK 6 K ?_
 refine tK 7 K ?_
 refine tK 8 K ?_
 refine tL 9 (T:=fun W=>W.cell? ⟨(ad.add (d*7)).block,(ad.add (d*7)).off+6,none⟩=some (.bool false)) (fun _ h=>h.at' 0 rfl 6 _ rfl) K ?_
 refine tK 10 K ?_
 refine tK 11 K ?_
 refine tK 12 K ?_
 refine tL 13 (fun _ h=>h.r 1 rfl) K ?_
 refine tK 14 K ?_
 refine tK 15 K ?_
 refine tK 16 K ?_
 refine tK 17 K ?_
 refine tL 18 (T:=fun W=>W.cell? ⟨(ad.add (d*7)).block,(ad.add (d*7)).off+2,none⟩=some (.int .i64 x.la)) (fun _ h=>h.at' 0 rfl 2 _ rfl) K ?_
 refine tK 19 K ?_
 refine tL 20 (fun _ h=>h.r 1 rfl) K ?_
 refine tK 21 K ?_
 refine tK 22 K ?_
 refine tK 23 K ?_
 refine tK 24 K ?_
 refine tL 25 (T:=fun W=>W.cell? ⟨(ad.add (d*7)).block,(ad.add (d*7)).off+1,none⟩=some (.int .i64 x.fi)) (fun _ h=>h.at' 0 rfl 1 _ rfl) K ?_
 refine tK 26 K ?_
 refine tK 27 K ?_
 refine tE ?_
 go_upto_region 8 with(first | refine K.ld 1 rfl ?_ | (refine K.lw fun W K=>?_;refine K.sr 0 rfl fun W K=>?_))
 have c2:=K.r 2 rfl
 go_wp2_with fail
 refine(gM (some ad) (d+1) I _ _ K.xok (K.sl 2 rfl) (by omega)).mono ?_
 rintro e w3 ⟨v,vs,rfl,ae,ho,o⟩
 have K:=(K.kra ae).nrow o ho
 clear c2 o ae ho
 obtain⟨G,cap,rfl,-⟩:=aK (K.row 0 rfl)
 have c1:=K.c 1 rfl
 go_upto_region 9 with(fail)
 refine K.cw fun W K=>?_
 clear c1
 have K:=(K.nrow (e:=144) (size:=1) (n:=0) (v := .slice none 0 0) (xs:=[]) (Below.refl _ _) ⟨rfl,.inl ⟨rfl,rfl⟩⟩).kra (s:=cO) (vs:=[]) (xs:=[]) rfl
 have K:=(((K.mv 2 rfl).mv 1 rfl).up 5 rfl).up 1 rfl
 obtain⟨g,rfl⟩:=fC (K.row 2 rfl) (Nat.succ_pos d)
 have ao:vs=f.flatMap bK++bK x:=by
  rw[(aO.1 (K.ra 3 rfl)).1,L.out]
  simp
 subst ao
 have hpre:(f.flatMap bK).length=d*7:=by rw[kD,←be.out]
 refine K.rgt (fun V h=>h.tl.tl.tl.ft.ft) fun W K=>?_
 refine tC 0 fun K' hK=>?_
 go_simp
 refine(Bb _ g d cap (f.flatMap bK) x _ _ (aa ps).ns _ _ _ _ _ _ _ _ _ _ _ _ _ _ _ _ _ _ _ _ _ K hp hpre (by omega) hx.1 hx.2.2 (by omega) (by omega) ac many M B l bi.out ah).mono ?_
 rintro e w7 ⟨S2,Z,ss2,rfl,K⟩
 simp only[Int.zero_add]at K
 refine hK.out _ _ K.tl.tl.tl.ft fun _=>?_
 clear hK K'
 try simp only[Act.put,an,ai,aj]
 refine K.mor (fun V h=>h.tl.tl.tl.ft) ?_
 refine tK 1 K ?_
 refine tK 2 K ?_
 refine tK 3 K ?_
 refine tL 4 (fun _ h=>h.sub 4 rfl 0 [.slice A n z,.int .i64 room,.int .i64 (-1),.bool false]) K ?_ (hy:=fun w hw=>aM hw)
 refine tK 6 K ?_
 refine tL 7 (fun _ h=>h.r 1 rfl) K ?_
 refine tK 9 K ?_
 refine tK 10 K ?_
 refine tL 11 (fun _ h=>h.r 4 rfl) K ?_
 refine tC 5 fun K' hK=>?_
 go_simp
 refine(fY fs A n z room _ _ K.xok (K.sl 4 rfl) ag hu64).mono ?_
 rintro e w8 ⟨rfl,o⟩
 have K:=K.on o
 refine hK.out _ _ K fun _=>?_
 clear hK K' o
 try simp only[Act.put,an,ai,aj]
 have ap:IntKind.i64.wrap ((aA fs:Int)+(l.length:Int))=(aA fs:Int)+(l.length:Int):=IntWalk.i64_in _ (by omega)
 by_cases hroom:(aA fs:Int)+(l.length:Int)≤room
 rotate_left
 ·have am:room<(aA fs:Int)+(l.length:Int):=by omega
  refine tK 8 K ?_
  refine tK 12 K ?_
  refine tK 13 K ?_
  refine tE ?_
  go_wp2_with (first | refine K.ld 4 rfl ?_)
  refine(jl A n z room b i (some ad) (d+1) I (aa ps).q (aa ps).a N nn P C k E t.q t.a O k0.q sh _ _ K.xok).mono ?_
  rintro e w9 ⟨rfl,o⟩
  have K:=K.on o
  go_wp2_with (first | refine K.sr 3 rfl fun W K=>?_)
  exact K.rc2 3 rfl rfl (Or.inr ⟨by omega,A,n,z,some ad,d+1,I,N,nn,P,C,k,E,rfl,K.slb 4 rfl,K.slb 5 rfl,K.slb 6 rfl,K.slb 7 rfl,K.below⟩)
 have am:¬ room<(aA fs:Int)+(l.length:Int):=by omega
 refine tK 8 K ?_
 refine tK 12 K ?_
 refine tK 13 K ?_
 refine tE ?_
 obtain⟨S3,bm,e3,KS⟩:=K.out.done_row (s:=cO) 0 rfl (K.ra 0 rfl) (by decide) (by simp)
 injection e3 with e4 e5 e6
 subst e4 e6
 have K:=KS.hh
 clear KS e5 ap am
 have c0:=K.r 0 rfl
 go_wp2_with (first | refine bF (K.sub 3 rfl 0 [.slice A n z,.int .i64 room,.int .i64 (-1),.bool false]) ?_)
 refine(lf [.wr (az x.num.toNat) l,.sy (az x.num.toNat)] fs room S2 (0+2) Z A n z _ _ K.xok (K.sl 5 rfl) (K.sl 0 rfl) (Y.out hroom) (by omega)).mono ?_
 rintro e w9 ⟨B6,c6,rfl,U,o⟩
 have K:=(K.on o).ksl U
 clear o U c0
 obtain⟨ab,m⟩:∃ fz,fz=cF [.wr (az x.num.toNat) l,.sy (az x.num.toNat)] fs:=⟨_,rfl⟩
 rw[←m]at K ⊢
 have bb:=Lib.hid m
 clear m
 go_upto_region 15 with(refine K.lw fun W K=>?_;refine K.sr 0 rfl fun W K=>?_)
 go_upto_region 16 with(first | refine K.ld 0 rfl ?_ | refine K.ss (new:=wA (.slice B6 ab.length c6) (.int .i64 room) (.int .i64 (-1)) (.bool false) (.int .i64 b) (.int .i64 i) (some ⟨g,0,none⟩) (d+1) cap 0 0 none 0 0 (.slice C k E) t.q t.a t.q (.int .i64 k0.q) (.bool sh) S2 (0+2) Z (l.length:Int)) 1 rfl fun W K=>?_)
 go_wp2_with (first | refine bF (K.sub 1 rfl 0 (jnA B6 ab.length c6 room b i (some ⟨g,0,none⟩) (d+1) cap 0 0 none 0 0 C k E t.q t.a t.q k0.q sh)) ?_ | (refine K.sr 3 rfl fun W K=>?_))
 obtain⟨S4,bn,e7,KS⟩:=K.out.done_row (s:=bw) (xs:=f ++ [{ x with sz:=x.sz+l.length,sd:=true }]) 2 rfl (aO.2 ⟨by simp,fun _ _=>trivial⟩) (by decide) (by simp)
 injection e7 with e8 e9 aw
 have K1:=KS.hh
 rw[←e8,←aw]at K1
 have m:=bb.out
 subst m
 exact K.rc2 3 rfl rfl (Or.inl ⟨hroom,B6,_,c6,some ⟨g,0,none⟩,d+1,cap,none,0,0,C,k,E,rfl,K.slb 0 rfl,K1.slb 0 rfl,Sl.nil_,K.slb 9 rfl,K.below⟩)
end
section
open Go.RowKit
theorem qQ (z:Int) (b:1≤z) (c:z≤99999999) (w:World) (a:aV w):Calls Tryz.prog 15 #[.int .i64 z] w fun e w'=>e = .returned (.string (az z.toNat))∧Below w.heap.size w w':=by
 have h:=dS z.toNat (by omega) (by omega) w a
 rwa [Int.toNat_of_nonneg (by omega)]at h
theorem DC {α β γ δ ε ζ:Type} {G:α→β→γ→δ→ε→ζ→Prop} {T:Prop} (b:Hid (∀ x y z u v a,G x y z u v a)→T) (key:∀ x y z u v a,G x y z u v a):T:=b key
set_option maxHeartbeats 4000000 in
theorem vu (fs:List Fil) (room:Int) (ps:List Prt) (k0 t:St) (h:cR fs room ps [] k0 t) (F:∀ p ∈ ps,(p.al:Int)≤p.s.size) (b g:Int) (G:dH b g=true) (A:Option Addr) (n r:Nat) (S:Option Addr) (m l:Nat) (N:Option Addr) (nn o:Nat) (C:Option Addr) (k u:Nat) (v:Int) (y:k0.q≤v∧v≤t.q) (D:bD t) (sh:Bool)
 (X:List Nat) (w:World) (hX:XOk X w) (i:Sl ax w X A n r fs) (f:Sl bw w X S m l (ps.map aD)) (j:Sl af w X N nn o (aa ps).ns) (H:nn≤1000) (d:Sl aI w X C k u t.cs) (z:aV w)(B:m=0):
 Calls Tryz.prog 65 #[.agg (jnA A n r room b g S m l (aa ps).q (aa ps).a N nn o C k u t.q t.a v k0.q sh).toArray] w (JPc fs room b g (ps.map aD) (aa ps) t t.q k0.q sh 0 X w):=by
 have E:=fun(w:World) (X:List Nat) (hX:XOk X w) (i:Sl ax w X A n r fs) (f:Sl bw w X S m l (ps.map aD)) (j:Sl af w X N nn o (aa ps).ns) (d:Sl aI w X C k u t.cs) (z:aV w)=>Lib.hid (eT fs room ps k0 t h F b g G A n r S m l N nn o C k u v y sh D X w hX i f j H d z)
 subst B
 simp only[jnA]at E ⊢
 go_enter Tryz.func65,Tryz.ntmps65
 go_upto_region 1 with(fail)
 refine(hstart hX).cw fun W K=>?_
 have K:=(((K.ksl0 d).ksl0 j).ksl0 f).ksl0 i
 clear d j f i
 go_wp2_with (first | refine K.ld 1 rfl ?_)
 refine(E _ _ K.xok (K.sl 0 rfl) (K.sl 1 rfl) (K.sl 2 rfl) (K.sl 3 rfl) (z.on K.below)).out.mono ?_
 rintro e J ⟨rfl,I⟩
 have K:=K.on I
 clear I E
 have x:=K.c 1 rfl
 go_upto_region 11 with(fail)
 refine K.cw fun W K=>?_
 clear x
 have x:=K.c 1 rfl
 go_upto_region 12 with(fail)
 refine K.cw fun W K=>?_
 clear x
 go_wp2_with (first | refine K.ld 1 rfl ?_ | (refine K.sr 0 rfl fun W K=>?_))
 exact K.rc2 0 rfl rfl ⟨A,n,r,S,0,l,N,nn,o,C,k,u,rfl,K.slb 0 rfl,K.slb 1 rfl,K.slb 2 rfl,K.slb 3 rfl,K.below⟩
set_option maxHeartbeats 4000000 in
theorem rR (o:List Sgi) (x:Sgi) (d:Nat) (fs:List Fil) (room:Int) (ps:List Prt) (k0 t:St) (h:cR fs room ps [] k0 t) (M:∀ p ∈ ps,(p.al:Int)≤p.s.size) (b i:Int) (O:dH b i=true) (A:Option Addr) (n B:Nat) (S:Option Addr) (v:Nat) (N:Option Addr) (nn y:Nat) (C:Option Addr) (k D:Nat) (E:Int) (G:k0.q≤E∧E≤t.q) (J:bD t) (sh:Bool)
 (X:List Nat) (w:World) (hX:XOk X w) (l:Sl ax w X A n B fs) (f:Sl bw w X S (d+1) v (ps.map aD)) (m:Sl af w X N nn y (aa ps).ns) (P:nn≤1000) (g:Sl aI w X C k D t.cs) (H:aV w) (r:ps.map aD=o ++ [x]) (Q:x.sd=true):
 Calls Tryz.prog 65 #[.agg (jnA A n B room b i S (d+1) v (aa ps).q (aa ps).a N nn y C k D t.q t.a E k0.q sh).toArray] w (JPc fs room b i (ps.map aD) (aa ps) t t.q k0.q sh 0 X w):=by
 have z:=Lib.hid r
 clear r
 have T:(d+1)≤64:=by
  have I:=f.len
  have h2:=h.len64
  simp only[List.length_map]at I
  omega
 have L:=fun(w:World) (X:List Nat) (hX:XOk X w) (l:Sl ax w X A n B fs) (f:Sl bw w X S (d+1) v (ps.map aD)) (m:Sl af w X N nn y (aa ps).ns) (g:Sl aI w X C k D t.cs) (H:aV w)=>Lib.hid (eT fs room ps k0 t h M b i O A n B S (d+1) v N nn y C k D E G sh J X w hX l f m P g H)
 simp only[jnA]at L ⊢
 go_enter Tryz.func65,Tryz.ntmps65
 go_upto_region 1 with(fail)
 refine(hstart hX).cw fun W K=>?_
 have K:=(((K.ksl0 g).ksl0 m).ksl0 f).ksl0 l
 clear g m f l
 go_wp2_with (first | refine K.ld 1 rfl ?_)
 refine(L _ _ K.xok (K.sl 0 rfl) (K.sl 1 rfl) (K.sl 2 rfl) (K.sl 3 rfl) (H.on K.below)).out.mono ?_
 rintro e U ⟨rfl,R⟩
 have K:=K.on R
 clear R L
 have F:=K.c 1 rfl
 have u:d=o.length:=by
  have I:=(K.sl 1 rfl).len
  rw[z.out,List.length_append,List.length_singleton]at I
  omega
 obtain⟨ad,rr,rfl,K,⟨rfl,-⟩⟩:=K.elem 1 rfl (j:=d) (x:=x) (by rw[z.out,u];simp)
 simp only[bK,Q]at K
 have Y:=Lib.hid u
 clear u
 have i3:(0:Int)≤(d:Int):=by omega
 have Z:(d:Int)<(d:Int)+1:=by omega
 have i5:=wL d (by omega)
 have i6:wrap64 ((d:Int)+1-1)=(d:Int):=by unfold wrap64;omega
 have V:U.cell? ⟨(ad.add (d*7)).block,(ad.add (d*7)).off+6,none⟩=some (.bool true):=K.at' 0 rfl 6 _ rfl
 go_upto_region 11 with(fail)
 refine K.cw fun W K=>?_
 clear F V
 have F:=K.c 1 rfl
 go_upto_region 12 with(fail)
 refine K.cw fun W K=>?_
 clear F
 go_wp2_with (first | refine K.ld 1 rfl ?_ | (refine K.sr 0 rfl fun W K=>?_))
 exact K.rc2 0 rfl rfl ⟨A,n,B,some ad,d+1,v,N,nn,y,C,k,D,rfl,K.slb 1 rfl,K.slb 2 rfl,K.slb 3 rfl,K.slb 4 rfl,K.below⟩
set_option maxHeartbeats 4000000 in
theorem vn (J:List Sgi) (x:Sgi) (i:Nat) (fs:List Fil) (room:Int) (ps:List Prt) (k0 t:St) (h:cR fs room ps [] k0 t) (ac:∀ p ∈ ps,(p.al:Int)≤p.s.size) (b y:Int) (ae:dH b y=true) (A:Option Addr) (n B:Nat) (S:Option Addr) (M:Nat) (N:Option Addr) (nn O:Nat) (C:Option Addr) (k Q:Nat) (Y:Int) (ab:k0.q≤Y∧Y≤t.q) (ah:bD t) (sh:Bool)
 (X:List Nat) (w:World) (hX:XOk X w) (D:Sl ax w X A n B fs) (z:Sl bw w X S (i+1) M (ps.map aD)) (F:Sl af w X N nn O (aa ps).ns) (ag:nn≤1000) (E:Sl aI w X C k Q t.cs) (Z:aV w) (H:ps.map aD=J ++ [x]) (am:x.sd=false) (hx:1≤x.num∧x.num≤99999999) (hrun:fG room [.sy (az x.num.toNat)] fs):
 Calls Tryz.prog 65 #[.agg (jnA A n B room b y S (i+1) M (aa ps).q (aa ps).a N nn O C k Q t.q t.a Y k0.q sh).toArray] w (JPc (cF [.sy (az x.num.toNat)] fs) room b y (ps.map aD) (aa ps) t t.q k0.q sh 0 X w):=by
 have R:=Lib.hid H
 clear H
 have ao:(i+1)≤64:=by
  have h1:=z.len
  have h2:=h.len64
  simp only[List.length_map]at h1
  omega
 have HM:=fun(w:World) (X:List Nat) (hX:XOk X w) (D:Sl ax w X A n B fs) (z:Sl bw w X S (i+1) M (ps.map aD)) (F:Sl af w X N nn O (aa ps).ns) (E:Sl aI w X C k Q t.cs) (Z:aV w)=>Lib.hid (eT fs room ps k0 t h ac b y ae A n B S (i+1) M N nn O C k Q Y ab sh ah X w hX D z F ag E Z)
 have l:=Lib.hid hrun
 clear hrun
 simp only[jnA]at HM ⊢
 go_enter Tryz.func65,Tryz.ntmps65
 go_upto_region 1 with(fail)
 refine(hstart hX).cw fun W K=>?_
 have K:=(((K.ksl0 E).ksl0 F).ksl0 z).ksl0 D
 clear E F z D
 go_wp2_with (first | refine K.ld 1 rfl ?_)
 refine(HM _ _ K.xok (K.sl 0 rfl) (K.sl 1 rfl) (K.sl 2 rfl) (K.sl 3 rfl) (Z.on K.below)).out.mono ?_
 rintro e w1 ⟨rfl,d⟩
 have K:=K.on d
 clear d HM
 have c1:=K.c 1 rfl
 have L:i=J.length:=by
  have h1:=(K.sl 1 rfl).len
  rw[R.out,List.length_append,List.length_singleton]at h1
  omega
 obtain⟨ad,rr,rfl,K,⟨rfl,-⟩⟩:=K.elem 1 rfl (j:=i) (x:=x) (by rw[R.out,L];simp)
 simp only[bK,am]at K
 have ap:=Lib.hid L
 clear L
 have i3:(0:Int)≤(i:Int):=by omega
 have i4:(i:Int)<(i:Int)+1:=by omega
 have i5:=wL i (by omega)
 have i6:wrap64 ((i:Int)+1-1)=(i:Int):=by unfold wrap64;omega
 have s6:w1.cell? ⟨(ad.add (i*7)).block,(ad.add (i*7)).off+6,none⟩=some (.bool false):=K.at' 0 rfl 6 _ rfl
 go_upto_region 6 with(fail)
 clear c1 s6
 refine DC (α:=Nat) (β:=World) (γ:=Option Addr) (δ:=Nat) (ε:=Nat) (ζ:=Nat) (G:=?G) ?main ?key
 case main=>
  intro key
  refine K.rg fun W K=>?_
  refine tK 0 K ?_
  refine tL 1 (fun _ h=>h.sub 1 rfl 0 [.slice A n B,.int .i64 room,.int .i64 (-1),.bool false]) K ?_ (hy:=fun w hw=>aM hw)
  refine tK 2 K ?_
  refine tL 3 (fun _ h=>h.r 1 rfl) K ?_
  refine tK 4 K ?_
  refine tK 5 K ?_
  refine tK 6 K ?_
  refine tK 7 K ?_
  refine tL 8 (T:=fun W=>W.cell? (ad.add (i*7))=some (.int .i64 x.num)) (fun V h=>by have h2:V.cell? ((ad.add (i*7)).add 0)=some (.int .i64 x.num):=h.at' 0 rfl 0 _ rfl;rwa [cB,Nat.add_zero]at h2) K ?_
  refine tC2 9 16 (fun K' hK=>?_) (fun K' hK=>?_)
  ·go_simp
   refine(qQ x.num hx.1 hx.2 _ (Z.on K.below)).mono ?_
   rintro e w2 ⟨rfl,d⟩
   have K:=K.on d
   clear d
   refine hK.out _ _ K fun _=>?_
   clear hK K'
   try simp only[Act.put,an,ai,aj]
   refine tC2 10 16 (fun K' hK=>?_) (fun K' hK=>?_)
   ·go_simp
    refine(nW (az x.num.toNat) _ _ K.xok).mono ?_
    rintro e m ⟨v,rfl,⟨gf,rfl,I⟩,d⟩
    have K:=(K.on d).kn (f:=cO.fact [.func (.func 148) #[] #[.pointer (some ⟨gf,0,none⟩)]] (.sy (az x.num.toNat))) ⟨_,rfl,gf,rfl,I⟩
    clear d I
    refine hK.out _ _ K.ft fun _=>?_
    clear hK K'
    try simp only[Act.put,an,ai,aj]
    refine tC2 11 16 (fun K' hK=>?_) (fun K' hK=>?_)
    ·go_simp
     have K:=K.to (W':=(m).alloc (.cells #[.func (.func 148) #[] #[.pointer (some ⟨gf,0,none⟩)]] 144))
     refine hK.out _ _ K.tl.ft fun _=>?_
     clear hK K'
     try simp only[Act.put,an,ai,aj]
     refine tC2 12 16 (fun K' hK=>?_) (fun K' hK=>?_)
     ·go_simp
      have K:=K.one (s:=cO) (x := .sy (az x.num.toNat)) (K.tl.fa 0 rfl)
      refine(lf [.sy (az x.num.toNat)] fs room _ 1 1 A n B _ _ K.xok (K.sl 3 rfl) (K.sl 0 rfl) l.out (by omega)).mono ?_
      rintro e P ⟨o,u,rfl,g,d⟩
      have K:=(K.on d).ksl g
      clear d g
      refine hK.out _ _ K.ft.ft.ft fun _=>?_
      clear hK K'
      try simp only[Act.put,an,ai,aj]
      refine tK 13 K.ft.ft.ft ?_
      refine tK 14 K.ft.ft.ft ?_
      refine tK 15 K.ft.ft.ft ?_
      refine tC 16 fun K' hK=>?_
      go_simp
      have K:=K.to (W':=(P).alloc (.cells #[.slice none 0 0,.int .i64 0,.int .i64 0,.bool false] 30))
      refine hK.out _ _ K.tl.ft.ft.ft fun _=>?_
      clear hK K'
      try simp only[Act.put,an,ai,aj]
      refine tSt 17 K 0 rfl (fun U h=>h.tl.ft.ft.ft) fun U K=>?_
      refine tK 18 K.tl.ft.ft.ft ?_
      refine tE ?_
      have K:=K.ft.ft.ft.ksl (K.sl 0 rfl)
      generalize m.heap.size=bs at K ⊢
      generalize P.heap.size=p at K ⊢
      revert K
      exact key.out p U o u gf bs
     ·go_simp
      have K:=K.to (W':=((m).alloc (.cells #[.func (.func 148) #[] #[.pointer (some ⟨gf,0,none⟩)]] 144)).alloc (.cells #[.slice none 0 0,.int .i64 0,.int .i64 0,.bool false] 30))
      refine hK.out _ _ K.tl.tl.ft fun _=>?_
      clear hK K'
      try simp only[Act.put,an,ai,aj]
      refine tC 12 fun K' hK=>?_
      go_simp
      have K:=K.mv 1 rfl
      have K:=K.one (s:=cO) (x := .sy (az x.num.toNat)) (K.tl.fa 0 rfl)
      refine(lf [.sy (az x.num.toNat)] fs room _ 1 1 A n B _ _ K.xok (K.sl 3 rfl) (K.sl 0 rfl) l.out (by omega)).mono ?_
      rintro e P ⟨o,u,rfl,g,d⟩
      have K:=(K.on d).ksl g
      clear d g
      refine hK.out _ _ K.tl.ft.ft.ft fun _=>?_
      clear hK K'
      try simp only[Act.put,an,ai,aj]
      refine tK 13 K.tl.ft.ft.ft ?_
      refine tK 14 K.tl.ft.ft.ft ?_
      refine tK 15 K.tl.ft.ft.ft ?_
      refine tSt 17 K 0 rfl (fun U h=>h.tl.ft.ft.ft) fun U K=>?_
      refine tK 18 K.tl.ft.ft.ft ?_
      refine tE ?_
      have K:=K.ft.ft.ft.ksl (K.sl 0 rfl)
      generalize m.heap.size+1=p at K ⊢
      generalize m.heap.size=bs at K ⊢
      revert K
      exact key.out p U o u gf bs
    ·go_simp
     have K:=K.to (W':=(m).alloc (.cells #[.slice none 0 0,.int .i64 0,.int .i64 0,.bool false] 30))
     refine hK.out _ _ K.tl.ft fun _=>?_
     clear hK K'
     try simp only[Act.put,an,ai,aj]
     refine tC 11 fun K' hK=>?_
     go_simp
     have K:=K.to (W':=((m).alloc (.cells #[.slice none 0 0,.int .i64 0,.int .i64 0,.bool false] 30)).alloc (.cells #[.func (.func 148) #[] #[.pointer (some ⟨gf,0,none⟩)]] 144))
     refine hK.out _ _ K.tl.tl.ft fun _=>?_
     clear hK K'
     try simp only[Act.put,an,ai,aj]
     refine tC 12 fun K' hK=>?_
     go_simp
     have K:=K.one (s:=cO) (x := .sy (az x.num.toNat)) (K.tl.fa 0 rfl)
     refine(lf [.sy (az x.num.toNat)] fs room _ 1 1 A n B _ _ K.xok (K.sl 3 rfl) (K.sl 0 rfl) l.out (by omega)).mono ?_
     rintro e P ⟨o,u,rfl,g,d⟩
     have K:=(K.on d).ksl g
     clear d g
     refine hK.out _ _ K.tl.ft.ft.ft fun _=>?_
     clear hK K'
     try simp only[Act.put,an,ai,aj]
     refine tK 13 K.tl.ft.ft.ft ?_
     refine tK 14 K.tl.ft.ft.ft ?_
     refine tK 15 K.tl.ft.ft.ft ?_
     refine tSt 17 K 0 rfl (fun U h=>h.tl.ft.ft.ft) fun U K=>?_
     refine tK 18 K.tl.ft.ft.ft ?_
     refine tE ?_
     have K:=K.ft.ft.ft.ksl (K.sl 0 rfl)
     generalize m.heap.size+1=bs at K ⊢
     generalize m.heap.size=p at K ⊢
     revert K
     exact key.out p U o u gf bs
   ·go_simp
    have K:=K.to (W':=(w2).alloc (.cells #[.slice none 0 0,.int .i64 0,.int .i64 0,.bool false] 30))
    refine hK.out _ _ K.tl fun _=>?_
    clear hK K'
    try simp only[Act.put,an,ai,aj]
    refine tC 10 fun K' hK=>?_
    go_simp
    refine(nW (az x.num.toNat) _ _ K.xok).mono ?_
    rintro e m ⟨v,rfl,⟨gf,rfl,I⟩,d⟩
    have K:=(K.on d).kn (f:=cO.fact [.func (.func 148) #[] #[.pointer (some ⟨gf,0,none⟩)]] (.sy (az x.num.toNat))) ⟨_,rfl,gf,rfl,I⟩
    clear d I
    refine hK.out _ _ K.tl.ft fun _=>?_
    clear hK K'
    try simp only[Act.put,an,ai,aj]
    refine tC 11 fun K' hK=>?_
    go_simp
    have K:=K.to (W':=(m).alloc (.cells #[.func (.func 148) #[] #[.pointer (some ⟨gf,0,none⟩)]] 144))
    refine hK.out _ _ K.tl.tl.ft fun _=>?_
    clear hK K'
    try simp only[Act.put,an,ai,aj]
    refine tC 12 fun K' hK=>?_
    go_simp
    have K:=K.one (s:=cO) (x := .sy (az x.num.toNat)) (K.tl.fa 0 rfl)
    refine(lf [.sy (az x.num.toNat)] fs room _ 1 1 A n B _ _ K.xok (K.sl 3 rfl) (K.sl 0 rfl) l.out (by omega)).mono ?_
    rintro e P ⟨o,u,rfl,g,d⟩
    have K:=(K.on d).ksl g
    clear d g
    refine hK.out _ _ K.tl.ft.ft.ft fun _=>?_
    clear hK K'
    try simp only[Act.put,an,ai,aj]
    refine tK 13 K.tl.ft.ft.ft ?_
    refine tK 14 K.tl.ft.ft.ft ?_
    refine tK 15 K.tl.ft.ft.ft ?_
    refine tSt 17 K 0 rfl (fun U h=>h.tl.ft.ft.ft) fun U K=>?_
    refine tK 18 K.tl.ft.ft.ft ?_
    refine tE ?_
    have K:=K.ft.ft.ft.ksl (K.sl 0 rfl)
    generalize m.heap.size=bs at K ⊢
    generalize w2.heap.size=p at K ⊢
    revert K
    exact key.out p U o u gf bs
  ·go_simp
   have K:=K.to (W':=(W).alloc (.cells #[.slice none 0 0,.int .i64 0,.int .i64 0,.bool false] 30))
   refine hK.out _ _ K.tl fun _=>?_
   clear hK K'
   try simp only[Act.put,an,ai,aj]
   refine tC 9 fun K' hK=>?_
   go_simp
   refine(qQ x.num hx.1 hx.2 _ (Z.on K.below)).mono ?_
   rintro e w2 ⟨rfl,d⟩
   have K:=K.on d
   clear d
   refine hK.out _ _ K.tl fun _=>?_
   clear hK K'
   try simp only[Act.put,an,ai,aj]
   refine tC 10 fun K' hK=>?_
   go_simp
   refine(nW (az x.num.toNat) _ _ K.xok).mono ?_
   rintro e m ⟨v,rfl,⟨gf,rfl,I⟩,d⟩
   have K:=(K.on d).kn (f:=cO.fact [.func (.func 148) #[] #[.pointer (some ⟨gf,0,none⟩)]] (.sy (az x.num.toNat))) ⟨_,rfl,gf,rfl,I⟩
   clear d I
   refine hK.out _ _ K.tl.ft fun _=>?_
   clear hK K'
   try simp only[Act.put,an,ai,aj]
   refine tC 11 fun K' hK=>?_
   go_simp
   have K:=K.to (W':=(m).alloc (.cells #[.func (.func 148) #[] #[.pointer (some ⟨gf,0,none⟩)]] 144))
   refine hK.out _ _ K.tl.tl.ft fun _=>?_
   clear hK K'
   try simp only[Act.put,an,ai,aj]
   refine tC 12 fun K' hK=>?_
   go_simp
   have K:=K.one (s:=cO) (x := .sy (az x.num.toNat)) (K.tl.fa 0 rfl)
   refine(lf [.sy (az x.num.toNat)] fs room _ 1 1 A n B _ _ K.xok (K.sl 3 rfl) (K.sl 0 rfl) l.out (by omega)).mono ?_
   rintro e P ⟨o,u,rfl,g,d⟩
   have K:=(K.on d).ksl g
   clear d g
   refine hK.out _ _ K.tl.ft.ft.ft fun _=>?_
   clear hK K'
   try simp only[Act.put,an,ai,aj]
   refine tK 13 K.tl.ft.ft.ft ?_
   refine tK 14 K.tl.ft.ft.ft ?_
   refine tK 15 K.tl.ft.ft.ft ?_
   refine tSt 17 K 0 rfl (fun U h=>h.tl.ft.ft.ft) fun U K=>?_
   refine tK 18 K.tl.ft.ft.ft ?_
   refine tE ?_
   have K:=K.ft.ft.ft.ksl (K.sl 0 rfl)
   generalize m.heap.size=bs at K ⊢
   generalize W.heap.size=p at K ⊢
   revert K
   exact key.out p U o u gf bs
 case key=>
  intro p U o u gf bs K
  go_upto_region 10 with(fail)
  go_upto_region 11 with(first | refine K.ld 0 rfl ?_ | refine K.ss (new:=(jnA o (cF [.sy (az x.num.toNat)] fs).length u room b y (some ad) (i+1) M (aa ps).q (aa ps).a N nn O C k Q t.q t.a Y k0.q sh).toArray) 2 rfl fun W K=>?_)
  have K:=K.tl
  have c1:=K.c 1 rfl
  go_upto_region 12 with(fail)
  refine K.cw fun W K=>?_
  clear c1
  go_wp2_with (first | refine K.ld 1 rfl ?_ | (refine K.sr 0 rfl fun W K=>?_))
  exact K.rc2 0 rfl rfl ⟨o,_,u,some ad,i+1,M,N,nn,O,C,k,Q,rfl,K.slb 0 rfl,K.slb 3 rfl,K.slb 4 rfl,K.slb 5 rfl,K.below⟩
end
section
open Go.RowKit
theorem vX {s:Scn} (b:qE s) (a:s.num≠0):fU s=eo s.num ⟨s.bq,s.ba,[]⟩ s.evs s.sealed:=by
 obtain⟨f,d,e,c⟩:=b.num a
 unfold fU eo
 rw[if_neg a,c]
theorem qU (num:Int) (c:Cx) (l:List Evt) (sd:Bool):∃ r,eo num c l sd=av 1 (aR++aS num c.q c.a)++r:=⟨_,List.append_assoc ..⟩
theorem Cn {l g a1 k i a2:Int} {o m:List UInt8} (d:eE l=true) (c:aN ⟨g,a1,[]⟩=true) (f:eE k=true) (e:aN ⟨i,a2,[]⟩=true) (h:av 1 (aR++aS l g a1)++o=av 1 (aR++aS k i a2)++m):l=k∧g=i∧a1=a2:=by
 have p:∀ {n q a:Int},eE n=true→aN ⟨q,a,[]⟩=true→(aR++aS n q a).length≤200:=fun {n q a} r x=>by
  obtain⟨c0,t,v,B⟩:=eR x
  simp only at c0 t v B
  unfold eE at r
  simp only[Bool.and_eq_true,decide_eq_true_eq]at r
  exact(jM (n:=n) (q:=q) (a:=a) (by omega) (by omega) (by omega)).1
 have b:=dJ 1 (aR++aS l g a1) o (by omega) (by omega) (p d c)
 have z:=dJ 1 (aR++aS k i a2) m (by omega) (by omega) (p f e)
 rw[h,z]at b
 injection b with b
 injection b with _ b
 have j:=nw (s:=bP) d c
 have A:=nw (s:=bP) f e
 rw[←b,A]at j
 injection j with j
 injection j with w y u
 exact⟨w.symm,y.symm,u.symm⟩
theorem AI:(aT [] bP).1.num=0:=by
 rw[gE (what:=1) (by rfl)]
 rfl
theorem DW {s t:St} {g:Sg} (h:qj s g t) (B:bD s) (n:Nat) (J:1≤n) (K:n≤99999999) (A:g.evs.length≤100000) (k:Nat) (D:k≤(g.bt n).length):
 (ej ((g.bt n).take k)).s.num=0 ∨ ∃ m sd,m≤g.evs.length∧okL g.c0 (g.evs.take m)∧ej ((g.bt n).take k)={ Sg.pr n ⟨g.bq,g.ba,g.evs.take m,sd⟩ with al:=k }∧(g.bt n).take (Sg.bt n ⟨g.bq,g.ba,g.evs.take m,sd⟩).length=Sg.bt n ⟨g.bq,g.ba,g.evs.take m,sd⟩∧(Sg.bt n ⟨g.bq,g.ba,g.evs.take m,sd⟩).length≤k:=by
 have l:eE (n:Int)=true:=by unfold eE;simp;omega
 have i:=h.right B
 have u:(aT (g.bt n) bP).1.evs=g.evs:=by
  unfold Sg.bt Sg.c0
  cases hd:g.sd with
  | false=>rw[mV l i h.2.2.2.1 A]
  | true=>rw[jk l i h.2.2.2.1 A]
 obtain⟨a,-⟩:=qa ((g.bt n).take k)
 obtain⟨d,-⟩:=CR (g.bt n) k D
 rw[u]at d
 unfold ej
 generalize aT ((g.bt n).take k) bP=r at a d ⊢
 have f:=a.built
 have C:=a.lo
 have q:=a.hi
 rw[List.length_take]at q
 by_cases w:r.1.num=0
 ·left
  have e:fU r.1 = []:=by unfold fU;rw[if_pos w]
  rw[f,e]
  exact AI
 ·right
  obtain⟨H,E,j,I⟩:=a.good.num w
  rw[vX a.good w]at f
  have hpre:(g.bt n)=eo r.1.num ⟨r.1.bq,r.1.ba,[]⟩ r.1.evs r.1.sealed++(g.bt n).drop r.1.size.toNat:=by
   rw[←f,List.take_take,Nat.min_eq_left (by omega),List.take_append_drop]
  obtain⟨ra,ea⟩:=qU r.1.num ⟨r.1.bq,r.1.ba,[]⟩ r.1.evs r.1.sealed
  obtain⟨rb,eb⟩:=qU n g.c0 g.evs g.sd
  have b:=hpre
  rw[ea,show g.bt n=_ from eb,List.append_assoc]at b
  obtain⟨F,z,y⟩:=Cn l i H E b
  have x:r.1.evs.length≤g.evs.length:=by
   have:=congrArg List.length d
   rw[List.length_take]at this
   omega
  rw[←F,←z,←y]at hpre f
  rw[←z,←y]at j
  rw[d]at hpre j f
  have v:eo (n:Int) ⟨g.bq,g.ba,[]⟩ (g.evs.take r.1.evs.length) r.1.sealed=Sg.bt n ⟨g.bq,g.ba,g.evs.take r.1.evs.length,r.1.sealed⟩:=rfl
  rw[v]at hpre f
  have G:(Sg.bt n ⟨g.bq,g.ba,g.evs.take r.1.evs.length,r.1.sealed⟩).length=r.1.size.toNat:=by
   rw[←f,List.length_take,List.length_take]
   omega
  refine⟨r.1.evs.length,r.1.sealed,x,j,?_,?_,by omega⟩
  ·rw[f]
   have p:((g.bt n).take k).length=k:=by rw[List.length_take];omega
   rw[p]
   have hlen:(g.evs.take r.1.evs.length).length≤100000:=by rw[List.length_take];omega
   have o:aT (Sg.bt n ⟨g.bq,g.ba,g.evs.take r.1.evs.length,r.1.sealed⟩) bP=((Sg.pr n ⟨g.bq,g.ba,g.evs.take r.1.evs.length,r.1.sealed⟩).s,(Sg.pr n ⟨g.bq,g.ba,g.evs.take r.1.evs.length,r.1.sealed⟩).st):=by
    unfold Sg.pr Sg.c Sg.c0 Sg.bt Sg.c0
    cases hd:r.1.sealed with
    | false=>rw[mV l i j hlen];simp
    | true=>rw[jk l i j hlen];simp
   rw[o]
  ·conv=>lhs;rw[hpre]
   rw[List.take_append,List.take_of_length_le (Nat.le_refl _)]
   simp
end
section
open Go.RowKit
def aY (gs:List Sg):List Evt:=gs.flatMap (fun g=>g.evs)
theorem pR (c:Cx):∀ (l:List Evt),okL c l→(eL c l).length≤111*l.length
 | [],_=>by simp[eL]
 | e::l,h=>by
   have a:=gJ h.1
   have b:=pR (bJ c e) l h.2
   simp only[eL,List.length_append,aW,List.length_cons]
   omega
theorem xE {n:Nat} {s:St} (g:n≤99999999) (b:bD s):(aS (n:Int) s.q s.a).length≤30:=by
 obtain⟨-,d,e,c,f,-⟩:=b
 exact jG (by omega) (by omega) (by omega)
theorem mB {n:Nat} {s:St} (b:n≤99999999) (c:bD s):(av 1 (aR++aS (n:Int) s.q s.a)).length≤41:=by
 have:=xE b c
 rw[aW,List.length_append]
 have:aR.length=4:=rfl
 omega
theorem mK {n:Nat} {s:St} (b:n≤99999999) (c:bD s):(av 3 (aS (n:Int) s.q s.a)).length≤37:=by
 have:=xE b c
 rw[aW]
 omega
theorem yf {c:Cx} {e:Evt} (h:eG c e=0):(av 2 (aQ c e)).length≤111:=by
 have:=gJ h
 rw[aW]
 omega
theorem BQ {s t:St} {g:Sg} (h:qj s g t) (b:bD s) {n:Nat} (l:n≤99999999) (j:g.evs.length≤99999999):(g.bt n).length≤78+111*g.evs.length:=by
 have k:=(eU _ _ _ b h.2.2.2.2).1
 have c:=h.ctx
 have o:=mB l b
 have p:=pR _ _ h.2.2.2.1
 have m:=mK j k
 unfold Sg.bt eo
 have e:g.c0.q=s.q:=h.1
 have i:g.c0.a=s.a:=h.2.1
 have d:(ei g.c0 g.evs).q=t.q:=c.1
 have f:(ei g.c0 g.evs).a=t.a:=c.2
 rw[e,i,d,f,List.length_append,List.length_append]
 split
 ·omega
 ·simp only[List.length_nil];omega
theorem pK:∀ (gs:List Sg) (s t:St),jd s gs t→bD s→t.q=s.q+(aY gs).length∧gs.length≤(aY gs).length ∧ ∀ g ∈ gs,g.evs.length≤(aY gs).length
 | [],s,t,h,hs=>by simp only[jd]at h;subst h;simp[aY]
 | g::gs,s,t,⟨u,g1,g2,g3⟩,hs=>by
   have d:=eU _ _ _ hs g1.2.2.2.2
   obtain⟨f,i,b⟩:=pK gs u t g3 d.1
   have e:aY (g::gs)=g.evs++aY gs:=by simp[aY]
   have c:g.evs.length≠0:=fun h=>g1.2.2.1 (List.eq_nil_of_length_eq_zero h)
   rw[e,List.length_append,List.length_cons]
   refine⟨by omega,by omega,fun x a=>?_⟩
   rcases List.mem_cons.1 a with rfl | a
   ·omega
   ·have:=b x a;omega
theorem lB:∀ (gs:List Sg) (fs:List Fil) (n:Nat) (s t:St),bg n fs gs→jd s gs t→bD s→n+gs.length≤99999999→(aY gs).length≤99999999→aA fs≤78*gs.length+111*(aY gs).length
 | [],[],n,s,t,_,_,_,_,_=>by simp[aA]
 | g::gs,f::fs,n,s,t,⟨f1,f2,f3⟩,⟨u,g1,g2,g3⟩,hs,hn,hl=>by
   have e:aY (g::gs)=g.evs++aY gs:=by simp[aY]
   rw[e,List.length_append]at hl ⊢
   rw[List.length_cons]at hn ⊢
   have a:=eU _ _ _ hs g1.2.2.2.2
   have ih:=lB gs fs (n+1) u t f3 g3 a.1 (by omega) (by omega)
   have b:=BQ g1 hs (n:=n+1) (by omega) (by omega)
   rw[bH,f2]
   omega
 | [],_::_,_,_,_,h,_,_,_,_=>h.elim
 | _::_,[],_,_,_,h,_,_,_,_=>h.elim
theorem yt {n:Nat} (h:n≤99999999):snB (az n)=false:=by
 have a:=eF n
 unfold snB
 have e:((az n).extract 0 5).toList=(([115,101,103,46]++kQ n):List UInt8).take 5:=by
  rw[ByteArray.toList_eq,ByteArray.data_extract,Array.toList_extract,a]
  rfl
 rw[e]
 have:((([115,101,103,46]++kQ n):List UInt8).take 5 == [115,110,97,112,46])=false:=by simp
 rw[this,Bool.and_false]
theorem jJ:∀ (gs:List Sg) (n:Nat) (p:Prt),p ∈ aJ n gs→(p.al:Int)=p.s.size
 | g::gs,n,p,h=>by
   simp only[aJ,List.mem_cons]at h
   rcases h with rfl | h
   ·rfl
   ·exact jJ gs (n+1) p h
section
variable {room:Int} {k:Nat} {fs:List Fil} {gs:List Sg} {t:St} {su:Int}
end
theorem eB (l:List Sg) (g:Sg):aY (l ++ [g])=aY l++g.evs:=by simp[aY]
end
section
open Go.RowKit
def mO (s:St) (g:Sg) (t:St):Prop:=g.bq=s.q∧g.ba=s.a∧okL g.c0 g.evs∧cC s g.evs=some t
def dY:St→List Sg→St→Prop
 | s,[],t=>s=t
 | s,g::l,t => ∃ u,mO s g u∧(l ≠ []→g.sd=true)∧dY u l t
theorem qj.weak {s t:St} {g:Sg} (h:qj s g t):mO s g t:=⟨h.1,h.2.1,h.2.2.2.1,h.2.2.2.2⟩
theorem jd.weak:∀ {gs:List Sg} {s t:St},jd s gs t→dY s gs t
 | [],_,_,h=>h
 | _::_,_,_,⟨u,h1,h2,h3⟩=>⟨u,h1.weak,h2,h3.weak⟩
theorem gN:∀ (gs:List Sg) (g:Sg) (s t:St),dY s (gs ++ [g]) t ↔ ∃ u,dY s gs u∧(∀ x ∈ gs,x.sd=true)∧mO u g t
 | [],g,s,t=>by
   constructor
   ·rintro⟨u,a,-,b⟩
    simp only[dY]at b
    subst b
    exact⟨s,rfl,by simp,a⟩
   ·rintro⟨u,a,-,b⟩
    simp only[dY]at a
    subst a
    exact⟨t,b,by simp,rfl⟩
 | x::gs,g,s,t=>by
   constructor
   ·rintro⟨u,a,b,f⟩
    obtain⟨v,e,c,d⟩:=(gN gs g u t).1 f
    refine⟨v,⟨u,a,fun _=>b (by simp),e⟩,fun y hy=>?_,d⟩
    rcases List.mem_cons.1 hy with rfl | hy
    ·exact b (by simp)
    ·exact c y hy
   ·rintro⟨v,⟨u,a,b,e⟩,c,d⟩
    exact⟨u,a,fun _=>c x (by simp),(gN gs g u t).2 ⟨v,e,fun y hy=>c y (by simp[hy]),d⟩⟩
theorem mO.ctx {s t:St} {g:Sg} (h:mO s g t):g.c.q=t.q∧g.c.a=t.a:=rZ _ _ s t h.1 h.2.1 h.2.2.2
theorem mO.right {s t:St} {g:Sg} (h:mO s g t) (d:bD s):aN g.c0=true:=by
 obtain⟨f,b,a,c,e,i⟩:=d
 unfold Sg.c0
 rw[h.1,h.2.1]
 unfold aN
 simp[b,a,c,e,cK]
theorem zM {s t:St} {g:Sg} (h:mO s g t) (i:bD s) (n:Nat) (j:1≤n) (k:n≤99999999) (d:g.evs.length≤100000):ej (g.bt n)=g.pr n:=by
 have f:eE (n:Int)=true:=by unfold eE;simp;omega
 have b:=h.right i
 have a:aT (g.bt n) bP=((g.pr n).s,(g.pr n).st):=by
  unfold Sg.pr Sg.c Sg.c0 Sg.bt Sg.c0
  cases hd:g.sd with
  | false=>rw[mV f b h.2.2.1 d];simp
  | true=>rw[jk f b h.2.2.1 d];simp
 unfold ej
 have e:(aT (g.bt n) bP).1.size.toNat=(g.bt n).length:=by rw[a];simp[Sg.pr]
 rw[e,List.take_length,a]
 rfl
theorem row_step {l:List Sg} {g:Sg} {f:Fil} {p:Prt} {u:St} (v:l.length+1≤99999999) (o:f.nm=az (l.length+1)) (e:ej f.all=p) (b:p.s.num=((l.length+1:Nat):Int)) (k:p.s.bq=u.q∧p.s.ba=u.a) (w:∀ x ∈ l,x.sd=true) (t:∀ q,(aJ 0 l).getLast?=some q→q.s.c.q=u.q∧q.s.c.a=u.a):bA (aJ 0 l,[]) f=(aJ 0 l ++ [p],[]):=by
 have h:gZ f.nm=l.length+1:=by rw[o];exact iA v
 have j:EY (aJ 0 l,[]) f:=by
  refine⟨rfl,by rw[e,b,h],fun a d=>?_⟩
  have m:=t a d
  rcases List.eq_nil_or_concat l with rfl | ⟨l',g',rfl⟩
  ·simp[aJ]at d
  ·rw[List.concat_eq_append]at *
   rw[cQ,List.getLast?_append,List.getLast?_singleton,Option.some_or,Option.some.injEq]at d
   subst d
   have i:=w g' (by simp)
   rw[e]
   unfold wT
   have n:(g'.pr (0+l'.length+1)).st=4:=by unfold Sg.pr;simp[i]
   have r:(g'.pr (0+l'.length+1)).s.num=((0+l'.length+1:Nat):Int):=rfl
   rw[n,r,b,m.1,m.2,k.1,k.2]
   simp
 unfold bA
 rw[if_neg (by omega),if_pos j,e]
theorem jn:∀ (gs:List Sg) (s t:St),dY s gs t→bD s→bD t
 | [],s,t,h,hs=>by simp only[dY]at h;subst h;exact hs
 | g::gs,s,t,⟨u,h1,_,h2⟩,hs=>jn gs u t h2 (eU _ _ _ hs h1.2.2.2).1
theorem fP:∀ (gs:List Sg) (n:Nat) (s t:St),dY s gs t → ∀ p,(aJ n gs).getLast?=some p→p.s.c.q=t.q∧p.s.c.a=t.a
 | [],n,s,t,h,p,hp=>by simp[aJ]at hp
 | [g],n,s,t,⟨u,g1,g2,g3⟩,p,hp=>by
   simp only[aJ,List.getLast?_singleton,Option.some.injEq]at hp
   subst hp
   simp only[dY]at g3
   subst g3
   exact g1.ctx
 | g::g'::gs,n,s,t,⟨u,g1,g2,g3⟩,p,hp=>fP (g'::gs) (n+1) u t g3 p (by simpa [aJ] using hp)
theorem lO (gs:List Sg):∀ (fs:List Fil) (s t:St),s=⟨[],0,0⟩→bg 0 fs gs→dY s gs t→gs.length≤99999999→(∀ g ∈ gs,g.evs.length≤100000)→cU fs=(aJ 0 gs,[]):=by
 obtain⟨n,j⟩:∃ n,gs.length=n:=⟨_,rfl⟩
 induction n generalizing gs with
 | zero=>
   intro fs s t _ e _ _ _
   obtain rfl:=List.eq_nil_of_length_eq_zero j
   obtain rfl:fs = []:=List.eq_nil_of_length_eq_zero (by rw[e.len];rfl)
   rfl
 | succ n ih=>
   intro fs s t a e p r m
   rcases List.eq_nil_or_concat gs with rfl | ⟨l,g,rfl⟩
   ·simp at j
   rw[List.concat_eq_append]at *
   rw[List.length_append,List.length_singleton]at j r
   obtain⟨fa,f,rfl,h,b,c⟩:=e.last
   obtain⟨u,i,q,d⟩:=(gN l g s t).1 p
   have w:=jn _ _ _ i (by rw[a];exact bI)
   rw[Nat.zero_add]at b c
   have k:=ih l (by omega) fa s u a h i (by omega) (fun x v=>m x (by simp[v]))
   have o:ej f.all=g.pr (l.length+1):=by rw[c];exact zM d w _ (by omega) (by omega) (m g (by simp))
   unfold cU at k ⊢
   rw[List.foldl_append,k,List.foldl_cons,List.foldl_nil,row_step (g:=g) (by omega) b o rfl ⟨d.1,d.2.1⟩ q (fP l 0 s u i),cQ,Nat.zero_add]
theorem pX (k:Int):∀ (gs:List Sg) (n:Nat) (s t:St),dY s gs t→bD s→k≤s.q→jh k (aJ n gs) s=some t
 | [],n,s,t,h,_,_=>by simp only[dY]at h;subst h;rfl
 | g::gs,n,s,t,⟨u,g1,g2,g3⟩,hs,hk=>by
   have a:=eU _ _ _ hs g1.2.2.2
   have d:=g1.ctx
   unfold aJ jh
   have b:((g.pr (n+1)).s.evs.length:Int)=(g.pr (n+1)).s.c.q-(g.pr (n+1)).s.bq:=by
    show(g.evs.length:Int)=g.c.q-g.bq
    rw[d.1,g1.1,a.2]
    omega
   rw[if_pos b]
   have e:iK k (g.pr (n+1)).s.evs s=some u:=by
    rcases oK k g.evs s hk with h | h
    ·rw[←g1.2.2.2];exact h
    ·rw[g1.2.2.2]at h;cases h
   rw[e]
   exact pX k gs (n+1) u t g3 a.1 (by rw[a.2];omega)
theorem mC:∀ (a b:List Evt) (s:St),cC s (a++b)=(cC s a).bind fun u=>cC u b
 | [],b,s=>rfl
 | e::a,b,s=>by
   show(if cH s e=0 then cC (aZ s e) (a++b) else none)=(if cH s e=0 then cC (aZ s e) a else none).bind fun u=>cC u b
   by_cases c:cH s e=0
   ·rw[if_pos c,if_pos c]
    exact mC a b _
   ·rw[if_neg c,if_neg c]
    rfl
theorem qF:∀ (l:List Evt) (s u x:St) (k:Int),cC s l=some u→s.q+l.length≤k→iK k l x=some x
 | [],s,u,x,k,_,_=>rfl
 | e::l,s,u,x,k,h,hk=>by
   unfold cC at h
   by_cases a:cH s e=0
   ·rw[if_pos a]at h
    have b:=(gz a).2.1
    rw[List.length_cons]at hk
    unfold iK
    rw[if_pos (by omega)]
    exact qF l _ u x k h (by rw[(fu s e).1];omega)
   ·rw[if_neg a]at h;cases h
theorem ur:∀ (l:List Evt) (s u x:St) (k:Int),cC s l=some u→s.q≤k→k≤s.q+l.length→cC s (l.take (k-s.q).toNat)=some x→iK k l x=some u
 | [],s,u,x,k,h,hk,hk2,hx=>by
   simp only[List.take_nil,cC,Option.some.injEq]at h hx
   subst h hx
   rfl
 | e::l,s,u,x,k,h,hk,hk2,hx=>by
   rw[List.length_cons]at hk2
   by_cases g:s.q=k
   ·have f:(k-s.q).toNat=0:=by omega
    rw[f]at hx
    simp only[List.take_zero,cC,Option.some.injEq]at hx
    subst hx
    rcases oK k (e::l) s (by omega) with b | b
    ·rw[b,h]
    ·rw[h]at b;cases b
   ·unfold cC at h
    by_cases a:cH s e=0
    ·rw[if_pos a]at h
     have d:=(gz a).2.1
     have c:(k-s.q).toNat=(k-(aZ s e).q).toNat+1:=by rw[(fu s e).1];omega
     rw[c,List.take_succ_cons]at hx
     unfold cC at hx
     rw[if_pos a]at hx
     unfold iK
     rw[if_pos (by omega)]
     exact ur l _ u x k h (by rw[(fu s e).1];omega) (by rw[(fu s e).1];omega) hx
    ·rw[if_neg a]at h;cases h
theorem lC (g:Sg) (gs:List Sg):aY (g::gs)=g.evs++aY gs:=by simp[aY]
theorem ou:∀ (gs:List Sg) (s t:St),dY s gs t→bD s→t.q=s.q+(aY gs).length∧cC s (aY gs)=some t
 | [],s,t,h,hs=>by simp only[dY]at h;subst h;simp[aY,cC]
 | g::gs,s,t,⟨u,g1,g2,g3⟩,hs=>by
   have b:=eU _ _ _ hs g1.2.2.2
   obtain⟨c,a⟩:=ou gs u t g3 b.1
   rw[lC,List.length_append,mC,g1.2.2.2]
   exact⟨by omega,a⟩
theorem qX (k0:St):∀ (gs:List Sg) (n:Nat) (s t:St),dY s gs t→bD s→s.q≤k0.q→k0.q≤t.q→cC s ((aY gs).take (k0.q-s.q).toNat)=some k0→jh k0.q (aJ n gs) k0=some t
 | [],n,s,t,h,hs,h1,h2,hx=>by
   simp only[dY]at h
   subst h
   simp only[aY,List.flatMap_nil,List.take_nil,cC,Option.some.injEq]at hx
   subst hx
   rfl
 | g::gs,n,s,t,⟨u,g1,g2,g3⟩,hs,h1,h2,hx=>by
   have a:=eU _ _ _ hs g1.2.2.2
   have d:=g1.ctx
   unfold aJ jh
   have b:((g.pr (n+1)).s.evs.length:Int)=(g.pr (n+1)).s.c.q-(g.pr (n+1)).s.bq:=by
    show(g.evs.length:Int)=g.c.q-g.bq
    rw[d.1,g1.1,a.2]
    omega
   rw[if_pos b]
   show(iK k0.q g.evs k0).bind (jh k0.q (aJ (n+1) gs))=some t
   rw[lC]at hx
   by_cases f:k0.q≤u.q
   ·rw[List.take_append_of_le_length (by omega)]at hx
    rw[ur g.evs s u k0 k0.q g1.2.2.2 h1 (by omega) hx]
    exact pX k0.q gs (n+1) u t g3 a.1 f
   ·rw[List.take_append,List.take_of_length_le (by omega),mC,g1.2.2.2]at hx
    rw[qF g.evs s u k0 k0.q g1.2.2.2 (by omega)]
    refine qX k0 gs (n+1) u t g3 a.1 (by omega) h2 ?_
    have e:(k0.q-s.q).toNat-g.evs.length=(k0.q-u.q).toNat:=by omega
    rw[e]at hx
    exact hx
end
section
open Go.RowKit
abbrev zS:St:=⟨[],0,0⟩
def snF (s:St):Fil:=⟨cx s.q.toNat,cW s,[]⟩
def kOf (ss:List St):St:=ss.getLast?.getD zS
structure jA (ss:List St) (ev:List Evt):Prop where
 pre:∀ s ∈ ss,bD s∧s.q≤ev.length∧cC zS (ev.take s.q.toNat)=some s
 asc:ss.Pairwise (fun a b=>a.q<b.q)
theorem jA.more {ss:List St} {ev:List Evt} (h:jA ss ev) (l:List Evt):jA ss (ev++l):=⟨fun s c=>by
 obtain⟨a,d,b⟩:=h.pre s c
 have:=a.2.1
 rw[List.take_append_of_le_length (by omega),List.length_append]
 exact⟨a,by omega,b⟩,h.asc⟩
theorem yb {ss:List St}:kOf ss ∈ ss∨(ss = []∧kOf ss=zS):=by
 unfold kOf
 cases h:ss.getLast? with
 | none=>exact .inr ⟨List.getLast?_eq_none_iff.1 h,rfl⟩
 | some s=>exact .inl (List.mem_of_getLast? h)
theorem jA.k {ss:List St} {ev:List Evt} (h:jA ss ev):bD (kOf ss)∧(kOf ss).q≤ev.length∧cC zS (ev.take (kOf ss).q.toNat)=some (kOf ss):=by
 rcases yb (ss:=ss) with a | ⟨-,a⟩
 ·exact h.pre _ a
 ·rw[a];exact⟨bI,by show(0:Int)≤_;omega,rfl⟩
theorem yK (l:List Fil) (c:Option St):(l.map fun _=>(none:Option St)).foldl ie c=c:=by
 induction l generalizing c with
 | nil=>rfl
 | cons x l ih=>exact ih c
theorem uy:∀ (ss:List St) (c:Option St),ss.Pairwise (fun a b=>a.q<b.q)→(∀ s ∈ ss,(c.getD ⟨[],-1,0⟩).q<s.q)→(ss.map some).foldl ie c=ss.getLast?.or c
 | [],c,_,_=>rfl
 | s::ss,c,h,hc=>by
   obtain⟨d,f⟩:=List.pairwise_cons.1 h
   have e:ie c (some s)=some s:=by
    have:=hc s (by simp)
    unfold ie
    simp only
    rw[if_neg (by omega)]
   rw[List.map_cons,List.foldl_cons,e,uy ss (some s) f (fun x g=>d x g),List.getLast?_cons]
   cases ss.getLast?<;>simp
theorem uZ (n:Nat):preB (cx n)=false:=by
 have a:=eA n
 unfold preB
 have e:((cx n).extract 0 4).toList = [115,110,97,112]:=by
  rw[ByteArray.toList_eq,ByteArray.data_extract,Array.toList_extract,a]
  rfl
 rw[e,show(([115,110,97,112]:List UInt8) == [115,101,103,46])=false from rfl,Bool.and_false]
theorem mR (ss:List St):Beh (ss.map snF):=by
 intro d a n b
 obtain⟨s,-,rfl⟩:=List.mem_map.1 a
 show ltB (az n) (cx s.q.toNat)=true
 unfold ltB
 rw[ByteArray.toList_eq,ByteArray.toList_eq,eF,eA]
 rfl
theorem qY {s:St} (h:bD s):(cW s).length≤7310:=by
 have:=ot h
 unfold cW fK
 simp[fm]
 omega
section
variable {room:Int} {fa fs:List Fil} {gs:List Sg} {ss:List St} {t:St} {ev:List Evt}
theorem oL (c:∀ f ∈ fa,snB f.nm=false) (d:jA ss ev) (j:ev.length≤40):∃ sl:List (Option St),sl.length=(fa++ss.map snF).length∧(∀ (i:Nat) f o,(fa++ss.map snF)[i]?=some f→sl[i]?=some o→vR f o)∧(sl.foldl ie none).getD zS=kOf ss:=by
 refine⟨(fa.map fun _=>none)++ss.map some,by simp,fun i f o a b=>?_,?_⟩
 ·by_cases e:i<fa.length
  ·rw[List.getElem?_append_left e]at a
   rw[List.getElem?_append_left (by simpa using e),List.getElem?_map,a]at b
   simp only[Option.map_some,Option.some.injEq]at b
   subst b
   exact c f (List.mem_of_getElem? a)
  ·rw[List.getElem?_append_right (by omega),List.getElem?_map]at a
   rw[List.getElem?_append_right (by simpa using e),List.length_map,List.getElem?_map]at b
   cases hx:ss[i-fa.length]? with
   | none=>rw[hx]at a;cases a
   | some s=>
     rw[hx]at a b
     simp only[Option.map_some,Option.some.injEq]at a b
     subst a b
     obtain⟨g,k,-⟩:=d.pre s (List.mem_of_getElem? hx)
     exact⟨g,by omega,rfl,by simp[snF,Fil.all]⟩
 ·rw[List.foldl_append,yK,uy ss none d.asc (fun s h=>by have:=(d.pre s h).1.2.1;show(-1:Int)<s.q;omega)]
  unfold kOf
  cases ss.getLast?<;>rfl
theorem nk (acc:List Prt×List ByteArray) (ss:List St):(ss.map snF).foldl bA acc=acc:=by
 induction ss generalizing acc with
 | nil=>rfl
 | cons s ss ih=>
   rw[List.map_cons,List.foldl_cons]
   have e:bA acc (snF s)=acc:=by
    unfold bA
    rw[if_pos (by unfold gZ snF;simp only;rw[uZ];simp)]
   rw[e]
   exact ih acc
theorem pN (c:bg 0 fa gs) (l:gs.length≤99999999) (h:jA ss ev) (j:ev.length≤40) (i:∀ f ∈ fa,f.all.length≤10000):(∀ f ∈ fa++ss.map snF,uF f.nm)∧(∀ f ∈ fa++ss.map snF,f.all.length≤10000) ∧ ∀ f ∈ fa,snB f.nm=false:=by
 have d:∀ f ∈ fa,∃ m,1≤m∧m≤99999999∧f.nm=az m:=fun f a=>by
  obtain⟨m,k,e,b⟩:=c.nm f a
  exact⟨m,by omega,by omega,b⟩
 refine⟨fun f a=>?_,fun f a=>?_,fun f a=>?_⟩
 ·rcases List.mem_append.1 a with a | a
  ·exact .inr (d f a)
  ·obtain⟨s,-,rfl⟩:=List.mem_map.1 a
   exact .inl (uZ _)
 ·rcases List.mem_append.1 a with a | a
  ·exact i f a
  ·obtain⟨s,g,rfl⟩:=List.mem_map.1 a
   have:=qY (h.pre s g).1
   show((cW s) ++ []).length≤10000
   rw[List.append_nil]
   omega
 ·obtain⟨m,k,e,b⟩:=d f a
  rw[b]
  exact yt e
theorem sG (o:fs=fa++ss.map snF) (m:bg 0 fa gs) (a:dY zS gs t) (v:cj ⟨fs,room⟩) (d:jA ss ev) (j:ev.length≤40) (c:gs ≠ []→(kOf ss).q≤t.q∧cC zS ((aY gs).take (kOf ss).q.toNat)=some (kOf ss)) (n:gs = []→kOf ss=zS)
 (s:∀ g ∈ gs,g.evs.length≤40) (B:gs.length≤64) (A:∀ f ∈ fa,f.all.length≤10000):cR fs room (aJ 0 gs) [] (kOf ss) t:=by
 subst o
 obtain⟨y,w,x⟩:=pN m (by omega) d j A
 have hrows:cU (fa++ss.map snF)=(aJ 0 gs,[]):=by
  have:=lO gs fa zS t rfl m a (by omega) (fun g h=>by have:=s g h;omega)
  unfold cU at this ⊢
  rw[List.foldl_append,this,nk]
 have r:=jn _ _ _ a bI
 have i:(kOf ss).q≤t.q:=by
  by_cases h:gs = []
  ·rw[n h];exact r.2.1
  ·exact(c h).1
 refine⟨v,y,oL x d j,w,⟨_,_,hrows,.inl ⟨rfl,rfl,fun p c=>?_⟩⟩,?_,fun p b=>?_,fun p c=>(fP gs 0 _ t a p c).2,d.k.1⟩
 ·rw[(fP gs 0 _ t a p c).1];exact i
 ·by_cases h:gs = []
  ·subst h
   simp only[dY]at a
   rw[n rfl,←a]
   rfl
  ·exact qX _ gs 0 _ t a bI d.k.1.2.1 i (by
    have e:((kOf ss).q-zS.q).toNat=(kOf ss).q.toNat:=by show((kOf ss).q-0).toNat=_;omega
    rw[e]
    exact(c h).2)
 ·cases gs with
  | nil=>simp[aJ]at b
  | cons g l=>
    obtain⟨u,z,-⟩:=a
    simp only[aJ,List.getElem?_cons_zero,Option.some.injEq]at b
    subst b
    show g.bq≤_
    rw[z.1]
    exact d.k.1.2.1
end
end
section
open Go.RowKit
def JG (room:Int) (k:Nat) (fs:List Fil) (gs:List Sg) (ss:List St) (t:St) (su:Int):Prop:=
 WI (ss.map snF) room fs ((aJ 0 gs).map aD) (aa (aJ 0 gs)) gs t∧jA ss (aY gs)∧t.q≤k∧k≤40∧(kOf ss).q≤su∧su≤t.q
section
variable {room:Int} {k:Nat} {fs:List Fil} {gs:List Sg} {ss:List St} {t:St} {su:Int}
theorem JG.ok (h:JG room k fs gs ss t su):bD t:=kj _ _ _ h.1.goes bI
theorem JG.sizes (h:JG room k fs gs ss t su):t.q=(aY gs).length∧gs.length≤(aY gs).length∧(∀ g ∈ gs,g.evs.length≤40)∧(aY gs).length≤40:=by
 obtain⟨a,c,b⟩:=pK _ _ _ h.1.goes bI
 have i:=h.2.2.1
 have f:=h.2.2.2.1
 have e:(⟨[],0,0⟩:St).q=0:=rfl
 rw[e]at a
 exact⟨by omega,c,fun g d=>by have:=b g d;omega,by omega⟩
theorem nI:∀ (gs:List Sg) (fs:List Fil) (n:Nat) (s t:St),bg n fs gs→dY s gs t→bD s→n+gs.length≤99999999→(∀ g ∈ gs,g.evs.length≤40) → ∀ f ∈ fs,f.all.length≤5000
 | [],[],n,s,t,_,_,_,_,_=>by simp
 | g::gs,f::fs,n,s,t,⟨f1,f2,f3⟩,⟨u,g1,g2,g3⟩,hs,hn,hl=>by
   have c:=eU _ _ _ hs g1.2.2.2
   have k:=hl g (by simp)
   rw[List.length_cons]at hn
   intro x b
   rcases List.mem_cons.1 b with rfl | b
   ·have m:=mB (n:=n+1) (by omega) hs
    have o:=pR _ _ g1.2.2.1
    have l:=mK (n:=g.evs.length) (by omega) c.1
    have b:=g1.ctx
    rw[f2]
    unfold Sg.bt eo
    have e:g.c0.q=s.q:=g1.1
    have j:g.c0.a=s.a:=g1.2.1
    have d:(ei g.c0 g.evs).q=u.q:=b.1
    have i:(ei g.c0 g.evs).a=u.a:=b.2
    rw[e,j,d,i,List.length_append,List.length_append]
    split
    ·omega
    ·simp only[List.length_nil];omega
   ·exact nI gs fs (n+1) u t f3 g3 c.1 (by omega) (fun y hy=>hl y (by simp[hy])) x b
 | [],_::_,_,_,_,h,_,_,_,_=>h.elim
 | _::_,[],_,_,_,h,_,_,_,_=>h.elim
theorem JG.look (h:JG room k fs gs ss t su):cR fs room (aJ 0 gs) [] (kOf ss) t:=by
 obtain⟨o,p,d,l⟩:=h.sizes
 obtain⟨fa,c,a⟩:=h.1.fa
 have n:=h.2.1.k
 have g:=h.1.goes.weak
 have m:=nI _ _ _ _ _ a g bI (by omega) d
 refine sG c a g h.1.dk h.2.1 l (fun _=>⟨by omega,n.2.2⟩) (fun e=>?_) d (by omega) (fun f j=>by have:=m f j;omega)
 subst e
 rcases yb (ss:=ss) with b | b
 ·obtain⟨-,-,i⟩:=h.2.1.pre _ b
  simp only[aY,List.flatMap_nil,List.take_nil,cC,Option.some.injEq]at i
  exact i.symm
 ·exact b.2
theorem JG.al (h:JG room k fs gs ss t su):∀ p ∈ aJ 0 gs,(p.al:Int)≤p.s.size:=fun p a=>by rw[jJ gs 0 p a];exact Int.le_refl _
theorem oI {gs:List Sg} {t:St} (h:dY zS gs t):(aa (aJ 0 gs)).ns.length≤32:=by
 rcases List.eq_nil_or_concat gs with rfl | ⟨l,g,rfl⟩
 ·simp[aJ,aa]
 ·rw[List.concat_eq_append]at *
  rw[fM]
  split
  ·simp
  ·obtain⟨u,c,-,b⟩:=(gN l g _ t).1 h
   have a:=kz _ _ (b.right (jn _ _ _ c bI)) b.2.2.1
   unfold aN cK at a
   simp only[Bool.and_eq_true,decide_eq_true_eq]at a
   exact a.2.1
theorem JG.ns (h:JG room k fs gs ss t su):(aa (aJ 0 gs)).ns.length≤32:=oI h.1.goes.weak
theorem JG.last {l:List Sg} {g:Sg} (h:JG room k fs (l ++ [g]) ss t su):(∀ x ∈ l,x.sd=true)∧(aD (g.pr (l.length+1))).num=((l.length+1:Nat):Int)∧1≤l.length+1∧l.length+1≤40∧(aD (g.pr (l.length+1))).fi<(aD (g.pr (l.length+1))).la ∧
 (aD (g.pr (l.length+1))).la-(aD (g.pr (l.length+1))).fi=(g.evs.length:Int)∧g.evs.length≤40∧(0≤(aD (g.pr (l.length+1))).sz∧(aD (g.pr (l.length+1))).sz≤1000000)∧(0≤(aD (g.pr (l.length+1))).fr∧(aD (g.pr (l.length+1))).fr≤1099511627776) ∧
 (aD (g.pr (l.length+1))).sd=g.sd∧aN g.c=true∧g.c.q=t.q∧g.c.a=t.a:=by
 obtain⟨z,o,j,A⟩:=h.sizes
 obtain⟨u,f,i,b⟩:=(eH l g _ t).1 h.1.goes
 have e:=kj _ _ _ f bI
 have C:=eU _ _ _ e b.2.2.2.2
 have p:=b.ctx
 have r:g.evs.length≠0:=fun h=>b.2.2.1 (List.eq_nil_of_length_eq_zero h)
 have d:=j g (by simp)
 have v:=BQ b e (n:=l.length+1) (by simp at o;omega) (by omega)
 have hlen:(l ++ [g]).length=l.length+1:=by simp
 have s:=b.1
 have m:=b.2.1
 obtain⟨-,y,D,B,w,-⟩:=e
 rw[gW]
 simp only
 exact⟨i,trivial,by omega,by omega,by omega,by omega,d,⟨by omega,by omega⟩,⟨by omega,by omega⟩,trivial,kz _ _ (b.right (kj _ _ _ f bI)) b.2.2.2.1,p⟩
theorem JG.of {sg:List Sgi} {c:Cx} (h:WI (ss.map snF) room fs sg c gs t) (a:jA ss (aY gs)) (i:t.q≤k) (g:k≤40) (f:(kOf ss).q≤su) (b:su≤t.q):JG room k fs gs ss t su∧sg=(aJ 0 gs).map aD∧c=aa (aJ 0 gs):=by
 have d:=h.sg
 have e:=h.c
 subst d e
 exact⟨⟨h,a,i,g,f,b⟩,rfl,rfl⟩
end
end
section
open Go.RowKit
set_option maxHeartbeats 6000000 in
theorem sM  (fs:List Fil) (room:Int) (ps:List Prt) (k0 t:St) (h:cR fs room ps [] k0 t) (bl:∀ p ∈ ps,(p.al:Int)≤p.s.size) (b d:Int) (bo:dH b d=true) (A:Option Addr) (n o:Nat) (S:Option Addr) (H:Nat) (N:Option Addr) (nn M:Nat) (C:Option Addr) (k y:Nat) (z:Int) (be:k0.q≤z∧z≤t.q) (D:bD t)
 (X:List Nat) (w:World) (hX:XOk X w) (u:Sl ax w X A n o fs) (F:Sl bw w X S 0 H (ps.map aD)) (O:Sl af w X N nn M (aa ps).ns) (bp:nn≤1000) (x:Sl aI w X C k y t.cs) (Z:aV w)
 (eq ea J:Int) (i:ByteArray) (ex I L:Int) (ao:i.size≤maxLen) (hm:cH t ⟨t.q+1,ea,J,i,ex,I,L⟩=0) (aw:ps.map aD = [])
 (j l:List UInt8) (hc:kZ (((0+1):Nat):Int) ⟨t.q,t.a,[]⟩=(j,0)) (ag:j.length≤1000) (ac:av 2 (aQ ⟨t.q,t.a,[]⟩ ⟨t.q+1,ea,J,i,ex,I,L⟩)=l) (ad:l.length≤1000) (hrun:fs.length<64∧(aA fs:Int)+((j.length:Int)+(l.length:Int))≤room→fG room [.mk (az (0+1)),.wr (az (0+1)) j,.wr (az (0+1)) l] fs):
 Calls Tryz.prog 10 #[.agg (jnA A n o room b d S 0 H (aa ps).q (aa ps).a N nn M C k y t.q t.a z k0.q false).toArray,.agg #[.int .i64 eq,.int .i64 ea,.int .i64 J,.string i,.int .i64 ex,.int .i64 I,.int .i64 L]] w (vW (fs.length<64∧(aA fs:Int)+((j.length:Int)+(l.length:Int))≤room) (JPc (cF [.mk (az (0+1)),.wr (az (0+1)) j,.wr (az (0+1)) l] fs) room b d ([⟨(((0+1):Nat):Int),t.q,t.q+1,t.a,ea,(j.length:Int)+l.length,false⟩]) (bJ ⟨t.q,t.a,[]⟩ ⟨t.q+1,ea,J,i,ex,I,L⟩) (aZ t ⟨t.q+1,ea,J,i,ex,I,L⟩) z k0.q false 0 X w) (JPc fs room b d (ps.map aD) (aa ps) t z k0.q true 13 X w)):=by
 have ah:=gK D hm
 have bk:=Lib.hid ah
 clear ah
 have ar:n≤64:=by have h1:=u.len;have h2:=h.dk.1;simp only at h2;omega
 have hu64:aA fs≤65536:=by have h1:=h.dk.2.2.2.2.2;have h2:=h.dk.2.2.1;simp only at h1 h2;omega
 have ae:=Lib.hid hrun
 have bd:=Lib.hid hc
 have bi:=Lib.hid ac
 clear hrun hc ac
 have ab:=Lib.hid u.len
 have bs:=Lib.hid aw
 clear aw
 have bz:=D.2.2.1
 have bx:=D.2.1
 have br:wrap64 (t.q+1)=t.q+1:=by unfold wrap64;omega
 have bq:0≤64:=by
  have h1:=F.len
  have h2:=h.len64
  simp only[List.length_map]at h1
  omega
 have HM:=fun(w:World) (X:List Nat) (hX:XOk X w) (u:Sl ax w X A n o fs) (F:Sl bw w X S 0 H (ps.map aD)) (O:Sl af w X N nn M (aa ps).ns) (x:Sl aI w X C k y t.cs) (Z:aV w)=>Lib.hid (eT fs room ps k0 t h bl b d bo A n o S 0 H N nn M C k y z be false D X w hX u F O bp x Z)
 have E:=fun(w:World) (X:List Nat) (hX:XOk X w) (x:Sl aI w X C k y t.cs)=>Lib.hid (gh t ⟨t.q+1,ea,J,i,ex,I,L⟩ C k y X w hX x D ao)
 simp only[jnA,evA]at HM E ⊢
 simp only[gy,hm,if_true]at E
 obtain⟨U,ap⟩:∃ U,U=aZ t ⟨t.q+1,ea,J,i,ex,I,L⟩:=⟨_,rfl⟩
 simp only[←ap]at E ⊢
 clear ap hm
 go_enter Tryz.func10,Tryz.ntmps10
 go_upto_region 1 with(fail)
 refine(hstart hX).cw fun W K=>?_
 have K:=(((K.ksl0 x).ksl0 O).ksl0 F).ksl0 u
 clear x O F u
 go_wp2_with (first | refine K.ld 2 rfl ?_)
 refine(HM _ _ K.xok (K.sl 0 rfl) (K.sl 1 rfl) (K.sl 2 rfl) (K.sl 3 rfl) (Z.on K.below)).out.mono ?_
 rintro e w1 ⟨rfl,f⟩
 have K:=K.on f
 clear f HM
 have c2:=K.r 2 rfl
 have c1:=K.c 1 rfl
 go_upto_region 5 with(fail)
 refine K.cw fun W K=>?_
 clear c2 c1
 go_wp2_with (first | refine bF (K.sub 2 rfl 10 [.slice C k y,.int .i64 t.q,.int .i64 t.a]) ?_ | refine K.ld 1 rfl ?_)
 refine(E _ _ K.xok (K.sl 3 rfl)).out.mono ?_
 rintro e w2 ⟨C2,k2,Q,rfl,f,B⟩
 have K:=(K.on f).ksl B
 clear f B E
 go_upto_region 6 with(refine K.lw fun W K=>?_;refine K.sr 0 rfl fun W K=>?_)
 have c3:=K.r 3 rfl
 go_upto_region 10 with(fail)
 clear c3
 go_upto_region 11 with(first | refine K.ld 3 rfl ?_ | (refine K.lw fun W K=>?_;refine K.sr 0 rfl fun W K=>?_))
 have Y:=K.r 4 rfl
 go_wp2_with fail
 refine(gM S 0 H _ _ K.xok (K.sl 2 rfl) (by omega)).mono ?_
 rintro e w3 ⟨v,vs,rfl,am,ho,f⟩
 have K:=(K.kra am).nrow f ho
 clear Y f am ho
 obtain⟨G,cap,rfl,-⟩:=aK (K.row 0 rfl)
 have c1:=K.c 1 rfl
 go_upto_region 12 with(fail)
 refine K.cw fun W K=>?_
 clear c1
 have K:=(K.nrow (e:=144) (size:=1) (n:=0) (v := .slice none 0 0) (xs:=[]) (Below.refl _ _) ⟨rfl,.inl ⟨rfl,rfl⟩⟩).kra (s:=cO) (vs:=[]) (xs:=[]) rfl
 have K:=(((K.mv 2 rfl).mv 1 rfl).up 5 rfl).up 1 rfl
 go_wp2_with (first | refine K.ld 6 rfl ?_ | refine K.ld 5 rfl ?_)
 refine(zX ⟨t.q+1,ea,J,i,ex,I,L⟩ A n o room b d S H (aa ps).q (aa ps).a N nn M C k y t.q t.a z k0.q false _ _ K.xok).mono ?_
 rintro e w4 ⟨rfl,f⟩
 have K:=K.on f
 clear f
 have bb:vs = []:=by
  have h1:=(K.sl 6 rfl).len
  rw[(aO.1 (K.ra 3 rfl)).1,List.eq_nil_of_length_eq_zero h1.symm]
  rfl
 subst bb
 go_upto_region 14 with(fail)
 go_wp2_with fail
 refine(wP _ cap G _ (K.r 1 rfl 6)).mono ?_
 rintro e w5 ⟨rfl,rfl⟩
 go_wp2_with fail
 by_cases P:fs.length<64
 rotate_left
 ·obtain rfl:n=64:=by have:=ab.out;omega
  refine(oM _ 0 G cap [] _ A o _ _ _ _ _ _ _ _ _ _ _ _ _ _ _ _ _ _ _ _ K Z (rfl) (by omega) (fun kk hk=>by omega)).mono ?_
  rintro e w6 ⟨rfl,K⟩
  go_wp2_with (first | refine K.ld 6 rfl ?_)
  refine(jl A 64 o room b d S 0 H (aa ps).q (aa ps).a N nn M C k y t.q t.a z k0.q false _ _ K.xok).mono ?_
  rintro e w9 ⟨rfl,f⟩
  have K:=K.on f
  go_wp2_with (first | refine K.sr 4 rfl fun W K=>?_)
  exact K.rc2 4 rfl rfl (Or.inr ⟨fun h=>P h.1,A,64,o,S,0,H,N,nn,M,C,k,y,rfl,K.slb 5 rfl,K.slb 6 rfl,K.slb 7 rfl,K.slb 8 rfl,K.below⟩)
 have bn:n≤63:=by have:=ab.out;omega
 refine(so _ 0 G cap [] _ _ A n o _ _ _ _ _ _ _ _ _ _ _ _ _ _ _ _ _ _ _ _ K Z (rfl) (by omega) (fun kk hk=>by omega) bn (by omega) (by omega) j bd.out ag).mono ?_
 rintro e w6 ⟨S1,bv,ss1,g,cap,rfl,K⟩
 try simp only[Int.zero_add]at K
 have K:=(K.ksl (s:=af) (A:=none) (n:=0) (c:=0) (xs:=[]) Sl.nil_).up 1 rfl
 go_upto_region 16 with(fail)
 refine K.rgt (fun V h=>h.tl.tl.tl.ft.ft) fun W K=>?_
 refine tL 0 (fun _ h=>h.at_ 2 rfl) K.tl.tl.tl.ft.ft ?_ (hy:=fun w hw=>aM hw)
 refine tC 1 fun K' hK=>?_
 go_simp
 refine(mT _ g 0 cap [] ⟨(((0+1):Nat):Int),t.q,t.q,t.a,t.a,j.length,false⟩ _ _ [] ⟨t.q+1,ea,J,i,ex,I,L⟩ _ _ _ _ _ _ _ _ _ _ _ _ _ _ _ _ _ _ _ _ _ K Z (rfl) (by omega) ⟨by simp only;omega,by simp only;omega⟩ ⟨by simp only;omega,by simp only;omega⟩ (by omega) (by omega) (by omega) ao bk.out l bi.out ad).mono ?_
 rintro e w7 ⟨S2,R,ss2,A4,n4,Y,rfl,K⟩
 try simp only[Int.zero_add]at K
 refine hK.out _ _ K.tl.tl.tl.ft.ft fun _=>?_
 clear hK K'
 try simp only[Act.put,an,ai,aj]
 refine K.mor (fun V h=>h.tl.tl.tl.ft.ft) ?_
 refine tK 2 K ?_
 refine tK 3 K ?_
 refine tK 4 K ?_
 refine tL 5 (fun _ h=>h.sub 6 rfl 0 [.slice A n o,.int .i64 room,.int .i64 (-1),.bool false]) K ?_ (hy:=fun w hw=>aM hw)
 refine tK 7 K ?_
 refine tL 8 (fun _ h=>h.r 1 rfl) K ?_
 refine tK 10 K ?_
 refine tK 11 K ?_
 refine tL 12 (fun _ h=>h.r 6 rfl) K ?_
 refine tC 6 fun K' hK=>?_
 go_simp
 refine(fY fs A n o room _ _ K.xok (K.sl 7 rfl) ar hu64).mono ?_
 rintro e w8 ⟨rfl,f⟩
 have K:=K.on f
 refine hK.out _ _ K fun _=>?_
 clear hK K' f
 try simp only[Act.put,an,ai,aj]
 have bc:IntKind.i64.wrap ((aA fs:Int)+((j.length:Int)+(l.length:Int)))=(aA fs:Int)+((j.length:Int)+(l.length:Int)):=IntWalk.i64_in _ (by omega)
 by_cases hroom:(aA fs:Int)+((j.length:Int)+(l.length:Int))≤room
 rotate_left
 ·have ba:room<(aA fs:Int)+((j.length:Int)+(l.length:Int)):=by omega
  refine tK 9 K ?_
  refine tK 13 K ?_
  refine tK 14 K ?_
  refine tE ?_
  go_wp2_with (first | refine K.ld 6 rfl ?_)
  refine(jl A n o room b d S 0 H (aa ps).q (aa ps).a N nn M C k y t.q t.a z k0.q false _ _ K.xok).mono ?_
  rintro e w9 ⟨rfl,f⟩
  have K:=K.on f
  go_wp2_with (first | refine K.sr 4 rfl fun W K=>?_)
  exact K.rc2 4 rfl rfl (Or.inr ⟨fun h=>by have:=h.2;omega,A,n,o,S,0,H,N,nn,M,C,k,y,rfl,K.slb 7 rfl,K.slb 8 rfl,K.slb 9 rfl,K.slb 10 rfl,K.below⟩)
 have ba:¬ room<(aA fs:Int)+((j.length:Int)+(l.length:Int)):=by omega
 refine tK 9 K ?_
 refine tK 13 K ?_
 refine tK 14 K ?_
 refine tE ?_
 obtain⟨S3,bt,e3,KS⟩:=K.out.done_row (s:=cO) 0 rfl (K.ra 0 rfl) (by decide) (by simp)
 injection e3 with e4 e5 e6
 subst e4 e6
 have K:=KS.hh
 clear KS e5 bc ba
 have c0:=K.r 0 rfl
 go_wp2_with (first | refine bF (K.sub 5 rfl 0 [.slice A n o,.int .i64 room,.int .i64 (-1),.bool false]) ?_)
 refine(lf [.mk (az (0+1)),.wr (az (0+1)) j,.wr (az (0+1)) l] fs room S2 (0+2+1) R A n o _ _ K.xok (K.sl 8 rfl) (K.sl 0 rfl) (ae.out ⟨P,hroom⟩) (by omega)).mono ?_
 rintro e w9 ⟨B6,c6,rfl,B,f⟩
 have K:=(K.on f).ksl B
 clear f B c0
 obtain⟨T,m⟩:∃ fz,fz=cF [.mk (az (0+1)),.wr (az (0+1)) j,.wr (az (0+1)) l] fs:=⟨_,rfl⟩
 rw[←m]at K ⊢
 have bm:=Lib.hid m
 clear m
 go_upto_region 22 with(refine K.lw fun W K=>?_;refine K.sr 0 rfl fun W K=>?_)
 go_upto_region 23 with(first | refine K.ld 0 rfl ?_ | refine K.ss (new:=wA (.slice B6 T.length c6) (.int .i64 room) (.int .i64 (-1)) (.bool false) (.int .i64 b) (.int .i64 d) (some ⟨g,0,none⟩) (0+1) cap (t.q+1) ea A4 n4 Y (.slice C k y) t.q t.a z (.int .i64 k0.q) (.bool false) S2 (0+2+1) R ((j.length:Int)+(l.length:Int))) 1 rfl fun W K=>?_)
 go_upto_region 24 with(first | refine K.ld 3 rfl ?_ | refine K.ss (new:=wA (.slice B6 T.length c6) (.int .i64 room) (.int .i64 (-1)) (.bool false) (.int .i64 b) (.int .i64 d) (some ⟨g,0,none⟩) (0+1) cap (t.q+1) ea A4 n4 Y (.slice C2 k2 Q) U.q U.a z (.int .i64 k0.q) (.bool false) S2 (0+2+1) R ((j.length:Int)+(l.length:Int))) 1 rfl fun W K=>?_)
 go_wp2_with (first | refine bF (K.sub 1 rfl 0 (jnA B6 T.length c6 room b d (some ⟨g,0,none⟩) (0+1) cap (t.q+1) ea A4 n4 Y C2 k2 Q U.q U.a z k0.q false)) ?_ | (refine K.sr 4 rfl fun W K=>?_))
 obtain⟨S4,ca,e7,KS⟩:=K.out.done_row (s:=bw) (xs:=[⟨(((0+1):Nat):Int),t.q,t.q+1,t.a,ea,(j.length:Int)+l.length,false⟩]) 2 rfl (aO.2 ⟨by simp,fun _ _=>trivial⟩) (by decide) (by simp)
 injection e7 with e8 e9 bj
 have K1:=KS.hh
 rw[←e8,←bj]at K1
 have m:=bm.out
 subst m
 exact K.rc2 4 rfl rfl (Or.inl ⟨⟨P,hroom⟩,B6,_,c6,some ⟨g,0,none⟩,0+1,cap,A4,n4,Y,C2,k2,Q,rfl,K.slb 0 rfl,K1.slb 0 rfl,K.slb 3 rfl,K.slb 8 rfl,K.below⟩)
end
section
open Go.RowKit
set_option maxHeartbeats 6000000 in
theorem rL (d:List Sgi) (x:Sgi) (k1:Nat) (fs:List Fil) (room:Int) (ps:List Prt) (k0 t:St) (h:cR fs room ps [] k0 t) (br:∀ p ∈ ps,(p.al:Int)≤p.s.size) (b f:Int) (bv:dH b f=true) (A:Option Addr) (n z:Nat) (S:Option Addr) (R:Nat) (N:Option Addr) (nn U:Nat) (C:Option Addr) (k E:Nat) (F:Int) (bn:k0.q≤F∧F≤t.q) (O:bD t)
 (X:List Nat) (w:World) (hX:XOk X w) (y:Sl ax w X A n z fs) (Q:Sl bw w X S (k1+1) R (ps.map aD)) (Y:Sl af w X N nn U (aa ps).ns) (aw:nn≤1000) (D:Sl aI w X C k E t.cs) (hp:aV w)
 (eq ea J:Int) (i:ByteArray) (ex H M:Int) (ag:i.size≤maxLen) (hm:cH t ⟨t.q+1,ea,J,i,ex,H,M⟩=0) (Z:ps.map aD=d ++ [x]) (hx:(1≤x.num∧x.num≤99999999)∧True∧x.fi<x.la∧(0≤x.sz∧x.sz≤1000000)∧(0≤x.fr∧x.fr≤1099511627776)) (bj:0≤ea∧ea≤1099511627776) (L:x.num=((k1+1:Nat):Int)) (bi:x.sd=true)
 (m o:List UInt8) (hc:kZ (((k1+1+1):Nat):Int) ⟨t.q,t.a,[]⟩=(m,0)) (ar:m.length≤1000) (am:av 2 (aQ ⟨t.q,t.a,[]⟩ ⟨t.q+1,ea,J,i,ex,H,M⟩)=o) (ao:o.length≤1000) (hrun:fs.length<64∧(aA fs:Int)+((m.length:Int)+(o.length:Int))≤room→fG room [.mk (az (k1+1+1)),.wr (az (k1+1+1)) m,.wr (az (k1+1+1)) o] fs):
 Calls Tryz.prog 10 #[.agg (jnA A n z room b f S (k1+1) R (aa ps).q (aa ps).a N nn U C k E t.q t.a F k0.q false).toArray,.agg #[.int .i64 eq,.int .i64 ea,.int .i64 J,.string i,.int .i64 ex,.int .i64 H,.int .i64 M]] w (vW (fs.length<64∧(aA fs:Int)+((m.length:Int)+(o.length:Int))≤room) (JPc (cF [.mk (az (k1+1+1)),.wr (az (k1+1+1)) m,.wr (az (k1+1+1)) o] fs) room b f ((d ++ [x]) ++ [⟨(((k1+1+1):Nat):Int),t.q,t.q+1,t.a,ea,(m.length:Int)+o.length,false⟩]) (bJ ⟨t.q,t.a,[]⟩ ⟨t.q+1,ea,J,i,ex,H,M⟩) (aZ t ⟨t.q+1,ea,J,i,ex,H,M⟩) F k0.q false 0 X w) (JPc fs room b f (ps.map aD) (aa ps) t F k0.q true 13 X w)):=by
 have ba:=gK O hm
 have bq:=Lib.hid ba
 clear ba
 have bd:n≤64:=by have B:=y.len;have h2:=h.dk.1;simp only at h2;omega
 have hu64:aA fs≤65536:=by have B:=h.dk.2.2.2.2.2;have h2:=h.dk.2.2.1;simp only at B h2;omega
 have T:=Lib.hid Z
 have ap:=Lib.hid hrun
 have bm:=Lib.hid hc
 have bo:=Lib.hid am
 clear Z hrun hc am
 have ah:=Lib.hid y.len
 have bx:Hid (je x (aa ps) b f ⟨t.q+1,ea,J,i,ex,H,M⟩=false):=Lib.hid (by unfold je;rw[if_pos bi])
 have ce:=O.2.2.1
 have cd:=O.2.1
 have ca:wrap64 (t.q+1)=t.q+1:=by unfold wrap64;omega
 have bz:(k1+1)≤n:=by
  have B:=Q.len
  have h2:=h.le
  have h3:=y.len
  simp only[List.length_map]at B
  omega
 have HM:=fun(w:World) (X:List Nat) (hX:XOk X w) (y:Sl ax w X A n z fs) (Q:Sl bw w X S (k1+1) R (ps.map aD)) (Y:Sl af w X N nn U (aa ps).ns) (D:Sl aI w X C k E t.cs) (hp:aV w)=>Lib.hid (eT fs room ps k0 t h br b f bv A n z S (k1+1) R N nn U C k E F bn false O X w hX y Q Y aw D hp)
 have P:=fun(w:World) (X:List Nat) (hX:XOk X w) (D:Sl aI w X C k E t.cs)=>Lib.hid (gh t ⟨t.q+1,ea,J,i,ex,H,M⟩ C k E X w hX D O ag)
 simp only[jnA,evA]at HM P ⊢
 simp only[gy,hm,if_true]at P
 obtain⟨t2,bc⟩:∃ t2,t2=aZ t ⟨t.q+1,ea,J,i,ex,H,M⟩:=⟨_,rfl⟩
 simp only[←bc]at P ⊢
 clear bc hm
 go_enter Tryz.func10,Tryz.ntmps10
 go_upto_region 1 with(fail)
 refine(hstart hX).cw fun W K=>?_
 have K:=(((K.ksl0 D).ksl0 Y).ksl0 Q).ksl0 y
 clear D Y Q y
 go_wp2_with (first | refine K.ld 2 rfl ?_)
 refine(HM _ _ K.xok (K.sl 0 rfl) (K.sl 1 rfl) (K.sl 2 rfl) (K.sl 3 rfl) (hp.on K.below)).out.mono ?_
 rintro e w1 ⟨rfl,j⟩
 have K:=K.on j
 clear j HM
 have c2:=K.r 2 rfl
 have c1:=K.c 1 rfl
 go_upto_region 5 with(fail)
 refine K.cw fun W K=>?_
 clear c2 c1
 go_wp2_with (first | refine bF (K.sub 2 rfl 10 [.slice C k E,.int .i64 t.q,.int .i64 t.a]) ?_ | refine K.ld 1 rfl ?_)
 refine(P _ _ K.xok (K.sl 3 rfl)).out.mono ?_
 rintro e w2 ⟨C2,k2,ac,rfl,j,I⟩
 have K:=(K.on j).ksl I
 clear j I P
 go_upto_region 6 with(refine K.lw fun W K=>?_;refine K.sr 0 rfl fun W K=>?_)
 have c3:=K.r 3 rfl
 go_upto_region 10 with(fail)
 clear c3
 go_upto_region 11 with(first | refine K.ld 3 rfl ?_ | (refine K.lw fun W K=>?_;refine K.sr 0 rfl fun W K=>?_))
 have c4:=K.r 4 rfl
 go_wp2_with fail
 refine(gM S (k1+1) R _ _ K.xok (K.sl 2 rfl) (by omega)).mono ?_
 rintro e w3 ⟨v,vs,rfl,bb,ho,j⟩
 have K:=(K.kra bb).nrow j ho
 clear c4 j bb ho
 obtain⟨G,cap,rfl,-⟩:=aK (K.row 0 rfl)
 have c1:=K.c 1 rfl
 go_upto_region 12 with(fail)
 refine K.cw fun W K=>?_
 clear c1
 have K:=(K.nrow (e:=144) (size:=1) (n:=0) (v := .slice none 0 0) (xs:=[]) (Below.refl _ _) ⟨rfl,.inl ⟨rfl,rfl⟩⟩).kra (s:=cO) (vs:=[]) (xs:=[]) rfl
 have K:=(((K.mv 2 rfl).mv 1 rfl).up 5 rfl).up 1 rfl
 obtain⟨g,rfl⟩:=fC (K.row 2 rfl) (Nat.succ_pos k1)
 have bk:vs=d.flatMap bK++bK x:=by
  rw[(aO.1 (K.ra 3 rfl)).1,T.out]
  simp
 subst bk
 have hpre:(d.flatMap bK).length=k1*7:=by
  have B:=(K.sl 6 rfl).len
  rw[T.out,List.length_append,List.length_singleton]at B
  rw[kD]
  omega
 go_wp2_with (first | refine K.ld 6 rfl ?_ | refine K.ld 5 rfl ?_)
 refine(nC (ps.map aD) x k1 (by
  have B:=(K.sl 6 rfl).len
  rw[T.out,List.length_append,List.length_singleton]at B
  rw[T.out,show k1=d.length by omega]
  simp) (aa ps).ns ⟨t.q+1,ea,J,i,ex,H,M⟩ A n z room b f S R (aa ps).q (aa ps).a N nn U C k E t.q t.a F k0.q false _ _ K.xok (K.sl 6 rfl) (K.sl 1 rfl) aw ag (by omega) hx.2.2.1 hx.2.2.2.1 bj hx.2.2.2.2).mono ?_
 rw[show je x ⟨(aa ps).q,(aa ps).a,(aa ps).ns⟩ b f ⟨t.q+1,ea,J,i,ex,H,M⟩=false from bx.out]
 rintro e w4 ⟨rfl,j⟩
 have K:=K.on j
 clear j
 go_upto_region 14 with(fail)
 go_wp2_with fail
 refine(lA _ g k1 cap true _ (by omega) (K.r 1 rfl 6) (K.rowc 2 rfl (by rw[dO hpre];simp[bK,bi]))).mono ?_
 rintro e w5 ⟨rfl,rfl⟩
 go_wp2_with fail
 by_cases ab:fs.length<64
 rotate_left
 ·obtain rfl:n=64:=by have:=ah.out;omega
  refine(oM _ (k1+1) (some ⟨g,0,none⟩) cap (d.flatMap bK++bK x) _ A z _ _ _ _ _ _ _ _ _ _ _ _ _ _ _ _ _ _ _ _ K hp (by rw[List.length_append,hpre];simp[bK];omega) (by omega) (fun kk hk=>by
   obtain rfl:kk=k1:=by omega
   have B:=dO (l:=bK x) hpre 0
   rw[Nat.add_zero]at B
   rw[B]
   simp[bK,L])).mono ?_
  rintro e w6 ⟨rfl,K⟩
  go_wp2_with (first | refine K.ld 6 rfl ?_)
  refine(jl A 64 z room b f S (k1+1) R (aa ps).q (aa ps).a N nn U C k E t.q t.a F k0.q false _ _ K.xok).mono ?_
  rintro e w9 ⟨rfl,j⟩
  have K:=K.on j
  go_wp2_with (first | refine K.sr 4 rfl fun W K=>?_)
  exact K.rc2 4 rfl rfl (Or.inr ⟨fun h=>ab h.1,A,64,z,S,(k1+1),R,N,nn,U,C,k,E,rfl,K.slb 5 rfl,K.slb 6 rfl,K.slb 7 rfl,K.slb 8 rfl,K.below⟩)
 have bt:n≤63:=by have:=ah.out;omega
 refine(so _ (k1+1) (some ⟨g,0,none⟩) cap (d.flatMap bK++bK x) _ _ A n z _ _ _ _ _ _ _ _ _ _ _ _ _ _ _ _ _ _ _ _ K hp (by rw[List.length_append,hpre];simp[bK];omega) (by omega) (fun kk hk=>by
  obtain rfl:kk=k1:=by omega
  have B:=dO (l:=bK x) hpre 0
  rw[Nat.add_zero]at B
  rw[B]
  simp[bK,L]) bt (by omega) (by omega) m bm.out ar).mono ?_
 rintro e w6 ⟨S1,cc,ss1,g,cap,rfl,K⟩
 try simp only[Int.zero_add]at K
 have K:=(K.ksl (s:=af) (A:=none) (n:=0) (c:=0) (xs:=[]) Sl.nil_).up 1 rfl
 go_upto_region 16 with(fail)
 refine K.rgt (fun V h=>h.tl.tl.tl.ft.ft) fun W K=>?_
 refine tL 0 (fun _ h=>h.at_ 2 rfl) K.tl.tl.tl.ft.ft ?_ (hy:=fun w hw=>aM hw)
 refine tC 1 fun K' hK=>?_
 go_simp
 refine(mT _ g (k1+1) cap (d.flatMap bK++bK x) ⟨(((k1+1+1):Nat):Int),t.q,t.q,t.a,t.a,m.length,false⟩ _ _ [] ⟨t.q+1,ea,J,i,ex,H,M⟩ _ _ _ _ _ _ _ _ _ _ _ _ _ _ _ _ _ _ _ _ _ K hp (by rw[List.length_append,hpre];simp[bK];omega) (by omega) ⟨by simp only;omega,by simp only;omega⟩ ⟨by simp only;omega,by simp only;omega⟩ (by omega) (by omega) (by omega) ag bq.out o bo.out ao).mono ?_
 rintro e w7 ⟨S2,ad,ss2,A4,n4,c4,rfl,K⟩
 try simp only[Int.zero_add]at K
 refine hK.out _ _ K.tl.tl.tl.ft.ft fun _=>?_
 clear hK K'
 try simp only[Act.put,an,ai,aj]
 refine K.mor (fun V h=>h.tl.tl.tl.ft.ft) ?_
 refine tK 2 K ?_
 refine tK 3 K ?_
 refine tK 4 K ?_
 refine tL 5 (fun _ h=>h.sub 6 rfl 0 [.slice A n z,.int .i64 room,.int .i64 (-1),.bool false]) K ?_ (hy:=fun w hw=>aM hw)
 refine tK 7 K ?_
 refine tL 8 (fun _ h=>h.r 1 rfl) K ?_
 refine tK 10 K ?_
 refine tK 11 K ?_
 refine tL 12 (fun _ h=>h.r 6 rfl) K ?_
 refine tC 6 fun K' hK=>?_
 go_simp
 refine(fY fs A n z room _ _ K.xok (K.sl 7 rfl) bd hu64).mono ?_
 rintro e w8 ⟨rfl,j⟩
 have K:=K.on j
 refine hK.out _ _ K fun _=>?_
 clear hK K' j
 try simp only[Act.put,an,ai,aj]
 have bl:IntKind.i64.wrap ((aA fs:Int)+((m.length:Int)+(o.length:Int)))=(aA fs:Int)+((m.length:Int)+(o.length:Int)):=IntWalk.i64_in _ (by omega)
 by_cases hroom:(aA fs:Int)+((m.length:Int)+(o.length:Int))≤room
 rotate_left
 ·have be:room<(aA fs:Int)+((m.length:Int)+(o.length:Int)):=by omega
  refine tK 9 K ?_
  refine tK 13 K ?_
  refine tK 14 K ?_
  refine tE ?_
  go_wp2_with (first | refine K.ld 6 rfl ?_)
  refine(jl A n z room b f S (k1+1) R (aa ps).q (aa ps).a N nn U C k E t.q t.a F k0.q false _ _ K.xok).mono ?_
  rintro e w9 ⟨rfl,j⟩
  have K:=K.on j
  go_wp2_with (first | refine K.sr 4 rfl fun W K=>?_)
  exact K.rc2 4 rfl rfl (Or.inr ⟨fun h=>by have:=h.2;omega,A,n,z,S,(k1+1),R,N,nn,U,C,k,E,rfl,K.slb 7 rfl,K.slb 8 rfl,K.slb 9 rfl,K.slb 10 rfl,K.below⟩)
 have be:¬ room<(aA fs:Int)+((m.length:Int)+(o.length:Int)):=by omega
 refine tK 9 K ?_
 refine tK 13 K ?_
 refine tK 14 K ?_
 refine tE ?_
 obtain⟨S3,cb,e3,KS⟩:=K.out.done_row (s:=cO) 0 rfl (K.ra 0 rfl) (by decide) (by simp)
 injection e3 with e4 e5 e6
 subst e4 e6
 have K:=KS.hh
 clear KS e5 bl be
 have c0:=K.r 0 rfl
 go_wp2_with (first | refine bF (K.sub 5 rfl 0 [.slice A n z,.int .i64 room,.int .i64 (-1),.bool false]) ?_)
 refine(lf [.mk (az (k1+1+1)),.wr (az (k1+1+1)) m,.wr (az (k1+1+1)) o] fs room S2 (0+2+1) ad A n z _ _ K.xok (K.sl 8 rfl) (K.sl 0 rfl) (ap.out ⟨ab,hroom⟩) (by omega)).mono ?_
 rintro e w9 ⟨B6,c6,rfl,I,j⟩
 have K:=(K.on j).ksl I
 clear j I c0
 obtain⟨ae,u⟩:∃ fz,fz=cF [.mk (az (k1+1+1)),.wr (az (k1+1+1)) m,.wr (az (k1+1+1)) o] fs:=⟨_,rfl⟩
 rw[←u]at K ⊢
 have bs:=Lib.hid u
 clear u
 go_upto_region 22 with(refine K.lw fun W K=>?_;refine K.sr 0 rfl fun W K=>?_)
 go_upto_region 23 with(first | refine K.ld 0 rfl ?_ | refine K.ss (new:=wA (.slice B6 ae.length c6) (.int .i64 room) (.int .i64 (-1)) (.bool false) (.int .i64 b) (.int .i64 f) (some ⟨g,0,none⟩) ((k1+1)+1) cap (t.q+1) ea A4 n4 c4 (.slice C k E) t.q t.a F (.int .i64 k0.q) (.bool false) S2 (0+2+1) ad ((m.length:Int)+(o.length:Int))) 1 rfl fun W K=>?_)
 go_upto_region 24 with(first | refine K.ld 3 rfl ?_ | refine K.ss (new:=wA (.slice B6 ae.length c6) (.int .i64 room) (.int .i64 (-1)) (.bool false) (.int .i64 b) (.int .i64 f) (some ⟨g,0,none⟩) ((k1+1)+1) cap (t.q+1) ea A4 n4 c4 (.slice C2 k2 ac) t2.q t2.a F (.int .i64 k0.q) (.bool false) S2 (0+2+1) ad ((m.length:Int)+(o.length:Int))) 1 rfl fun W K=>?_)
 go_wp2_with (first | refine bF (K.sub 1 rfl 0 (jnA B6 ae.length c6 room b f (some ⟨g,0,none⟩) ((k1+1)+1) cap (t.q+1) ea A4 n4 c4 C2 k2 ac t2.q t2.a F k0.q false)) ?_ | (refine K.sr 4 rfl fun W K=>?_))
 obtain⟨S4,cf,e7,KS⟩:=K.out.done_row (s:=bw) (xs:=(d ++ [x]) ++ [⟨(((k1+1+1):Nat):Int),t.q,t.q+1,t.a,ea,(m.length:Int)+o.length,false⟩]) 2 rfl (aO.2 ⟨by simp,fun _ _=>trivial⟩) (by decide) (by simp)
 injection e7 with e8 e9 bp
 have K1:=KS.hh
 rw[←e8,←bp]at K1
 have u:=bs.out
 subst u
 exact K.rc2 4 rfl rfl (Or.inl ⟨⟨ab,hroom⟩,B6,_,c6,some ⟨g,0,none⟩,(k1+1)+1,cap,A4,n4,c4,C2,k2,ac,rfl,K.slb 0 rfl,K1.slb 0 rfl,K.slb 3 rfl,K.slb 8 rfl,K.below⟩)
end
section
open Go.RowKit
set_option maxHeartbeats 6000000 in
theorem si (d:List Sgi) (x:Sgi) (k1:Nat) (fs:List Fil) (room:Int) (ps:List Prt) (k0 t:St) (h:cR fs room ps [] k0 t) (bx:∀ p ∈ ps,(p.al:Int)≤p.s.size) (b f:Int) (cb:dH b f=true) (A:Option Addr) (n B:Nat) (S:Option Addr) (R:Nat) (N:Option Addr) (nn Y:Nat) (C:Option Addr) (k F:Nat) (su:Int) (br:k0.q≤su∧su≤t.q) (O:bD t)
 (X:List Nat) (w:World) (hX:XOk X w) (z:Sl ax w X A n B fs) (Q:Sl bw w X S (k1+1) R (ps.map aD)) (Z:Sl af w X N nn Y (aa ps).ns) (am:nn≤1000) (E:Sl aI w X C k F t.cs) (hp:aV w)
 (eq ea J:Int) (i:ByteArray) (ex H M:Int) (ao:i.size≤maxLen) (hm:cH t ⟨t.q+1,ea,J,i,ex,H,M⟩=0) (ab:ps.map aD=d ++ [x]) (hx:(1≤x.num∧x.num≤99999999)∧True∧x.fi<x.la∧(0≤x.sz∧x.sz≤1000000)∧(0≤x.fr∧x.fr≤1099511627776)) (bn:0≤ea∧ea≤1099511627776) (L:x.num=((k1+1:Nat):Int)) (bc:je x (aa ps) b f ⟨t.q+1,ea,J,i,ex,H,M⟩=true) (many:Int) (ah:x.la-x.fi=many) (U:0≤many∧many≤1000000) (j:List UInt8) (ar:mz many (aa ps)=(j,0)) (bm:j.length≤1000)
 (o u:List UInt8) (hc:kZ (((k1+1+1):Nat):Int) ⟨t.q,t.a,[]⟩=(o,0)) (bd:o.length≤1000) (aw:av 2 (aQ ⟨t.q,t.a,[]⟩ ⟨t.q+1,ea,J,i,ex,H,M⟩)=u) (ba:u.length≤1000) (hrun:fs.length<64∧(aA fs:Int)+((j.length:Int)+(o.length:Int)+(u.length:Int))≤room→fG room [.wr (az x.num.toNat) j,.sy (az x.num.toNat),.mk (az (k1+1+1)),.wr (az (k1+1+1)) o,.wr (az (k1+1+1)) u] fs):
 Calls Tryz.prog 10 #[.agg (jnA A n B room b f S (k1+1) R (aa ps).q (aa ps).a N nn Y C k F t.q t.a su k0.q false).toArray,.agg #[.int .i64 eq,.int .i64 ea,.int .i64 J,.string i,.int .i64 ex,.int .i64 H,.int .i64 M]] w (vW (fs.length<64∧(aA fs:Int)+((j.length:Int)+(o.length:Int)+(u.length:Int))≤room) (JPc (cF [.wr (az x.num.toNat) j,.sy (az x.num.toNat),.mk (az (k1+1+1)),.wr (az (k1+1+1)) o,.wr (az (k1+1+1)) u] fs) room b f ((d ++ [{ x with sz:=x.sz+j.length,sd:=true }]) ++ [⟨(((k1+1+1):Nat):Int),t.q,t.q+1,t.a,ea,(o.length:Int)+u.length,false⟩]) (bJ ⟨t.q,t.a,[]⟩ ⟨t.q+1,ea,J,i,ex,H,M⟩) (aZ t ⟨t.q+1,ea,J,i,ex,H,M⟩) t.q k0.q false 0 X w) (JPc fs room b f (ps.map aD) (aa ps) t su k0.q true 13 X w)):=by
 have be:=gK O hm
 have bv:=Lib.hid be
 clear be
 have bk:n≤64:=by have D:=z.len;have h2:=h.dk.1;simp only at h2;omega
 have hu64:aA fs≤65536:=by have D:=h.dk.2.2.2.2.2;have h2:=h.dk.2.2.1;simp only at D h2;omega
 have T:=Lib.hid ab
 have bb:=Lib.hid hrun
 have bq:=Lib.hid hc
 have bs:=Lib.hid aw
 clear ab hrun hc aw
 have ap:=Lib.hid z.len
 have cc:=Lib.hid bc
 have cd:=Lib.hid ar
 clear bc ar
 have ct:=O.2.2.1
 have co:=O.2.1
 have ch:wrap64 (t.q+1)=t.q+1:=by unfold wrap64;omega
 have ce:(k1+1)≤n:=by
  have D:=Q.len
  have h2:=h.le
  have h3:=z.len
  simp only[List.length_map]at D
  omega
 have HM:=fun(w:World) (X:List Nat) (hX:XOk X w) (z:Sl ax w X A n B fs) (Q:Sl bw w X S (k1+1) R (ps.map aD)) (Z:Sl af w X N nn Y (aa ps).ns) (E:Sl aI w X C k F t.cs) (hp:aV w)=>Lib.hid (eT fs room ps k0 t h bx b f cb A n B S (k1+1) R N nn Y C k F su br false O X w hX z Q Z am E hp)
 have P:=fun(w:World) (X:List Nat) (hX:XOk X w) (E:Sl aI w X C k F t.cs)=>Lib.hid (gh t ⟨t.q+1,ea,J,i,ex,H,M⟩ C k F X w hX E O ao)
 simp only[jnA,evA]at HM P ⊢
 simp only[gy,hm,if_true]at P
 obtain⟨t2,bj⟩:∃ t2,t2=aZ t ⟨t.q+1,ea,J,i,ex,H,M⟩:=⟨_,rfl⟩
 simp only[←bj]at P ⊢
 clear bj hm
 go_enter Tryz.func10,Tryz.ntmps10
 go_upto_region 1 with(fail)
 refine(hstart hX).cw fun W K=>?_
 have K:=(((K.ksl0 E).ksl0 Z).ksl0 Q).ksl0 z
 clear E Z Q z
 go_wp2_with (first | refine K.ld 2 rfl ?_)
 refine(HM _ _ K.xok (K.sl 0 rfl) (K.sl 1 rfl) (K.sl 2 rfl) (K.sl 3 rfl) (hp.on K.below)).out.mono ?_
 rintro e w1 ⟨rfl,m⟩
 have K:=K.on m
 clear m HM
 have c2:=K.r 2 rfl
 have c1:=K.c 1 rfl
 go_upto_region 5 with(fail)
 refine K.cw fun W K=>?_
 clear c2 c1
 go_wp2_with (first | refine bF (K.sub 2 rfl 10 [.slice C k F,.int .i64 t.q,.int .i64 t.a]) ?_ | refine K.ld 1 rfl ?_)
 refine(P _ _ K.xok (K.sl 3 rfl)).out.mono ?_
 rintro e w2 ⟨C2,k2,ad,rfl,m,I⟩
 have K:=(K.on m).ksl I
 clear m I P
 go_upto_region 6 with(refine K.lw fun W K=>?_;refine K.sr 0 rfl fun W K=>?_)
 have c3:=K.r 3 rfl
 go_upto_region 10 with(fail)
 clear c3
 go_upto_region 11 with(first | refine K.ld 3 rfl ?_ | (refine K.lw fun W K=>?_;refine K.sr 0 rfl fun W K=>?_))
 have c4:=K.r 4 rfl
 go_wp2_with fail
 refine(gM S (k1+1) R _ _ K.xok (K.sl 2 rfl) (by omega)).mono ?_
 rintro e w3 ⟨v,vs,rfl,bi,ho,m⟩
 have K:=(K.kra bi).nrow m ho
 clear c4 m bi ho
 obtain⟨G,cap,rfl,-⟩:=aK (K.row 0 rfl)
 have c1:=K.c 1 rfl
 go_upto_region 12 with(fail)
 refine K.cw fun W K=>?_
 clear c1
 have K:=(K.nrow (e:=144) (size:=1) (n:=0) (v := .slice none 0 0) (xs:=[]) (Below.refl _ _) ⟨rfl,.inl ⟨rfl,rfl⟩⟩).kra (s:=cO) (vs:=[]) (xs:=[]) rfl
 have K:=(((K.mv 2 rfl).mv 1 rfl).up 5 rfl).up 1 rfl
 obtain⟨g,rfl⟩:=fC (K.row 2 rfl) (Nat.succ_pos k1)
 have bo:vs=d.flatMap bK++bK x:=by
  rw[(aO.1 (K.ra 3 rfl)).1,T.out]
  simp
 subst bo
 have hpre:(d.flatMap bK).length=k1*7:=by
  have D:=(K.sl 6 rfl).len
  rw[T.out,List.length_append,List.length_singleton]at D
  rw[kD]
  omega
 go_wp2_with (first | refine K.ld 6 rfl ?_ | refine K.ld 5 rfl ?_)
 refine(nC (ps.map aD) x k1 (by
  have D:=(K.sl 6 rfl).len
  rw[T.out,List.length_append,List.length_singleton]at D
  rw[T.out,show k1=d.length by omega]
  simp) (aa ps).ns ⟨t.q+1,ea,J,i,ex,H,M⟩ A n B room b f S R (aa ps).q (aa ps).a N nn Y C k F t.q t.a su k0.q false _ _ K.xok (K.sl 6 rfl) (K.sl 1 rfl) am ao (by omega) hx.2.2.1 hx.2.2.2.1 bn hx.2.2.2.2).mono ?_
 rw[show je x ⟨(aa ps).q,(aa ps).a,(aa ps).ns⟩ b f ⟨t.q+1,ea,J,i,ex,H,M⟩=true from cc.out]
 rintro e w4 ⟨rfl,m⟩
 have K:=K.on m
 clear m
 go_wp2_with fail
 refine(Bb _ g k1 cap (d.flatMap bK) x _ _ (aa ps).ns _ _ _ _ _ _ _ _ _ _ _ _ _ _ _ _ _ _ _ _ _ K hp hpre (by omega) hx.1 hx.2.2.2.1 (by omega) (by omega) am many ah U j cd.out bm).mono ?_
 rintro e w5 ⟨S0,cl,cf,rfl,K⟩
 try simp only[Int.zero_add]at K
 go_upto_region 14 with(fail)
 go_wp2_with fail
 refine(lA _ g k1 cap true _ (by omega) (K.r 1 rfl 6) (K.rowc 2 rfl (by rw[dO hpre];simp[bK]))).mono ?_
 rintro e cr ⟨rfl,rfl⟩
 go_wp2_with fail
 by_cases ac:fs.length<64
 rotate_left
 ·obtain rfl:n=64:=by have:=ap.out;omega
  refine(oM _ (k1+1) (some ⟨g,0,none⟩) cap (d.flatMap bK++bK { x with sz:=x.sz+j.length,sd:=true }) _ A B _ _ _ _ _ _ _ _ _ _ _ _ _ _ _ _ _ _ _ _ K hp (by rw[List.length_append,hpre];simp[bK];omega) (by omega) (fun kk hk=>by
   obtain rfl:kk=k1:=by omega
   have D:=dO (l:=bK { x with sz:=x.sz+j.length,sd:=true }) hpre 0
   rw[Nat.add_zero]at D
   rw[D]
   simp[bK,L])).mono ?_
  rintro e w6 ⟨rfl,K⟩
  go_wp2_with (first | refine K.ld 6 rfl ?_)
  refine(jl A 64 B room b f S (k1+1) R (aa ps).q (aa ps).a N nn Y C k F t.q t.a su k0.q false _ _ K.xok).mono ?_
  rintro e w9 ⟨rfl,m⟩
  have K:=K.on m
  go_wp2_with (first | refine K.sr 4 rfl fun W K=>?_)
  exact K.rc2 4 rfl rfl (Or.inr ⟨fun h=>ac h.1,A,64,B,S,(k1+1),R,N,nn,Y,C,k,F,rfl,K.slb 4 rfl,K.slb 5 rfl,K.slb 6 rfl,K.slb 7 rfl,K.below⟩)
 have ca:n≤63:=by have:=ap.out;omega
 refine(so _ (k1+1) (some ⟨g,0,none⟩) cap (d.flatMap bK++bK { x with sz:=x.sz+j.length,sd:=true }) _ _ A n B _ _ _ _ _ _ _ _ _ _ _ _ _ _ _ _ _ _ _ _ K hp (by rw[List.length_append,hpre];simp[bK];omega) (by omega) (fun kk hk=>by
  obtain rfl:kk=k1:=by omega
  have D:=dO (l:=bK { x with sz:=x.sz+j.length,sd:=true }) hpre 0
  rw[Nat.add_zero]at D
  rw[D]
  simp[bK,L]) ca (by omega) (by omega) o bq.out bd).mono ?_
 rintro e w6 ⟨S1,cm,ss1,g,cap,rfl,K⟩
 try simp only[Int.zero_add]at K
 have K:=(K.ksl (s:=af) (A:=none) (n:=0) (c:=0) (xs:=[]) Sl.nil_).up 1 rfl
 go_upto_region 16 with(fail)
 refine K.rgt (fun V h=>h.tl.tl.tl.ft.ft) fun W K=>?_
 refine tL 0 (fun _ h=>h.at_ 2 rfl) K.tl.tl.tl.ft.ft ?_ (hy:=fun w hw=>aM hw)
 refine tC 1 fun K' hK=>?_
 go_simp
 refine(mT _ g (k1+1) cap (d.flatMap bK++bK { x with sz:=x.sz+j.length,sd:=true }) ⟨(((k1+1+1):Nat):Int),t.q,t.q,t.a,t.a,o.length,false⟩ _ _ [] ⟨t.q+1,ea,J,i,ex,H,M⟩ _ _ _ _ _ _ _ _ _ _ _ _ _ _ _ _ _ _ _ _ _ K hp (by rw[List.length_append,hpre];simp[bK];omega) (by omega) ⟨by simp only;omega,by simp only;omega⟩ ⟨by simp only;omega,by simp only;omega⟩ (by omega) (by omega) (by omega) ao bv.out u bs.out ba).mono ?_
 rintro e w7 ⟨S2,ae,ss2,A4,n4,c4,rfl,K⟩
 try simp only[Int.zero_add]at K
 refine hK.out _ _ K.tl.tl.tl.ft.ft fun _=>?_
 clear hK K'
 try simp only[Act.put,an,ai,aj]
 refine K.mor (fun V h=>h.tl.tl.tl.ft.ft) ?_
 refine tK 2 K ?_
 refine tK 3 K ?_
 refine tK 4 K ?_
 refine tL 5 (fun _ h=>h.sub 6 rfl 0 [.slice A n B,.int .i64 room,.int .i64 (-1),.bool false]) K ?_ (hy:=fun w hw=>aM hw)
 refine tK 7 K ?_
 refine tL 8 (fun _ h=>h.r 1 rfl) K ?_
 refine tK 10 K ?_
 refine tK 11 K ?_
 refine tL 12 (fun _ h=>h.r 6 rfl) K ?_
 refine tC 6 fun K' hK=>?_
 go_simp
 refine(fY fs A n B room _ _ K.xok (K.sl 6 rfl) bk hu64).mono ?_
 rintro e w8 ⟨rfl,m⟩
 have K:=K.on m
 refine hK.out _ _ K fun _=>?_
 clear hK K' m
 try simp only[Act.put,an,ai,aj]
 have bp:IntKind.i64.wrap ((aA fs:Int)+((j.length:Int)+(o.length:Int)+(u.length:Int)))=(aA fs:Int)+((j.length:Int)+(o.length:Int)+(u.length:Int)):=IntWalk.i64_in _ (by omega)
 by_cases hroom:(aA fs:Int)+((j.length:Int)+(o.length:Int)+(u.length:Int))≤room
 rotate_left
 ·have bl:room<(aA fs:Int)+((j.length:Int)+(o.length:Int)+(u.length:Int)):=by omega
  refine tK 9 K ?_
  refine tK 13 K ?_
  refine tK 14 K ?_
  refine tE ?_
  go_wp2_with (first | refine K.ld 6 rfl ?_)
  refine(jl A n B room b f S (k1+1) R (aa ps).q (aa ps).a N nn Y C k F t.q t.a su k0.q false _ _ K.xok).mono ?_
  rintro e w9 ⟨rfl,m⟩
  have K:=K.on m
  go_wp2_with (first | refine K.sr 4 rfl fun W K=>?_)
  exact K.rc2 4 rfl rfl (Or.inr ⟨fun h=>by have:=h.2;omega,A,n,B,S,(k1+1),R,N,nn,Y,C,k,F,rfl,K.slb 6 rfl,K.slb 7 rfl,K.slb 8 rfl,K.slb 9 rfl,K.below⟩)
 have bl:¬ room<(aA fs:Int)+((j.length:Int)+(o.length:Int)+(u.length:Int)):=by omega
 refine tK 9 K ?_
 refine tK 13 K ?_
 refine tK 14 K ?_
 refine tE ?_
 obtain⟨S3,ci,e3,KS⟩:=K.out.done_row (s:=cO) 0 rfl (K.ra 0 rfl) (by decide) (by simp)
 injection e3 with e4 e5 e6
 subst e4 e6
 have K:=KS.hh
 clear KS e5 bp bl
 have c0:=K.r 0 rfl
 go_wp2_with (first | refine bF (K.sub 5 rfl 0 [.slice A n B,.int .i64 room,.int .i64 (-1),.bool false]) ?_)
 refine(lf [.wr (az x.num.toNat) j,.sy (az x.num.toNat),.mk (az (k1+1+1)),.wr (az (k1+1+1)) o,.wr (az (k1+1+1)) u] fs room S2 (0+2+2+1) ae A n B _ _ K.xok (K.sl 7 rfl) (K.sl 0 rfl) (bb.out ⟨ac,hroom⟩) (by omega)).mono ?_
 rintro e w9 ⟨B6,c6,rfl,I,m⟩
 have K:=(K.on m).ksl I
 clear m I c0
 obtain⟨ag,y⟩:∃ fz,fz=cF [.wr (az x.num.toNat) j,.sy (az x.num.toNat),.mk (az (k1+1+1)),.wr (az (k1+1+1)) o,.wr (az (k1+1+1)) u] fs:=⟨_,rfl⟩
 rw[←y]at K ⊢
 have bz:=Lib.hid y
 clear y
 go_upto_region 22 with(refine K.lw fun W K=>?_;refine K.sr 0 rfl fun W K=>?_)
 go_upto_region 23 with(first | refine K.ld 0 rfl ?_ | refine K.ss (new:=wA (.slice B6 ag.length c6) (.int .i64 room) (.int .i64 (-1)) (.bool false) (.int .i64 b) (.int .i64 f) (some ⟨g,0,none⟩) ((k1+1)+1) cap (t.q+1) ea A4 n4 c4 (.slice C k F) t.q t.a t.q (.int .i64 k0.q) (.bool false) S2 (0+2+2+1) ae ((j.length:Int)+(o.length:Int)+(u.length:Int))) 1 rfl fun W K=>?_)
 go_upto_region 24 with(first | refine K.ld 3 rfl ?_ | refine K.ss (new:=wA (.slice B6 ag.length c6) (.int .i64 room) (.int .i64 (-1)) (.bool false) (.int .i64 b) (.int .i64 f) (some ⟨g,0,none⟩) ((k1+1)+1) cap (t.q+1) ea A4 n4 c4 (.slice C2 k2 ad) t2.q t2.a t.q (.int .i64 k0.q) (.bool false) S2 (0+2+2+1) ae ((j.length:Int)+(o.length:Int)+(u.length:Int))) 1 rfl fun W K=>?_)
 go_wp2_with (first | refine bF (K.sub 1 rfl 0 (jnA B6 ag.length c6 room b f (some ⟨g,0,none⟩) ((k1+1)+1) cap (t.q+1) ea A4 n4 c4 C2 k2 ad t2.q t2.a t.q k0.q false)) ?_ | (refine K.sr 4 rfl fun W K=>?_))
 obtain⟨S4,cv,e7,KS⟩:=K.out.done_row (s:=bw) (xs:=(d ++ [{ x with sz:=x.sz+j.length,sd:=true }]) ++ [⟨(((k1+1+1):Nat):Int),t.q,t.q+1,t.a,ea,(o.length:Int)+u.length,false⟩]) 2 rfl (aO.2 ⟨by simp,fun _ _=>trivial⟩) (by decide) (by simp)
 injection e7 with e8 e9 bt
 have K1:=KS.hh
 rw[←e8,←bt]at K1
 have y:=bz.out
 subst y
 exact K.rc2 4 rfl rfl (Or.inl ⟨⟨ac,hroom⟩,B6,_,c6,some ⟨g,0,none⟩,(k1+1)+1,cap,A4,n4,c4,C2,k2,ad,rfl,K.slb 0 rfl,K1.slb 0 rfl,K.slb 3 rfl,K.slb 7 rfl,K.below⟩)
end
end Go.Proofs.YtpokkciheejeiaaGreatDoor
