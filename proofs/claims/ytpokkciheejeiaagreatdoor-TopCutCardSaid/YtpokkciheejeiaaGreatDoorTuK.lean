/- Lemmas and contracts that the proof of TopCut uses, part 11 of 16: each is a theorem for every input that its premises allow. -/
import Derived.Deep.RegionLaw
import Derived.Test.YtpokkciheejeiaaGreatDoorTuJ
set_option linter.unusedVariables false
set_option linter.unusedSimpArgs false
set_option maxRecDepth 100000
namespace Go.Proofs.YtpokkciheejeiaaGreatDoor
section
open Go.RowKit
theorem vP {n:Nat} {t:St} (h:bD t) (g:1≤n) (i:n≤99999999):kZ (n:Int) ⟨t.q,t.a,[]⟩=(av 1 (aR++aS (n:Int) t.q t.a),0):=by
 obtain⟨-,a1,e,b,c,-⟩:=h
 have d:aN ⟨t.q,t.a,[]⟩=true:=by unfold aN;simp[a1,e,b,c,cK]
 have f:eE (n:Int)=true:=by unfold eE;simp;omega
 unfold kZ
 rw[d,f]
 simp
theorem CC {n:Nat} {c:Cx} (h:aN c=true):mz (n:Int) c=(av 3 (aS (n:Int) c.q c.a),0):=by
 unfold mz
 rw[h,if_neg (by simp)]
theorem gD:∀ (gs:List Sg) (n:Nat),(aJ n gs).length=gs.length
 | [],_=>rfl
 | g::gs,n=>by simp[aJ,gD gs (n+1)]
def FE (room:Int) (k:Nat) (fs:List Fil) (gs:List Sg) (ss:List St) (t:St) (su:Int) (sh:Bool) (b age:Int) (e0:Evt) (X:List Nat) (w:World) (e:Ending) (w':World):Prop:=
 (cH t e0≠0∧JPc fs room b age ((aJ 0 gs).map aD) (aa (aJ 0 gs)) t su (kOf ss).q sh (cH t e0) X w e w') ∨
 (cH t e0=0∧(sh=true ∨ ¬ (fs.length<64∧(aA fs:Int)+200≤room))∧JPc fs room b age ((aJ 0 gs).map aD) (aa (aJ 0 gs)) t su (kOf ss).q true 13 X w e w') ∨
 (cH t e0=0 ∧ ∃ fs' gs' su',JG room (k+1) fs' gs' ss (aZ t e0) su'∧aY gs'=aY gs ++ [e0]∧(∀ l g,gs=l ++ [g]→age<e0.a-g.ba→gs'.length=l.length+2)∧JPc fs' room b age (((aJ 0 gs').map aD)) ((aa (aJ 0 gs'))) (aZ t e0) su' (kOf ss).q false 0 X w e w')
theorem FE.new {room:Int} {k:Nat} {fs fs':List Fil} {gs gs':List Sg} {ss:List St} {t:St} {s d:Int} {sh:Bool} {b h:Int} {f:Evt} {X:List Nat} {w:World} {e:Ending} {w':World} {j:List Sgi} {c:Cx} (r:cH t f=0) (m:jA ss (aY gs)) (n:WI (ss.map snF) room fs' j c gs' (aZ t f)) (i:aY gs'=aY gs ++ [f]) (z:(aZ t f).q≤(k+1:Nat)) (p:k+1≤40) (y:(kOf ss).q≤d) (u:d≤(aZ t f).q)
 (v:∀ l g,gs=l ++ [g]→h<f.a-g.ba→gs'.length=l.length+2) (o:JPc fs' room b h j c (aZ t f) d (kOf ss).q false 0 X w e w'):FE room k fs gs ss t s sh b h f X w e w':=by
 obtain⟨x,rfl,rfl⟩:=JG.of n (i ▸ m.more [f]) z p y u
 exact .inr (.inr ⟨r,fs',gs',d,x,i,v,o⟩)
set_option maxHeartbeats 1000000 in
theorem ng {room:Int} {k:Nat} {fs:List Fil} {gs:List Sg} {ss:List St} {t:St} {P:Int} (h:JG room k fs gs ss t P) (hk:k<40) (b o:Int) (I:dH b o=true) (A:Option Addr) (n U:Nat) (S:Option Addr) (m T:Nat) (N:Option Addr) (nn V:Nat) (C:Option Addr) (kk W:Nat) (sh:Bool)
 (X:List Nat) (w:World) (hX:XOk X w) (G:Sl ax w X A n U fs) (s:Sl bw w X S m T ((aJ 0 gs).map aD)) (z:Sl af w X N nn V (aa (aJ 0 gs)).ns) (K:Sl aI w X C kk W t.cs) (hp:aV w)
 (eq ea v:Int) (d:ByteArray) (ex u y:Int) (L:d.size≤maxLen):
 Calls Tryz.prog 10 #[.agg (jnA A n U room b o S m T (aa (aJ 0 gs)).q (aa (aJ 0 gs)).a N nn V C kk W t.q t.a P (kOf ss).q sh).toArray,.agg #[.int .i64 eq,.int .i64 ea,.int .i64 v,.string d,.int .i64 ex,.int .i64 u,.int .i64 y]] w
  (FE room k fs gs ss t P sh b o ⟨t.q+1,ea,v,d,ex,u,y⟩ X w):=by
 have j:=h.ok
 have M:=h.look
 have H:=h.al
 have J:nn≤1000:=by have:=h.ns;rw[z.len];omega
 obtain⟨z1,z2,z3,z4⟩:=h.sizes
 have hj:=h
 obtain⟨i1,i2,i3,i4,i5,i6⟩:=h
 have F:(kOf ss).q≤P∧P≤t.q:=⟨i5,i6⟩
 have D:=mR ss
 by_cases p:cH t ⟨t.q+1,ea,v,d,ex,u,y⟩=0
 rotate_left
 ·exact(zC fs room _ _ t M H b o I A n U S m T N nn V C kk W P F j sh X w hX G s z J K hp eq ea v d ex u y L p).mono fun e w' i=>.inl ⟨p,i⟩
 cases sh with
 | true=>exact(uW fs room _ _ t M H b o I A n U S m T N nn V C kk W P F j X w hX G s z J K hp eq ea v d ex u y L p).mono fun e w' i=>.inr (.inl ⟨p,.inl rfl,i⟩)
 | false=>
 obtain⟨m1,m2,m3,-⟩:=gz p
 obtain⟨-,-,-,-,ka,kb,-,-⟩:=eD m1
 have Z:0≤ea∧ea≤1099511627776:=⟨ka,kb⟩
 have bb:=(fu t ⟨t.q+1,ea,v,d,ex,u,y⟩).1
 simp only at bb
 have ao:=gK j p
 have bc:=yf ao
 rcases List.eq_nil_or_concat gs with rfl | ⟨l,g,rfl⟩
 ·obtain rfl:m=0:=s.len
  have ap:=mB (n:=0+1) (by omega) j
  refine(sM fs room _ _ t M H b o I A n U S T N nn V C kk W P F j X w hX G s z J K hp eq ea v d ex u y L p rfl _ _ (vP j (by omega) (by omega)) (by omega) rfl (by omega) (fun f=>(i1.beg D (by simp) (by simp) f.1 p (by have:=f.2;simp only[List.length_nil];omega)).1)).mono fun e w' i=>?_
  rcases i with⟨f,i⟩ | ⟨f,i⟩
  ·obtain⟨w1,w2,w3,w4⟩:=i1.beg D (by simp) (by simp) f.1 p (by have:=f.2;simp only[List.length_nil];omega)
   exact .new p i2 w2 (by simp[aY]) (by omega) (by omega) i5 (by omega) (fun l g h=>by simp at h) i
  ·exact .inr (.inl ⟨p,.inr fun h=>f ⟨h.1,by have:=h.2;omega⟩,i⟩)
 ·rw[List.concat_eq_append]at *
  obtain⟨j1,j2,j3,j4,j5,j6,j7,j8,j9,Q,ae,aw,am⟩:=JG.last hj
  have hlen:(l ++ [g]).length=l.length+1:=by simp
  obtain rfl:m=l.length+1:=by rw[s.len,List.length_map,gD,hlen]
  have B:((aJ 0 (l ++ [g])).map aD)=(aJ 0 l).map aD ++ [aD (g.pr (l.length+1))]:=by rw[cQ,List.map_append,Nat.zero_add];rfl
  have Y:(1≤(aD (g.pr (l.length+1))).num∧(aD (g.pr (l.length+1))).num≤99999999)∧True∧(aD (g.pr (l.length+1))).fi<(aD (g.pr (l.length+1))).la∧(0≤(aD (g.pr (l.length+1))).sz∧(aD (g.pr (l.length+1))).sz≤1000000)∧(0≤(aD (g.pr (l.length+1))).fr∧(aD (g.pr (l.length+1))).fr≤1099511627776):=⟨by rw[j2];omega,trivial,j5,j8,j9⟩
  have ap:=mB (n:=l.length+1+1) (by omega) j
  cases hd:g.sd with
  | true=>
    have hall:∀ x ∈ l ++ [g],x.sd=true:=fun x E=>by
     rcases List.mem_append.1 E with E | E
     ·exact j1 x E
     ·rw[List.mem_singleton]at E;rw[E];exact hd
    have hW:=fun(f:fs.length<64∧(aA fs:Int)+(((av 1 (aR++aS ((l.length+1+1:Nat):Int) t.q t.a)).length:Int)+((av 2 (aQ ⟨t.q,t.a,[]⟩ ⟨t.q+1,ea,v,d,ex,u,y⟩)).length:Int))≤room)=>i1.beg D hall (by omega) f.1 p (by have:=f.2;rw[hlen];omega)
    rw[hlen,B]at hW
    refine(rL _ _ l.length fs room _ _ t M H b o I A n U S T N nn V C kk W P F j X w hX G s z J K hp eq ea v d ex u y L p B Y Z j2 (Q.trans hd) _ _ (vP j (by omega) (by omega)) (by omega) rfl (by omega) (fun f=>(hW f).1)).mono fun e w' i=>?_
    rcases i with⟨f,i⟩ | ⟨f,i⟩
    ·obtain⟨w1,w2,w3,w4⟩:=hW f
     exact .new p i2 w2 (by rw[eB]) (by omega) (by omega) i5 (by omega) (fun l' g' h _=>by have:=congrArg List.length h;simp at this ⊢;omega) i
    ·exact .inr (.inl ⟨p,.inr fun h=>f ⟨h.1,by have:=h.2;omega⟩,i⟩)
  | false=>
    have r:(aa (aJ 0 (l ++ [g])))=g.c:=by rw[fM,hd];rfl
    have ar:(aD (g.pr (l.length+1))).fr=g.ba:=by rw[gW]
    cases hov:je (aD (g.pr (l.length+1))) ((aa (aJ 0 (l ++ [g])))) b o ⟨t.q+1,ea,v,d,ex,u,y⟩ with
    | false=>
      have R:eG g.c ⟨t.q+1,ea,v,d,ex,u,y⟩=0:=by
       unfold je at hov
       rw[Q,hd,if_neg (by simp),r]at hov
       refine Classical.byContradiction fun ah=>?_
       rw[if_pos ah]at hov
       cases hov
      have ac:¬ o<ea-g.ba:=by
       unfold je at hov
       rw[Q,hd,if_neg (by simp),r,if_neg (by simp[R])]at hov
       split at hov
       ·cases hov
       ·rw[ar]at hov;exact of_decide_eq_false hov
      have ad:=yf R
      have hW:=fun(f:(aA fs:Int)+((av 2 (aQ g.c ⟨t.q+1,ea,v,d,ex,u,y⟩)).length:Int)≤room)=>i1.more hd (by omega) p R (by omega)
      have hc:=R
      rw[←r]at hc hW ad
      refine(uh _ _ l.length fs room _ _ t M H b o I A n U S T N nn V C kk W P F j X w hX G s z J K hp eq ea v d ex u y L p B Y Z (Q.trans hd) hov hc _ rfl (by omega) (fun f=>(hW f).1)).mono fun e w' i=>?_
      rcases i with⟨f,i⟩ | ⟨f,i⟩
      ·obtain⟨w1,w2,w3,w4⟩:=hW f
       exact .new p i2 w2 (by rw[eB,eB,List.append_assoc]) (by omega) (by omega) i5 (by omega) (fun l' g' h h2=>by
        have:=List.append_inj_right' h (by rfl)
        simp only[List.cons.injEq,and_true]at this
        subst this
        exact absurd h2 ac) i
      ·exact .inr (.inl ⟨p,.inr fun h=>f (by have:=h.2;omega),i⟩)
    | true=>
      have ag:=mK (n:=g.evs.length) (by omega) j
      rw[←aw,←am]at ag
      have hall:∀ x ∈ l ++ [{ g with sd:=true }],x.sd=true:=fun x E=>by
       rcases List.mem_append.1 E with E | E
       ·exact j1 x E
       ·rw[List.mem_singleton]at E;rw[E]
      have O:(l ++ [{ g with sd:=true }]).length=l.length+1:=by simp
      have ab:=CC (n:=g.evs.length) ae
      have hW:(fs.length<64∧(aA fs:Int)+(((av 3 (aS (g.evs.length:Int) g.c.q g.c.a)).length:Int)+((av 1 (aR++aS ((l.length+1+1:Nat):Int) t.q t.a)).length:Int)+((av 2 (aQ ⟨t.q,t.a,[]⟩ ⟨t.q+1,ea,v,d,ex,u,y⟩)).length:Int))≤room)→_:=fun f=>by
       obtain⟨w1,w2,w3,w4⟩:=i1.sealW hd (by omega) (by omega)
       obtain⟨v1,v2,v3,v4⟩:=w2.beg D hall (by omega) (by omega) p (by rw[O];omega)
       rw[O]at v1 v2
       rw[←oO]at v2
       exact And.intro (kf _ _ _ _ w1 v1) v2
      rw[←r]at ab
      refine(si _ _ l.length fs room _ _ t M H b o I A n U S T N nn V C kk W P F j X w hX G s z J K hp eq ea v d ex u y L p B Y Z j2 hov _ j6 (by omega) _ ab (by rw[r];omega) _ _ (vP j (by omega) (by omega)) (by omega) rfl (by omega) (fun f=>by rw[r]at f ⊢;exact(hW f).1)).mono fun e w' i=>?_
      rcases i with⟨f,i⟩ | ⟨f,i⟩
      ·rw[r]at f i
       exact .new p i2 (hW f).2 (by rw[eB,eB,eB]) (by omega) (by omega) (by omega) (by omega) (fun l' g' h _=>by have:=congrArg List.length h;simp at this ⊢;omega) i
      ·exact .inr (.inl ⟨p,.inr fun h=>f ⟨h.1,by have:=h.2;rw[r];omega⟩,i⟩)
def FB (room:Int) (k:Nat) (gs:List Sg) (ss:List St) (t:St) (b age:Int) (X:List Nat) (w:World) (e:Ending) (w':World):Prop:=
 ∃ fs' gs' su' sh' er,JG room k fs' gs' ss t su'∧aY gs'=aY gs∧JPc fs' room b age (((aJ 0 gs').map aD)) ((aa (aJ 0 gs'))) t su' (kOf ss).q sh' er X w e w'
theorem FB.new {room:Int} {k:Nat} {fs':List Fil} {gs gs':List Sg} {ss:List St} {t:St} {a:Int} {g:Bool} {er b d:Int} {X:List Nat} {w:World} {e:Ending} {w':World} {h:List Sgi} {c:Cx} (i:jA ss (aY gs)) (j:WI (ss.map snF) room fs' h c gs' t) (f:aY gs'=aY gs) (r:t.q≤k) (m:k≤40) (p:(kOf ss).q≤a) (n:a≤t.q)
 (l:JPc fs' room b d h c t a (kOf ss).q g er X w e w'):FB room k gs ss t b d X w e w':=by
 obtain⟨o,rfl,rfl⟩:=JG.of j (f ▸ i) r m p n
 exact⟨_,_,_,_,_,o,f,l⟩
theorem zV {room:Int} {k:Nat} {fs:List Fil} {gs:List Sg} {ss:List St} {t:St} {y:Int} (h:JG room k fs gs ss t y) (b d:Int) (B:dH b d=true) (A:Option Addr) (n J:Nat) (S:Option Addr) (m H:Nat) (N:Option Addr) (nn I:Nat) (C:Option Addr) (kk K:Nat) (sh:Bool)
 (X:List Nat) (w:World) (hX:XOk X w) (x:Sl ax w X A n J fs) (f:Sl bw w X S m H ((aJ 0 gs).map aD)) (p:Sl af w X N nn I (aa (aJ 0 gs)).ns) (v:Sl aI w X C kk K t.cs) (M:aV w):
 Calls Tryz.prog 11 #[.agg (jnA A n J room b d S m H (aa (aJ 0 gs)).q (aa (aJ 0 gs)).a N nn I C kk K t.q t.a y (kOf ss).q sh).toArray] w (FB room k gs ss t b d X w):=by
 have o:=h.ok
 have E:=h.look
 have z:=h.al
 have D:nn≤1000:=by have:=h.ns;rw[p.len];omega
 obtain⟨z1,z2,z3,z4⟩:=h.sizes
 have L:=h
 obtain⟨i1,Y,i3,T,i5,i6⟩:=h
 have u:(kOf ss).q≤y∧y≤t.q:=⟨i5,i6⟩
 rcases List.eq_nil_or_concat gs with rfl | ⟨l,g,rfl⟩
 ·obtain rfl:m=0:=f.len
  exact(sK fs room _ _ t E z b d B A n J S H N nn I C kk K y u o sh X w hX x f p D v M).mono fun e w' i=>⟨_,_,_,_,_,L,rfl,i⟩
 ·rw[List.concat_eq_append]at *
  obtain⟨j1,V,j3,j4,W,U,j7,Z,j9,G,R,O,P⟩:=JG.last L
  have hlen:(l ++ [g]).length=l.length+1:=by simp
  obtain rfl:m=l.length+1:=by rw[f.len,List.length_map,gD,hlen]
  have s:((aJ 0 (l ++ [g])).map aD)=(aJ 0 l).map aD ++ [aD (g.pr (l.length+1))]:=by rw[cQ,List.map_append,Nat.zero_add];rfl
  cases hd:g.sd with
  | true=>
    exact(pg _ _ l.length fs room _ _ t E z b d B A n J S H N nn I C kk K y u o sh X w hX x f p D v M s (G.trans hd)).mono fun e w' i=>⟨_,_,_,_,_,L,rfl,i⟩
  | false=>
    have j:(aa (aJ 0 (l ++ [g])))=g.c:=by rw[fM,hd];rfl
    have Q:=mK (n:=g.evs.length) (by omega) o
    rw[←O,←P]at Q
    have hW:=fun(r:(aA fs:Int)+((av 3 (aS (g.evs.length:Int) g.c.q g.c.a)).length:Int)≤room)=>i1.sealW hd (by omega) r
    have F:=CC (n:=g.evs.length) R
    rw[←j]at F
    refine(rG _ _ l.length fs room _ _ t E z b d B A n J S H N nn I C kk K y u o sh X w hX x f p D v M s (G.trans hd) ⟨by rw[V];omega,W,Z⟩ _ U (by omega) _ F (by rw[j];omega) (fun r=>by rw[j]at r ⊢;exact(hW r).1)).mono fun e w' i=>?_
    rcases i with⟨r,i⟩ | ⟨r,i⟩
    ·rw[j]at r i
     exact .new Y (hW r).2.1 (by rw[eB,eB]) i3 T (by omega) (Int.le_refl _) i
    ·exact⟨_,_,_,_,_,L,rfl,i⟩
end
section
open Go.RowKit
def FZ (fs:List Fil) (room:Int) (X:List Nat) (w:World) (e:Ending) (w':World):Prop:=
 ∃ B c,e = .returned (.tuple #[.agg #[.slice B fs.length c,.int .i64 room,.int .i64 (-1),.bool false],.int .i64 13])∧Sl ax w' X B fs.length c fs∧Below w.heap.size w w'
set_option maxHeartbeats 4000000 in
theorem DQ (fs:List Fil) (room:Int) (s:St) (q:Nat) (T:s.q=q) (v:q≤99999999) (t:bD s) (g:cj ⟨fs,room⟩) (O:∀ d ∈ fs,ltB d.nm eP=true)
 (A:Option Addr) (n m:Nat) (C:Option Addr) (k E:Nat) (X:List Nat) (w:World) (hX:XOk X w) (G:Sl ax w X A n m fs) (p:Sl aI w X C k E s.cs) (hp:aV w):
 Calls Tryz.prog 66 #[.agg #[.slice A n m,.int .i64 room,.int .i64 (-1),.bool false],.agg #[.slice C k E,.int .i64 s.q,.int .i64 s.a]] w (vW (fs.length<64∧(aA fs:Int)+(cW s).length≤room) (eV (qK (cx q) (cW s) fs) room X w) (FZ fs room X w)):=by
 obtain⟨cs,sq,sa⟩:=s
 simp only at T p ⊢
 subst T
 have l:=Lib.hid G.len
 have z:n≤64:=by have:=l.out;have:=g.1;simp only at this;omega
 have i:=Lib.hid g
 have N:aA fs≤65536:=by have h1:=g.2.2.1;have h2:=g.2.2.2.2.2;simp only at h1 h2;omega
 have hroom:0≤room∧room≤65536:=⟨g.2.1,g.2.2.1⟩
 have c:=qY t
 generalize u:cW ⟨cs,(q:Int),sa⟩=bs at c ⊢
 have I:=Lib.hid u
 have ad:bs.length≤65536:=by omega
 have y:=Lib.hid (Da O)
 have B:=Lib.hid O
 have x:=Lib.hid t
 clear g u t O
 go_enter Tryz.func66,Tryz.ntmps66
 go_upto_region 1 with(fail)
 refine(hstart hX).cw fun W K=>?_
 have K:=(K.ksl0 p).ksl0 G
 clear p G
 go_wp2_with (first | refine K.ld 2 rfl ?_)
 refine(eZ ⟨fs,room⟩ A n m _ _ K.xok (K.sl 0 rfl) i.out).mono ?_
 rintro e w1 ⟨rfl,f⟩
 have K:=K.on f
 clear f
 go_wp2_with (first | refine bF (K.at_ 1 rfl) ?_)
 refine(ep ⟨cs,(q:Int),sa⟩ C k E _ _ K.xok (K.sl 1 rfl) x.out).mono ?_
 rintro e w2 ⟨rfl,f⟩
 have K:=K.on f
 clear f
 have L:=K.r 2 rfl
 go_upto_region 5 with(fail)
 clear L
 go_wp2_with (first | refine K.ld 1 rfl ?_)
 refine(wQ ⟨cs,(q:Int),sa⟩ x.out C k E _ _ K.xok (K.sl 1 rfl)).mono ?_
 rw[I.out]
 rintro e w3 ⟨B3,D,c3,rfl,c,f⟩
 have K:=(K.on f).ksl c
 have o:=Lib.hid c.len
 have ab:D≤65536:=by have:=o.out;omega
 clear f c
 go_upto_region 8 with(fail)
 refine K.rg fun W K=>?_
 refine tL 0 (fun _ h=>h.at_ 2 rfl) K ?_ (hy:=fun w H=>aM H)
 refine tK 2 K ?_
 refine tL 3 (fun _ h=>h.r 2 rfl) K ?_
 refine tK 4 K ?_
 refine tC 1 fun K' hK=>?_
 go_simp
 refine(fY fs A n m room _ _ K.xok (K.sl 1 rfl) z N).mono ?_
 rintro e w4 ⟨rfl,f⟩
 have K:=K.on f
 refine hK.out _ _ K fun _=>?_
 clear hK K' f
 try simp only[Act.put,an,ai,aj]
 refine tK 5 K ?_
 refine tK 6 K ?_
 refine tE ?_
 go_wp2_with (first | refine K.ld 2 rfl ?_)
 refine(zF ⟨fs,room⟩ eP A n m _ _ K.xok (K.sl 1 rfl) i.out oY y.out).mono ?_
 rintro e w5 ⟨rfl,f⟩
 have K:=K.on f
 clear f
 have L:=K.r 2 rfl
 by_cases Q:(aA fs:Int)+bs.length≤room
 rotate_left
 ·have P:room<(aA fs:Int)+(D:Int):=by have:=o.out;omega
  go_wp2_with (first | refine K.ld 2 rfl ?_ | (refine K.lw fun W K=>?_;refine K.sr 0 rfl fun W K=>?_))
  refine K.rc2 0 rfl rfl (Or.inr ⟨fun h=>by have:=h.2;omega,A,m,?_⟩)
  rw[←l.out]
  exact⟨rfl,K.slb 1 rfl,K.below⟩
 have P:¬ room<(aA fs:Int)+(D:Int):=by have:=o.out;omega
 by_cases j:fs.length<64
 rotate_left
 ·have S:(64:Int)<(n:Int)+1:=by have:=l.out;omega
  go_wp2_with (first | refine K.ld 2 rfl ?_ | (refine K.lw fun W K=>?_;refine K.sr 0 rfl fun W K=>?_))
  refine K.rc2 0 rfl rfl (Or.inr ⟨fun h=>j h.1,A,m,?_⟩)
  rw[←l.out]
  exact⟨rfl,K.slb 1 rfl,K.below⟩
 have hn:n<64:=by have:=l.out;omega
 have S:¬ (64:Int)<(n:Int)+1:=by omega
 have Y:=Lib.hid (sO (a:=[]) (b:=[]) i.out B.out j oY (by simp only[List.length_nil];omega))
 have R:=Lib.hid (sO (a:=[]) (b:=bs) i.out B.out j oY (by simp only[List.length_nil,List.nil_append];omega))
 have M:=Lib.hid (sO (a:=bs) (b:=[]) i.out B.out j oY (by simp only[List.length_nil,List.nil_append];omega))
 have F:Hid (fO Fil.nm ⟨eP,[],[]⟩ fs=fs ++ [⟨eP,[],[]⟩]):=Lib.hid (by
  have:=Ba (pre:=fs) (post:=[]) (nm:=eP) B.out (fun d hd=>by cases hd)
  simpa [fE] using this)
 go_upto_region 20 with(fail)
 clear L P S
 go_wp2_with (first | refine K.ld 2 rfl ?_)
 refine(oU ⟨fs,room⟩ eP A n m _ _ K.xok (K.sl 1 rfl) i.out oY y.out hn).mono ?_
 simp only[F.out]
 rintro e w6 ⟨B6,c6,rfl,c,f⟩
 have K:=(K.on f).ksl c
 clear f c
 go_upto_region 23 with(refine K.lw fun W K=>?_;refine K.sr 2 rfl fun W K=>?_)
 go_wp2_with (first | refine K.ld 2 rfl ?_)
 refine(oH ⟨fs ++ [⟨eP,[],[]⟩],room⟩ ⟨eP,[],[]⟩ fs.length bs B3 D c3 B6 (n+1) c6 _ _ K.xok (K.sl 0 rfl) (K.sl 1 rfl) Y.out (nY _ _) (nE Y.out) (by simp only[vM];exact Q)).mono ?_
 simp only[uc,List.nil_append]
 rintro e w7 ⟨Z,c7,rfl,c,f⟩
 have K:=(K.on f).ksl c
 clear f c
 go_upto_region 26 with(refine K.lw fun W K=>?_;refine K.sr 2 rfl fun W K=>?_)
 go_wp2_with (first | refine K.ld 2 rfl ?_)
 refine(uz ⟨fs ++ [⟨eP,[],bs⟩],room⟩ ⟨eP,[],bs⟩ fs.length Z (n+1) c7 _ _ K.xok (K.sl 0 rfl) R.out (nY _ _) (nE R.out)).mono ?_
 simp only[uc,List.nil_append]
 rintro e w8 ⟨B8,c8,rfl,c,f⟩
 have K:=(K.on f).ksl c
 clear f c
 go_upto_region 29 with(refine K.lw fun W K=>?_;refine K.sr 2 rfl fun W K=>?_)
 refine K.rgt (fun V h=>h.tl) fun W K=>?_
 refine tL 0 (fun _ h=>h.at_ 1 rfl) K.tl ?_ (hy:=fun w H=>aM H)
 refine tK 1 K.tl ?_
 refine tL 2 (fun _ h=>h.r 0 rfl) K.tl ?_
 refine tC 3 fun K' hK=>?_
 go_simp
 refine(wh q v _ (hp.on K.below)).mono ?_
 rintro e w9 ⟨rfl,f⟩
 have K:=K.on f
 refine hK.out _ _ K.tl fun _=>?_
 clear hK K' f
 try simp only[Act.put,an,ai,aj]
 refine tC 4 fun K' hK=>?_
 go_simp
 refine(wD ⟨fs ++ [⟨eP,bs,[]⟩],room⟩ ⟨eP,bs,[]⟩ fs.length (cx q) B8 (n+1) c8 _ _ K.xok (K.sl 0 rfl) M.out (nY _ _) (nE M.out) (ux v) (AZ _ _ M.out.2.2.2.2.1)).mono ?_
 rintro e ac ⟨B9,c9,rfl,c,f⟩
 have J:=K.on f
 have K:=J.ksl c
 refine hK.out _ _ J.tl fun _=>?_
 clear hK K' f c J
 try simp only[Act.put,an,ai,aj]
 refine tK 5 K.tl.ft ?_
 refine tK 6 K.tl.ft ?_
 refine tSt 7 K 0 rfl (fun U h=>h.tl.ft) fun U K=>?_
 refine tK 8 K.tl.ft ?_
 refine tE ?_
 go_wp2
 exact K.rc2 0 rfl rfl (Or.inl ⟨by first | exact⟨j,Q⟩ | trivial,B9,c9,rfl,K.slb 0 rfl,K.below⟩)
end
section
open Go.RowKit
theorem oW {n m:Nat} (h:n<m) (c:m≤99999999):ltB (cx n) (cx m)=true:=by
 have a:=mG (n:=n)
 have b:=mG (n:=m)
 have d:=mX (qm n) (qm m) 0 (by rw[jP (by omega),jP c]) a.1 b.1 (by rw[a.2,b.2];exact h)
 unfold ltB
 rw[ByteArray.toList_eq,ByteArray.toList_eq,eA,eA]
 simp[Op.bytesLess,d]
def jB (ss:List St) (t:St):List St:=ss.filter (fun s=>decide (s.q≠t.q)) ++ [t]
theorem tY (ss:List St) (t:St):kOf (jB ss t)=t:=by unfold kOf jB;simp
theorem mg (p:Fil→Bool):∀ l:List Fil,aA (l.filter p)≤aA l
 | []=>Nat.le_refl _
 | x::l=>by
   have:=mg p l
   rw[List.filter_cons]
   split
   ·rw[bH,bH];omega
   ·rw[bH];omega
section
variable {room:Int} {k:Nat} {fs:List Fil} {gs:List Sg} {ss:List St} {t:St} {su:Int}
theorem JG.lt (h:JG room k fs gs ss t su):∀ d ∈ fs,ltB d.nm eP=true:=by
 obtain⟨fa,b,c⟩:=h.1.fa
 intro d a
 rw[b]at a
 rcases List.mem_append.1 a with a | a
 ·obtain⟨m,-,-,e⟩:=c.nm d a
  rw[e]
  exact xW m
 ·obtain⟨s,-,rfl⟩:=List.mem_map.1 a
  exact tq _
theorem JG.save (h:JG room k fs gs ss t su) (W:fs.length<64) (S:(aA fs:Int)+(cW t).length≤room):JG room k (qK (cx t.q.toNat) (cW t) fs) gs (jB ss t) t t.q:=by
 obtain⟨U,X,T,V⟩:=h.sizes
 obtain⟨fa,w,u⟩:=h.1.fa
 have z:=h.ok
 have P:=z.2.1
 have Q:=h.lt
 have r:∀ s ∈ ss,0≤s.q∧s.q≤t.q:=fun s g=>by
  obtain⟨a,b,-⟩:=h.2.1.pre s g
  exact⟨a.2.1,by omega⟩
 have hkeep:eJ eP (cx t.q.toNat) (fs ++ [⟨eP,cW t,[]⟩])=fa++(ss.filter (fun s=>decide (s.q≠t.q))).map snF:=by
  unfold eJ
  rw[List.filter_append,w,List.filter_append]
  have N:fa.filter (fun d => !fD eP (cx t.q.toNat) d)=fa:=List.filter_eq_self.2 fun d o=>by
   obtain⟨m,K,I,e⟩:=u.nm d o
   have a:=iW (xW m)
   have b:=iW (mR [t] (snF t) (by simp) m (by omega))
   rw[←e]at a b
   unfold fD
   simp[a,show d.nm≠cx t.q.toNat from b]
  have O:(ss.map snF).filter (fun d => !fD eP (cx t.q.toNat) d)=(ss.filter (fun s=>decide (s.q≠t.q))).map snF:=by
   rw[List.filter_map]
   congr 1
   refine List.filter_congr fun s g=>?_
   obtain⟨a,b⟩:=r s g
   have c:(snF s).nm≠eP:=iW (tq s.q.toNat)
   show(!(decide ((snF s).nm=eP) || decide ((snF s).nm=cx t.q.toNat)))=decide (s.q≠t.q)
   by_cases F:s.q=t.q
   ·have d:(snF s).nm=cx t.q.toNat:=by unfold snF;rw[F]
    simp[d,F]
   ·have d:(snF s).nm≠cx t.q.toNat:=iW (oW (n:=s.q.toNat) (m:=t.q.toNat) (by omega) (by omega))
    simp[c,d,F]
  have B:([⟨eP,cW t,[]⟩]:List Fil).filter (fun d => !fD eP (cx t.q.toNat) d) = []:=by simp[fD]
  rw[N,O,B,List.append_nil]
 have p:qK (cx t.q.toNat) (cW t) fs=fa++(jB ss t).map snF:=by
  unfold qK DI
  rw[hkeep,mN (i:=(fa++(ss.filter (fun s=>decide (s.q≠t.q))).map snF).length) (Nat.le_refl _) (fun j d _ o=>?_) (fun d o=>by simp at o)]
  ·rw[List.take_length,List.drop_length]
   unfold jB
   simp[snF]
  ·rcases List.mem_append.1 (List.mem_of_getElem? o) with o | o
   ·obtain⟨m,K,I,e⟩:=u.nm d o
    rw[e]
    exact mR [t] (snF t) (by simp) m (by omega)
   ·obtain⟨s,g,rfl⟩:=List.mem_map.1 o
    obtain⟨g,l⟩:=List.mem_filter.1 g
    obtain⟨a,b⟩:=r s g
    have l:=of_decide_eq_true l
    exact oW (by omega) (by omega)
 have E:=h.1.dk
 have C:aA (fa++(ss.filter (fun s=>decide (s.q≠t.q))).map snF)≤aA fs:=by
  have:=mg (fun d => !fD eP (cx t.q.toNat) d) fs
  have e:fs.filter (fun d => !fD eP (cx t.q.toNat) d)=fa++(ss.filter (fun s=>decide (s.q≠t.q))).map snF:=by
   have:=hkeep
   unfold eJ at this
   rw[List.filter_append]at this
   have B:([⟨eP,cW t,[]⟩]:List Fil).filter (fun d => !fD eP (cx t.q.toNat) d) = []:=by simp[fD]
   rw[B,List.append_nil]at this
   exact this
  rw[e]at this
  exact this
 have hsub:(fa++(ss.filter (fun s=>decide (s.q≠t.q))).map snF).Sublist fs:=by
  rw[w]
  exact(List.Sublist.refl fa).append ((List.filter_sublist).map snF)
 have A:cj ⟨qK (cx t.q.toNat) (cW t) fs,room⟩:=by
  obtain⟨R,H,L,G,J,M⟩:=E
  simp only at R H L G J M
  have e:fa++(jB ss t).map snF=(fa++(ss.filter (fun s=>decide (s.q≠t.q))).map snF) ++ [snF t]:=by unfold jB;simp
  refine⟨?_,H,L,fun f v=>?_,?_,?_⟩
  ·simp only
   rw[p,e,List.length_append,List.length_singleton]
   have:=hsub.length_le
   omega
  ·simp only at v
   rw[p,e]at v
   rcases List.mem_append.1 v with v | v
   ·exact G f (hsub.subset v)
   ·rw[List.mem_singleton]at v
    subst v
    exact ux (by omega)
  ·simp only
   rw[p,e]
   refine List.pairwise_append.2 ⟨J.sublist hsub,List.pairwise_singleton _ _,fun x D y hy=>?_⟩
   rw[List.mem_singleton]at hy
   subst hy
   rcases List.mem_append.1 D with o | o
   ·obtain⟨m,K,I,e⟩:=u.nm x o
    rw[e]
    exact mR [t] (snF t) (by simp) m (by omega)
   ·obtain⟨s,g,rfl⟩:=List.mem_map.1 o
    obtain⟨g,l⟩:=List.mem_filter.1 g
    obtain⟨a,b⟩:=r s g
    have l:=of_decide_eq_true l
    exact oW (by omega) (by omega)
  ·simp only
   rw[p,e,fQ,bH]
   have:(snF t).all.length=(cW t).length:=by simp[snF,Fil.all]
   simp only[aA,List.map_nil,List.sum_nil]at C S M ⊢
   omega
 refine⟨⟨⟨fa,p,u⟩,h.1.goes,rfl,rfl,A⟩,⟨fun s g=>?_,?_⟩,h.2.2.1,h.2.2.2.1,by rw[tY];exact Int.le_refl _,Int.le_refl _⟩
 ·unfold jB at g
  rcases List.mem_append.1 g with g | g
  ·exact h.2.1.pre s (List.mem_filter.1 g).1
  ·rw[List.mem_singleton]at g
   subst g
   refine⟨z,by omega,?_⟩
   rw[List.take_of_length_le (by omega)]
   exact(ou _ _ _ h.1.goes.weak bI).2
 ·unfold jB
  refine List.pairwise_append.2 ⟨h.2.1.asc.filter _,List.pairwise_singleton _ _,fun x D y hy=>?_⟩
  rw[List.mem_singleton]at hy
  subst hy
  obtain⟨g,l⟩:=List.mem_filter.1 D
  obtain⟨a,b⟩:=r x g
  have l:=of_decide_eq_true l
  omega
end
end
section
open Go.RowKit
theorem DS {room:Int} {k:Nat} {fs:List Fil} {gs:List Sg} {ss:List St} {t:St} {u:Int} (h:JG room k fs gs ss t u) (b d:Int) (y:dH b d=true) (A:Option Addr) (n I:Nat) (S:Option Addr) (m G:Nat) (N:Option Addr) (nn H:Nat) (C:Option Addr) (kk J:Nat) (sh:Bool)
 (X:List Nat) (w:World) (hX:XOk X w) (s:Sl ax w X A n I fs) (f:Sl bw w X S m G ((aJ 0 gs).map aD)) (i:Sl af w X N nn H (aa (aJ 0 gs)).ns) (r:Sl aI w X C kk J t.cs) (K:aV w):
 Calls Tryz.prog 65 #[.agg (jnA A n I room b d S m G (aa (aJ 0 gs)).q (aa (aJ 0 gs)).a N nn H C kk J t.q t.a u (kOf ss).q sh).toArray] w fun e w' => ∃ fs',(JG room k fs' gs ss t t.q∧aA fs'=aA fs∧fs'.length=fs.length)∧JPc fs' room b d ((aJ 0 gs).map aD) (aa (aJ 0 gs)) t t.q (kOf ss).q sh 0 X w e w':=by
 have v:=h.ok
 have B:=h.look
 have x:=h.al
 have z:nn≤1000:=by have:=h.ns;rw[i.len];omega
 obtain⟨W,z2,z3,z4⟩:=h.sizes
 have p:(kOf ss).q≤u∧u≤t.q:=⟨h.2.2.2.2.1,h.2.2.2.2.2⟩
 have E:JG room k fs gs ss t t.q:=⟨h.1,h.2.1,h.2.2.1,h.2.2.2.1,by omega,Int.le_refl _⟩
 rcases List.eq_nil_or_concat gs with rfl | ⟨l,g,rfl⟩
 ·obtain rfl:m=0:=f.len
  exact(vu fs room _ _ t B x b d y A n I S 0 G N nn H C kk J u p v sh X w hX s f i z r K rfl).mono fun e w' D=>⟨fs,⟨E,rfl,rfl⟩,D⟩
 ·rw[List.concat_eq_append]at *
  obtain⟨j1,L,j3,j4,j5,Z,Y,j8,j9,F,T,O,V⟩:=h.last
  have hlen:(l ++ [g]).length=l.length+1:=by simp
  obtain rfl:m=l.length+1:=by rw[f.len,List.length_map,gD,hlen]
  have j:(aJ 0 (l ++ [g])).map aD=(aJ 0 l).map aD ++ [aD (g.pr (l.length+1))]:=by rw[cQ,List.map_append,Nat.zero_add];rfl
  cases hd:g.sd with
  | true=>
    exact(rR _ _ l.length fs room _ _ t B x b d y A n I S G N nn H C kk J u p v sh X w hX s f i z r K j (F.trans hd)).mono fun e w' D=>⟨fs,⟨E,rfl,rfl⟩,D⟩
  | false=>
    have o:(aD (g.pr (l.length+1))).num.toNat=l.length+1:=by rw[L];omega
    obtain⟨M,P,R,Q,U⟩:=xo h.1.fa h.1.dk (by omega)
    have hrun:fG room [.sy (az (aD (g.pr (l.length+1))).num.toNat)] fs:=by rw[o];exact M
    refine(vn _ _ l.length fs room _ _ t B x b d y A n I S G N nn H C kk J u p v sh X w hX s f i z r K j (F.trans hd) (by rw[L];omega) hrun).mono fun e w' D=>?_
    rw[o]at D
    exact⟨_,⟨⟨⟨P,h.1.goes,h.1.sg,h.1.c,R⟩,h.2.1,h.2.2.1,h.2.2.2.1,by omega,Int.le_refl _⟩,Q,U⟩,D⟩
set_option maxHeartbeats 2000000 in
theorem ES {room:Int} {k:Nat} {fs:List Fil} {gs:List Sg} {ss:List St} {t:St} {o:Int} (h:JG room k fs gs ss t o) (b i:Int) (y:dH b i=true) (A:Option Addr) (n j:Nat) (S:Option Addr) (m s:Nat) (N:Option Addr) (nn u:Nat) (C:Option Addr) (kk v:Nat) (sh:Bool)
 (X:List Nat) (w:World) (hX:XOk X w) (g:Sl ax w X A n j fs) (f:Sl bw w X S m s ((aJ 0 gs).map aD)) (c:Sl af w X N nn u (aa (aJ 0 gs)).ns) (d:Sl aI w X C kk v t.cs) (x:aV w):
 Calls Tryz.prog 64 #[.agg (jnA A n j room b i S m s (aa (aJ 0 gs)).q (aa (aJ 0 gs)).a N nn u C kk v t.q t.a o (kOf ss).q sh).toArray] w fun e w'=>e = .returned (.int .i64 0)∧Below w.heap.size w w':=by
 have B:nn≤1000:=by have:=h.ns;rw[c.len];omega
 have l:(kOf ss).q≤o∧o≤t.q:=⟨h.2.2.2.2.1,h.2.2.2.2.2⟩
 have D:=fun(w:World) (X:List Nat) (hX:XOk X w) (g:Sl ax w X A n j fs) (f:Sl bw w X S m s ((aJ 0 gs).map aD)) (c:Sl af w X N nn u (aa (aJ 0 gs)).ns) (d:Sl aI w X C kk v t.cs) (x:aV w)=>Lib.hid (pL fs room (aJ 0 gs) _ t h.look h.al b i y A n j S m s N nn u C kk v o l sh h.ok X w hX g f c B d x)
 have z:=Lib.hid h.1.dk
 clear h l
 simp only[jnA]at D ⊢
 go_enter Tryz.func64,Tryz.ntmps64
 go_upto_region 1 with(fail)
 refine(hstart hX).cw fun W K=>?_
 have K:=(((K.ksl0 d).ksl0 c).ksl0 f).ksl0 g
 clear d c f g
 have c0:=K.r 0 rfl
 go_wp2_with (first | refine bF (K.sub 0 rfl 0 [.slice A n j,.int .i64 room,.int .i64 (-1),.bool false]) ?_)
 refine(eZ ⟨fs,room⟩ A n j _ _ K.xok (K.sl 0 rfl) z.out).mono ?_
 rintro e E ⟨rfl,p⟩
 have K:=K.on p
 clear p c0
 have c0:=K.r 0 rfl
 go_upto_region 3 with(fail)
 clear c0
 go_wp2_with (first | refine K.ld 0 rfl ?_)
 refine(D _ _ K.xok (K.sl 0 rfl) (K.sl 1 rfl) (K.sl 2 rfl) (K.sl 3 rfl) (x.on K.below)).out.mono ?_
 rintro e F ⟨rfl,p⟩
 have K:=K.on p
 go_wp2
 go_ret
 exact⟨rfl,K.below⟩
def Gz (room:Int) (k:Nat) (fs:List Fil) (gs:List Sg) (ss:List St) (t:St) (b age:Int) (sh:Bool) (X:List Nat) (w:World) (e:Ending) (w':World):Prop:=
 vW (fs.length<64∧(aA fs:Int)+(cW t).length≤room) (fun e w' => ∃ fs',JG room k fs' gs (jB ss t) t t.q∧JPc fs' room b age ((aJ 0 gs).map aD) (aa (aJ 0 gs)) t t.q t.q sh 0 X w e w')
  (fun e w' => ∃ fs',JG room k fs' gs ss t t.q∧JPc fs' room b age ((aJ 0 gs).map aD) (aa (aJ 0 gs)) t t.q (kOf ss).q sh 13 X w e w') e w'
set_option maxHeartbeats 4000000 in
theorem xx {room:Int} {k:Nat} {fs:List Fil} {gs:List Sg} {ss:List St} {t:St} {su:Int} (h:JG room k fs gs ss t su) (b d:Int) (M:dH b d=true) (A:Option Addr) (n F:Nat) (S:Option Addr) (m E:Nat) (N:Option Addr) (nn G:Nat) (C:Option Addr) (kk H:Nat) (sh:Bool)
 (X:List Nat) (w:World) (hX:XOk X w) (g:Sl ax w X A n F fs) (f:Sl bw w X S m E ((aJ 0 gs).map aD)) (j:Sl af w X N nn G (aa (aJ 0 gs)).ns) (i:Sl aI w X C kk H t.cs) (D:aV w):
 Calls Tryz.prog 21 #[.agg (jnA A n F room b d S m E (aa (aJ 0 gs)).q (aa (aJ 0 gs)).a N nn G C kk H t.q t.a su (kOf ss).q sh).toArray] w (Gz room k fs gs ss t b d sh X w):=by
 have HM:=fun(w:World) (X:List Nat) (hX:XOk X w) (g:Sl ax w X A n F fs) (f:Sl bw w X S m E ((aJ 0 gs).map aD)) (j:Sl af w X N nn G (aa (aJ 0 gs)).ns) (i:Sl aI w X C kk H t.cs) (D:aV w)=>Lib.hid (ES h b d M A n F S m E N nn G C kk H sh X w hX g f j i D)
 have HS:=fun(w:World) (X:List Nat) (hX:XOk X w) (g:Sl ax w X A n F fs) (f:Sl bw w X S m E ((aJ 0 gs).map aD)) (j:Sl af w X N nn G (aa (aJ 0 gs)).ns) (i:Sl aI w X C kk H t.cs) (D:aV w)=>Lib.hid (DS h b d M A n F S m E N nn G C kk H sh X w hX g f j i D)
 have Y:=Lib.hid h.ok
 obtain⟨z1,z2,z3,z4⟩:=h.sizes
 have hq:t.q≤40:=by omega
 have ac:=h.ok.2.1
 clear h z1 z2 z3 z4
 simp only[jnA]at HM HS ⊢
 go_enter Tryz.func21,Tryz.ntmps21
 go_upto_region 1 with(fail)
 refine(hstart hX).cw fun W K=>?_
 have K:=(((K.ksl0 i).ksl0 j).ksl0 f).ksl0 g
 clear i j f g
 go_wp2_with (first | refine K.ld 1 rfl ?_)
 refine(HM _ _ K.xok (K.sl 0 rfl) (K.sl 1 rfl) (K.sl 2 rfl) (K.sl 3 rfl) (D.on K.below)).out.mono ?_
 rintro e w1 ⟨rfl,s⟩
 have K:=K.on s
 clear s HM
 go_wp2_with (first | refine K.ld 1 rfl ?_)
 refine(HS _ _ K.xok (K.sl 0 rfl) (K.sl 1 rfl) (K.sl 2 rfl) (K.sl 3 rfl) (D.on K.below)).out.mono ?_
 rintro e w2 ⟨v,⟨u,O,Q⟩,A2,V,x,S2,m2,y,U,z,B,I,l,o,rfl,h1,h2,h3,h4,s⟩
 have K:=((((K.on s).ksl h4).ksl h3).ksl h2).ksl h1
 clear s h1 h2 h3 h4 HS
 have L:=Lib.hid u
 have Z:=Lib.hid u.1.dk
 have hall:=Lib.hid u.lt
 have T:Hid (aA v=aA fs∧v.length=fs.length):=Lib.hid ⟨O,Q⟩
 clear u O Q
 go_upto_region 5 with(refine K.lw fun W K=>?_;refine K.sr 0 rfl fun W K=>?_)
 have c0:=K.r 0 rfl
 go_upto_region 7 with(fail)
 clear c0
 go_wp2_with (first | refine bF (K.sub 0 rfl 0 [.slice A2 V x,.int .i64 room,.int .i64 (-1),.bool false]) ?_ | refine bF (K.sub 0 rfl 10 [.slice I l o,.int .i64 t.q,.int .i64 t.a]) ?_)
 refine(DQ v room t t.q.toNat (by omega) (by omega) Y.out Z.out hall.out A2 V x I l o _ _ K.xok (K.sl 0 rfl) (K.sl 3 rfl) (D.on K.below)).mono ?_
 rw[T.out.1,T.out.2]
 rintro e w3 (⟨P,B3,c3,rfl,p,s⟩ | ⟨P,B3,c3,rfl,p,s⟩)
 ·have J:=Lib.hid P
  have K:=(K.on s).ksl p
  clear s p P
  generalize R:qK (cx t.q.toNat) (cW t) v=fs3 at K ⊢
  have ab:=Lib.hid R
  clear R
  go_upto_region 8 with(refine K.lw fun W K=>?_;refine K.sr 0 rfl fun W K=>?_)
  go_upto_region 13 with(fail)
  go_upto_region 14 with(first | refine K.ld 0 rfl ?_ | refine K.ss (new:=(jnA B3 fs3.length c3 room b d S2 m2 y (aa (aJ 0 gs)).q (aa (aJ 0 gs)).a U z B I l o t.q t.a t.q (kOf ss).q sh).toArray) 1 rfl fun W K=>?_)
  have K:=K.tl
  have c0:=K.c 0 rfl
  go_upto_region 15 with(fail)
  refine K.cw fun W K=>?_
  clear c0
  go_wp2_with (first | refine K.ld 0 rfl ?_ | (refine K.sr 1 rfl fun W K=>?_))
  exact K.rc2 1 rfl rfl (Or.inl ⟨J.out,_,ab.out ▸ L.out.save (by rw[T.out.2];exact J.out.1) (by rw[T.out.1];exact J.out.2),B3,_,c3,S2,m2,y,U,z,B,I,l,o,rfl,K.slb 0 rfl,K.slb 2 rfl,K.slb 3 rfl,K.slb 4 rfl,K.below⟩)
 ·have J:=Lib.hid P
  have K:=(K.on s).ksl p
  clear s p P
  go_upto_region 8 with(refine K.lw fun W K=>?_;refine K.sr 0 rfl fun W K=>?_)
  go_wp2_with (first | refine K.ld 1 rfl ?_ | (refine K.sr 2 rfl fun W K=>?_))
  exact K.rc2 2 rfl rfl (Or.inr ⟨J.out,_,L.out,A2,V,x,S2,m2,y,U,z,B,I,l,o,rfl,K.slb 1 rfl,K.slb 2 rfl,K.slb 3 rfl,K.slb 4 rfl,K.below⟩)
end
section
open Go.RowKit
def qu (ps:List Prt) (k:Nat):List Evt:=(ps.take k).flatMap (fun p=>p.s.evs)
theorem EU {ps:List Prt} {k:Nat} {p:Prt} (h:ps[k]?=some p):qu ps (k+1)=qu ps k++p.s.evs:=by
 obtain⟨a,rfl⟩:=List.getElem?_eq_some_iff.1 h
 unfold qu
 rw[List.take_succ_eq_append_getElem a,List.flatMap_append]
 simp
theorem Dt (ps:List Prt):qu ps ps.length=ps.flatMap (fun p=>p.s.evs):=by unfold qu;rw[List.take_length]
theorem ug:∀ (gs:List Sg) (n:Nat),(aJ n gs).flatMap (fun p=>p.s.evs)=aY gs
 | [],_=>rfl
 | g::gs,n=>by
   have:=ug gs (n+1)
   simp only[aJ,List.flatMap_cons,aY]at this ⊢
   rw[this]
   rfl
theorem Ek (ps:List Prt) (k:Nat):(qu ps k).length≤(ps.flatMap (fun p=>p.s.evs)).length:=by
 have:ps.flatMap (fun p=>p.s.evs)=qu ps k++(ps.drop k).flatMap (fun p=>p.s.evs):=by
  unfold qu
  rw[←List.flatMap_append,List.take_append_drop]
 rw[this,List.length_append]
 omega
set_option maxHeartbeats 4000000 in
theorem nF (fs:List Fil) (room:Int) (ps:List Prt) (k0 t:St) (R:cR fs room ps [] k0 t) (F:∀ p ∈ ps,(p.al:Int)≤p.s.size) (b c:Int) (ag:dH b c=true) (A:Option Addr) (n o:Nat) (S:Option Addr) (m y:Nat) (N:Option Addr) (nn J:Nat) (C:Option Addr) (kk Q:Nat) (I:Int) (z:k0.q≤I∧I≤t.q) (sh:Bool) (M:bD t)
 (X:List Nat) (w:World) (hX:XOk X w) (d:Sl ax w X A n o fs) (h:Sl bw w X S m y (ps.map aD)) (g:Sl af w X N nn J (aa ps).ns) (ah:nn≤1000) (f:Sl aI w X C kk Q t.cs) (T:aV w) (H:(ps.flatMap (fun p=>p.s.evs)).length≤40):
 Calls Tryz.prog 22 #[.agg (jnA A n o room b c S m y (aa ps).q (aa ps).a N nn J C kk Q t.q t.a I k0.q sh).toArray] w fun e w' => ∃ B nb cb,e = .returned (.slice B nb cb)∧Sl iz w' X B nb cb (ps.flatMap (fun p=>p.s.evs))∧Below w.heap.size w w':=by
 have D:=Lib.hid H
 have HM:=fun(w:World) (X:List Nat) (hX:XOk X w) (d:Sl ax w X A n o fs) (h:Sl bw w X S m y (ps.map aD)) (g:Sl af w X N nn J (aa ps).ns) (f:Sl aI w X C kk Q t.cs) (T:aV w)=>Lib.hid (pL fs room ps k0 t R F b c ag A n o S m y N nn J C kk Q I z sh M X w hX d h g ah f T)
 clear M F z H
 simp only[jnA]at HM ⊢
 go_enter Tryz.func22,Tryz.ntmps22
 go_upto_region 1 with(fail)
 refine(hstart hX).cw fun W K=>?_
 have K:=(((K.ksl0 f).ksl0 g).ksl0 h).ksl0 d
 clear f g h d
 go_wp2_with (first | refine K.ld 0 rfl ?_)
 refine(HM _ _ K.xok (K.sl 0 rfl) (K.sl 1 rfl) (K.sl 2 rfl) (K.sl 3 rfl) (T.on K.below)).out.mono ?_
 rintro e w1 ⟨rfl,G⟩
 have K:=K.on G
 clear G HM
 go_upto_region 4 with(fail)
 go_wp2_with (first | refine bF (K.sub 0 rfl 0 [.slice A n o,.int .i64 room,.int .i64 (-1),.bool false]) ?_)
 refine(wJ fs room ps [] k0 t R A n o _ _ K.xok (K.sl 0 rfl) (T.on K.below)).mono ?_
 rintro e w2 ⟨B,l,bc,O,on,oc,C2,k2,ac,rfl,h1,h2,h3,ar,G⟩
 have K:=(((K.on G).ft.ft.ft.ft.ksl h1).nrow (e:=44) (size:=7) (n:=0) (v := .slice none 0 0) (xs:=[]) (Below.refl _ _) ⟨rfl,.inl ⟨rfl,rfl⟩⟩).kra (s:=iz) (vs:=[]) (xs:=[]) rfl
 have HL:=Lib.hid h1.len
 clear G h1 h2 h3
 have ae:=fun(W:World)=>ox (P:=Tryz.prog) (ty:=77) (i:=0) (off:=0) (cs:=#[.slice B l bc,.slice O on oc,.int .i64 k0.q,.slice C2 k2 ac,.int .i64 t.q,.int .i64 t.a,.bool true]) (v := .slice B l bc) (by kernel_rfl) rfl W
 go_wp2
 clear ae
 go_loopw [3,14] (fun v i wr => ∃ (k r Z:Nat) (vt:Option Addr) (vs:List Value),k≤l∧i = .int .i64 k∧v = .slice vt r Z∧Hid (r=(qu ps k).length) ∧
  HH w [] X wr [.row 44 7 (.slice vt r Z) r vs,.box w.heap.size 39 (jnA A n o room b c S m y (aa ps).q (aa ps).a N nn J C kk Q t.q t.a I k0.q sh).toArray] [Ra.fact iz vs (qu ps k),Sl.fact dP B l bc ps]) (fun _ i _=>l-(intOf i).toNat)
 case atStart=>exact⟨0,0,0,none,[],Nat.zero_le _,rfl,rfl,Lib.hid rfl,K⟩
 case round=>
  obtain⟨k,r,Z,vt,vs,hk,rfl,rfl,HE,K⟩:=hrel
  by_cases ap:k<l
  ·obtain⟨p,Y⟩:∃ x,ps[k]?=some x:=⟨_,List.getElem?_eq_getElem (by have:=HL.out;omega)⟩
   have HX:=Lib.hid (EU Y)
   have HB:=Lib.hid (Ek ps (k+1))
   obtain⟨ad,rr,rfl,K,⟨E,en,ec,An,n3,c3,rfl,V,-⟩⟩:=K.elem 1 rfl (j:=k) (x:=p) Y
   have K:=K.ksl V
   have u:=Lib.hid V.len
   have ab:r+en≤100000:=by
    have h4:=HB.out
    rw[HX.out,List.length_append]at h4
    have:=HE.out
    have:=u.out
    have:=D.out
    omega
   have i1:(0:Int)≤(k:Int):=by omega
   have i2:(k:Int)<(l:Int):=by omega
   clear Y V
   go_upto_region 7 with(first | refine bF (K.at' 1 rfl) ?_ | (refine K.lw fun W K=>?_;refine K.sr 0 rfl fun W K=>?_))
   have c0:=K.r 0 rfl
   go_wp2_with (at_builtin;refine K.apS 64 1 rfl (K.sl 0 rfl) ab fun v' vs' U K=>?_)
   obtain⟨ao,am,rfl,-⟩:=aK (K.row 1 rfl)
   go_roundw
   case rel=>
    have L:=(K.ra 3 rfl).append (K.ra 0 rfl)
    rw[←HX.out]at L
    have K:=(K.kra L).tl
    refine⟨k+1,r+en,am,ao,vs++vs',by omega,by go_num,rfl,by rw[HX.out,List.length_append,←HE.out,←u.out];exact Lib.hid rfl,?_⟩
    exact(K.out.forget (List.Sublist.cons_cons _ (List.Sublist.cons _ (List.Sublist.cons _ (List.Sublist.cons _ (List.Sublist.cons _ (List.Sublist.refl _))))))).hh
   case measure=>simp[intOf];omega
  ·have i2:¬ (k:Int)<(l:Int):=by omega
   obtain rfl:k=ps.length:=by have:=HL.out;omega
   rw[Dt]at K
   go_wp2
   go_ret
   obtain⟨B3,c3,e3,KS⟩:=K.out.done_row (s:=iz) 0 rfl (K.ra 0 rfl) (by decide) (by simp)
   injection e3 with e4 e5 e6
   subst e4 e6
   exact⟨_,_,_,rfl,(KS.hh).slb 0 rfl,KS.below⟩
end
section
open Go.RowKit
set_option maxHeartbeats 3000000 in
theorem Gf (fs:List Fil) (i:Nat) (x:Fil) (H:fs[i]?=some x) (N w:World) (X:List Nat) (L:List Itm) (F:List Fact) (v:Value) (vs:List Value)
 (K:HH N [] X w (.row 110 3 v fs.length vs::L) (Ra.fact ax vs fs::F)) (hn:fs.length≤64):
 Calls Tryz.prog 199 #[v,.int .i64 (i:Int),.int .i64 ((i:Int)+1)] w fun e w' => ∃ v' vs',e = .returned v'∧HH N [] X w' (.row 110 3 v' (fs.eraseIdx i).length vs'::L) (Ra.fact ax vs' (fs.eraseIdx i)::F):=by
 have I:=(List.getElem?_eq_some_iff.1 H).1
 have n:Hid ((fs.eraseIdx i).length=fs.length-1):=List.length_eraseIdx_of_lt I
 have z:=Lib.hid (List.eraseIdx_eq_take_drop_succ fs i)
 obtain⟨A,cap,rfl,-⟩:=aK (K.row 0 rfl)
 obtain⟨g,rfl⟩:∃ g,A=some ⟨g,0,none⟩:=by
  rcases(K.row 0 rfl).2 with⟨h,_⟩ | ⟨g,cap',cur,h,_⟩
  ·injection h with R h2 T;omega
  ·injection h with R;exact⟨g,R⟩
 obtain⟨m,f⟩:∃ m,m+1=fs.length:=⟨fs.length-1,by omega⟩
 rw[←f]at K hn I n ⊢
 have D:=Lib.hid f
 clear f H
 have hcap:m+1≤cap∧cap≤maxLen:=by
  rcases(K.row 0 rfl).2 with⟨h,_⟩ | ⟨g',cap',cur,h,-,-,q,M,-⟩
  ·cases h
  ·injection h with h7 h8 h9;omega
 obtain⟨ae,E⟩:=hcap
 unfold maxLen at E
 have ac:vs.length=(m+1)*3:=by have q:=(K.ra 0 rfl).length;rw[←D.out]at q;exact q
 have i1:(0:Int)≤(i:Int):=by omega
 have i2:wrap64 ((i:Int)+1)=(i:Int)+1:=by unfold wrap64;omega
 have i3:¬ (i:Int)=(i:Int)+1:=by omega
 have i4:(i:Int)+1≤((m+1:Nat):Int):=by omega
 have i5:i≤cap:=by omega
 have i6:i+1≤cap:=by omega
 have ia:i≤m:=by omega
 have i7:(0:Int)≤(i:Int)+1:=by omega
 obtain⟨news,hnews⟩:∃ news,news=vs.drop ((i+1)*3):=⟨_,rfl⟩
 have hlen:news.length=(m-i)*3:=by rw[hnews,List.length_drop];omega
 obtain⟨Q,hQ,hsrc⟩:∃ Q:Addr,(if cap=i+1 then(some ⟨g,0,none⟩:Option Addr) else some ⟨g,(i+1)*3,none⟩)=some Q∧Hid (∀ U:World,U.ownsRow 0 110 3 (.slice (some ⟨g,0,none⟩) (m+1) cap) (m+1) vs → ∀ j u,news[j]?=some u→U.cell? (Q.add j)=some u):=by
  by_cases h:cap=i+1
  ·refine⟨⟨g,0,none⟩,by simp[h],fun U O j u a=>?_⟩
   have h0:news.length=0:=by rw[hlen];omega
   rw[List.length_eq_zero_iff.1 h0]at a
   simp at a
  ·refine⟨⟨g,(i+1)*3,none⟩,by simp[h],fun U O j u a=>?_⟩
   rw[hnews,List.getElem?_drop]at a
   obtain⟨T,⟨h4,_⟩ | ⟨g',cap',cur,he,q,M,h7,h8,h9,G⟩⟩:=O
   ·cases h4
   ·injection he with b ag S
    injection b with b
    injection b with b
    subst b
    rw[add_plain,Blk.cell (t:=110) M]
    rw[←G,List.getElem?_take]at a
    split at a
    ·simpa using a
    ·cases a
 have s2:Hid (∀ u ∈ news,u.oneCell'=true):=by
  intro u a
  rw[hnews]at a
  exact aC.one_ (K.ra 0 rfl) u (List.mem_of_mem_drop a)
 have y:=Lib.hid hnews
 have c:=Lib.hid hlen
 clear hnews hlen
 go_enter Tryz.func199,Tryz.ntmps199
 go_upto_region 5 with(fail)
 refine K.rgt (fun V h=>h.tl.ft) fun W K=>?_
 refine tK 0 K.tl.ft ?_
 refine tK 1 K.tl.ft ?_
 refine tK 2 K.tl.ft ?_
 refine tK 3 K.tl.ft ?_
 refine tK 4 K.tl.ft ?_
 refine tK 5 K.tl.ft ?_
 obtain⟨Z,f0,z0,s,ah,C,Y,ad⟩:=iE (P:=Tryz.prog) (ty:=28) (e:=110) (size:=3) (bytes:=64) (by kernel_rfl)
 have l:=(K.out.row_sets 0 rfl (i*3) news (by rw[c.out];omega)).hh
 refine tC 6 fun K' hK=>?_
 refine step_append_room rfl (.tmp 22) (.tmp 25) 28 rfl 110 f0 3 Z s C g 0 i cap (by simp[Act.eval]) Q (m-i) (cap-(i+1)) news (by simp[Act.eval,hQ]) c.out (hsrc.out W (K.row 0 rfl)) s2.out (by omega) ?_ ?_
 ·intro t ht
  rw[Nat.zero_add]
  refine⟨?_,K.rowf 0 rfl _⟩
  rw[K.rowc 0 rfl (List.getElem?_eq_getElem (by rw[c.out]at ht;omega))]
  rfl
 rw[Nat.zero_add,show i+(m-i)=m from by omega]
 generalize W.setCells g (i*3) news=W2 at l ⊢
 refine hK.out _ _ l.tl.ft fun _=>?_
 clear hK K'
 simp only[Act.put,an,ai,aj]
 refine tK 7 l.tl.ft ?_
 refine tE ?_
 obtain⟨d,o⟩:=qA 1
 have i8:¬ cap=m:=by omega
 have i9:m≤cap:=by omega
 have ab:(cV vs (i*3) news).length=(m+1)*3:=by simp only[cV,List.length_append,List.length_take,List.length_drop,c.out];omega
 have B:=fun ty=>kY (P:=Tryz.prog) W2 28 110 ty (.agg #[.string ⟨#[]⟩,.slice none 0 0,.slice none 0 0]) Tryz.underlying28 EZ g (m*3) 1 (cap-m) _ rfl (by omega) o (fun k J=>by
  rw[show((Value.agg #[.string ⟨#[]⟩,.slice none 0 0,.slice none 0 0]).cells)=(#[.string ⟨#[]⟩,.slice none 0 0,.slice none 0 0]:Array Value) from rfl,d]at J
  rw[l.rowc 0 rfl (List.getElem?_eq_getElem (by omega))]
  rfl) (fun k J=>l.rowf 0 rfl _)
 have r:=xZ (l.out.row_sets 0 rfl (m*3) (Builtin.zeroCells (#[.string ⟨#[]⟩,.slice none 0 0,.slice none 0 0]:Array Value) 1).toList (by rw[d];omega)).hh (m:=m) (by omega)
 have e1:(cV (cV vs (i*3) news) (m*3) (Builtin.zeroCells (#[.string ⟨#[]⟩,.slice none 0 0,.slice none 0 0]:Array Value) 1).toList).take (m*3)=vs.take (i*ax.size)++vs.drop ((i+1)*ax.size):=by
  show _=vs.take (i*3)++vs.drop ((i+1)*3)
  rw[←y.out]
  have e2:((cV vs (i*3) news).take (m*3)).length=m*3:=by rw[List.length_take];omega
  rw[cV,List.append_assoc,List.take_append_of_le_length (by omega),List.take_of_length_le (by omega)]
  have e3:(vs.take (i*3)++news).length=m*3:=by rw[List.length_append,List.length_take,c.out];omega
  rw[cV,List.take_append_of_le_length (by omega),List.take_of_length_le (by omega)]
 clear d o
 go_wp2_with (simp only[B])
 go_ret
 rw[e1]at r
 have p:=((r.ra 0 rfl).take i).append ((r.ra 0 rfl).drop (i+1))
 rw[←z.out]at p
 rw[n.out,Nat.add_sub_cancel]
 exact⟨_,_,rfl,((r.kra p).out.forget (List.Sublist.cons_cons _ (List.Sublist.cons _ (List.Sublist.refl _)))).hh⟩
end
section
open Go.RowKit
theorem xm (i g:Nat) (x:Fil) (t:TypeId) (fs:List Fil) (c:fs.length≤64) (a:fs[i]?=some x):kW 198 #[.pointer (some ⟨g,0,none⟩)] [.box g t #[.int .i64 (i:Int)]] [] fs (fs.eraseIdx i):=by
 intro b w X L F v vs K hL hF
 have c0:=K.rm (List.mem_cons_of_mem _ (hL _ (List.mem_singleton.2 rfl)))
 have f:=(List.getElem?_eq_some_iff.1 a).1
 have h:wrap64 ((i:Int)+1)=(i:Int)+1:=by unfold wrap64;omega
 show Calls _ _ #[v,.pointer (some ⟨g,0,none⟩)] _ _
 go_enter Tryz.func198,Tryz.ntmps198
 go_wp2_with fail
 refine(Gf fs i x a b _ X L F v vs K c).mono ?_
 rintro e d ⟨v',vs',rfl,K⟩
 go_wp2
 go_ret
 exact⟨v',vs',rfl,K⟩
set_option maxHeartbeats 2000000 in
theorem wW (d:Dk) (x:Fil) (i:Nat) (A:Option Addr) (n f:Nat) (X:List Nat) (w:World) (hX:XOk X w) (g:Sl ax w X A n f d.fs) (j:cj d) (m:d.fs[i]?=some x) (k:findD d.fs x.nm=(i:Int)):
 Calls Tryz.prog 130 #[.agg #[.slice A n f,.int .i64 d.room,.int .i64 (-1),.bool false],.string x.nm] w fun e w' => ∃ B c,e = .returned (.tuple #[.agg #[.slice B (d.fs.eraseIdx i).length c,.int .i64 d.room,.int .i64 (-1),.bool false],.int .i64 0])∧Sl ax w' X B (d.fs.eraseIdx i).length c (d.fs.eraseIdx i)∧Below w.heap.size w w':=by
 obtain⟨l,v,t,o,q,u⟩:=j
 have a:=o x (List.mem_of_getElem? m)
 have h:x.nm.size≤maxLen:=by unfold fnB at a;simp at a;unfold maxLen;omega
 have z:n≤64:=by have:=g.len;omega
 have y:=Lib.hid k
 have F:¬ (i:Int) = -1:=by omega
 clear k
 go_enter Tryz.func130,Tryz.ntmps130
 go_wp2_with fail
 refine(hstart hX).cl fun W K=>?_
 have K:=(K.ksl0 g).one (s:=dx) (x:=x.nm) ⟨rfl,h⟩
 clear g
 refine(fj d A n f [x.nm] _ 1 1 _ W K.xok (K.sl 1 rfl) (K.sl 0 rfl) (by omega) (by simp[a]) ⟨l,v,t,o,q,u⟩).mono ?_
 rintro e D ⟨rfl,b⟩
 have K:=(K.on b).ft
 clear b
 have p:=K.r 1 rfl
 go_wp2_with (first | refine K.ld 1 rfl ?_)
 refine(fy d.fs d.room x.nm A n f _ _ K.xok (K.sl 0 rfl) (by omega)).mono ?_
 rw[y.out]
 rintro e C ⟨rfl,b⟩
 have K:=K.on b
 clear b p
 go_upto_region 5 with(fail)
 refine K.cw fun W K=>?_
 have c0:=K.r 0 rfl
 go_wp2_with (first | refine K.ld 2 rfl ?_)
 refine(gG 198 _ _ _ d.fs (d.fs.eraseIdx i) d.room A n f w _ X K z ((xm i C.heap.size x 3 d.fs l m).more (by simp) (by simp)) Tryz.call198).mono ?_
 rintro e G ⟨H,E,rfl,K⟩
 clear c0
 go_wp2_with (refine K.lw fun W K=>?_;refine K.sr 1 rfl fun W K=>?_)
 exact K.rc2 1 rfl rfl ⟨_,_,rfl,K.slb 0 rfl,K.below⟩
def iP (x:Fil) (k:Nat):Fil:=⟨x.nm,(x.all.take k).take (min k x.su.length),(x.all.take k).drop (min k x.su.length)⟩
theorem jD (x:Fil) (k:Nat):(iP x k).all=x.all.take k:=List.take_append_drop _ _
set_option maxHeartbeats 2000000 in
theorem EP (x:Fil) (i k R Q g3:Nat) (t1 t2 t3:TypeId) (fs:List Fil) (hn:fs.length≤64) (A:fs[i]?=some x) (hlen:x.all.length≤90000) (N:x.nm.size≤maxLen) (hk:k≤x.all.length):
 kW 70 #[.pointer (some ⟨R,0,none⟩),.pointer (some ⟨Q,0,none⟩),.pointer (some ⟨g3,0,none⟩)] [.box R t1 #[.int .i64 (i:Int)],.box Q t2 #[.string x.nm],.box g3 t3 #[.int .i64 (k:Int)]] [] fs (fs.set i (iP x k)):=by
 intro w0 w X L F v vs K hL hF
 have c1:=K.rm (List.mem_cons_of_mem _ (hL _ (List.Mem.head _)))
 show Calls _ _ #[v,.pointer (some ⟨R,0,none⟩),.pointer (some ⟨Q,0,none⟩),.pointer (some ⟨g3,0,none⟩)] _ _
 obtain⟨B,cp,rfl,-⟩:=aK (K.row 0 rfl)
 have hi:=(List.getElem?_eq_some_iff.1 A).1
 obtain⟨g,rfl⟩:∃ g,B=some ⟨g,0,none⟩:=by
  rcases(K.row 0 rfl).2 with⟨h,_⟩ | ⟨g,cap,cur,h,_⟩
  ·injection h with j y G;omega
  ·injection h with j y G;exact⟨g,j⟩
 obtain⟨r,⟨H,o,Y,S,J,P,rfl,j,y,G⟩,ab⟩:=rowAt (K.ra 0 rfl) (e:=110) (g:=g) (n:=fs.length) (cap:=cp) A
 have K:=(K.ksl y).ksl j
 have O:=Lib.hid (ab w (K.row 0 rfl))
 have i1:(0:Int)≤(i:Int):=by omega
 have i2:(i:Int)<(fs.length:Int):=by omega
 have ad:vs.length=fs.length*3:=(K.ra 2 rfl).length
 have I:=Lib.hid j.len
 have ac:=Lib.hid y.len
 clear j y G hi
 go_enter Tryz.func70,Tryz.ntmps70
 go_upto_region 2 with(first | refine bF O.out ?_ | (refine K.lw fun W K=>?_;refine K.sr 0 rfl fun W K=>?_))
 have D:=fun {a b:Itm} {l:List Itm}=>List.Sublist.cons_cons a (List.Sublist.cons b (List.Sublist.refl l))
 refine K.rgt (fun V h=>h.drop D) fun W K=>?_
 refine tK 0 (K.drop D) ?_
 refine tL 1 (fun _ h=>h.rm (List.mem_cons_of_mem _ (hL _ (List.Mem.head _)))) (K.drop D) ?_
 refine tL 2 (fun _ h=>h.rm (List.mem_cons_of_mem _ (hL _ (List.Mem.tail _ (List.Mem.head _))))) (K.drop D) ?_
 refine tK 3 (K.drop D) ?_
 refine tL 4 (fun _ h=>h.r 0 rfl) (K.drop D) ?_
 refine tK 5 (K.drop D) ?_
 refine tL 6 (fun _ h=>h.r 0 rfl) (K.drop D) ?_
 refine tL 9 (fun _ h=>h.rm (List.mem_cons_of_mem _ (hL _ (List.Mem.tail _ (List.Mem.tail _ (List.Mem.head _)))))) (K.drop D) ?_
 refine tL 11 (fun _ h=>h.rm (List.mem_cons_of_mem _ (hL _ (List.Mem.tail _ (List.Mem.tail _ (List.Mem.head _)))))) (K.drop D) ?_
 refine tK 12 (K.drop D) ?_
 refine tL 13 (fun _ h=>h.r 0 rfl) (K.drop D) ?_
 refine tK 14 (K.drop D) ?_
 refine tK 15 (K.drop D) ?_
 refine tC 7 fun K' hK=>?_
 go_simp
 have K:=K.to (W':=W.alloc (.cells #[.slice H o Y,.slice S J P] 50))
 refine hK.out _ _ (K.tl.drop D) fun _=>?_
 clear hK K'
 try simp only[Act.put,an,ai,aj]
 have K:=K.many (s:=uS ak) (n:=2) (xs:=[x.su,x.lo]) ⟨_,_,rfl,⟨H,o,Y,rfl,K.tl.sl 0 rfl⟩,_,_,rfl,⟨S,J,P,rfl,K.tl.sl 1 rfl⟩,rfl⟩ rfl (by omega)
 obtain⟨T,hT⟩:∃ T,T=x.su++x.lo:=⟨_,rfl⟩
 have E:T.length≤90000:=by rw[hT];unfold Fil.all at hlen;simp only[List.length_append]at hlen ⊢;omega
 have z:k≤T.length:=by rw[hT];exact hk
 have HT:=Lib.hid hT
 have M:=Lib.hid (show [x.su,x.lo].flatten=T from by rw[hT];simp)
 clear hT
 generalize W.alloc (.cells #[.slice H o Y,.slice S J P] 50)=W1 at K ⊢
 refine tC 8 fun K' hK=>?_
 go_simp
 refine(nX T [x.su,x.lo] M.out _ 2 2 _ _ K.xok (K.sl 0 rfl) (by omega) E).mono ?_
 rintro e w4 ⟨B,d,rfl,f,t⟩
 have ae:k≤d:=Nat.le_trans z f.le
 have K:=((K.on t).ft).ksl (f.pre z)
 refine hK.out _ _ ((K.ft).drop D) fun _=>?_
 clear hK K' t f
 try simp only[Act.put,an,ai,aj]
 refine tK 10 (K.ft.drop D) ?_
 obtain⟨q,hq,C,u⟩:∃ q,min (k:Int) (o:Int)=((q:Nat):Int)∧q≤k∧Hid (q=min k x.su.length):=⟨min k o,by omega,Nat.min_le_left _ _,by rw[I.out];rfl⟩
 rw[hq]
 refine tC 16 fun K' hK=>?_
 go_simp
 refine(sv x.nm (T.take k) B k d q _ _ K.xok (K.sl 0 rfl) C).mono ?_
 rintro e w5 ⟨B1,k1,B2,k2,rfl,m,p,t⟩
 have K:=(((K.on t).ft).ksl p).ksl m
 refine hK.out _ _ ((K.ft.ft).drop D) fun _=>?_
 clear hK K' t m p hq
 try simp only[Act.put,an,ai,aj]
 refine tK 17 (K.ft.ft.drop D) ?_
 refine tRs (k:=i*3) (cells:=(kR x B1 q k1 B2 (k-q) k2).toArray) 18 K 1 rfl (by show i*3+3≤vs.length;have:=(List.getElem?_eq_some_iff.1 A).1;omega) (fun U h=>h.ft.ft.drop D) fun U K=>?_
 refine tE ?_
 go_wp2
 go_ret
 have Z:=aC.put (s:=ax) (c:=iP x k) (K.ra 4 rfl) A ⟨B1,q,k1,B2,k-q,k2,rfl,by rw[iP,Fil.all,←HT.out,←u.out];exact K.sl 0 rfl,by rw[iP,Fil.all,←HT.out,←u.out];exact K.sl 1 rfl,N⟩
 rw[List.length_set]
 exact⟨_,_,rfl,((K.kra Z).tl.out.forget (List.Sublist.cons_cons _ (List.Sublist.cons _ (List.Sublist.cons _ (List.Sublist.cons _ (List.Sublist.cons _ (List.Sublist.cons _ (List.Sublist.refl _)))))))).hh⟩
set_option maxHeartbeats 2000000 in
theorem rT (d:Dk) (x:Fil) (i k:Nat) (A:Option Addr) (n g:Nat) (X:List Nat) (w:World) (hX:XOk X w) (j:Sl ax w X A n g d.fs) (p:cj d) (l:d.fs[i]?=some x) (y:findD d.fs x.nm=(i:Int)) (m:k≤x.all.length):
 Calls Tryz.prog 23 #[.agg #[.slice A n g,.int .i64 d.room,.int .i64 (-1),.bool false],.string x.nm,.int .i64 (k:Int)] w fun e w' => ∃ B c,e = .returned (.tuple #[.agg #[.slice B n c,.int .i64 d.room,.int .i64 (-1),.bool false],.int .i64 0])∧Sl ax w' X B n c (d.fs.set i (iP x k))∧Below w.heap.size w w':=by
 obtain⟨z,H,I,C,F,J⟩:=p
 have hmem:=List.mem_of_getElem? l
 have b:=C x hmem
 have f:x.nm.size≤maxLen:=by unfold fnB at b;simp at b;unfold maxLen;omega
 have hlen:x.all.length≤90000:=by have:=jY hmem;omega
 have N:n≤64:=by have:=j.len;omega
 have v:=Lib.hid j.len
 have M:=Lib.hid y
 have i3:¬ (i:Int) = -1:=by omega
 have T:¬ (k:Int)<0:=by omega
 have Z:(0:Int)≤(i:Int):=by omega
 have Y:(i:Int)<(n:Int):=by have:=(List.getElem?_eq_some_iff.1 l).1;have:=v.out;omega
 clear y hmem
 go_enter Tryz.func23,Tryz.ntmps23
 go_wp2_with fail
 refine(hstart hX).cl fun W K=>?_
 have K:=(K.ksl0 j).one (s:=dx) (x:=x.nm) ⟨rfl,f⟩
 clear j
 refine(fj d A n g [x.nm] _ 1 1 _ W K.xok (K.sl 1 rfl) (K.sl 0 rfl) (by omega) (by simp[b]) ⟨z,H,I,C,F,J⟩).mono ?_
 rintro e S ⟨rfl,a⟩
 have K:=(K.on a).ft
 clear a
 have E:=K.r 2 rfl
 go_wp2_with (first | refine K.ld 3 rfl ?_)
 refine(fy d.fs d.room x.nm A n g _ _ K.xok (K.sl 0 rfl) (by omega)).mono ?_
 rw[M.out]
 rintro e O ⟨rfl,a⟩
 have K:=K.on a
 clear a E
 go_upto_region 5 with(fail)
 refine K.cw fun W K=>?_
 have c0:=K.r 0 rfl
 go_upto_region 7 with(fail)
 clear c0
 obtain⟨ad,rr,rfl,K,⟨G,u,Q,P,q,L,rfl,o,t,-⟩⟩:=K.elem 0 rfl l
 have i7:¬ ((u+q:Nat):Int)<(k:Int):=by have:=o.len;have:=t.len;unfold Fil.all at m;rw[List.length_append]at m;omega
 have R:u+q≤100000:=by have:=o.len;have:=t.len;unfold Fil.all at hlen;rw[List.length_append]at hlen;omega
 clear o t
 refine K.rg fun W K=>?_
 refine tL 0 (fun _ h=>h.r 2 rfl) K ?_
 refine tK 1 K ?_
 refine tK 2 K ?_
 refine tL 3 (fun _ h=>h.r 2 rfl) K ?_
 refine tK 4 K ?_
 refine tL 5 (fun _ h=>h.r 4 rfl) K ?_
 refine tL 6 (fun _ h=>h.r 0 rfl) K ?_
 refine tK 7 K ?_
 refine tL 8 (fun _ h=>h.at' 0 rfl) K ?_ (hy:=fun w D=>aM D)
 refine tC 9 fun K' hK=>?_
 go_simp
 refine(tM x.nm G u Q P q L R _).mono ?_
 rintro e U ⟨rfl,a⟩
 have K:=K.on a
 refine hK.out _ _ K fun _=>?_
 clear hK K' a
 try simp only[Act.put,an,ai,aj]
 refine tK 10 K ?_
 refine tK 11 K ?_
 refine tE ?_
 go_wp2_with (first | refine K.ld 4 rfl ?_)
 refine K.cl fun W K=>?_
 have hact:=(EP x i k O.heap.size (w.heap.size+1) (w.heap.size+2) 3 9 3 d.fs z l hlen f m)
 refine(gG 70 _ _ _ d.fs (d.fs.set i (iP x k)) d.room (some ad) n g w _ X K.ft N (hact.more (by simp) (by simp)) Tryz.call70).mono ?_
 rw[List.length_set,←v.out]
 rintro e w5 ⟨B5,V,rfl,K⟩
 go_wp2_with (refine K.lw fun W K=>?_;refine K.sr 1 rfl fun W K=>?_)
 exact K.rc2 1 rfl rfl ⟨_,_,rfl,K.slb 0 rfl,K.below⟩
end
section
open Go.RowKit
inductive Stq where
 | rm (nm:ByteArray)
 | ct (nm:ByteArray) (k:Nat)
 | sy (nm:ByteArray)
abbrev mP (w:World) (X:List Nat) (g:Nat) (v:Value):Prop:=g<w.heap.size∧g ∉ X∧w.cell? ⟨g,0,none⟩=some v
def rW (w:World) (X:List Nat) (v:Value) (st:Stq):Prop:=match st with
 | .rm nm => ∃ g,v = .func (.func 145) #[] #[.pointer (some ⟨g,0,none⟩)]∧mP w X g (.string nm)
 | .ct nm k => ∃ g g2,v = .func (.func 147) #[] #[.pointer (some ⟨g,0,none⟩),.pointer (some ⟨g2,0,none⟩)]∧mP w X g (.string nm)∧mP w X g2 (.int .i64 (k:Int))
 | .sy nm => ∃ g,v = .func (.func 148) #[] #[.pointer (some ⟨g,0,none⟩)]∧mP w X g (.string nm)
def gx:Sh Stq where
 size:=1
 rep w X vs st := ∃ v,vs = [v]∧rW w X v st
 len:=by rintro w X vs a ⟨v,rfl,_⟩;rfl
 one:=by
  rintro w X vs a ⟨v,rfl,h⟩ u hu
  rw[List.mem_singleton]at hu
  subst hu
  cases a with
  | rm nm=>obtain⟨g,rfl,_⟩:=h;rfl
  | ct nm k=>obtain⟨g,g2,rfl,_⟩:=h;rfl
  | sy nm=>obtain⟨g,rfl,_⟩:=h;rfl
 keep:=by
  rintro w w' X vs a ⟨v,rfl,h⟩ k
  refine⟨v,rfl,?_⟩
  cases a with
  | rm nm=>obtain⟨g,rfl,h1⟩:=h;exact⟨g,rfl,eC h1 k⟩
  | ct nm k=>obtain⟨g,g2,rfl,h1,h2⟩:=h;exact⟨g,g2,rfl,eC h1 ‹_›,eC h2 ‹_›⟩
  | sy nm=>obtain⟨g,rfl,h1⟩:=h;exact⟨g,rfl,eC h1 k⟩
 more:=by
  rintro w X X' vs a ⟨v,rfl,h⟩ k
  refine⟨v,rfl,?_⟩
  cases a with
  | rm nm=>obtain⟨g,rfl,h1⟩:=h;exact⟨g,rfl,dD h1 k⟩
  | ct nm k=>obtain⟨g,g2,rfl,h1,h2⟩:=h;exact⟨g,g2,rfl,dD h1 ‹_›,dD h2 ‹_›⟩
  | sy nm=>obtain⟨g,rfl,h1⟩:=h;exact⟨g,rfl,dD h1 k⟩
theorem zu (nm:ByteArray) (X:List Nat) (w:World) (hX:XOk X w):Calls Tryz.prog 79 #[.string nm] w fun e w' => ∃ v,e = .returned v∧rW w' X v (.rm nm)∧Below w.heap.size w w':=by
 go_enter Tryz.func79,Tryz.ntmps79
 go_wp2
 refine(hstart hX).bp fun W K=>?_
 go_ret
 exact⟨_,rfl,⟨_,rfl,K.boxc⟩,K.below⟩
theorem Fv (nm:ByteArray) (k:Nat) (X:List Nat) (w:World) (hX:XOk X w):Calls Tryz.prog 81 #[.string nm,.int .i64 (k:Int)] w fun e w' => ∃ v,e = .returned v∧rW w' X v (.ct nm k)∧Below w.heap.size w w':=by
 go_enter Tryz.func81,Tryz.ntmps81
 go_wp2
 refine(hstart hX).bp fun W K=>?_
 go_ret
 exact⟨_,rfl,⟨_,_,rfl,K.tl.boxc,dD K.boxc (fun b _ h=>List.mem_append_right _ h)⟩,K.below⟩
def mm (s:Stq) (fs:List Fil):List Fil:=match s with
 | .rm nm=>fs.eraseIdx (fI Fil.nm fs nm)
 | .ct nm k=>match fs[fI Fil.nm fs nm]? with
   | some x=>fs.set (fI Fil.nm fs nm) (iP x k)
   | none=>fs
 | .sy nm=>fE (.sy nm) fs
def qM (s:Stq) (fs:List Fil):Prop:=match s with
 | .rm nm=>nU fs nm
 | .ct nm k => ∃ x,fs[fI Fil.nm fs nm]?=some x∧x.nm=nm∧k≤x.all.length
 | .sy nm=>nU fs nm
def gm (room:Int):List Stq→List Fil→Prop
 | [],_=>True
 | s::l,fs=>cj ⟨fs,room⟩∧qM s fs∧gm room l (mm s fs)
def dX (l:List Stq) (fs:List Fil):List Fil:=l.foldl (fun fs s=>mm s fs) fs
theorem GG (nm:ByteArray) (g:Nat) (fs:List Fil) (room:Int) (A:Option Addr) (n f:Nat) (X:List Nat) (w:World) (hX:XOk X w) (i:Sl ax w X A n f fs) (d:cj ⟨fs,room⟩) (k:qM (.rm nm) fs) (j:mP w X g (.string nm)):
 Calls Tryz.prog 145 #[.agg #[.slice A n f,.int .i64 room,.int .i64 (-1),.bool false],.pointer (some ⟨g,0,none⟩)] w (eV (mm (.rm nm) fs) room X w):=by
 have b:=Lib.hid (nU.find k)
 obtain⟨x,p,rfl⟩:=k
 have m:=j.1
 have o:¬ g=w.heap.size:=by omega
 have l:¬ g=w.heap.size+1:=by omega
 have r:=j.2.2
 go_enter Tryz.func145,Tryz.ntmps145
 go_wp2_with fail
 refine(hstart hX).cl fun W K=>?_
 have K:=K.ksl0 i
 clear i
 refine(wW ⟨fs,room⟩ x _ A n f _ W K.xok (K.sl 0 rfl) d p b.out).mono ?_
 rintro e q ⟨B,c,rfl,a,h⟩
 have K:=(K.on h).ksl a
 clear h a
 go_wp2_with (refine K.lw fun W K=>?_;refine K.sr 0 rfl fun W K=>?_)
 exact K.rc2 0 rfl rfl ⟨_,_,rfl,K.slb 0 rfl,K.below⟩
theorem Gj (nm:ByteArray) (k g d:Nat) (fs:List Fil) (room:Int) (A:Option Addr) (n j:Nat) (X:List Nat) (w:World) (hX:XOk X w) (f:Sl ax w X A n j fs) (i:cj ⟨fs,room⟩) (v:qM (.ct nm k) fs) (o:mP w X g (.string nm)) (a:mP w X d (.int .i64 (k:Int))):
 Calls Tryz.prog 147 #[.agg #[.slice A n j,.int .i64 room,.int .i64 (-1),.bool false],.pointer (some ⟨g,0,none⟩),.pointer (some ⟨d,0,none⟩)] w (eV (mm (.ct nm k) fs) room X w):=by
 obtain⟨x,l,rfl,u⟩:=v
 have h:=Lib.hid (nU.find ⟨x,l,rfl⟩)
 have t:=Lib.hid f.len
 have y:=o.1
 have q:=a.1
 have C:¬ g=w.heap.size:=by omega
 have s:¬ g=w.heap.size+1:=by omega
 have r:¬ d=w.heap.size:=by omega
 have p:¬ d=w.heap.size+1:=by omega
 have E:=o.2.2
 have z:=a.2.2
 go_enter Tryz.func147,Tryz.ntmps147
 go_wp2_with fail
 refine(hstart hX).cl fun W K=>?_
 have K:=K.ksl0 f
 clear f
 refine(rT ⟨fs,room⟩ x _ k A n j _ W K.xok (K.sl 0 rfl) i l h.out u).mono ?_
 rintro e D ⟨B,c,rfl,b,m⟩
 have K:=(K.on m).ksl b
 clear m b
 go_wp2_with (refine K.lw fun W K=>?_;refine K.sr 0 rfl fun W K=>?_)
 unfold eV mm
 simp only[l]
 rw[List.length_set,←t.out]
 exact K.rc2 0 rfl rfl ⟨_,_,rfl,K.slb 0 rfl,K.below⟩
theorem vv {r:World} {o:List Nat} {v:Value} {st:Stq} (h:rW r o v st):∃ fid caps,v = .func (.func fid) #[] caps∧(∀ args w,(callFunc fid args).run Tryz.prog w = .ok (.enter fid args) w) ∧
 ∀ (W:World) (X:List Nat) (A:Option Addr) (n b:Nat) (fs:List Fil) (room:Int),XOk X W→rW W X v st→Sl ax W X A n b fs→cj ⟨fs,room⟩→qM st fs →
   Calls Tryz.prog fid (#[.agg #[.slice A n b,.int .i64 room,.int .i64 (-1),.bool false]]++caps) W (eV (mm st fs) room X W):=by
 cases st with
 | rm nm=>
   obtain⟨g,rfl,_⟩:=h
   refine⟨_,_,rfl,Tryz.call145,fun W X A n b fs room hX d c a i=>?_⟩
   obtain⟨g',e,f⟩:=d
   injection e with _ _ e
   simp only[Array.mk.injEq,List.cons.injEq,and_true,Value.pointer.injEq,Option.some.injEq,Addr.mk.injEq]at e
   subst e
   exact GG nm g fs room A n b X W hX c a i f
 | ct nm k=>
   obtain⟨g,l,rfl,_⟩:=h
   refine⟨_,_,rfl,Tryz.call147,fun W X A n b fs room hX d c a i=>?_⟩
   obtain⟨g',q,e,f,j⟩:=d
   injection e with _ _ e
   simp only[Array.mk.injEq,List.cons.injEq,and_true,Value.pointer.injEq,Option.some.injEq,Addr.mk.injEq]at e
   obtain⟨m,p⟩:=e
   subst m p
   exact Gj nm k g l fs room A n b X W hX c a i f j
 | sy nm=>
   obtain⟨g,rfl,_⟩:=h
   refine⟨_,_,rfl,Tryz.call148,fun W X A n b fs room hX d c a i=>?_⟩
   obtain⟨g',e,f⟩:=d
   injection e with _ _ e
   simp only[Array.mk.injEq,List.cons.injEq,and_true,Value.pointer.injEq,Option.some.injEq,Addr.mk.injEq]at e
   subst e
   exact Fb nm g fs room A n b X W hX c a i f
theorem Cc {l:List Stq} {k:Nat} {s:Stq} {fs:List Fil} (h:l[k]?=some s):dX (l.take (k+1)) fs=mm s (dX (l.take k) fs):=by
 obtain⟨a,rfl⟩:=List.getElem?_eq_some_iff.1 h
 unfold dX
 rw[List.take_succ_eq_append_getElem a,List.foldl_append]
 rfl
theorem qW {room:Int}:∀ {l:List Stq} {k:Nat} {s:Stq} {fs:List Fil},gm room l fs→l[k]?=some s→cj ⟨dX (l.take k) fs,room⟩∧qM s (dX (l.take k) fs)
 | [],k,s,fs,_,h=>by simp at h
 | x::l,0,s,fs,h,hk=>by simp at hk;subst hk;exact⟨h.1,h.2.1⟩
 | x::l,k+1,s,fs,h,hk=>by
   have:=qW (k:=k) (s:=s) h.2.2 (by simpa using hk)
   exact this
set_option maxHeartbeats 1000000 in
theorem FU (l:List Stq) (fs:List Fil) (room:Int) (S:Option Addr) (m o:Nat) (A:Option Addr) (n t:Nat) (X:List Nat) (w:World) (hX:XOk X w) (j:Sl ax w X A n t fs) (u:Sl gx w X S m o l) (q:gm room l fs) (P:m≤1000):
 Calls Tryz.prog 29 #[.agg #[.slice A n t,.int .i64 room,.int .i64 (-1),.bool false],.slice S m o] w (eV (dX l fs) room X w):=by
 obtain rfl:n=fs.length:=j.len
 have D:=Lib.hid u.len
 go_enter Tryz.func29,Tryz.ntmps29
 go_upto_region 2 with(fail)
 refine(hstart hX).cw fun W K=>?_
 have K:=(K.ksl0 u).ksl0 j
 clear j u
 go_loopw [11] (fun i wr => ∃ (k:Nat) (B:Option Addr) (c:Nat),k≤m∧i = .int .i64 k∧HH w [] X wr [.box (w.heap.size+1) 30 #[.slice none 0 0,.int .i64 0,.int .i64 0,.bool false],.box w.heap.size 30 #[.slice B (dX (l.take k) fs).length c,.int .i64 room,.int .i64 (-1),.bool false]] [Sl.fact ax B (dX (l.take k) fs).length c (dX (l.take k) fs),Sl.fact gx S m o l]) (fun i _=>m-(intOf i).toNat)
 case atStart=>exact⟨0,A,t,Nat.zero_le _,rfl,K⟩
 case round=>
  obtain⟨k,B,c,O,rfl,K⟩:=hrel
  by_cases M:k<m
  ·obtain⟨x,g⟩:∃ x,l[k]?=some x:=⟨_,List.getElem?_eq_getElem (by have:=D.out;omega)⟩
   obtain⟨ad,r,rfl,s,p,⟨v,rfl,h⟩,f⟩:=(K.sl 1 rfl).at' g
   have b:=At.one f rfl rfl
   obtain⟨fid,caps,rfl,L,a⟩:=vv h
   obtain⟨E,C⟩:=qW q g
   have G:=Lib.hid (Cc (fs:=fs) g)
   have R:(0:Int)≤(k:Int):=by omega
   have Q:(k:Int)<(m:Int):=by omega
   clear g s p f
   generalize dX (l.take k) fs=F at K E C G
   have z:=K.r 1 rfl
   go_wp2_with fail
   refine(a wr _ B F.length c F room K.xok h (K.sl 0 rfl) E C).mono ?_
   rintro e N ⟨H,I,rfl,d,y⟩
   have K:=(K.on y).ksl d
   clear z y d b h a
   go_wp2_with (refine K.lw fun W K=>?_;refine K.sr 1 rfl fun W K=>?_)
   go_roundw
   case rel=>
    refine⟨k+1,H,I,by omega,by go_num,?_⟩
    rw[G.out]
    exact(K.out.forget (List.Sublist.cons_cons _ (List.Sublist.cons _ (List.Sublist.refl _)))).hh
   case measure=>simp[intOf];omega
  ·obtain rfl:k=m:=by omega
   have J:l.take k=l:=List.take_of_length_le (by have:=D.out;omega)
   rw[J]at K
   have z:=K.r 1 rfl
   go_wp2_with (refine K.lw fun W K=>?_;refine K.sr 0 rfl fun W K=>?_)
   exact K.rc2 0 rfl rfl ⟨_,_,rfl,K.slb 0 rfl,K.below⟩
end
section
open Go.RowKit Go.Shelf
section
variable {w0 W W':World} {M X:List Nat} {L L':List Itm} {F F':List Fact} {P:Program}
theorem HH.again (K:HH w0 M X W L F):HH W (Exs L) (Exs L++X) W L F:=
 ⟨⟨rfl,rfl,rfl⟩,Nat.le_refl _,fun _ _ _=>rfl,fun g h=>List.mem_append_left _ h,K.xok,fun x a=>⟨(K.out.ents x a).1,fun g c=>⟨.inr (bh.2 ⟨x,a,c⟩),((K.out.ents x a).2 g c).2⟩⟩,K.out.apart,fun f e=>f.more (K.out.facts f e) (by
   intro b _ d
   rcases List.mem_append.1 d with h | h
   ·exact List.mem_append_left _ h
   ·exact h)⟩
theorem HH.old (K:HH w0 M X W L F) {g:Nat} (h:g ∈ Exs L):(w0.heap.size≤g∨g ∈ M)∧g<W.heap.size:=by
 obtain⟨x,a,e⟩:=bh.1 h
 exact(K.out.ents x a).2 g e
theorem HH.after (K:HH w0 M X W L F) (K':HH W (Exs L) (Exs L++X) W' L' F'):HH w0 M X W' L' F':=by
 refine⟨⟨K'.out.same.1.trans K.out.same.1,K'.out.same.2.1.trans K.out.same.2.1,K'.out.same.2.2.trans K.out.same.2.2⟩,Nat.le_trans K.out.size K'.out.size,fun b a e=>?_,K.out.given,K.out.xok,fun x c=>⟨(K'.out.ents x c).1,fun g d=>⟨?_,((K'.out.ents x c).2 g d).2⟩⟩,K'.out.apart,fun f i=>f.more (K'.out.facts f i) ?_⟩
 ·refine(K'.out.block b (Nat.lt_of_lt_of_le a K.out.size) fun h=>?_).trans (K.out.block b a e)
  rcases(K.old h).1 with h | h
  ·omega
  ·exact e h
 ·rcases((K'.out.ents x c).2 g d).1 with h | h
  ·exact .inl (Nat.le_trans K.out.size h)
  ·exact(K.old h).1
 ·intro b _ a
  rcases List.mem_append.1 a with h | h
  ·exact List.mem_append_left _ h
  ·exact List.mem_append_right _ (List.mem_append_right _ h)
theorem tu {base:Nat} {e:TypeId} {size n:Nat} {v:Value} {xs:List Value} (h:W.ownsRow base e size v n xs) {g:Nat} (a:v.ownBlock=some g):∃ cur,Blk W g e cur:=by
 rcases h.2 with⟨rfl,_⟩ | ⟨g',cap,cur,rfl,b,hh,_⟩
 ·simp[Value.ownBlock]at a
 ·obtain rfl:g'=g:=by simpa [Value.ownBlock] using a
  exact⟨cur,hh⟩
theorem qB {x:Itm} (h:x.ok W) {g:Nat} (a:x.blk=some g):∃ t cs,Blk W g t cs:=by
 cases x with
 | box g' t cs=>
   injection a with a
   subst a
   exact⟨t,cs,h⟩
 | row e size v n xs=>
   obtain⟨cur,b⟩:=tu h a
   exact⟨e,cur,b⟩
theorem HH.others (K:HH w0 M X W L F) (K':HH W (Exs L) (Exs L++X) W' L' F'):KeepsOthers W W':=
 ⟨K'.out.size,fun k o b d=>by
  refine(K'.out.block k (Array.getElem?_eq_some_iff.1 b).1 fun h=>?_).trans b
  obtain⟨x,c,e⟩:=bh.1 h
  obtain⟨t,cs,a⟩:=qB (K.out.ents x c).1 e
  unfold Blk at a
  rw[b]at a
  injection a with a
  subst a
  cases d⟩
theorem HH.kpB (K:HH w0 [] X W L F) (K':HH W (Exs L) (Exs L++X) W' L' F') {g:Nat} (c:W'.cell? ⟨g,0,none⟩=W.cell? ⟨g,0,none⟩):KpB w0.heap.size g W W':=
 ⟨⟨K'.out.same.1,K'.out.same.2.1,K'.out.same.2.2,K'.out.size,fun b a=>K'.out.block b (Nat.lt_of_lt_of_le a K.out.size) fun h=>by
   rcases(K.old h).1 with h | h
   ·omega
   ·cases h⟩,c⟩
theorem HH.kept0 {row:Option Nat} (K:HH w0 M X W L []) (a:W.grownBy W' row) {B:Nat} (hB:w0.heap.size≤B) (f:∀ r,row=some r→B≤r ∧ ∃ o:Obj,W.heap[r]?=some o∧o.isCells=false):HH w0 M X W' L []:=by
 have h:∀ x ∈ L,∀ g,x.blk=some g→W'.heap[g]?=W.heap[g]?:=fun x c g e=>by
  obtain⟨t,cs,d⟩:=qB (K.out.ents x c).1 e
  exact grownBy_keeps_cells a (fun r e=>(f r e).2) d rfl
 exact⟨⟨a.os.trans K.out.same.1,a.tape.trans K.out.same.2.1,a.output.trans K.out.same.2.2⟩,Nat.le_trans K.out.size a.size,fun b d i=>(a.block b (Nat.lt_of_lt_of_le d K.out.size) (fun e=>by have:=(f b e.symm).1;omega)).trans (K.out.block b d i),K.out.given,K.out.xok,fun x c=>⟨Itm.frame (K.out.ents x c).1 (h x c),fun g e=>⟨((K.out.ents x c).2 g e).1,Nat.lt_of_lt_of_le ((K.out.ents x c).2 g e).2 a.size⟩⟩,K.out.apart,by simp⟩
theorem rW.kept {v:Value} {st:Stq} {row:Option Nat} (h:rW W X v st) (c:W.grownBy W' row) (i:∀ r,row=some r → ∃ o:Obj,W.heap[r]?=some o∧o.isCells=false):rW W' X v st:=by
 have b:∀ g u,mP W X g u→mP W' X g u:=fun g u h=>⟨Nat.lt_of_lt_of_le h.1 c.size,h.2.1,cell_kept h.2.2 c i⟩
 cases st with
 | rm nm=>obtain⟨g,e,a⟩:=h;exact⟨g,e,b _ _ a⟩
 | ct nm k=>obtain⟨g,d,e,a,f⟩:=h;exact⟨g,d,e,b _ _ a,b _ _ f⟩
 | sy nm=>obtain⟨g,e,a⟩:=h;exact⟨g,e,b _ _ a⟩
theorem kO {row:Option Nat} (a:W.grownBy W' row) (b:∀ r,row=some r → ∃ o:Obj,W.heap[r]?=some o∧o.isCells=false):∀ {xs:List Stq} {vs:List Value},aC gx W X vs xs→aC gx W' X vs xs
 | [],_,h=>h
 | x::xs,vs,h=>by
   obtain⟨r,us,e,⟨v,rfl,c⟩,d⟩:=h
   exact⟨[v],us,e,⟨v,rfl,c.kept a b⟩,kO a b d⟩
theorem HH.cwi {n:Nat} {Fn:Fence} {Q:Exit→Act→World→Prop} {c:Code} {a:Act} (K:HH w0 M X W L F) [h:Adv W W' L L'] (k:∀ U,HH w0 M X U L' F→c.wpIn Fn n P Q a U):c.wpIn Fn n P Q a W':=k W' (h.go K.out)
theorem qO {l n:Nat} {ops:Array Oper} {md:Region.Mode} {Q:Exit→Act→World→Prop} (b:og ops=true):∀ (fuel:Nat) {listed:Array Bool} {a:Act} {w:World},wpAny P md ops (eK Q) fuel listed a w→wpAnyIn (Fence.wide.inRound l) n P md ops (eK Q) fuel listed a w
 | 0,_,_,_,h=>h
 | fuel+1,_,_,_,h=>⟨h.1,fun i d=>wpOpIn_mono (fun a w c=>qO b fuel c) (DK b (h.2 i d))⟩
theorem AQ (Q:Exit→Act→World→Prop):NoPanic (eK Q)=eK Q:=by
 funext e a w
 cases e<;>rfl
theorem HH.rgli {l m:Nat} {id:Nat} {ops:Array Oper} {Q:Exit→Act→World→Prop} {a:Act} (K:HH w0 M X W L F) (k n:Nat) {L2:List Itm} {F2:List Fact} [h:Adv W W' L L'] (hT:∀ V,HH w0 M X V L' F→HH w0 M X V L2 F2)
 (d:∀ U,HH w0 M X U L' F→wpAnyH P .any ops (NoPanic (mb (NoPanic (eK Q)) fun a w=>wpOp P ops (NoPanic (eK Q)) k (fun a' w'=>NoPanic (eK Q) .normal a' w') a w)) (fun V=>HH w0 M X V L2 F2) n ((Array.replicate (n+1) false).setIfInBounds k true) a U) (f:ops.size=n+1:=by rfl) (hm:P.follows .mixedOrders=true:=by kernel_rfl) (ho:rE .any ops=true:=by kernel_rfl) (hl:xM .any ops k=true:=by kernel_rfl) (hkn:decide (k<n+1)=true:=by rfl) (hnd:og ops=true:=by kernel_rfl):(Code.region id ops true).wpIn (Fence.wide.inRound l) m P Q a W':=by
 refine Code.wpIn_mono eK.imp (wpIn_region_any hm (qO hnd _ ?_))
 rw[f]
 have b:=of_decide_eq_true hkn
 refine oB (k:=k) ho hl n _ a _ (by simp[b]) (fun i o _ h=>by rw[Array.getD_eq_getD_getElem?,Array.getElem?_replicate]at h;split at h<;>cases h) ?_
 have e:NoPanic (mb (NoPanic (eK Q)) fun a w=>wpOp P ops (NoPanic (eK Q)) k (fun a' w'=>NoPanic (eK Q) .normal a' w') a w)=mb (eK Q) fun a w=>wpOp P ops (eK Q) k (fun a' w'=>eK Q .normal a' w') a w:=by
  funext e a w
  rw[AQ]
  cases e<;>rfl
 have c:=d W'.drew (h.go K.out).drew
 rw[e]at c
 exact wpAny_of_held _ _ _ _ c
end
def Dv (g:Nat) (cs:Array Value):Fact:=⟨fun w X=>g<w.heap.size∧g ∉ X ∧ ∀ j,w.cell? ⟨g,j,none⟩=cs[j]?,fun h k=>⟨Nat.lt_of_lt_of_le h.1 k.size,h.2.1,fun j=>(k.cell (p:=⟨g,j,none⟩) h.1 h.2.1).trans (h.2.2 j)⟩,fun h k=>⟨h.1,fun hm=>h.2.1 (k _ h.1 hm),h.2.2⟩⟩
end
section
open Go.RowKit Go.Shelf
attribute [local go_sem] Oper.semAt_some
def Ea (x:Nat×ByteArray):Array Value:=#[.int .i64 (x.1:Int),.string x.2]
def nmF (os:List ByteArray) (len j:Nat):Nat×ByteArray:=(len-1-j,os[len-1-j]?.getD default)
set_option maxHeartbeats 2000000 in
theorem Cw (F:Fence) (n:Nat) (G:F.fn 144) (o:F.round=none) (O:1≤n) (l m n₀:Nat) (A:Option Addr) (len cap:Nat) (os:List ByteArray) (hlen:len≤1000) (J z:List (Nat×ByteArray)→World→Prop)
 (hY:∀ pre x W,J pre W→pre.length<len→YieldAt F (n-1) Tryz.prog l (Ea x) W fun e W'=>
  (e = .returned (.bool true)∧J (pre ++ [x]) W'∧KpB n₀ m W W')∨(e = .returned (.bool false)∧z (pre ++ [x]) W'))
 (W:World) (q:W.cell? ⟨m,0,none⟩=some (.slice A len cap)) (g:os.length=len) (C:∀ (j:Nat) nm,os[j]?=some nm → ∃ ad,A=some ad∧ad.block<n₀∧W.cell? (ad.add j)=some (.string nm)) (I:J [] W):
 CallsIn F n Tryz.prog 144 #[.func (.yield l) #[] #[],.pointer (some ⟨m,0,none⟩)] W fun e W'=>(∃ v,e = .returned v) ∧
  ((∃ ys,ys=eO (nmF os len) len∧J ys W')∨(∃ pre,(∃ k,k≤len∧pre=eO (nmF os len) k)∧z pre W')):=by
 have r:=Lib.hid g
 have H:=Lib.hid C
 clear g C
 refine callsIn_of_wp Tryz.func144 rfl G ?_ o
 simp only[Tryz.ntmps144,List.size_toArray,List.length_cons,List.length_nil,Nat.reduceAdd,Nat.reduceSub,Array.replicate_succ,Array.replicate_zero,List.push_toArray,List.append_toArray,List.nil_append,List.cons_append]
 gi_wp2
 gi_loopw [3] (fun i wr => ∃ k:Nat,k≤len∧i = .int .i64 ((len:Int)-1-(k:Int))∧Hid (J (eO (nmF os len) k) wr)∧KpB n₀ m W wr)
  (fun i _=>(intOf i+1).toNat)
 case atStart=>exact⟨0,Nat.zero_le _,by simp,I,Below.refl _ _,rfl⟩
 case round=>
  obtain⟨k,L,rfl,b,a⟩:=hrel
  have B:=a.2.trans q
  have y:=Lib.hid a
  by_cases t:k<len
  ·obtain⟨j,D⟩:∃ j,len=j+1+k:=⟨len-1-k,by omega⟩
   rw[show(len:Int)-1-(k:Int)=(j:Int) from by omega]
   obtain⟨x,u⟩:∃ x,os[j]?=some x:=⟨_,List.getElem?_eq_getElem (by have:=r.out;omega)⟩
   obtain⟨ad,rfl,w,h⟩:=H.out j x u
   have M:wr.cell? (ad.add j)=some (.string x):=(a.1.cell (p:=ad.add j) (by rw[aF];exact w)).trans h
   have f:=Lib.hid (show nmF os len k=(j,x) from by unfold nmF;rw[show len-1-k=j from by omega,u];rfl)
   have K:=Lib.hid D
   obtain⟨fn,tmps,assign,body,hy,hR⟩:=hY _ (j,x) wr b.out (by rw[ic];exact t)
   unfold Ea at hy
   dsimp only at hy
   have E:j<len:=by omega
   clear u D h a w
   gi_wp2
   refine hR.mono ?_
   rintro e N (⟨rfl,s,c⟩ | ⟨rfl,d⟩)
   ·gi_wp2
    go_roundw
    case rel=>exact⟨k+1,by omega,by rw[show(len:Int)-1-((k+1:Nat):Int)=(j:Int)-1 from by have:=K.out;omega],(by rw[fL,f.out];exact s),y.out.1.trans c.1,c.2.trans y.out.2⟩
    case measure=>simp[intOf]
   ·gi_wp2
    refine bodyPost_ret (results_none rfl _ _ _) rfl ?_
    exact⟨⟨_,rfl⟩,.inr ⟨_,⟨k+1,by omega,by rw[fL,f.out]⟩,d⟩⟩
  ·clear a
   obtain rfl:k=len:=by omega
   rw[show(k:Int)-1-(k:Int) = -1 from by omega]
   gi_wp2
   go_end0
   exact⟨⟨_,rfl⟩,.inl ⟨_,rfl,b.out⟩⟩
theorem uB (F:Fence) (n:Nat) (o:F.fn 144) (b:F.round=none) (r:1≤n) (a n₀:Nat) (A:Option Addr) (len cap:Nat) (os:List ByteArray) (hlen:len≤1000) (w:World) (c:a<w.heap.size) (hn₀:n₀≤w.heap.size)
 (i:w.cell? ⟨a,0,none⟩=some (.slice A len cap)) (d:os.length=len) (q:∀ (j:Nat) nm,os[j]?=some nm → ∃ ad,A=some ad∧ad.block<n₀∧w.cell? (ad.add j)=some (.string nm)):
 SeqStopsK F n Tryz.prog 144 #[.pointer (some ⟨a,0,none⟩)] Ea (KpB n₀ a) (fun ys=>ys=eO (nmF os len) len) (fun pre => ∃ k,k≤len∧pre=eO (nmF os len) k) len w:=fun l J m W hW _ _ hY s=>
 Cw F n o b r l a n₀ A len cap os hlen J m hY W ((hW.cell (p:=⟨a,0,none⟩) c).trans i) d (fun j nm h=>by
  obtain⟨ad,e,f,g⟩:=q j nm h
  exact⟨ad,e,f,(hW.cell (p:=ad.add j) (Nat.lt_of_lt_of_le (by rw[aF];exact f) hn₀)).trans g⟩) s
structure PV where
 num:Nat
 hnum:1≤num∧num≤99999999
 q0:Int
 a0:Int
 A3:Option Addr
 n3:Nat
 c3:Nat
 A4:Option Addr
 n4:Nat
 c4:Nat
 q1:Int
 a1:Int
 A7:Option Addr
 n7:Nat
 c7:Nat
 st:Int
 size:Nat
 al:Nat
abbrev PV.cells (p:PV):Array Value:=#[.int .i64 (p.num:Int),.int .i64 p.q0,.int .i64 p.a0,.slice p.A3 p.n3 p.c3,.slice p.A4 p.n4 p.c4,.int .i64 p.q1,.int .i64 p.a1,.slice p.A7 p.n7 p.c7,.int .i64 p.st,.int .i64 (p.size:Int),.int .i64 (p.al:Int)]
def Ej (x:Nat×PV):Array Value:=#[.int .i64 (x.1:Int),.agg x.2.cells]
def pvF (ps:List PV) (d:PV) (len j:Nat):Nat×PV:=(len-1-j,ps[len-1-j]?.getD d)
def PAt (ps:List PV) (A:Option Addr) (n₀:Nat) (W:World):Prop := ∀ (j:Nat) p,ps[j]?=some p → ∃ ad,A=some ad∧ad.block<n₀∧At W (ad.add (j*11)) p.cells.toList
set_option maxHeartbeats 4000000 in
theorem BV (F:Fence) (n:Nat) (I:F.fn 146) (q:F.round=none) (X:1≤n) (l p n₀:Nat) (A:Option Addr) (len cap:Nat) (ps:List PV) (d:PV) (hlen:len≤1000) (J C:List (Nat×PV)→World→Prop)
 (hY:∀ pre x W,J pre W→pre.length<len→YieldAt F (n-1) Tryz.prog l (Ej x) W fun e W'=>
  (e = .returned (.bool true)∧J (pre ++ [x]) W'∧KpB n₀ p W W')∨(e = .returned (.bool false)∧C (pre ++ [x]) W'))
 (W:World) (r:W.cell? ⟨p,0,none⟩=some (.slice A len cap)) (m:ps.length=len) (D:PAt ps A n₀ W) (M:J [] W):
 CallsIn F n Tryz.prog 146 #[.func (.yield l) #[] #[],.pointer (some ⟨p,0,none⟩)] W fun e W'=>(∃ v,e = .returned v) ∧
  ((∃ ys,ys=eO (pvF ps d len) len∧J ys W')∨(∃ pre,(∃ k,k≤len∧pre=eO (pvF ps d len) k)∧C pre W')):=by
 have s:=Lib.hid m
 have K:=Lib.hid D
 clear m D
 refine callsIn_of_wp Tryz.func146 rfl I ?_ q
 simp only[Tryz.ntmps146,List.size_toArray,List.length_cons,List.length_nil,Nat.reduceAdd,Nat.reduceSub,Array.replicate_succ,Array.replicate_zero,List.push_toArray,List.append_toArray,List.nil_append,List.cons_append]
 gi_wp2
 gi_loopw [3] (fun i wr => ∃ k:Nat,k≤len∧i = .int .i64 ((len:Int)-1-(k:Int))∧Hid (J (eO (pvF ps d len) k) wr)∧KpB n₀ p W wr)
  (fun i _=>(intOf i+1).toNat)
 case atStart=>exact⟨0,Nat.zero_le _,by simp,M,Below.refl _ _,rfl⟩
 case round=>
  obtain⟨k,P,rfl,c,b⟩:=hrel
  have B:=b.2.trans r
  have z:=Lib.hid b
  by_cases u:k<len
  ·obtain⟨j,E⟩:∃ j,len=j+1+k:=⟨len-1-k,by omega⟩
   rw[show(len:Int)-1-(k:Int)=(j:Int) from by omega]
   obtain⟨x,w⟩:∃ x,ps[j]?=some x:=⟨_,List.getElem?_eq_getElem (by have:=s.out;omega)⟩
   obtain⟨ad,rfl,y,o⟩:=K.out j x w
   have a:At wr (ad.add (j*11)) x.cells.toList:=o.below b.1 (by rw[aF];exact y)
   have h:=Lib.hid (show pvF ps d len k=(j,x) from by unfold pvF;rw[show len-1-k=j from by omega,w];rfl)
   have L:=Lib.hid E
   obtain⟨fn,tmps,assign,body,hy,hR⟩:=hY _ (j,x) wr c.out (by rw[ic];exact u)
   unfold Ej at hy
   dsimp only at hy
   have G:j<len:=by omega
   have N:wr.cell? (ad.add (j*11))=some (.int .i64 (x.num:Int)):=a 0 _ rfl
   have d1:wr.cell? ⟨(ad.add (j*11)).block,(ad.add (j*11)).off+1,none⟩=some (.int .i64 x.q0):=a 1 _ rfl
   have T:wr.cell? ⟨(ad.add (j*11)).block,(ad.add (j*11)).off+2,none⟩=some (.int .i64 x.a0):=a 2 _ rfl
   have Y:wr.cell? ⟨(ad.add (j*11)).block,(ad.add (j*11)).off+3,none⟩=some (.slice x.A3 x.n3 x.c3):=a 3 _ rfl
   have O:wr.cell? ⟨(ad.add (j*11)).block,(ad.add (j*11)).off+4,none⟩=some (.slice x.A4 x.n4 x.c4):=a 4 _ rfl
   have U:wr.cell? ⟨(ad.add (j*11)).block,(ad.add (j*11)).off+5,none⟩=some (.int .i64 x.q1):=a 5 _ rfl
   have Z:wr.cell? ⟨(ad.add (j*11)).block,(ad.add (j*11)).off+6,none⟩=some (.int .i64 x.a1):=a 6 _ rfl
   have S:wr.cell? ⟨(ad.add (j*11)).block,(ad.add (j*11)).off+7,none⟩=some (.slice x.A7 x.n7 x.c7):=a 7 _ rfl
   have R:wr.cell? ⟨(ad.add (j*11)).block,(ad.add (j*11)).off+8,none⟩=some (.int .i64 x.st):=a 8 _ rfl
   have Q:wr.cell? ⟨(ad.add (j*11)).block,(ad.add (j*11)).off+9,none⟩=some (.int .i64 (x.size:Int)):=a 9 _ rfl
   have H:wr.cell? ⟨(ad.add (j*11)).block,(ad.add (j*11)).off+10,none⟩=some (.int .i64 (x.al:Int)):=a 10 _ rfl
   clear w E o b y a
   gi_wp2
   refine hR.mono ?_
   rintro e V (⟨rfl,t,f⟩ | ⟨rfl,g⟩)
   ·gi_wp2
    go_roundw
    case rel=>exact⟨k+1,by omega,by rw[show(len:Int)-1-((k+1:Nat):Int)=(j:Int)-1 from by have:=L.out;omega],(by rw[fL,h.out];exact t),z.out.1.trans f.1,f.2.trans z.out.2⟩
    case measure=>simp[intOf]
   ·gi_wp2
    refine bodyPost_ret (results_none rfl _ _ _) rfl ?_
    exact⟨⟨_,rfl⟩,.inr ⟨_,⟨k+1,by omega,by rw[fL,h.out]⟩,g⟩⟩
  ·clear b
   obtain rfl:k=len:=by omega
   rw[show(k:Int)-1-(k:Int) = -1 from by omega]
   gi_wp2
   go_end0
   exact⟨⟨_,rfl⟩,.inl ⟨_,rfl,c.out⟩⟩
theorem uQ (F:Fence) (n:Nat) (q:F.fn 146) (b:F.round=none) (s:1≤n) (a n₀:Nat) (A:Option Addr) (len cap:Nat) (ps:List PV) (d:PV) (hlen:len≤1000) (w:World) (c:a<w.heap.size) (hn₀:n₀≤w.heap.size)
 (m:w.cell? ⟨a,0,none⟩=some (.slice A len cap)) (f:ps.length=len) (r:PAt ps A n₀ w):
 SeqStopsK F n Tryz.prog 146 #[.pointer (some ⟨a,0,none⟩)] Ej (KpB n₀ a) (fun ys=>ys=eO (pvF ps d len) len) (fun pre => ∃ k,k≤len∧pre=eO (pvF ps d len) k) len w:=fun l J o W hW _ _ hY t=>
 BV F n q b s l a n₀ A len cap ps d hlen J o hY W ((hW.cell (p:=⟨a,0,none⟩) c).trans m) f (fun j nm h=>by
  obtain⟨ad,e,g,i⟩:=r j nm h
  exact⟨ad,e,g,i.below hW (Nat.lt_of_lt_of_le (by rw[aF];exact g) hn₀)⟩) t
end
end Go.Proofs.YtpokkciheejeiaaGreatDoor
