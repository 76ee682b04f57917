/- Lemmas and contracts that the proof of TopCut uses, part 14 of 16: each is a theorem for every input that its premises allow. -/
import Derived.Test.YtpokkciheejeiaaGreatDoorTuM
set_option linter.unusedVariables false
set_option linter.unusedSimpArgs false
set_option maxRecDepth 100000
namespace Go.Proofs.YtpokkciheejeiaaGreatDoor
section
open Go.RowKit
abbrev jeF (d:JE) (t:St) (rest:List Fact):List Fact:=Sl.fact ax d.A d.n d.cp d.fs::Sl.fact bw d.S d.m d.mc ((aJ 0 d.gs).map aD)::Sl.fact af d.N d.nn d.cn (aa (aJ 0 d.gs)).ns::Sl.fact aI d.C d.kk d.ck t.cs::rest
theorem uN:∀ (gs:List Sg) (n j:Nat),(aJ n gs)[j]?=(gs[j]?).map (fun g=>g.pr (n+j+1))
 | [],n,j=>by simp[aJ]
 | g::gs,n,0=>rfl
 | g::gs,n,j+1=>by
   rw[aJ,List.getElem?_cons_succ,List.getElem?_cons_succ,uN gs (n+1) j]
   congr 2
   funext x
   congr 1
   omega
theorem FQ {c:Cmp} (h:dR c):c.cells.length≤16:=by
 rcases h.2.2 with h | h | h
 ·have:=(cI h.2.2.2.1).2.2.2.2.2;exact this
 ·rw[h.2.2.2.2.1];simp
 ·rw[h.2.2.2.2.2.1];simp
theorem Sl.evsC {w:World} {X:List Nat} {A:Option Addr} {n c:Nat} {l:List Evt} (h:Sl iz w X A n c l):Reads w w.heap.size 7 A n (aH l):=by
 obtain⟨vs,b,-,a⟩:=h.reads
 obtain⟨rfl,-⟩:=aO.1 a
 exact b
set_option maxHeartbeats 8000000 in
theorem CV (cr:∀ w,aV w→Calls Tryz.prog 6 #[] w fun e w'=>e = .returned (.bool true)∧Below w.heap.size w w') (b D:Int) (A:Option Addr) (n cp:Nat) (l:List Evt) (A2:Option Addr) (n2 ac:Nat) (bl:List UInt8) (ct:Int) (ds:0≤ct∧ct≤65535) (w:World)
 (hs:Sl iz w [] A n cp l) (bm:Sl ak w [] A2 n2 ac bl) (hp:aV w):
 Calls Tryz.prog 5 #[.agg #[.int .i64 b,.int .i64 D],.slice A n cp,.slice A2 n2 ac,.int .u16 ct] w fun e w'=>e = .returned (.bool true)∧Below w.heap.size w w':=by
 have hX:XOk [] w:=fun b f=>(by cases f)
 have HL:=Lib.hid hs.len
 have du:=Lib.hid bm.len
 have cl:=fun W (hW:aV W)=>Lib.hid (cr W hW)
 clear cr
 go_enter Tryz.func5,Tryz.ntmps5
 go_upto_region 1 with(fail)
 refine(hstart hX).cw fun W K=>?_
 have K:=(K.ksl0 bm).ksl0 hs
 clear hs bm
 go_wp2_with fail
 refine(cl W (hp.on K.below)).out.mono ?_
 rintro e w1 ⟨rfl,f⟩
 have K:=K.on f
 clear f cl
 rcases Nat.lt_or_ge 40 n with ce | ce
 ·have L:(40:Int)<(n:Int):=by omega
  go_wp2
  go_ret
  exact⟨rfl,K.below⟩
 have L:¬ (40:Int)<(n:Int):=by omega
 go_wp2_with fail
 refine(Aa l A n cp _ _ K.xok (K.sl 0 rfl) (by omega)).mono ?_
 rintro e w2 ⟨rfl,f⟩
 have K:=K.on f
 clear f
 cases hnm:nh l with
 | false=>
   go_wp2
   go_ret
   exact⟨rfl,K.below⟩
 | true=>
   clear hnm L
   cases hcf:dH b D with
   | false=>
     go_wp2_with (first | refine K.ld 0 rfl ?_)
     refine(Dc 65000 b D (by omega) hcf _ _ K.xok).mono ?_
     rintro e w3 ⟨rfl,f⟩
     have K:=K.on f
     clear f
     go_wp2_with (refine K.lw fun W K=>?_;refine K.sr 0 rfl fun W K=>?_)
     go_ret
     exact⟨rfl,K.below⟩
   | true=>
     go_wp2_with (first | refine K.ld 0 rfl ?_)
     have ci:JG 65000 0 [] [] [] zS 0:=AD (by omega)
     refine(rC [] 65000 [] [] zS zS ci.look (by simp) (by simp) trivial b D hcf none 0 0 _ _ K.xok Sl.nil_ (hp.on K.below)).mono ?_
     rw[show dX (dK [] []) [] = [] from rfl]
     rintro e w3 ⟨A1,n1,dt,S1,m1,da,N1,eb,em,C1,k1,dl,rfl,E,H,I,y,f⟩
     have K:=(((((K.on f).ksl y).ksl I).ksl H).ksl E)
     clear f E H I y
     go_upto_region 6 with(refine K.lw fun W K=>?_;refine K.sr 0 rfl fun W K=>?_)
     refine K.cw fun W K=>?_
     go_upto_region 9 with(fail)
     generalize w3.heap.size=g9 at K ⊢
     go_wp2
     go_loopw [11] (fun i wr => ∃ (k:Nat) (t:St) (d:JE),k≤n∧i = .int .i64 k∧Hid (d.ok k t)∧HH w [] [] wr [.box g9 39 (d.cells b D t),.box w.heap.size 23 #[.int .i64 b,.int .i64 D]] (jeF d t [Sl.fact iz A n cp l,Sl.fact ak A2 n2 ac bl])) (fun i _=>n-(intOf i).toNat)
     case atStart=>exact⟨0,zS,⟨[],[],[],0,false,A1,n1,dt,S1,m1,da,N1,eb,em,C1,k1,dl⟩,Nat.zero_le _,rfl,ci,K⟩
     case round=>
      obtain⟨k,t,d,hk,rfl,HE,K⟩:=hrel
      by_cases dd:k<n
      ·obtain⟨x,hx⟩:∃ x,l[k]?=some x:=⟨_,List.getElem?_eq_getElem (by have:=HL.out;omega)⟩
       obtain⟨co,ea,ek,ca,ex,ey,ez⟩:=x
       obtain⟨ad,rr,rfl,K,⟨rfl,df⟩⟩:=K.elem 4 rfl (j:=k) hx
       have K:=(show HH _ _ _ _ _ (At.fact _ [.int .i64 co,.int .i64 ea,.int .i64 ek,.string ca,.int .i64 ex,.int .i64 ey,.int .i64 ez]::_) from K)
       have L:(0:Int)≤(k:Int):=by omega
       have M:(k:Int)<(n:Int):=by omega
       have i3:k<n:=dd
       have el:ca.size≤maxLen:=df.2.2.2.1
       go_upto_region 11 with(fail)
       refine K.rgt (fun V h=>h.tl) fun W K=>?_
       refine tK 1 K.tl ?_
       refine tK 2 K.tl ?_
       refine tK 3 K.tl ?_
       refine tL 4 (fun _ h=>h.at' 0 rfl) K.tl ?_ (hy:=fun w hw=>aM hw)
       refine tC 0 fun K' hK=>?_
       refine(if_pos (by rfl)).mpr ?_
       refine tLd (K.at_ 0 rfl) ?_
       refine hK.out _ _ K.tl fun _=>?_
       clear hK K'
       try simp only[Act.put,an,ai,aj]
       refine tC 5 fun K' hK=>?_
       go_simp
       refine(Dj HE.out b D hcf _ _ K.xok (K.sl 1 rfl) (K.sl 2 rfl) (K.sl 3 rfl) (K.sl 4 rfl) (hp.on K.below) (by omega) co ea ek ca ex ey ez el).mono ?_
       rintro e w5 ⟨d',t',er,cc,rfl,E,H,I,y,f⟩
       have K:=((((K.on f).ksl y).ksl I).ksl H).ksl E
       refine hK.out _ _ K.tl.ft.ft.ft.ft fun _=>?_
       clear hK K' f E H I y
       try simp only[Act.put,an,ai,aj]
       refine tK 6 K.tl.ft.ft.ft.ft ?_
       refine tK 7 K.tl.ft.ft.ft.ft ?_
       refine tK 8 K.tl.ft.ft.ft.ft ?_
       refine tSt 9 K 0 rfl (fun U h=>h.tl.ft.ft.ft.ft) fun U K=>?_
       refine tE ?_
       have HR:Hid (d'.ok (k+1) t'):=cc
       have K:=(K.out.forget (List.Sublist.cons_cons _ (List.Sublist.cons_cons _ (List.Sublist.cons_cons _ (List.Sublist.cons_cons _ (List.Sublist.cons _ (List.Sublist.cons _ (List.Sublist.cons _ (List.Sublist.cons _ (List.Sublist.cons _ (List.Sublist.refl _))))))))))).hh
       have K:=(show HH _ _ _ _ _ (jeF d' t' [Sl.fact iz (some ad) n cp l,Sl.fact ak A2 n2 ac bl]) from K)
       clear HE cc L M i3
       have i9:k+1≤n:=by omega
       have L:(0:Int)≤(k:Int):=by omega
       rcases Nat.lt_or_ge k n2 with eg | eg
       ·obtain⟨bb,es⟩:∃ x,bl[k]?=some x:=⟨_,List.getElem?_eq_getElem (by have:=du.out;omega)⟩
        obtain⟨fg,r2,rfl,K,⟨rfl,-⟩⟩:=K.elem 5 rfl (j:=k) es
        have s0:=At.one (K.at' 0 rfl) rfl rfl
        have i4:(k:Int)<(n2:Int):=by omega
        have y:bb.toNat%4=0∨bb.toNat%4=1∨bb.toNat%4=2∨bb.toNat%4=3:=by omega
        rcases y with y | y | y | y
        ·have i6:(bb.toNat:Int).tmod 4=0:=by rw[show(4:Int)=((4:Nat):Int) from rfl,←Int.ofNat_tmod,y];rfl
         clear y
         go_wp2
         go_roundw
         case rel=>exact⟨k+1,t',d',i9,by go_num,HR,K.ft⟩
         case measure=>simp[intOf];omega
        ·have i6:(bb.toNat:Int).tmod 4=1:=by rw[show(4:Int)=((4:Nat):Int) from rfl,←Int.ofNat_tmod,y];rfl
         clear y
         go_wp2_with (first | refine K.ld 0 rfl ?_)
         refine(Ay HR.out b D hcf _ _ K.xok (K.sl 1 rfl) (K.sl 2 rfl) (K.sl 3 rfl) (K.sl 4 rfl) (hp.on K.below)).mono ?_
         rintro e w6 ⟨d2,t2,dq,Q,rfl,E,H,I,y,f⟩
         have bn:Hid (d2.ok (k+1) t2):=Q
         have K:=((((K.on f).ksl y).ksl I).ksl H).ksl E
         clear f E H I y Q s0
         go_upto_region 14 with(refine K.lw fun W K=>?_;refine K.sr 0 rfl fun W K=>?_)
         have s0:=At.one (K.at' 4 rfl) rfl rfl
         go_wp2
         go_roundw
         case rel=>exact⟨k+1,t2,d2,i9,by go_num,bn,(K.out.forget (List.Sublist.cons_cons _ (List.Sublist.cons_cons _ (List.Sublist.cons_cons _ (List.Sublist.cons_cons _ (List.Sublist.cons _ (List.Sublist.cons _ (List.Sublist.cons _ (List.Sublist.cons _ (List.Sublist.cons _ (List.Sublist.refl _))))))))))).hh⟩
         case measure=>simp[intOf];omega
        ·have i6:(bb.toNat:Int).tmod 4=2:=by rw[show(4:Int)=((4:Nat):Int) from rfl,←Int.ofNat_tmod,y];rfl
         clear y
         go_wp2_with (first | refine K.ld 0 rfl ?_)
         refine(FR HR.out b D hcf _ _ K.xok (K.sl 1 rfl) (K.sl 2 rfl) (K.sl 3 rfl) (K.sl 4 rfl) (hp.on K.below)).mono ?_
         rintro e w6 ⟨d2,t2,dq,Q,rfl,E,H,I,y,f⟩
         have bn:Hid (d2.ok (k+1) t2):=Q
         have K:=((((K.on f).ksl y).ksl I).ksl H).ksl E
         clear f E H I y Q s0
         go_wp2_with (refine K.lw fun W K=>?_;refine K.sr 0 rfl fun W K=>?_)
         go_roundw
         case rel=>exact⟨k+1,t2,d2,i9,by go_num,bn,(K.out.forget (List.Sublist.cons_cons _ (List.Sublist.cons_cons _ (List.Sublist.cons_cons _ (List.Sublist.cons_cons _ (List.Sublist.cons _ (List.Sublist.cons _ (List.Sublist.cons _ (List.Sublist.cons _ (List.Sublist.cons _ (List.Sublist.refl _))))))))))).hh⟩
         case measure=>simp[intOf];omega
        ·have i6:(bb.toNat:Int).tmod 4=3:=by rw[show(4:Int)=((4:Nat):Int) from rfl,←Int.ofNat_tmod,y];rfl
         clear y
         go_wp2
         go_roundw
         case rel=>exact⟨k+1,t',d',i9,by go_num,HR,K.ft⟩
         case measure=>simp[intOf];omega
       ·have i4:¬ (k:Int)<(n2:Int):=by omega
        go_wp2
        go_roundw
        case rel=>exact⟨k+1,t',d',i9,by go_num,HR,K⟩
        case measure=>simp[intOf];omega
      ·have M:¬ (k:Int)<(n:Int):=by omega
       have i3:(0:Int)≤(k:Int):=by omega
       have ae:=Lib.hid HE.out.sizes
       have bp:(aJ 0 d.gs).flatMap (fun p=>p.s.evs)=aY d.gs:=mq d.gs 0
       have ev:Hid (n≤40):=Lib.hid ce
       go_upto_region 16 with(fail)
       clear M i3
       go_wp2_with (first | refine K.ld 0 rfl ?_)
       refine(nF d.fs 65000 (aJ 0 d.gs) (kOf d.ss) t HE.out.look HE.out.al b D hcf d.A d.n d.cp d.S d.m d.mc d.N d.nn d.cn d.C d.kk d.ck d.su HE.out.2.2.2.2 d.sh HE.out.ok _ _ K.xok (K.sl 0 rfl) (K.sl 1 rfl) (K.sl 2 rfl) (by have:=HE.out.ns;have:=(K.sl 2 rfl).len;omega) (K.sl 3 rfl) (hp.on K.below) (by rw[bp];exact ae.out.2.2.2)).mono ?_
       rw[bp]
       rintro e w7 ⟨B,nb,cb,rfl,o,f⟩
       have K:=(K.on f).ksl o
       have ao:=Lib.hid o.len
       clear f o bp
       have HM:=Lib.hid (show d.m=d.gs.length from by rw[(K.sl 2 rfl).len,List.length_map,gD])
       go_upto_region 18 with(fail)
       go_wp2
       go_loopw [13,14] (fun v i wr => ∃ (j:Nat),j≤d.m∧i = .int .i64 j∧(∃ nm,v = .string nm∧Hid (nm=if j=0 then ByteArray.empty else az j))∧HH w [] [] wr [.box g9 39 (d.cells b D t),.box w.heap.size 23 #[.int .i64 b,.int .i64 D]] (Sl.fact iz B nb cb (aY d.gs)::jeF d t [])) (fun _ i _=>d.m-(intOf i).toNat)
       case atStart=>exact⟨0,Nat.zero_le _,rfl,⟨_,rfl,rfl⟩,(K.out.forget (List.Sublist.cons_cons _ (List.Sublist.cons_cons _ (List.Sublist.cons_cons _ (List.Sublist.cons_cons _ (List.Sublist.cons_cons _ (List.nil_sublist _))))))).hh⟩
       case round=>
        obtain⟨j,hj,rfl,⟨nm,rfl,bs⟩,K⟩:=hrel
        by_cases fi:j<d.m
        ·obtain⟨g,hg⟩:∃ g,d.gs[j]?=some g:=⟨_,List.getElem?_eq_getElem (by have:=HM.out;omega)⟩
         obtain⟨ad,rr,hS,K,⟨rfl,-⟩⟩:=K.elem 2 rfl (j:=j) (x:=aD (g.pr (j+1))) (by rw[List.getElem?_map,uN,hg,Nat.zero_add];rfl)
         have j1:j≤40:=by have:=HM.out;have:=ae.out.2.1;have:=ae.out.2.2.2;omega
         obtain⟨j',am⟩:∃ z,Hid (z=j+1):=⟨_,rfl⟩
         have c0:wr.cell? ⟨g9,6,none⟩=some (.slice (some ad) d.m d.mc):=by rw[←hS];exact K.r 0 rfl 6
         have b0:wr.cell? (ad.add (j*7))=some (.int .i64 (j':Int)):=by rw[am.out];exact K.at' 0 rfl 0 _ rfl
         have i3:(0:Int)≤(j:Int):=by omega
         have i4:(j:Int)<(d.m:Int):=by omega
         clear hS hg
         go_wp2_with fail
         refine(dS j' (by have:=am.out;omega) (by have:=am.out;omega) _ (hp.on K.below)).mono ?_
         rintro e w8 ⟨rfl,f⟩
         have K:=K.on f
         obtain⟨eh,aw⟩:∃ z,Hid (z=az j'):=⟨_,rfl⟩
         rw[←aw.out]
         clear f c0 b0 i3 i4
         go_wp2
         go_roundw
         case rel=>exact⟨j+1,by omega,by go_num,⟨eh,rfl,Lib.hid (by rw[if_neg (by omega),aw.out,am.out])⟩,K.ft⟩
         case measure=>simp[intOf];omega
        ·have bv:Hid (j=d.m):=Lib.hid (by omega)
         have c0:wr.cell? ⟨g9,6,none⟩=some (.slice d.S d.m d.mc):=K.r 0 rfl 6
         have i4:¬ (j:Int)<(d.m:Int):=by omega
         cases hgs:d.gs with
         | nil=>
           obtain rfl:nm=ByteArray.empty:=by rw[bs.out,if_pos (by rw[bv.out,HM.out,hgs];rfl)]
           obtain rfl:nb=0:=by rw[ao.out,hgs];rfl
           clear hgs
           go_wp2
           go_ret
           exact⟨rfl,K.below⟩
         | cons g1 gr=>
           obtain⟨lo,g,ap⟩:∃ lo g,d.gs=lo ++ [g]:=by
            rcases List.eq_nil_or_concat d.gs with h | ⟨lo,g,h⟩
            ·rw[h]at hgs;cases hgs
            ·exact⟨lo,g,by rw[h,List.concat_eq_append]⟩
           have dg:=Lib.hid ap
           have O:Hid (nm=az (lo.length+1)):=Lib.hid (by
            have E:d.m=lo.length+1:=by rw[HM.out,ap];simp
            rw[bs.out,if_neg (by rw[bv.out,E];omega),bv.out,E])
           have ed:nm.toList.isEmpty=false:=by rw[O.out,ByteArray.toList_eq,eF];rfl
           have cz:JG 65000 k d.fs (lo ++ [g]) d.ss t d.su:=by rw[←ap];exact HE.out
           clear ap hgs
           obtain⟨fb,x,bk,cf,Y,cs,hcut⟩:=cz.cut
           have ba:=Lib.hid hcut
           have bx:Hid (cj ⟨d.fs,65000⟩):=Lib.hid HE.out.1.dk
           have bo:Hid (d.fs[fb.length]?=some x):=Lib.hid (by rw[bk];simp)
           have bi:Hid (findD d.fs x.nm=(fb.length:Int)):=Lib.hid (by rw[bk,nU.find (iO Y),iS Y])
           obtain rfl:nm=x.nm:=O.out.trans cf.symm
           have eq:=Lib.hid cs
           clear bk cf Y cs hcut cz O bs
           go_upto_region 24 with(fail)
           clear ed c0 i4
           go_wp2_with (first | refine bF (K.sub 0 rfl 0 [.slice d.A d.n d.cp,.int .i64 65000,.int .i64 (-1),.bool false]) ?_)
           refine(oT ⟨d.fs,65000⟩ x fb.length d.A d.n d.cp _ _ K.xok (K.sl 1 rfl) bx.out bo.out bi.out).mono ?_
           rintro e w9 ⟨B9,c9,rfl,o,f⟩
           have K:=(K.on f).ksl o
           clear f o
           obtain⟨Z,T⟩:∃ z,Hid (z=x.all.length):=⟨_,rfl⟩
           rw[←T.out]at K ⊢
           obtain⟨kk,ab⟩:∃ z:Nat,Hid ((z:Int)=ct.tmod ((Z:Int)+1)∧z≤Z):=by
            have E:=Int.tmod_nonneg ((Z:Int)+1) ds.1
            have H:=Int.tmod_lt_of_pos ct (show(0:Int)<(Z:Int)+1 by omega)
            exact⟨(ct.tmod ((Z:Int)+1)).toNat,Lib.hid ⟨by omega,by omega⟩⟩
           have fa:Z≤5000:=by have:=eq.out;have:=T.out;omega
           go_upto_region 25 with(fail)
           refine yj (α:=Nat) (β:=World) (γ:=Option Addr) (δ:=Nat) (G:=?G) ?main ?key
           case main=>
            intro key
            have q1:IntKind.i64.wrap ct=ct:=IntWalk.i64_in _ (by omega)
            have q2:IntKind.i64.wrap ((Z:Int)+1)=(Z:Int)+1:=IntWalk.i64_in _ (by omega)
            have q3:ct.tmod ((Z:Int)+1)=(kk:Int):=ab.out.1.symm
            have q4:¬ (Z:Int)+1=0:=by omega
            refine K.rg fun W K=>?_
            refine tK 0 K ?_
            refine tL 1 (fun _ h=>h.sub 0 rfl 0 [.slice d.A d.n d.cp,.int .i64 65000,.int .i64 (-1),.bool false]) K ?_ (hy:=fun w hw=>aM hw)
            refine tK 2 K ?_
            refine tK 3 K ?_
            refine tK 4 K ?_
            refine tK 5 K ?_
            refine tK 6 K ?_
            refine tK 7 K ?_
            refine tK 8 K ?_
            clear q1 q2 q3 q4
            refine tC2 9 13 (fun K' hK=>?_) (fun K' hK=>?_)
            ·go_simp
             with_reducible refine(rT ⟨d.fs,65000⟩ x fb.length kk d.A d.n d.cp _ _ K.xok (K.sl 2 rfl) bx.out bo.out bi.out (by have:=ab.out.2;have:=T.out;omega)).mono ?_
             rintro e bj ⟨P,R,rfl,o,f⟩
             have KS:=K.on f
             have K:=KS.ksl o
             refine hK.out _ _ KS fun _=>?_
             clear hK K' f o
             try simp only[Act.put,an,ai,aj]
             refine tK 10 KS ?_
             refine tK 11 KS ?_
             refine tK 12 KS ?_
             refine tC 13 fun K' hK=>?_
             go_simp
             have K:=K.to (W':=bj.alloc (.cells #[.slice none 0 0,.int .i64 0,.int .i64 0,.bool false] 30))
             refine hK.out _ _ K.tl.ft fun _=>?_
             clear hK K' KS
             try simp only[Act.put,an,ai,aj]
             refine tSt 14 K 0 rfl (fun U h=>h.tl.ft) fun U K=>?_
             refine tK 15 K.tl.ft ?_
             refine tE ?_
             generalize bj.heap.size=p at K ⊢
             revert K
             exact key.out p U P R
            ·go_simp
             have K:=K.to (W':=W.alloc (.cells #[.slice none 0 0,.int .i64 0,.int .i64 0,.bool false] 30))
             refine hK.out _ _ K.tl fun _=>?_
             clear hK K'
             try simp only[Act.put,an,ai,aj]
             refine tC 9 fun K' hK=>?_
             go_simp
             with_reducible refine(rT ⟨d.fs,65000⟩ x fb.length kk d.A d.n d.cp _ _ K.xok (K.sl 2 rfl) bx.out bo.out bi.out (by have:=ab.out.2;have:=T.out;omega)).mono ?_
             rintro e bj ⟨P,R,rfl,o,f⟩
             have K:=(K.on f).ksl o
             refine hK.out _ _ K.tl.ft fun _=>?_
             clear hK K' f o
             try simp only[Act.put,an,ai,aj]
             refine tK 10 K.tl.ft ?_
             refine tK 11 K.tl.ft ?_
             refine tK 12 K.tl.ft ?_
             refine tSt 14 K 0 rfl (fun U h=>h.tl.ft) fun U K=>?_
             refine tK 15 K.tl.ft ?_
             refine tE ?_
             generalize W.heap.size=p at K ⊢
             revert K
             exact key.out p U P R
           case key=>
           intro p U P R K
           obtain⟨ps,os,ps',t',be⟩:=ba.out kk (by have:=ab.out.2;have:=T.out;omega)
           rw[←dg.out]at be
           have u:=Lib.hid be
           clear be ba
           go_upto_region 26 with(fail)
           go_wp2_with (first | refine K.ld 0 rfl ?_ | refine K.ld 2 rfl ?_)
           refine(rC (d.fs.set fb.length (iP x kk)) 65000 ps os (kOf d.ss) t' u.out.look u.out.os64 u.out.bd u.out.run b D hcf P d.n R _ _ K.xok (K.sl 0 rfl) (hp.on K.below)).mono ?_
           rw[←u.out.sg,←u.out.ah]
           rintro e db ⟨A3,n3,dp,S3,m3,en,N3,de,ee,C3,k3,bt,rfl,E,H,I,y,f⟩
           have K:=(((((K.on f).ksl y).ksl I).ksl H).ksl E)
           clear f E H I y
           go_upto_region 27 with(refine K.lw fun W K=>?_;refine K.sr 0 rfl fun W K=>?_)
           generalize db.heap.size=bz at K ⊢
           obtain⟨qn,F⟩:∃ z:Nat,Hid (t'.q=(z:Int)∧z≤nb):=by
            have E:=u.out.q
            have H:=u.out.look.ok.2.1
            have I:=ao.out
            exact⟨t'.q.toNat,Lib.hid ⟨by omega,by omega⟩⟩
           have dm:nb≤40:=by rw[ao.out];exact ae.out.2.2.2
           have fd:0≤(kOf d.ss).q∧(kOf d.ss).q≤(qn:Int):=by
            have E:=u.out.q.1
            have H:=u.out.look.ok.2.1
            have I:=F.out.1
            omega
           have bq:W.cell? ⟨bz,11,none⟩=some (.int .i64 (qn:Int)):=by rw[←F.out.1];exact K.r 0 rfl 11
           have cm:W.cell? ⟨g9,14,none⟩=some (.int .i64 (kOf d.ss).q):=K.r 2 rfl 14
           have L:¬ (kOf d.ss).q<0:=by omega
           have M:¬ (qn:Int)<(kOf d.ss).q:=by omega
           have i3:¬ (nb:Int)<(qn:Int):=by have:=F.out.2;omega
           have i5:max (kOf d.ss).q 0=(kOf d.ss).q:=by omega
           have fk:nb≤cb∧cb≤maxLen:=⟨(K.sl 6 rfl).le,(K.sl 6 rfl).max⟩
           go_upto_region 29 with(fail)
           clear L M i3 i5 cm
           have L:(0:Int)≤(qn:Int):=by omega
           have M:(qn:Int)≤(cb:Int):=by have:=F.out.2;omega
           have i3:qn≤cb:=by omega
           go_wp2_with fail
           refine(Fo ((aY d.gs).take qn) zS t' none 0 0 B qn cb _ _ K.xok Sl.nil_ ((K.sl 6 rfl).pre F.out.2) bI (by have h:=u.out.st;rw[F.out.1,Int.toNat_natCast]at h;exact h) (by have:=F.out.2;omega)).mono ?_
           rintro e fl ⟨C4,k4,dc,rfl,o,f⟩
           have K:=(K.on f).ksl o
           clear f o bq L M i3
           go_upto_region 30 with(refine K.lw fun W K=>?_;refine K.sr 0 rfl fun W K=>?_)
           have bc:bD t':=(eU _ _ _ bI u.out.st).1
           have X:=Lib.hid bc
           obtain⟨EV,br⟩:∃ z,Hid (z=ps'.flatMap (fun p=>p.s.evs)):=⟨_,rfl⟩
           have ch:Hid ((EV=(aY d.gs).take qn)∨(EV = []∧(qn:Int)=(kOf d.ss).q)):=Lib.hid (by
            have h:=u.out.evs
            rw[F.out.1,Int.toNat_natCast,←br.out]at h
            exact h)
           have J:Hid (EV.length≤nb∧EV=(aY d.gs).take EV.length∧(EV.length=qn∨(EV.length=0∧(qn:Int)=(kOf d.ss).q))):=Lib.hid (by
            have E:=F.out.2
            have H:=ao.out
            rcases ch.out with h | ⟨h,I⟩
            ·have y:EV.length=qn:=by rw[h,List.length_take];omega
             exact⟨by omega,by rw[y];exact h,.inl y⟩
            ·rw[h]
             exact⟨by simp,by simp,.inr ⟨rfl,I⟩⟩)
           clear bc
           go_wp2_with (first | refine K.ld 1 rfl ?_)
           refine(nF _ 65000 ps' (kOf d.ss) t' u.out.look2 u.out.al b D hcf A3 n3 dp S3 m3 en N3 de ee C3 k3 bt t'.q ⟨u.out.q.1,Int.le_refl _⟩ false X.out _ _ K.xok (K.sl 1 rfl) (K.sl 2 rfl) (K.sl 3 rfl) (by have:=u.out.ns;have:=(K.sl 3 rfl).len;omega) (K.sl 4 rfl) (hp.on K.below) (by rw[←br.out];have:=J.out.1;omega)).mono ?_
           rw[←br.out]
           rintro e dv ⟨B5,n5,c5,rfl,o,f⟩
           have K:=(K.on f).ksl o
           have ar:=Lib.hid o.len
           clear f o
           have bq:dv.cell? ⟨bz,11,none⟩=some (.int .i64 (qn:Int)):=by rw[←F.out.1];exact K.r 1 rfl 11
           have L:((qn:Int) != (qn:Int))=false:=by simp
           have M:¬ (nb:Int)<(n5:Int):=by have:=ar.out;have:=J.out.1;omega
           go_wp2_with (first | refine bF (K.at_ 0 rfl) ?_ | refine bF (K.sub 1 rfl 10 [.slice C3 k3 bt,.int .i64 t'.q,.int .i64 t'.a]) ?_)
           refine(xI t' C4 k4 dc C3 k3 bt _ _ K.xok (K.sl 1 rfl) (K.sl 5 rfl) (by have:=(K.sl 1 rfl).len;have:=X.out.1;omega) (fun c hc=>by have:=FQ (X.out.2.2.2.2.2.1 c hc);omega)).mono ?_
           rintro e fn ⟨rfl,f⟩
           have K:=K.on f
           clear f bq
           go_upto_region 33 with(fail)
           clear L M
           have ec:n5≤nb:=by have:=ar.out;have:=J.out.1;omega
           have et:n5≤cb:=by omega
           have L:(0:Int)≤(n5:Int):=by omega
           have M:(n5:Int)≤(cb:Int):=by omega
           go_wp2_with fail
           refine(BY _ _ _ _ EV _ _ _ ((aY d.gs).take n5) _ (K.sl 0 rfl).evsC ((K.sl 8 rfl).pre ec).evsC (Nat.le_refl _) (by omega) (by omega)).mono ?_
           rintro e dy ⟨rb,rfl,cv,f⟩
           obtain rfl:rb=true:=cv.2 (by rw[ar.out];exact J.out.2.1)
           have K:=K.on f
           clear f cv L M
           by_cases ag:n5=qn
           ·have L:((n5:Int) == (qn:Int))=true:=by rw[ag];simp
            clear ag
            go_wp2
            go_ret
            exact⟨rfl,K.below⟩
           ·obtain⟨h5,cd⟩:n5=0∧(qn:Int)=(kOf d.ss).q:=by
             have E:=ar.out
             rcases J.out.2.2 with h | ⟨h,H⟩
             ·exact absurd (E.trans h) ag
             ·exact⟨E.trans h,H⟩
            subst h5
            have cm:dy.cell? ⟨bz,14,none⟩=some (.int .i64 (qn:Int)):=by rw[cd];exact K.r 1 rfl 14
            have L:((0:Int) == (qn:Int))=false:=by
             rw[beq_eq_false_iff_ne]
             omega
            have M:((qn:Int) == (qn:Int))=true:=by simp
            clear ag cd
            go_wp2
            go_ret
            exact⟨rfl,K.below⟩
end
end Go.Proofs.YtpokkciheejeiaaGreatDoor
