/- Lemmas and contracts that the proof of TopSegments uses, part 10 of 14: each is a theorem for every input that its premises allow. -/
import Derived.Test.YtpokkciheejeiaaGreatDoorTsI
set_option linter.unusedVariables false
set_option linter.unusedSimpArgs false
set_option maxRecDepth 100000
namespace Go.Proofs.YtpokkciheejeiaaGreatDoor
section
open Go.RowKit
theorem FC {w:World} {X:List Nat} (l:List Evt) (h:∀ e ∈ l,okE e):aF fc w X (aG l) l:=(aM).2 ⟨by simp[aG],h⟩
theorem DE {e:Evt} (h:bX e=0):okE e:=by
 obtain⟨d,b,hn,c,p,f,j,n⟩:=cK h
 obtain⟨⟨l,o⟩,⟨m,g⟩,⟨k,i⟩,-,-⟩:=dB ⟨d,b⟩ c
 have a:e.cm.size≤24:=by unfold dN at hn;simp only[Bool.and_eq_true,decide_eq_true_iff]at hn;exact hn.2
 unfold okE maxLen
 simp only[wf_i64]
 omega
theorem qZ (A:Option Addr) (n c:Nat) (bs:List UInt8) (X:List Nat) (w:World) (hX:XOk X w) (f:Sl au w X A n c bs) (hn:n≤10000):
 Calls Tryz.prog 14 #[.slice A n c] w fun e w' => ∃ E en a d nn b,e = .returned (.agg (zm (bH bs cM).1 (bH bs cM).2 (.slice E en a) d nn b))∧Sl fc w' X E en a (bH bs cM).1.evs∧Sl af w' X d nn b (bH bs cM).1.c.ns∧nn≤1000∧Below w.heap.size w w':=by
 refine(En A n c w.heap.size bs X w hX f.bytes (Nat.le_refl _) f.le (by have:=f.max;unfold maxLen at this;omega) hn).mono ?_
 rintro e w' ⟨j,m,d,nn,b,rfl,hown,i,h,k⟩
 obtain⟨E,a,rfl,g⟩:=Sl.of_own (s:=fc) hown k (FC _ fun e l=>DE ((sM bs).1 e l)) (by decide)
 exact⟨E,_,a,d,nn,b,rfl,g,i,h,j⟩
theorem qO {fs:List Fil} (h:Srt Fil.nm fs) {k:Nat} {x:Fil} (a:fs[k]?=some x):findD fs x.nm=(k:Int):=by
 unfold findD
 rw[mG a rfl (fun j d c b e=>by have:=h.uniq b a e;omega),if_pos (List.getElem?_eq_some_iff.1 a).1]
theorem fY {W:World} {e:TypeId} {size n c:Nat} {A:Option Addr} {xs:List Value} (h:W.ownsRow 0 e size (.slice A n c) n xs) (hn:0<n):∃ g,A=some ⟨g,0,none⟩:=by
 rcases h.2 with⟨h,_⟩ | ⟨g,cap,cur,h,_⟩
 ·injection h with a b d;omega
 ·injection h with a b d;exact⟨g,a⟩
theorem xO (acc:List Prt×List ByteArray) (x:Fil) (h:iF x.nm≠0) (f:acc.2.length=0) (e:(fW x.all).s.num=(iF x.nm:Int)):
 (acc.1 = []→bZ acc x=(acc.1 ++ [fW x.all],acc.2)) ∧ ∀ a,acc.1.getLast?=some a→bZ acc x=if uH (fW x.all) a=true then(acc.1 ++ [fW x.all],acc.2) else(acc.1,acc.2 ++ [x.nm]):=by
 have hn:acc.2 = []:=List.eq_nil_of_length_eq_zero f
 unfold bZ
 rw[if_neg h]
 constructor
 ·intro g
  rw[if_pos ⟨hn,e,fun a c=>by rw[g]at c;simp at c⟩]
 ·intro a c
  by_cases d:uH (fW x.all) a=true
  ·rw[if_pos ⟨hn,e,fun a' b=>by rw[c]at b;injection b with b;subst b;exact d⟩,if_pos d]
  ·rw[if_neg (fun i=>d (i.2.2 a c)),if_neg d]
theorem yq (acc:List Prt×List ByteArray) (x:Fil) (h:iF x.nm≠0) (b:¬ (acc.2.length=0∧(fW x.all).s.num=(iF x.nm:Int))):bZ acc x=(acc.1,acc.2 ++ [x.nm]):=by
 unfold bZ
 rw[if_neg h,if_neg (fun a=>b ⟨by rw[a.1];rfl,a.2.1⟩)]
set_option maxHeartbeats 3000000 in
theorem EO (fs:List Fil) (room:Int) (A:Option Addr) (n cp:Nat) (X:List Nat) (w:World) (hX:XOk X w) (o:Sl az w X A n cp fs) (H:eO ⟨fs,room⟩) (ag:∀ f ∈ fs,uI f.nm) (hlen:∀ f ∈ fs,f.all.length≤10000) (hp:aX w):
 Calls Tryz.prog 75 #[.agg #[.slice A n cp,.int .i64 room,.int .i64 (-1),.bool false]] w fun e w' => ∃ B bn c B2 n2 c2,e = .returned (.tuple #[.slice B bn c,.slice B2 n2 c2])∧Sl fB w' X B bn c (eI fs).1∧Sl fh w' X B2 n2 c2 (eI fs).2∧Below w.heap.size w w':=by
 have HL:=Lib.hid o.len
 have ae:n≤64:=by have:=H.1;have:=o.len;simp only at *;omega
 have T:∀ f ∈ fs,f.nm.size≤maxLen:=fun f hf=>by
  have:=H.2.2.2.1 f hf
  unfold fnB at this
  unfold maxLen
  simp at this
  omega
 have ar:=Lib.hid H.2.2.2.2.1
 go_enter Tryz.func75,Tryz.ntmps75
 go_upto_region 3 with(fail)
 refine(hstart hX).cw fun W K=>?_
 have K:=K.ksl0 o
 clear o
 have c0:=K.r 0 rfl
 go_wp2_with fail
 refine(oJ fs room A n cp _ _ K.xok (K.sl 0 rfl) ae T).mono ?_
 rintro e w1 ⟨B,bc,rfl,C,b⟩
 have K:=((K.on b).ksl C).nrow (e:=132) (size:=11) (n:=0) (v := .slice none 0 0) (xs:=[]) (Below.refl _ _) ⟨rfl,.inl ⟨rfl,rfl⟩⟩
 have K:=K.nrow (e:=9) (size:=1) (n:=0) (v := .slice none 0 0) (xs:=[]) (Below.refl _ _) ⟨rfl,.inl ⟨rfl,rfl⟩⟩
 have K:=K.kra (s:=fB) (vs:=[]) (xs:=[]) rfl
 clear c0 b C
 go_wp2
 go_loopw [16,4,5] (fun i v v2 wr => ∃ (k r m:Nat) (Ar:Option Addr) (N:Nat) (Ao:Option Addr) (co:Nat) (vs:List Value),k≤n∧i = .int .i64 k∧v = .slice Ar r N∧v2 = .slice Ao m co∧Hid (r=(eI (fs.take k)).1.length∧m=(eI (fs.take k)).2.length) ∧
  HH w [] X wr [.row 9 1 (.slice Ao m co) m ((eI (fs.take k)).2.map Value.string),.row 132 11 (.slice Ar r N) r vs,.box w.heap.size 30 #[.slice A n cp,.int .i64 room,.int .i64 (-1),.bool false]] [Ra.fact fB vs (eI (fs.take k)).1,Sl.fact fh B n bc (fs.map Fil.nm),Sl.fact az A n cp fs]) (fun i _ _ _=>n-(intOf i).toNat)
 case atStart=>exact⟨0,0,0,none,0,none,0,[],Nat.zero_le _,rfl,rfl,rfl,Lib.hid ⟨rfl,rfl⟩,K⟩
 case round=>
  obtain⟨k,r,m,Ar,N,Ao,co,vs,hk,rfl,rfl,rfl,a,K⟩:=hrel
  by_cases bl:k<n
  ·obtain⟨x,hx⟩:∃ x,fs[k]?=some x:=⟨_,List.getElem?_eq_getElem (by have:=HL.out;omega)⟩
   have p:=Lib.hid (AX hx)
   have HB:=Lib.hid (dS (fs.take k) (fun f hf=>ag f (List.mem_of_mem_take hf)))
   have br:r+m≤64:=by
    have h1:=HB.out.1
    have D:=a.out
    rw[List.length_take]at h1
    omega
   generalize eI (fs.take k)=acc at K p HB a
   have hmem:=List.mem_of_getElem? hx
   have HN:=fun W (hW:aX W)=>Lib.hid (Br x.nm (ag x hmem) W hW)
   have HF:=Lib.hid (qO ar.out hx)
   have HX:=Lib.hid hx
   have be:=hlen x hmem
   have bk:=T x hmem
   obtain⟨ad,rr,rfl,K,⟨rfl,-⟩⟩:=K.elem 1 rfl (j:=k) (x:=x.nm) (by rw[List.getElem?_map,hx];rfl)
   have s0:=At.one (K.at' 0 rfl) rfl rfl
   have i1:(0:Int)≤(k:Int):=by omega
   have i2:(k:Int)<(n:Int):=by omega
   clear hx hmem
   go_wp2_with fail
   refine(HN _ (hp.on K.below)).out.mono ?_
   rintro e w2 ⟨rfl,b⟩
   have K:=K.ft.on b
   clear b s0
   by_cases h0:iF x.nm=0
   ·have d:Hid (bZ acc x=acc):=Lib.hid (by unfold bZ;rw[if_pos h0])
    rw[h0]
    go_wp2
    go_roundw
    case rel=>exact⟨k+1,r,m,Ar,N,Ao,co,vs,by omega,by go_num,rfl,rfl,by rw[p.out,d.out];exact a,by rw[p.out,d.out];exact K⟩
    case measure=>simp[intOf];omega
   ·have i3:¬ (iF x.nm:Int)=0:=by omega
    have c2:=K.r 2 rfl
    go_wp2_with fail
    refine(tX ⟨fs,room⟩ x k A n cp _ _ K.xok (K.sl 2 rfl) H HX.out HF.out).mono ?_
    rintro e w3 ⟨B1,S,rfl,C,b⟩
    have K:=(K.on b).ksl C
    clear b c2 C
    go_wp2_with fail
    refine(qZ B1 _ S x.all _ _ K.xok (K.sl 0 rfl) be).mono ?_
    rintro e w4 ⟨E,M,L,O,nn,J,rfl,-,-,-,b⟩
    have K:=K.on b
    clear b
    have ab:=(sG x.all).1
    obtain⟨z,hz⟩:∃ z:Nat,(bH x.all cM).1.size=(z:Int):=⟨(bH x.all cM).1.size.toNat,by have:=ab.lo;omega⟩
    have aw:z≤x.all.length:=by have:=ab.hi;omega
    have Q:Hid (fW x.all=⟨(bH (x.all.take z) cM).1,(bH (x.all.take z) cM).2,x.all.length⟩):=Lib.hid (by unfold fW;rw[hz,Int.toNat_natCast])
    have bs:=(K.sl 0 rfl).le
    have bj:=fun(W:World)=>pq (P:=Tryz.prog) (ty:=54) (i:=5) (off:=9) (cs:=zm (bH x.all cM).1 (bH x.all cM).2 (.slice E M L) O nn J) (v := .int .i64 (z:Int)) (by kernel_rfl) (by rw[←hz];rfl) W
    generalize zm (bH x.all cM).1 (bH x.all cM).2 (.slice E M L) O nn J=bm at bj ⊢
    have i4:(0:Int)≤(z:Int):=by omega
    have i5:(z:Int)≤(S:Int):=by omega
    have hpre:=(K.sl 0 rfl).pre aw
    have K:=K.ksl hpre
    clear hpre ab hz
    go_wp2_with fail
    refine(qZ B1 z S (x.all.take z) _ _ K.xok (K.sl 0 rfl) (by omega)).mono ?_
    rintro e w5 ⟨E,M,L,O,nn,J,rfl,ac,am,Y,b⟩
    have K:=((((K.on b).ft.ft).ksl ac).ksl am)
    clear b ac am
    generalize bH (x.all.take z) cM=r2 at K Q Y ⊢
    obtain⟨F,st2⟩:=r2
    simp only[zm]
    go_upto_region 11 with(refine K.lw fun W K=>?_;refine K.sr 0 rfl fun W K=>?_)
    have c0:=K.r 0 rfl
    by_cases hi:m=0∧F.num=(iF x.nm:Int)
    ·obtain⟨rfl,D⟩:=hi
     have i7:(F.num == (iF x.nm:Int))=true:=by simpa using D
     have I:=xO acc x h0 a.out.2.symm (by rw[Q.out];exact D)
     clear D
     cases r with
     | zero=>
       have d:=Lib.hid (I.1 (List.eq_nil_of_length_eq_zero a.out.1.symm))
       clear I
       go_upto_region 17 with(at_builtin;refine K.lw fun W K=>?_;refine K.ap1 136 2 rfl (by omega) fun v' U K=>?_)
       obtain⟨Z,V,rfl,-⟩:=aE (K.row 2 rfl)
       go_wp2
       go_roundw
       case rel=>
        have R:=(K.ra 2 rfl).append (aF.single (s:=fB) (x:=(⟨F,st2,x.all.length⟩:Prt)) ⟨E,M,L,O,nn,J,rfl,K.sl 1 rfl,K.sl 0 rfl,Y⟩)
        have K:=K.kra (s:=fB) (xs:=acc.1 ++ [fW x.all]) (by rw[Q.out];exact R)
        refine⟨k+1,0+1,0,Z,V,Ao,co,vs++tw ⟨F,st2,x.all.length⟩ E M L O nn J,by omega,by go_num,rfl,rfl,by rw[p.out,d.out];exact Lib.hid ⟨by simp[a.out.1],a.out.2⟩,?_⟩
        rw[p.out,d.out]
        exact(K.tl.out.forget (List.Sublist.cons_cons _ (List.Sublist.cons _ (List.Sublist.cons _ (List.Sublist.cons _ (List.Sublist.refl _)))))).hh
       case measure=>simp[intOf];omega
     | succ r'=>
       have al:=a.out.1
       obtain⟨pl,G⟩:∃ pl,acc.1[r']?=some pl:=⟨_,List.getElem?_eq_getElem (by omega)⟩
       have q:acc.1.getLast?=some pl:=by rw[List.getLast?_eq_getElem?,←al];exact G
       have t:=I.2 pl q
       have bq:=HB.out.2 pl (List.mem_of_getElem? G)
       obtain⟨g,rfl⟩:=fY (K.row 2 rfl) (Nat.succ_pos r')
       obtain⟨rr,⟨E2,bd,bh,ap,bb,bi,rfl,-⟩,ba⟩:=rowAt (K.ra 2 rfl) (e:=132) (g:=g) (n:=r'+1) (cap:=N) G
       have i8:(0:Int)≤(r':Int):=by omega
       have i9:(r':Int)<(r':Int)+1:=by omega
       have bp:=IntWalk.i64_in (r':Int) (by omega)
       clear G q I al
       go_upto_region 13 with(fail)
       clear c0
       refine K.rg fun W K=>?_
       refine tL 0 (fun _ h=>h.at_ 0 rfl) K ?_ (hy:=fun w hw=>aD hw)
       refine tK 1 K ?_
       refine tK 2 K ?_
       refine tK 3 K ?_
       refine tK 4 K ?_
       refine tK 5 K ?_
       refine tL 6 (fun _ h=>ba _ (h.row 2 rfl)) K ?_ (hy:=fun w hw=>aD hw)
       refine tC 7 fun K' hK=>?_
       go_simp
       refine(zo ⟨F,st2,x.all.length⟩ pl E M L O nn J E2 bd bh ap bb bi _ (by omega)).mono ?_
       rintro e w6 ⟨rfl,b⟩
       have K:=K.on b
       refine hK.out _ _ K fun _=>?_
       clear hK K' b
       try simp only[Act.put,aq,aj,ai]
       refine tK 8 K ?_
       refine tE ?_
       have c0:=K.r 0 rfl
       rw[Q.out]at t
       cases hfw:uH ⟨F,st2,x.all.length⟩ pl with
       | true=>
         have d:Hid (bZ acc x=(acc.1 ++ [fW x.all],acc.2)):=Lib.hid (by rw[t,hfw,if_pos rfl,Q.out])
         clear t
         go_upto_region 17 with(at_builtin;refine K.lw fun W K=>?_;refine K.ap1 136 2 rfl (by omega) fun v' U K=>?_)
         obtain⟨Z,V,rfl,-⟩:=aE (K.row 2 rfl)
         go_wp2
         go_roundw
         case rel=>
          have R:=(K.ra 2 rfl).append (aF.single (s:=fB) (x:=(⟨F,st2,x.all.length⟩:Prt)) ⟨E,M,L,O,nn,J,rfl,K.sl 1 rfl,K.sl 0 rfl,Y⟩)
          have K:=K.kra (s:=fB) (xs:=acc.1 ++ [fW x.all]) (by rw[Q.out];exact R)
          refine⟨k+1,r'+1+1,0,Z,V,Ao,co,vs++tw ⟨F,st2,x.all.length⟩ E M L O nn J,by omega,by go_num,rfl,rfl,by rw[p.out,d.out];exact Lib.hid ⟨by simp[a.out.1],a.out.2⟩,?_⟩
          rw[p.out,d.out]
          exact(K.tl.out.forget (List.Sublist.cons_cons _ (List.Sublist.cons _ (List.Sublist.cons _ (List.Sublist.cons _ (List.Sublist.refl _)))))).hh
         case measure=>simp[intOf];omega
       | false=>
         have d:Hid (bZ acc x=(acc.1,acc.2 ++ [x.nm])):=Lib.hid (by rw[t,hfw,if_neg (by simp)])
         clear t
         go_upto_region 17 with(at_builtin;refine K.lw fun W K=>?_;refine K.ap1 16 1 rfl (by omega) fun v' U K=>?_)
         obtain⟨u,y,rfl,-⟩:=aE (K.row 1 rfl)
         go_wp2
         go_roundw
         case rel=>
          refine⟨k+1,r'+1,0+1,some ⟨g,0,none⟩,N,u,y,vs,by omega,by go_num,rfl,rfl,by rw[p.out,d.out];exact Lib.hid ⟨a.out.1,by simp[a.out.2]⟩,?_⟩
          rw[p.out,d.out]
          simp only[List.map_append]
          exact K.tl.ft.ft
         case measure=>simp[intOf];omega
    ·have d:Hid (bZ acc x=(acc.1,acc.2 ++ [x.nm])):=Lib.hid (yq acc x h0 (by rw[Q.out,←a.out.2];exact hi))
     rcases(show m≠0∨(m=0∧F.num≠(iF x.nm:Int)) by omega) with h | ⟨h,D⟩
     ·have i6:¬ (m:Int)=0:=by omega
      go_upto_region 17 with(at_builtin;refine K.lw fun W K=>?_;refine K.ap1 16 1 rfl (by omega) fun v' U K=>?_)
      obtain⟨u,y,rfl,-⟩:=aE (K.row 1 rfl)
      go_wp2
      go_roundw
      case rel=>
       refine⟨k+1,r,m+1,Ar,N,u,y,vs,by omega,by go_num,rfl,rfl,by rw[p.out,d.out];exact Lib.hid ⟨a.out.1,by simp[a.out.2]⟩,?_⟩
       rw[p.out,d.out]
       simp only[List.map_append]
       exact K.tl.ft.ft
      case measure=>simp[intOf];omega
     ·subst h
      have i7:(F.num == (iF x.nm:Int))=false:=by simpa using D
      go_upto_region 17 with(at_builtin;refine K.lw fun W K=>?_;refine K.ap1 16 1 rfl (by omega) fun v' U K=>?_)
      obtain⟨u,y,rfl,-⟩:=aE (K.row 1 rfl)
      go_wp2
      go_roundw
      case rel=>
       refine⟨k+1,r,0+1,Ar,N,u,y,vs,by omega,by go_num,rfl,rfl,by rw[p.out,d.out];exact Lib.hid ⟨a.out.1,by simp[a.out.2]⟩,?_⟩
       rw[p.out,d.out]
       simp only[List.map_append]
       exact K.tl.ft.ft
      case measure=>simp[intOf];omega
  ·obtain rfl:k=n:=by omega
   have e1:fs.take k=fs:=List.take_of_length_le (by have:=HL.out;omega)
   rw[e1]at K
   go_wp2
   go_ret2
   have bo:Hid (r=(eI fs).1.length∧m=(eI fs).2.length):=by rw[e1]at a;exact a
   have ao:∀ s ∈ (eI fs).2,s.size≤maxLen:=by
    have key:∀ (l:List Fil) (acc:List Prt×List ByteArray),(∀ f ∈ l,f.nm.size≤maxLen)→(∀ s ∈ acc.2,s.size≤maxLen) → ∀ s ∈ (l.foldl bZ acc).2,s.size≤maxLen:=by
     intro l
     induction l with
     | nil=>intro acc _ h;exact h
     | cons f l ih=>
       intro acc h1 D
       refine ih _ (fun f hf=>h1 f (by simp[hf])) fun s o=>?_
       unfold bZ at o
       split at o
       ·exact D s o
       ·split at o
        ·exact D s o
        ·rcases List.mem_append.1 o with o | o
         ·exact D s o
         ·rw[List.mem_singleton]at o
          subst o
          exact h1 f (by simp)
    exact key fs _ T (by simp)
   obtain⟨B1,c1,e2,KS⟩:=K.out.done_row (s:=fh) (xs:=(eI fs).2) 0 rfl (aM.2 ⟨by rw[List.map_eq_flatMap],ao⟩) (by decide) (by simp)
   obtain⟨B2,c2,e3,KS⟩:=KS.done_row (s:=fB) (xs:=(eI fs).1) 0 rfl (KS.ra 1 rfl) (by decide) (by simp)
   have K:=KS.hh
   rw[e2,e3]
   exact⟨B2,r,c2,B1,m,c1,rfl,K.slb 0 rfl,K.slb 1 rfl,K.below⟩
end
section
open Go.RowKit
theorem DF {k:Int} {l:List Evt} {j:Nat} {e:Evt} {s t:St} (h:mw k (l.drop j) s=some t) (d:l[j]?=some e):(e.q≤k∧mw k (l.drop (j+1)) s=some t)∨(¬ e.q≤k∧cS s e=0∧mw k (l.drop (j+1)) (bJ s e)=some t):=by
 obtain⟨c,rfl⟩:=List.getElem?_eq_some_iff.1 d
 rw[←List.getElem_cons_drop (h:=c)]at h
 unfold mw at h
 by_cases a:(l[j]).q≤k
 ·rw[if_pos a]at h;exact .inl ⟨a,h⟩
 ·rw[if_neg a]at h
  by_cases b:cS s l[j]=0
  ·rw[if_pos b]at h;exact .inr ⟨a,b,h⟩
  ·rw[if_neg b]at h;cases h
theorem DG {k:Int} {l:List Prt} {j:Nat} {p:Prt} {s t:St} (h:oW k (l.drop j) s=some t) (d:l[j]?=some p):(p.s.evs.length:Int)=p.s.c.q-p.s.bq ∧ ∃ u,mw k p.s.evs s=some u∧oW k (l.drop (j+1)) u=some t:=by
 obtain⟨b,rfl⟩:=List.getElem?_eq_some_iff.1 d
 rw[←List.getElem_cons_drop (h:=b)]at h
 unfold oW at h
 by_cases a:((l[j]).s.evs.length:Int)=(l[j]).s.c.q-(l[j]).s.bq
 ·rw[if_pos a]at h
  cases hu:mw k (l[j]).s.evs s with
  | none=>rw[hu]at h;cases h
  | some u=>rw[hu]at h;exact⟨a,u,rfl,h⟩
 ·rw[if_neg a]at h;cases h
set_option maxHeartbeats 1500000 in
theorem sK (ps:List Prt) (s t:St) (A:Option Addr) (n Q:Nat) (C:Option Addr) (k Y:Nat) (X:List Nat) (w:World) (hX:XOk X w) (M:Sl fB w X A n Q ps) (R:Sl aB w X C k Y s.cs) (ag:cF s) (h:oW s.q ps s=some t) (h0:∀ p,ps[0]?=some p→p.s.bq≤s.q) (hl:∀ p,ps.getLast?=some p→p.s.c.a=t.a) (hn:n≤64):
 Calls Tryz.prog 77 #[.slice A n Q,.agg #[.slice C k Y,.int .i64 s.q,.int .i64 s.a]] w fun e w' => ∃ g k' d,e = .returned (.tuple #[.agg #[.slice g k' d,.int .i64 t.q,.int .i64 t.a],.bool true])∧Sl aB w' X g k' d t.cs∧Below w.heap.size w w':=by
 have L:=Lib.hid M.len
 cases n with
 | zero=>
   obtain rfl:ps = []:=List.eq_nil_of_length_eq_zero M.len.symm
   simp only[oW,Option.some.injEq]at h
   subst h
   go_enter Tryz.func77,Tryz.ntmps77
   go_upto_region 1 with(fail)
   refine(hstart hX).cw fun W K=>?_
   have K:=K.ksl0 R
   clear M R
   go_wp2_with (first | refine K.ld 1 rfl ?_ | (refine K.lw fun W K=>?_;refine K.sr 0 rfl fun W K=>?_))
   exact K.rc2 0 rfl rfl ⟨C,k,Y,rfl,K.slb 0 rfl,K.below⟩
 | succ m=>
   obtain⟨p0,B⟩:∃ x,ps[0]?=some x:=⟨_,List.getElem?_eq_getElem (by have:=L.out;omega)⟩
   obtain⟨pl,v⟩:∃ x,ps[m]?=some x:=⟨_,List.getElem?_eq_getElem (by have:=L.out;omega)⟩
   have j:ps.getLast?=some pl:=by rw[List.getLast?_eq_getElem?,←L.out];exact v
   have j1:¬ s.q<p0.s.bq:=by have:=h0 p0 B;omega
   have j2:=Lib.hid (hl pl j)
   clear j h0 hl
   have HP:=Lib.hid h
   clear h
   go_enter Tryz.func77,Tryz.ntmps77
   go_upto_region 1 with(fail)
   refine(hstart hX).cw fun W K=>?_
   have K:=(K.ksl0 M).ksl0 R
   clear M R
   have c1:=K.r 1 rfl
   obtain⟨ad,r,rfl,K,⟨E,en,S,An,nn,cn,rfl,-⟩⟩:=K.elem 1 rfl B
   have e0:ad.add (0*fB.size)=ad:=by
    rw[Nat.zero_mul]
    cases ad with
    | mk b o s=>unfold Addr.add;cases s<;>simp
   have hh:=K.at' 0 rfl
   rw[e0]at hh
   have b1:W.cell? ⟨ad.block,ad.off+1,none⟩=some (.int .i64 p0.s.bq):=hh 1 _ rfl
   have K:=K.ft
   clear hh
   go_upto_region 6 with(fail)
   clear c1 b1 B
   go_wp2
   go_loopw [29] (fun i wr => ∃ (a:Nat) (sc:St) (g:Option Addr) (k' d:Nat),a≤m+1∧i = .int .i64 a∧Hid (oW s.q (ps.drop a) sc=some t)∧cF sc∧HH w [] X wr [.box (w.heap.size+1) 37 #[.slice none 0 0,.int .i64 0,.int .i64 0],.box w.heap.size 37 #[.slice g k' d,.int .i64 sc.q,.int .i64 sc.a]] [Sl.fact aB g k' d sc.cs,Sl.fact fB (some ad) (m+1) Q ps]) (fun i _=>m+1-(intOf i).toNat)
   case atStart=>exact⟨0,s,C,k,Y,Nat.zero_le _,rfl,HP,ag,K⟩
   case round=>
    obtain⟨a,sc,g,k',d,ha,rfl,HR,ao,K⟩:=hrel
    by_cases ap:a<m+1
    ·obtain⟨x,hx⟩:∃ x,ps[a]?=some x:=⟨_,List.getElem?_eq_getElem (by have:=L.out;omega)⟩
     obtain⟨q1,u,q2,q3⟩:=DG HR.out hx
     obtain⟨ae,r,J,am,al,⟨E,en,S,An,nn,cn,rfl,f,-⟩,I⟩:=(K.sl 1 rfl).at' hx
     obtain rfl:=Option.some.inj J
     have K:=K.ksl f
     have z:=f.len
     have i5:wrap64 (x.s.c.q-x.s.bq)=(en:Int):=by
      have:=f.max
      have:=f.le
      unfold maxLen at *
      rw[←q1,z]
      unfold wrap64
      omega
     have HU:=Lib.hid q2
     have HV:=Lib.hid q3
     have HN:=Lib.hid z
     have ab:=Lib.hid (Nat.le_trans f.le f.max)
     have i1:(0:Int)≤(a:Int):=by omega
     have i2:(a:Int)<(m:Int)+1:=by omega
     clear hx am al f q1 q2 q3 HR z J
     go_upto_region 9 with(first | (refine bu I ?_) | (refine K.lw fun W K=>?_;refine K.sr 0 rfl fun W K=>?_))
     clear I
     have c0:=K.r 0 rfl
     go_upto_region 12 with(fail)
     clear c0 i5
     go_wp2
     generalize wr.heap.size=gp at K ⊢
     go_loopw [52] (fun i wq => ∃ (b:Nat) (sd:St) (g:Option Addr) (k' d:Nat),b≤en∧i = .int .i64 b∧Hid (mw s.q (x.s.evs.drop b) sd=some u)∧cF sd∧HH w [] X wq [.box gp 132 (tw x E en S An nn cn).toArray,.box (w.heap.size+1) 37 #[.slice none 0 0,.int .i64 0,.int .i64 0],.box w.heap.size 37 #[.slice g k' d,.int .i64 sd.q,.int .i64 sd.a]] [Sl.fact aB g k' d sd.cs,Sl.fact fc E en S x.s.evs,Sl.fact fB (some ad) (m+1) Q ps]) (fun i _=>en-(intOf i).toNat)
     case atStart=>exact⟨0,sc,g,k',d,Nat.zero_le _,rfl,HU,ao,((K.up 1 rfl).out.forget (List.Sublist.cons_cons _ (List.Sublist.cons_cons _ (List.Sublist.cons _ (List.Sublist.refl _))))).hh⟩
     case round=>
      obtain⟨b,sd,g,k',d,hb,rfl,HE,l,K⟩:=hrel
      by_cases ar:b<en
      ·obtain⟨y,hy⟩:∃ y,x.s.evs[b]?=some y:=⟨_,List.getElem?_eq_getElem (by have:=HN.out;omega)⟩
       obtain⟨aw,r,rfl,K,G⟩:=K.elem 1 rfl hy
       obtain⟨rfl,ac⟩:=G
       have i3:(0:Int)≤(b:Int):=by omega
       have i4:(b:Int)<(en:Int):=by omega
       have O:wrap64 ((b:Int)+1)=((b+1:Nat):Int):=by
        have:=ab.out
        unfold maxLen at this
        unfold wrap64
        omega
       have HY:=Lib.hid (DF HE.out hy)
       clear hy HE
       go_upto_region 14 with(first | (refine bu (K.at' 0 rfl) ?_) | (refine K.lw fun W K=>?_;refine K.sr 0 rfl fun W K=>?_))
       have c0:=K.r 0 rfl
       rcases HY.out with⟨h1,F⟩ | ⟨h1,F,h3⟩
       ·have P:=Lib.hid F
        clear F
        go_wp2
        go_roundw
        case rel=>exact⟨b+1,sd,g,k',d,by omega,by rw[O],P,l,K.tl.ft⟩
        case measure=>
         rw[O]
         show en-(b+1)<en-b
         omega
       ·have P:=Lib.hid F
        have H3:=Lib.hid h3
        clear F h3
        go_upto_region 16 with(fail)
        clear c0
        go_wp2_with (first | refine K.ld 3 rfl ?_ | refine K.ld 0 rfl ?_)
        refine(iJ sd y g k' d _ _ K.xok (K.sl 1 rfl) l ac.2.2.2.1).mono ?_
        unfold dR
        rw[P.out,if_pos rfl]
        rintro e w4 ⟨C2,k2,Z,rfl,H,N⟩
        have K:=(K.on H).ksl N
        clear H N
        go_wp2_with (refine K.sr 3 rfl fun W K=>?_)
        go_roundw
        case rel=>exact⟨b+1,bJ sd y,C2,k2,Z,by omega,by rw[O],H3,kj l P.out,(K.tl.out.forget (List.Sublist.cons_cons _ (List.Sublist.cons _ (List.Sublist.cons _ (List.Sublist.refl _))))).hh⟩
        case measure=>
         rw[O]
         show en-(b+1)<en-b
         omega
      ·obtain rfl:b=en:=by omega
       have e1:x.s.evs.drop b = []:=List.drop_eq_nil_of_le (by have:=HN.out;omega)
       have D:sd=u:=by
        have:=HE.out
        rw[e1]at this
        simpa [mw] using this
       subst D
       go_wp2
       go_roundw
       case rel=>exact⟨a+1,sd,g,k',d,by omega,by go_num,HV,l,(K.tl.out.forget (List.Sublist.cons_cons _ (List.Sublist.cons _ (List.Sublist.refl _)))).hh⟩
       case measure=>simp[intOf];omega
    ·obtain rfl:a=m+1:=by omega
     have e1:ps.drop (m+1) = []:=List.drop_eq_nil_of_le (by have:=L.out;omega)
     have D:sc=t:=by
      have:=HR.out
      rw[e1]at this
      simpa [oW] using this
     subst D
     obtain⟨ae,r,J,K,⟨E,en,S,An,nn,cn,rfl,-⟩⟩:=K.elem 1 rfl v
     obtain rfl:=Option.some.inj J
     have i3:(0:Int)≤(m:Int):=by omega
     have i4:(m:Int)<(m:Int)+1:=by omega
     have i5:=IntWalk.i64_in (m:Int) (by omega)
     have J2:(pl.s.c.a == sc.a)=true:=by simpa using j2.out
     clear v J
     go_upto_region 21 with(fail)
     refine K.rgt (fun V h=>h.tl) fun W K=>?_
     refine tL 0 (fun _ h=>h.at_ 0 rfl) K.tl ?_ (hy:=fun w hw=>aD hw)
     refine tK 1 K.tl ?_
     refine tK 2 K.tl ?_
     refine tK 3 K.tl ?_
     refine tK 4 K.tl ?_
     refine tK 5 K.tl ?_
     refine tK 6 K.tl ?_
     refine tK 7 K.tl ?_
     refine tK 8 K.tl ?_
     refine tL 9 (T:=fun W=>W.cell? ⟨(ad.add (m*11)).block,(ad.add (m*11)).off+6,none⟩=some (.int .i64 pl.s.c.a)) (fun _ h=>h.at' 0 rfl 6 _ rfl) K.tl ?_
     refine tK 10 K.tl ?_
     refine tL 11 (fun _ h=>h.r 0 rfl) K.tl ?_
     refine tK 12 K.tl ?_
     refine tSt 13 K 0 rfl (fun U h=>h.tl) fun U K=>?_
     refine tK 14 K.tl ?_
     refine tE ?_
     go_wp2
     exact K.rc2 0 rfl rfl ⟨g,k',d,rfl,K.slb 1 rfl,K.below⟩
end
section
open Go.RowKit
def snB (s:ByteArray):Bool:=decide (5≤s.size)&&((s.extract 0 5).toList == [115,110,97,112,46])
theorem zP (s:ByteArray) (w:World):Calls Tryz.prog 187 #[.string s,.string ⟨#[115,110,97,112,46]⟩] w fun e w'=>e = .returned (.bool (snB s))∧w=w':=by
 unfold snB
 by_cases a:5≤s.size
 ·rw[decide_eq_true a,Bool.true_and]
  generalize d:((s.extract 0 5).toList == [115,110,97,112,46])=b
  have c:(5:Int)≤(s.size:Int):=by omega
  go_enter Tryz.func187,Tryz.ntmps187
  go_wp2
  go_ret
  exact⟨rfl,rfl⟩
 ·rw[decide_eq_false a,Bool.false_and]
  have c:¬ (5:Int)≤(s.size:Int):=by omega
  go_enter Tryz.func187,Tryz.ntmps187
  go_wp2
  go_ret
  exact⟨rfl,rfl⟩
theorem Fu (s:ByteArray) (h:snB s=false) (w:World):Calls Tryz.prog 142 #[.string s] w fun e w'=>e = .returned (.tuple #[.int .i64 0,.bool false])∧w=w':=by
 have b:Calls Tryz.prog 208 #[.string s,.string ⟨#[115,110,97,112,46]⟩] w fun e w'=>e = .returned (.tuple #[.string s,.bool false])∧w=w':=by
  go_enter Tryz.func208,Tryz.ntmps208
  go_wp2_with fail
  have H:Calls Tryz.prog 252 #[.string s,.string ⟨#[115,110,97,112,46]⟩] w fun e w'=>e = .returned (.tuple #[.string s,.bool false])∧w=w':=by
   go_enter Tryz.func252,Tryz.ntmps252
   go_wp2_with fail
   refine(zP s w).mono ?_
   rw[h]
   rintro e a ⟨rfl,rfl⟩
   go_wp2
   go_ret2
   exact⟨rfl,rfl⟩
  refine H.mono ?_
  rintro e a ⟨rfl,rfl⟩
  go_wp2
  go_ret2
  exact⟨rfl,rfl⟩
 go_enter Tryz.func142,Tryz.ntmps142
 go_wp2_with fail
 refine b.mono ?_
 rintro e a ⟨rfl,rfl⟩
 go_wp2
 go_ret2
 exact⟨rfl,rfl⟩
set_option maxHeartbeats 1000000 in
theorem yo (fs:List Fil) (room:Int) (A:Option Addr) (n b:Nat) (X:List Nat) (w:World) (hX:XOk X w) (h:Sl az w X A n b fs) (a:eO ⟨fs,room⟩) (o:∀ f ∈ fs,snB f.nm=false):
 Calls Tryz.prog 76 #[.agg #[.slice A n b,.int .i64 room,.int .i64 (-1),.bool false]] w fun e w'=>e = .returned (.tuple #[.agg #[.slice none 0 0,.int .i64 0,.int .i64 0],.int .i64 14])∧Below w.heap.size w w':=by
 have t:=Lib.hid h.len
 have d:n≤64:=by have:=a.1;have:=h.len;simp only at *;omega
 have m:∀ f ∈ fs,f.nm.size≤maxLen:=fun f q=>by
  have:=a.2.2.2.1 f q
  unfold fnB at this
  unfold maxLen
  simp at this
  omega
 go_enter Tryz.func76,Tryz.ntmps76
 go_upto_region 1 with(fail)
 refine(hstart hX).cw fun W K=>?_
 have K:=K.ksl0 h
 clear h
 have c0:=K.r 1 rfl
 go_wp2_with fail
 refine(eT ⟨fs,room⟩ A n b _ _ K.xok (K.sl 0 rfl) a).mono ?_
 rintro e s ⟨rfl,c⟩
 have K:=K.on c
 clear c c0
 have c0:=K.r 1 rfl
 go_upto_region 6 with(refine K.lw fun W K=>?_;refine K.sr 0 rfl fun W K=>?_)
 clear c0
 have c0:=K.r 2 rfl
 go_wp2_with fail
 refine(oJ fs room A n b _ _ K.xok (K.sl 0 rfl) d m).mono ?_
 rintro e E ⟨B,bc,rfl,g,c⟩
 have K:=(K.on c).ksl g
 clear c c0 g
 generalize w.heap.size=p at K ⊢
 generalize s.heap.size=y at K ⊢
 go_wp2
 go_loopw [23] (fun i wr => ∃ (k:Nat),k≤n∧i = .int .i64 k∧HH w [] X wr [.box y 37 #[.slice none 0 0,.int .i64 (-1),.int .i64 0],.box (p+1) 37 #[.slice none 0 0,.int .i64 0,.int .i64 0],.box p 30 #[.slice A n b,.int .i64 room,.int .i64 (-1),.bool false]] [Sl.fact fh B n bc (fs.map Fil.nm),Sl.fact az A n b fs]) (fun i _=>n-(intOf i).toNat)
 case atStart=>exact⟨0,Nat.zero_le _,rfl,K⟩
 case round=>
  obtain⟨k,z,rfl,K⟩:=hrel
  by_cases u:k<n
  ·obtain⟨x,l⟩:∃ x,fs[k]?=some x:=⟨_,List.getElem?_eq_getElem (by have:=t.out;omega)⟩
   have v:=Lib.hid (Fu x.nm (o x (List.mem_of_getElem? l)))
   obtain⟨ad,rr,rfl,K,⟨rfl,-⟩⟩:=K.elem 0 rfl (j:=k) (x:=x.nm) (by rw[List.getElem?_map,l];rfl)
   have F:=At.one (K.at' 0 rfl) rfl rfl
   have C:(0:Int)≤(k:Int):=by omega
   have D:(k:Int)<(n:Int):=by omega
   clear l
   go_wp2_with fail
   refine(v.out _).mono ?_
   rintro e G ⟨rfl,rfl⟩
   go_wp2
   go_roundw
   case rel=>exact⟨k+1,by omega,by go_num,K.ft⟩
   case measure=>simp[intOf];omega
  ·obtain rfl:k=n:=by omega
   have c0:=K.r 0 rfl
   go_wp2_with (refine K.lw fun W K=>?_;refine K.sr 1 rfl fun W K=>?_)
   exact K.rc2 1 rfl rfl ⟨rfl,K.below⟩
end
section
open Go.RowKit
structure eC (fs:List Fil) (room:Int) (ps:List Prt) (os:List ByteArray) (t:St):Prop where
 dk:eO ⟨fs,room⟩
 nm:∀ f ∈ fs,uI f.nm
 sn:∀ f ∈ fs,snB f.nm=false
 len:∀ f ∈ fs,f.all.length≤10000
 rows:eI fs=(ps,os)
 rep:oW 0 ps ⟨[],0,0⟩=some t
 first:∀ p,ps[0]?=some p→p.s.bq≤0
 last:∀ p,ps.getLast?=some p→p.s.c.a=t.a∧0≤p.s.c.q
set_option maxHeartbeats 4000000 in
theorem uG (fs:List Fil) (room:Int) (ps:List Prt) (os:List ByteArray) (t:St) (h:eC fs room ps os t) (A:Option Addr) (n v:Nat) (X:List Nat) (w:World) (hX:XOk X w) (L:Sl az w X A n v fs) (z:aX w):
 Calls Tryz.prog 28 #[.agg #[.slice A n v,.int .i64 room,.int .i64 (-1),.bool false]] w fun e w' => ∃ B o bc O on l C k g,e = .returned (.agg #[.slice B o bc,.slice O on l,.int .i64 0,.slice C k g,.int .i64 t.q,.int .i64 t.a,.bool true]) ∧
  Sl fB w' X B o bc ps∧Sl fh w' X O on l os∧Sl aB w' X C k g t.cs∧o≤64∧Below w.heap.size w w':=by
 obtain⟨G,N,R,U,M,I,Q,P⟩:=h
 have F:ps.length≤64:=by have:=(dS fs N).1;have:=G.1;rw[M]at *;simp only at *;omega
 go_enter Tryz.func28,Tryz.ntmps28
 go_upto_region 2 with(fail)
 refine(hstart hX).cw fun W K=>?_
 have K:=K.ksl0 L
 clear L
 have D:=K.r 2 rfl
 go_wp2_with fail
 refine(EO fs room A n v _ _ K.xok (K.sl 0 rfl) G N U (z.on K.below)).mono ?_
 rw[M]
 rintro e w1 ⟨B,o,bc,O,on,l,rfl,y,J,b⟩
 have K:=((K.on b).ksl J).ksl y
 have H:o≤64:=by rw[y.len];exact F
 clear b D y J
 have c0:=K.c 0 rfl
 go_upto_region 3 with(fail)
 refine K.cw fun W K=>?_
 clear c0
 have D:=K.r 2 rfl
 go_wp2_with fail
 refine(yo fs room A n v _ _ K.xok (K.sl 2 rfl) G R).mono ?_
 rintro e Z ⟨rfl,b⟩
 have K:=K.on b
 clear b D
 go_upto_region 6 with(refine K.lw fun W K=>?_;refine K.sr 0 rfl fun W K=>?_)
 have j:=K.r 1 rfl
 have d:∀ p,ps.getLast?=some p→p.s.c.a=t.a:=fun p z=>(P p z).1
 go_upto_region 7 with(fail)
 clear j
 cases o with
 | zero=>
   refine K.rg fun W K=>?_
   refine tK 0 K ?_
   refine tK 1 K ?_
   refine tK 2 K ?_
   refine tN 3 K ?_
   refine tN 4 K ?_
   refine tN 5 K ?_
   refine tN 6 K ?_
   refine tN 7 K ?_
   refine tN 8 K ?_
   refine tN 9 K ?_
   refine tN 10 K ?_
   refine tN 11 K ?_
   refine tN 12 K ?_
   refine tN 13 K ?_
   refine tN 14 K ?_
   refine tK 15 K ?_
   refine tE ?_
   have j:=K.r 1 rfl
   go_wp2_with (first | refine bu (K.sub 1 rfl 3 [.slice none 0 0,.int .i64 0,.int .i64 0]) ?_)
   refine(sK ps ⟨[],0,0⟩ t B 0 bc none 0 0 _ _ K.xok (K.sl 0 rfl) Sl.nil_ dD I Q d (by omega)).mono ?_
   rintro e S ⟨C,k,g,rfl,f,b⟩
   have K:=(K.on b).ksl f
   clear j b f
   go_upto_region 16 with(refine K.ss (new:=#[.slice B (0) bc,.slice O on l,.int .i64 0,.slice C k g,.int .i64 t.q,.int .i64 t.a,.bool false]) 1 rfl fun W K=>?_;have j:=K.c 1 rfl)
   refine K.cw fun W K=>?_
   go_wp2_with (first | refine K.ld 1 rfl ?_ | refine K.sr 2 rfl fun W K=>?_)
   exact K.rc1 2 rfl rfl ⟨B,0,bc,O,on,l,C,k,g,rfl,K.slb 1 rfl,K.slb 2 rfl,K.slb 0 rfl,by omega,K.below⟩
 | succ m=>
   have u:=Lib.hid (K.sl 0 rfl).len
   obtain⟨pl,i⟩:∃ x,ps[m]?=some x:=⟨_,List.getElem?_eq_getElem (by have:=u.out;omega)⟩
   have hq:¬ pl.s.c.q<0:=by have:=(P pl (by rw[List.getLast?_eq_getElem?,←u.out];exact i)).2;omega
   obtain⟨ad,r,rfl,K,⟨E,en,Y,An,nn,cn,rfl,-⟩⟩:=K.elem 0 rfl i
   have V:(0:Int)≤(m:Int):=by omega
   have i4:(m:Int)<(m:Int)+1:=by omega
   have i5:=IntWalk.i64_in (m:Int) (by omega)
   refine K.rg fun W K=>?_
   refine tK 0 K ?_
   refine tK 1 K ?_
   refine tK 2 K ?_
   refine tK 3 K ?_
   refine tL 4 (fun _ h=>h.r 1 rfl) K ?_
   refine tK 5 K ?_
   refine tK 6 K ?_
   refine tK 7 K ?_
   refine tK 8 K ?_
   refine tK 9 K ?_
   refine tK 10 K ?_
   refine tL 11 (T:=fun W=>W.cell? ⟨(ad.add (m*11)).block,(ad.add (m*11)).off+5,none⟩=some (.int .i64 pl.s.c.q)) (fun _ h=>h.at' 0 rfl 5 _ rfl) K ?_
   refine tK 12 K ?_
   refine tL 13 (fun _ h=>h.r 1 rfl) K ?_
   refine tK 14 K ?_
   refine tK 15 K ?_
   refine tE ?_
   clear i
   have j:=K.r 1 rfl
   go_wp2_with (first | refine bu (K.sub 1 rfl 3 [.slice none 0 0,.int .i64 0,.int .i64 0]) ?_)
   refine(sK ps ⟨[],0,0⟩ t (some ad) (m+1) bc none 0 0 _ _ K.xok (K.sl 1 rfl) Sl.nil_ dD I Q d (by omega)).mono ?_
   rintro e S ⟨C,k,g,rfl,f,b⟩
   have K:=(K.on b).ksl f
   clear j b f
   go_upto_region 16 with(refine K.ss (new:=#[.slice (some ad) ((m+1)) bc,.slice O on l,.int .i64 0,.slice C k g,.int .i64 t.q,.int .i64 t.a,.bool false]) 1 rfl fun W K=>?_;have j:=K.c 1 rfl)
   refine K.cw fun W K=>?_
   go_wp2_with (first | refine K.ld 1 rfl ?_ | refine K.sr 2 rfl fun W K=>?_)
   exact K.rc1 2 rfl rfl ⟨(some ad),(m+1),bc,O,on,l,C,k,g,rfl,K.slb 2 rfl,K.slb 3 rfl,K.slb 0 rfl,by omega,K.below⟩
end
section
open Go.RowKit
def bg (gs:List Sg):List Evt:=gs.flatMap (fun g=>g.evs)
theorem rY (c:Cx):∀ (l:List Evt),okL c l→(eA c l).length≤111*l.length
 | [],_=>by simp[eA]
 | e::l,h=>by
   have b:=gI h.1
   have a:=rY (bR c e) l h.2
   simp only[eA,List.length_append,bP,List.length_cons]
   omega
theorem xj {n:Nat} {s:St} (hn:n≤99999999) (b:cF s):(aU (n:Int) s.q s.a).length≤30:=by
 obtain⟨-,f,c,e,d,-⟩:=b
 exact jG (by omega) (by omega) (by omega)
theorem mL {n:Nat} {s:St} (hn:n≤99999999) (b:cF s):(av 1 (aW++aU (n:Int) s.q s.a)).length≤41:=by
 have:=xj hn b
 rw[bP,List.length_append]
 have:aW.length=4:=rfl
 omega
theorem mq {n:Nat} {s:St} (hn:n≤99999999) (b:cF s):(av 3 (aU (n:Int) s.q s.a)).length≤37:=by
 have:=xj hn b
 rw[bP]
 omega
theorem rL {c:Cx} {e:Evt} (h:ei c e=0):(av 2 (aN c e)).length≤111:=by
 have:=gI h
 rw[bP]
 omega
theorem Cd {s t:St} {g:Sg} (h:ri s g t) (c:cF s) {n:Nat} (hn:n≤99999999) (f:g.evs.length≤99999999):(g.bt n).length≤78+111*g.evs.length:=by
 have i:=(gm _ _ _ c h.2.2.2.2).1
 have b:=h.ctx
 have o:=mL hn c
 have l:=rY _ _ h.2.2.2.1
 have m:=mq f i
 unfold Sg.bt fR
 have j:g.c0.q=s.q:=h.1
 have k:g.c0.a=s.a:=h.2.1
 have d:(eu g.c0 g.evs).q=t.q:=b.1
 have e:(eu g.c0 g.evs).a=t.a:=b.2
 rw[j,k,d,e,List.length_append,List.length_append]
 split
 ·omega
 ·simp only[List.length_nil];omega
theorem oA:∀ (gs:List Sg) (s t:St),gS s gs t→cF s→t.q=s.q+(bg gs).length∧gs.length≤(bg gs).length ∧ ∀ g ∈ gs,g.evs.length≤(bg gs).length
 | [],s,t,h,hs=>by simp only[gS]at h;subst h;simp[bg]
 | g::gs,s,t,⟨u,g1,g2,g3⟩,hs=>by
   have b:=gm _ _ _ hs g1.2.2.2.2
   obtain⟨i,f,c⟩:=oA gs u t g3 b.1
   have e:bg (g::gs)=g.evs++bg gs:=by simp[bg]
   have d:g.evs.length≠0:=fun h=>g1.2.2.1 (List.eq_nil_of_length_eq_zero h)
   rw[e,List.length_append,List.length_cons]
   refine⟨by omega,by omega,fun x a=>?_⟩
   rcases List.mem_cons.1 a with rfl | a
   ·omega
   ·have:=c x a;omega
theorem lP:∀ (gs:List Sg) (fs:List Fil) (n:Nat) (s t:St),bK n fs gs→gS s gs t→cF s→n+gs.length≤99999999→(bg gs).length≤99999999→aI fs≤78*gs.length+111*(bg gs).length
 | [],[],n,s,t,_,_,_,_,_=>by simp[aI]
 | g::gs,f::fs,n,s,t,⟨f1,f2,f3⟩,⟨u,g1,g2,g3⟩,hs,hn,hl=>by
   have e:bg (g::gs)=g.evs++bg gs:=by simp[bg]
   rw[e,List.length_append]at hl ⊢
   rw[List.length_cons]at hn ⊢
   have a:=gm _ _ _ hs g1.2.2.2.2
   have ih:=lP gs fs (n+1) u t f3 g3 a.1 (by omega) (by omega)
   have b:=Cd g1 hs (n:=n+1) (by omega) (by omega)
   rw[dZ,f2]
   omega
 | [],_::_,_,_,_,h,_,_,_,_=>h.elim
 | _::_,[],_,_,_,h,_,_,_,_=>h.elim
theorem Eb {n:Nat} (h:n≤99999999):snB (aA n)=false:=by
 have a:=fJ n
 unfold snB
 have e:((aA n).extract 0 5).toList=(([115,101,103,46]++kQ n):List UInt8).take 5:=by
  rw[ByteArray.toList_eq,ByteArray.data_extract,Array.toList_extract,a]
  rfl
 rw[e]
 have:((([115,101,103,46]++kQ n):List UInt8).take 5 == [115,110,97,112,46])=false:=by simp
 rw[this,Bool.and_false]
theorem tG:∀ (gs:List Sg) (n:Nat) (p:Prt),p ∈ aQ n gs→(p.al:Int)=p.s.size
 | g::gs,n,p,h=>by
   simp only[aQ,List.mem_cons]at h
   rcases h with rfl | h
   ·rfl
   ·exact tG gs (n+1) p h
def JI (room:Int) (k:Nat) (fs:List Fil) (gs:List Sg) (t:St) (su:Int):Prop:=
 WI [] room fs ((aQ 0 gs).map aC) (ah (aQ 0 gs)) gs t∧t.q≤k∧k≤40∧0≤su∧su≤t.q∧189*((k:Int)+1)≤room
section
variable {room:Int} {k:Nat} {fs:List Fil} {gs:List Sg} {t:St} {su:Int}
theorem JI.ok (h:JI room k fs gs t su):cF t:=ki _ _ _ h.1.goes dD
theorem JI.files (h:JI room k fs gs t su):bK 0 fs gs:=by
 obtain⟨fa,b,a⟩:=h.1.fa
 rw[b,List.append_nil]
 exact a
theorem JI.sizes (h:JI room k fs gs t su):t.q=(bg gs).length∧gs.length≤(bg gs).length∧(∀ g ∈ gs,g.evs.length≤40)∧(bg gs).length≤40∧aI fs≤7560∧(aI fs:Int)+189≤room∧fs.length=gs.length:=by
 obtain⟨d,a,c⟩:=oA _ _ _ h.1.goes dD
 have l:=h.2.1
 have i:=h.2.2.1
 have b:=h.2.2.2.2.2
 have e:(⟨[],0,0⟩:St).q=0:=rfl
 rw[e]at d
 have j:=lP _ _ _ _ _ h.files h.1.goes dD (by omega) (by omega)
 exact⟨by omega,a,fun g f=>by have:=c g f;omega,by omega,by omega,by omega,h.files.len⟩
theorem JI.look (h:JI room k fs gs t su):eC fs room (aQ 0 gs) [] t:=by
 obtain⟨v,x,e,w,s,i,y⟩:=h.sizes
 refine⟨h.1.dk,fun f b=>?_,fun f b=>?_,fun f b=>?_,?_,qw 0 gs 0 _ t h.1.goes dD (Int.le_refl _),?_,fun p c=>?_⟩
 ·obtain⟨m,r,j,d⟩:=h.files.nm f b
  exact .inr ⟨m,by omega,by omega,d⟩
 ·obtain⟨m,r,j,d⟩:=h.files.nm f b
  rw[d]
  exact Eb (by omega)
 ·have:=iI b
  omega
 ·have:=qq gs fs 0 _ t [] h.files h.1.goes dD (by omega) (fun g o=>by have:=e g o;omega) (fun _ a n=>by simp at n)
  unfold eI
  rw[this,List.nil_append]
 ·intro p c
  cases gs with
  | nil=>simp[aQ]at c
  | cons g l=>
    obtain⟨u,q,-⟩:=h.1.goes
    simp only[aQ,List.getElem?_cons_zero,Option.some.injEq]at c
    subst c
    show g.bq≤0
    rw[q.1]
    exact Int.le_refl _
 ·have:=qb gs 0 _ t h.1.goes p c
  refine⟨this.2,?_⟩
  rw[this.1]
  omega
theorem JI.al (h:JI room k fs gs t su):∀ p ∈ aQ 0 gs,(p.al:Int)≤p.s.size:=fun p a=>by rw[tG gs 0 p a];exact Int.le_refl _
theorem JI.ns (h:JI room k fs gs t su):(ah (aQ 0 gs)).ns.length≤32:=by
 rcases List.eq_nil_or_concat gs with rfl | ⟨l,g,rfl⟩
 ·simp[aQ,ah]
 ·rw[List.concat_eq_append]at *
  rw[eM]
  split
  ·simp
  ·obtain⟨u,c,-,b⟩:=(ep l g _ t).1 h.1.goes
   have a:=kf _ _ (b.right (ki _ _ _ c dD)) b.2.2.2.1
   unfold aJ dn at a
   simp only[Bool.and_eq_true,decide_eq_true_eq]at a
   exact a.2.1
theorem JI.last {l:List Sg} {g:Sg} (h:JI room k fs (l ++ [g]) t su):(∀ x ∈ l,x.sd=true)∧(aC (g.pr (l.length+1))).num=((l.length+1:Nat):Int)∧1≤l.length+1∧l.length+1≤40∧(aC (g.pr (l.length+1))).fi<(aC (g.pr (l.length+1))).la ∧
 (aC (g.pr (l.length+1))).la-(aC (g.pr (l.length+1))).fi=(g.evs.length:Int)∧g.evs.length≤40∧(0≤(aC (g.pr (l.length+1))).sz∧(aC (g.pr (l.length+1))).sz≤1000000)∧(0≤(aC (g.pr (l.length+1))).fr∧(aC (g.pr (l.length+1))).fr≤1099511627776) ∧
 (aC (g.pr (l.length+1))).sd=g.sd∧aJ g.c=true∧g.c.q=t.q∧g.c.a=t.a:=by
 obtain⟨B,o,i,D,w,j,G⟩:=h.sizes
 obtain⟨u,f,v,b⟩:=(ep l g _ t).1 h.1.goes
 have e:=ki _ _ _ f dD
 have F:=gm _ _ _ e b.2.2.2.2
 have m:=b.ctx
 have r:g.evs.length≠0:=fun h=>b.2.2.1 (List.eq_nil_of_length_eq_zero h)
 have d:=i g (by simp)
 have A:=Cd b e (n:=l.length+1) (by simp at o;omega) (by omega)
 have hlen:(l ++ [g]).length=l.length+1:=by simp
 have p:=b.1
 have s:=b.2.1
 obtain⟨-,y,z,E,C,-⟩:=e
 rw[gY]
 simp only
 exact⟨v,trivial,by omega,by omega,by omega,by omega,d,⟨by omega,by omega⟩,⟨by omega,by omega⟩,trivial,kf _ _ (b.right (ki _ _ _ f dD)) b.2.2.2.1,m⟩
end
theorem cO (l:List Sg) (g:Sg):bg (l ++ [g])=bg l++g.evs:=by simp[bg]
end
section
open Go.RowKit
theorem Cq {s:St} (h:cF s):∀ c ∈ s.cs,c.cells.length≤1000:=fun c b=>by
 rcases(h.2.2.2.2.2.1 c b).2.2 with a | a | a
 ·have:=aZ a.2.2.2.1;omega
 ·rw[a.2.2.2.2.1];simp
 ·rw[a.2.2.2.2.2.1];simp
set_option maxHeartbeats 3000000 in
theorem pQ (fs:List Fil) (room:Int) (ps:List Prt) (t:St) (h:eC fs room ps [] t) (U:∀ p ∈ ps,(p.al:Int)≤p.s.size) (b d:Int) (R:dM b d=true) (A:Option Addr) (n g:Nat) (S:Option Addr) (m G:Nat) (N:Option Addr) (nn o:Nat) (C:Option Addr) (k u:Nat) (L:Int) (V:0≤L∧L≤t.q) (sh:Bool) (z:cF t)
 (X:List Nat) (w:World) (hX:XOk X w) (y:Sl az w X A n g fs) (j:Sl bC w X S m G (ps.map aC)) (H:Sl af w X N nn o (ah ps).ns) (Z:nn≤1000) (l:Sl aB w X C k u t.cs) (hp:aX w):
 Calls Tryz.prog 67 #[.agg (jnA A n g room b d S m G (ah ps).q (ah ps).a N nn o C k u t.q t.a L 0 sh).toArray] w fun e w'=>e = .returned (.bool true)∧Below w.heap.size w w':=by
 have Q:=h.dk
 have ac:=Lib.hid (show m=ps.length by have:=j.len;simpa using this)
 have F:k≤12:=by have:=l.len;have:=z.1;omega
 obtain⟨u1,u2⟩:=V
 simp only[jnA]
 go_enter Tryz.func67,Tryz.ntmps67
 go_upto_region 1 with(fail)
 refine(hstart hX).cw fun W K=>?_
 have K:=(((K.ksl0 l).ksl0 H).ksl0 j).ksl0 y
 clear l H j y
 have c0:=K.r 0 rfl
 go_wp2_with (first | refine bu (K.sub 0 rfl 4 [.int .i64 b,.int .i64 d]) ?_)
 refine(qX b d _).mono ?_
 rw[R]
 rintro e w1 ⟨rfl,c⟩
 have K:=K.on c
 clear c c0
 have c0:=K.r 0 rfl
 go_wp2_with (first | refine bu (K.sub 0 rfl 0 [.slice A n g,.int .i64 room,.int .i64 (-1),.bool false]) ?_)
 refine(eT ⟨fs,room⟩ A n g _ _ K.xok (K.sl 0 rfl) Q).mono ?_
 rintro e w2 ⟨rfl,c⟩
 have K:=K.on c
 clear c c0
 have c0:=K.r 0 rfl
 go_upto_region 3 with(fail)
 clear c0
 go_wp2_with (first | refine bu (K.sub 0 rfl 0 [.slice A n g,.int .i64 room,.int .i64 (-1),.bool false]) ?_)
 refine(uG fs room ps [] t h A n g _ _ K.xok (K.sl 0 rfl) (hp.on K.below)).mono ?_
 rintro e w3 ⟨B,bn,bc,O,on,oc,M,J,f,rfl,h1,h2,h3,v,c⟩
 have K:=(((K.on c).ksl h3).ksl h1)
 obtain rfl:on=0:=h2.len
 clear c h1 h2 h3
 go_upto_region 4 with(refine K.lw fun W K=>?_;refine K.sr 0 rfl fun W K=>?_)
 have c0:=K.r 0 rfl
 go_upto_region 6 with(fail)
 clear c0
 have I:=Lib.hid (K.sl 0 rfl).len
 have c0:=K.r 0 rfl
 generalize T:w3.heap.size=gf at K c0 ⊢
 clear T
 go_wp2
 go_loopw [36] (fun i wr => ∃ (a:Nat),a≤bn∧i = .int .i64 a∧HH w [] X wr [.box gf 77 #[.slice B bn bc,.slice O 0 oc,.int .i64 0,.slice M J f,.int .i64 t.q,.int .i64 t.a,.bool true],.box w.heap.size 39 (jnA A n g room b d S m G (ah ps).q (ah ps).a N nn o C k u t.q t.a L 0 sh).toArray] [Sl.fact fB B bn bc ps,Sl.fact aB M J f t.cs,Sl.fact az A n g fs,Sl.fact bC S m G (ps.map aC),Sl.fact af N nn o (ah ps).ns,Sl.fact aB C k u t.cs]) (fun i _=>bn-(intOf i).toNat)
 case atStart=>exact⟨0,Nat.zero_le _,rfl,K⟩
 case round=>
  obtain⟨a,ha,rfl,K⟩:=hrel
  by_cases ag:a<bn
  ·obtain⟨x,P⟩:∃ x,ps[a]?=some x:=⟨_,List.getElem?_eq_getElem (by have:=I.out;omega)⟩
   have ae:¬ x.s.size<(x.al:Int):=by have:=U x (List.mem_of_getElem? P);omega
   obtain⟨ad,r,rfl,ab,Y,⟨E,en,ec,An,am,ap,rfl,-⟩,D⟩:=(K.sl 0 rfl).at' P
   have i1:(0:Int)≤(a:Int):=by omega
   have i2:(a:Int)<(bn:Int):=by omega
   clear P ab Y
   go_upto_region 9 with(first | (refine bu D ?_) | (refine K.lw fun W K=>?_;refine K.sr 0 rfl fun W K=>?_))
   clear D
   have c0:=K.r 0 rfl
   go_wp2
   go_roundw
   case rel=>exact⟨a+1,by omega,by go_num,K.tl⟩
   case measure=>simp[intOf];omega
  ·obtain rfl:a=bn:=by omega
   go_upto_region 12 with(fail)
   refine K.rg fun W K=>?_
   refine tK 0 K ?_
   refine tL 1 (fun _ h=>h.r 1 rfl) K ?_
   refine tK 2 K ?_
   refine tL 3 (fun _ h=>h.r 0 rfl) K ?_
   refine tC 4 fun K' hK=>?_
   go_simp
   refine(CE ps B a bc _ _ K.xok (K.sl 0 rfl) v).mono ?_
   rintro e w4 ⟨B4,c4,rfl,h4,c⟩
   have K:=(K.on c).ksl h4
   refine hK.out _ _ K.ft fun _=>?_
   clear hK K' c h4
   try simp only[Act.put,aq,aj,ai]
   refine tC 5 fun K' hK=>?_
   go_simp
   refine(CC (ps.map aC) S m G B4 a c4 _ _ K.xok (K.sl 4 rfl) (K.sl 0 rfl) (by have:=ac.out;have:=I.out;omega)).mono ?_
   rintro e w5 ⟨rfl,c⟩
   have K:=(K.on c).ft
   refine hK.out _ _ K fun _=>?_
   clear hK K' c
   try simp only[Act.put,aq,aj,ai]
   refine tK 6 K ?_
   refine tK 7 K ?_
   refine tK 8 K ?_
   refine tL 9 (fun _ h=>h.sub 1 rfl 7 [.int .i64 (ah ps).q,.int .i64 (ah ps).a,.slice N nn o]) K ?_ (hy:=fun w hw=>aD hw)
   refine tK 10 K ?_
   refine tL 11 (fun _ h=>h.r 0 rfl) K ?_
   refine tC 12 fun K' hK=>?_
   go_simp
   refine(wB ps B a bc _ _ K.xok (K.sl 0 rfl) v).mono ?_
   rintro e w6 ⟨B6,m6,c6,rfl,h6,ao,c⟩
   have K:=(K.on c).ksl h6
   refine hK.out _ _ K.ft fun _=>?_
   clear hK K' c h6
   try simp only[Act.put,aq,aj,ai]
   refine tC 13 fun K' hK=>?_
   go_simp
   refine(xD (ah ps).q (ah ps).a (ah ps).ns N nn o B6 m6 c6 _ _ K.xok (K.sl 5 rfl) (K.sl 0 rfl) Z).mono ?_
   rintro e w7 ⟨rfl,c⟩
   have K:=(K.on c).ft
   refine hK.out _ _ K fun _=>?_
   clear hK K' c
   try simp only[Act.put,aq,aj,ai]
   refine tK 14 K ?_
   refine tK 15 K ?_
   refine tE ?_
   go_upto_region 14 with(fail)
   go_wp2_with (first | refine bu (K.sub 1 rfl 10 [.slice C k u,.int .i64 t.q,.int .i64 t.a]) ?_ | refine bu (K.sub 0 rfl 3 [.slice M J f,.int .i64 t.q,.int .i64 t.a]) ?_)
   refine(De t C k u M J f _ _ K.xok (K.sl 5 rfl) (K.sl 1 rfl) F (Cq z)).mono ?_
   rintro e w8 ⟨rfl,c⟩
   have K:=K.on c
   clear c
   have c0:=K.r 0 rfl
   have c1:=K.r 1 rfl
   go_wp2
   go_ret
   exact⟨by simp,K.below⟩
end
section
open Go.RowKit
set_option maxHeartbeats 2000000 in
theorem gW (fs:List Fil) (room:Int) (ps:List Prt) (t:St) (h:eC fs room ps [] t) (D:∀ p ∈ ps,(p.al:Int)≤p.s.size) (b i:Int) (z:dM b i=true) (A:Option Addr) (n j:Nat) (S:Option Addr) (m x:Nat) (N:Option Addr) (nn u:Nat) (C:Option Addr) (k v:Nat) (o:Int) (E:0≤o∧o≤t.q) (sh:Bool) (y:cF t)
 (X:List Nat) (w:World) (hX:XOk X w) (f:Sl az w X A n j fs) (c:Sl bC w X S m x (ps.map aC)) (g:Sl af w X N nn u (ah ps).ns) (F:nn≤1000) (d:Sl aB w X C k v t.cs) (B:aX w):
 Calls Tryz.prog 37 #[.agg (jnA A n j room b i S m x (ah ps).q (ah ps).a N nn u C k v t.q t.a o 0 sh).toArray] w fun e w'=>e = .returned (.int .i64 0)∧Below w.heap.size w w':=by
 have H:=fun(w:World) (X:List Nat) (hX:XOk X w) (f:Sl az w X A n j fs) (c:Sl bC w X S m x (ps.map aC)) (g:Sl af w X N nn u (ah ps).ns) (d:Sl aB w X C k v t.cs) (B:aX w)=>Lib.hid (pQ fs room ps t h D b i z A n j S m x N nn u C k v o E sh y X w hX f c g F d B)
 have G:=h.dk
 simp only[jnA]at H ⊢
 go_enter Tryz.func37,Tryz.ntmps37
 go_upto_region 1 with(fail)
 refine(hstart hX).cw fun W K=>?_
 have K:=(((K.ksl0 d).ksl0 g).ksl0 c).ksl0 f
 clear d g c f
 have c0:=K.r 0 rfl
 go_wp2_with (first | refine bu (K.sub 0 rfl 0 [.slice A n j,.int .i64 room,.int .i64 (-1),.bool false]) ?_)
 refine(eT ⟨fs,room⟩ A n j _ _ K.xok (K.sl 0 rfl) G).mono ?_
 rintro e I ⟨rfl,l⟩
 have K:=K.on l
 clear l c0
 have c0:=K.r 0 rfl
 go_upto_region 3 with(fail)
 clear c0
 go_wp2_with (first | refine K.ld 0 rfl ?_)
 refine(H _ _ K.xok (K.sl 0 rfl) (K.sl 1 rfl) (K.sl 2 rfl) (K.sl 3 rfl) (B.on K.below)).out.mono ?_
 rintro e J ⟨rfl,l⟩
 have K:=K.on l
 go_wp2
 go_ret
 exact⟨rfl,K.below⟩
end
section
open Go.RowKit
theorem xU:(Tryz.prog.info? 67).map (fun i=>(i.zero,i.size,i.bytes))=some (some (.agg #[.int .i64 0,.int .i64 0,.int .i64 0,.int .i64 0,.int .i64 0,.int .i64 0,.bool false]),7,56):=by kernel_rfl
theorem gV {xs:List _} (A:Option Addr) (n c:Nat) (X:List Nat) (w:World) (hX:XOk X w) (f:Sl bC w X A n c xs) (hn:n≤100000):
 Calls Tryz.prog 39 #[.slice A n c] w fun e w' => ∃ v vs,e = .returned v∧aF bC w X vs xs∧w'.ownsRow w.heap.size 67 7 v n vs∧Below w.heap.size w w':=by
 have q:∀ (w:World) (a:Option Addr) (n c n' c':Nat),(binOp .eql 31 (.slice a n c) (.slice none n' c')).run Tryz.prog w = .ok (.bool a.isNone) w:=fun w a n c n' c'=>Lib.run_eql_slice_nil w _ _ a n c n' c' Tryz.underlying31
 obtain⟨s,k,j,h,i⟩:=info_parts xU
 obtain⟨vs,d,-,p⟩:=f.reads
 have hnil:=f.none_
 have y:=f.le
 have g:=Lib.hid p
 clear f p
 rcases A with _ | ad
 ·have m:n=0:=by have:=hnil rfl;omega
  subst m
  have o:vs = []:=List.eq_nil_of_length_eq_zero (by simpa using d.1)
  have B:=Lib.hid o
  clear d hnil o
  go_enter Tryz.func39,Tryz.ntmps39
  go_wp2
  go_ret
  exact⟨_,vs,rfl,g.out,⟨by rw[B.out];rfl,.inl ⟨rfl,rfl⟩⟩,Below.refl _ _⟩
 ·have x:=Lib.hid d;clear d
  have t:=Lib.hid (aF.one_ g.out)
  go_enter Tryz.func39,Tryz.ntmps39
  go_wp2_with (at_builtin;go_must (refine aP _ rfl _ _ 31 rfl w.heap.size 67 s _ 7 56 Tryz.underlying31 k j h i rfl (by omega) _ 0 [] rfl (dj w 67 w.heap.size (Nat.le_refl _) 7) w.heap.size (some ad) n c _ rfl (x.out.alloc (Nat.le_refl _) _) t.out (by unfold maxLen;omega) (by omega) (by simp) ?_);intro z C b l r)
  go_ret
  have u:=cT ((Below.refl w.heap.size w).alloc (Nat.le_refl _) _) l (dj w 67 w.heap.size (Nat.le_refl _) 7) (Nat.le_refl _) (by simp)
  exact⟨z,vs,rfl,g.out,by simpa using b,u⟩
end
section
open Go.RowKit
theorem uB (g cap:Nat) (B:Option Addr) (w:World) (a:w.cell? ⟨g,6,none⟩=some (.slice B 0 cap)):
 Calls Tryz.prog 43 #[.pointer (some ⟨g,0,none⟩)] w fun e w'=>e = .returned (.bool false)∧w=w':=by
 go_enter Tryz.func43,Tryz.ntmps43
 go_wp2
 go_ret
 exact⟨by simp,rfl⟩
theorem lB (g gs k cap:Nat) (sd:Bool) (w:World) (b:k≤100) (d:w.cell? ⟨g,6,none⟩=some (.slice (some ⟨gs,0,none⟩) (k+1) cap)) (c:w.cell? ⟨gs,k*7+6,none⟩=some (.bool sd)):
 Calls Tryz.prog 43 #[.pointer (some ⟨g,0,none⟩)] w fun e w'=>e = .returned (.bool (!sd))∧w=w':=by
 have f:(0:Int)≤(k:Int):=by omega
 have a:(0:Int)<(k:Int)+1:=by omega
 go_enter Tryz.func43,Tryz.ntmps43
 go_wp2
 go_ret
 exact⟨by simp,rfl⟩
end
section
open Go.RowKit
def iN (x:Sgi) (c:Cx) (b ag:Int) (e:Evt):Bool:=if x.sd=true then false else if ei c e≠0 then true else if b<x.sz+(av 2 (aN c e)).length then true else decide (ag<e.a-x.fr)
theorem yj (d:Evt) (A:Option Addr) (n f:Nat) (room b c:Int) (S:Option Addr) (i:Nat) (q a:Int) (N:Option Addr) (nn g:Nat) (C:Option Addr) (k h:Nat) (j sa sure kept:Int) (sh:Bool) (X:List Nat) (w:World) (hX:XOk X w):
 Calls Tryz.prog 40 #[.agg (jnA A n f room b c S 0 i q a N nn g C k h j sa sure kept sh).toArray,.agg (evA d)] w fun e w'=>e = .returned (.bool false)∧Below w.heap.size w w':=by
 simp only[jnA,evA]
 go_enter Tryz.func40,Tryz.ntmps40
 go_upto_region 1 with(fail)
 refine(hstart hX).cw fun W K=>?_
 have l:=K.r 1 rfl
 go_wp2
 go_ret
 exact⟨rfl,K.below⟩
set_option maxHeartbeats 2000000 in
theorem mZ (l:List Sgi) (x:Sgi) (i:Nat) (p:l[i]?=some x) (ns:List (List UInt8)) (c:Evt) (A:Option Addr) (n L:Nat) (room b o:Int) (S:Option Addr) (E:Nat) (q a:Int) (N:Option Addr) (nn s:Nat) (C:Option Addr) (k O:Nat) (I sa sure kept:Int) (sh:Bool) (X:List Nat) (w:World) (hX:XOk X w)
 (F:Sl bC w X S (i+1) E l) (B:Sl af w X N nn s ns) (z:nn≤1000) (D:c.cm.size≤maxLen) (Z:i≤100) (Y:x.fi<x.la) (R:0≤x.sz∧x.sz≤1000000) (he:0≤c.a∧c.a≤1099511627776) (M:0≤x.fr∧x.fr≤1099511627776):
 Calls Tryz.prog 40 #[.agg (jnA A n L room b o S (i+1) E q a N nn s C k O I sa sure kept sh).toArray,.agg (evA c)] w fun e w'=>e = .returned (.bool (iN x ⟨q,a,ns⟩ b o c))∧Below w.heap.size w w':=by
 simp only[jnA,evA]
 unfold iN
 have i1:(0:Int)≤(i:Int):=by omega
 have P:(i:Int)<(i:Int)+1:=by omega
 have i3:¬ x.la≤x.fi:=by omega
 cases hsd:x.sd with
 | true=>
   rw[if_pos rfl]
   go_enter Tryz.func40,Tryz.ntmps40
   go_upto_region 1 with(fail)
   refine(hstart hX).cw fun W K=>?_
   have K:=K.ksl0 F
   have u:=K.r 1 rfl
   obtain⟨ad,r,rfl,K,⟨rfl,-⟩⟩:=K.elem 0 rfl p
   simp only[cI,hsd]at K
   clear p
   go_upto_region 5 with(first | refine bu (K.at' 0 rfl) ?_ | (refine K.lw fun W K=>?_;refine K.sr 0 rfl fun W K=>?_))
   clear u
   have c0:=K.r 0 rfl
   go_wp2
   go_ret
   exact⟨rfl,K.below⟩
 | false=>
   rw[if_neg (by simp)]
   have hlen:ei ⟨q,a,ns⟩ c=0→(av 2 (aN ⟨q,a,ns⟩ c)).length≤111:=fun h=>by rw[bP];have:=gI h;omega
   have m:=Lib.hid hlen
   clear hlen
   have U:wrap64 (c.a-x.fr)=c.a-x.fr:=by unfold wrap64;omega
   go_enter Tryz.func40,Tryz.ntmps40
   go_upto_region 1 with(fail)
   refine(hstart hX).cw fun W K=>?_
   have K:=(K.ksl0 B).ksl0 F
   have u:=K.r 1 rfl
   obtain⟨ad,r,rfl,K,⟨rfl,-⟩⟩:=K.elem 0 rfl p
   simp only[cI,hsd]at K
   clear p
   go_upto_region 5 with(first | refine bu (K.at' 0 rfl) ?_ | (refine K.lw fun W K=>?_;refine K.sr 0 rfl fun W K=>?_))
   clear u
   have c0:=K.r 0 rfl
   go_upto_region 7 with(fail)
   clear c0
   go_wp2_with (first | refine bu (K.sub 2 rfl 7 [.int .i64 q,.int .i64 a,.slice N nn s]) ?_ | refine K.ld 1 rfl ?_)
   refine(Ej q a ns N nn s c _ _ K.xok (K.sl 2 rfl) z D).mono ?_
   rintro e w1 ⟨t,⟨f,rfl⟩ | ⟨f,A3,J,A4,V,c4,rfl,G,-⟩⟩
   ·have K:=K.on t
    clear t
    have y:=Lib.hid f
    have v:=f
    generalize ei ⟨q,a,ns⟩ c=er at f v ⊢
    go_wp2_with (refine K.lw fun W K=>?_;refine K.sr 0 rfl fun W K=>?_)
    go_ret
    exact⟨by first | rfl | rw[if_pos y.out],K.below⟩
   ·have K:=K.on t
    clear t G
    have H:=m.out f
    obtain⟨g,d⟩:∃ g,g=(av 2 (aN ⟨q,a,ns⟩ c)).length:=⟨_,rfl⟩
    rw[←d]at H
    have j:=Lib.hid d
    have y:=Lib.hid f
    rw[←d]
    clear d f
    have Q:wrap64 (x.sz+(g:Int))=x.sz+(g:Int):=by unfold wrap64;omega
    go_upto_region 8 with(refine K.lw fun W K=>?_;refine K.sr 0 rfl fun W K=>?_)
    have u:=K.r 1 rfl
    have T:=K.r 2 rfl
    have c3:=K.r 3 rfl
    by_cases h5:b<x.sz+(g:Int)
    ·go_wp2
     go_ret
     exact⟨by rw[←j.out,decide_eq_true (show b<x.sz+(g:Int) by omega)];simp,K.below⟩
    ·go_wp2
     go_ret
     exact⟨by rw[←j.out,decide_eq_false (show ¬ b<x.sz+(g:Int) by omega)];simp[y.out],K.below⟩
end
section
open Go.RowKit
abbrev wA (d0 d1 d2 d3 d4 d5:Value) (G:Option Addr) (m cap:Nat) (q a:Int) (N:Option Addr) (nn cn:Nat) (d10:Value) (sq sa su:Int) (d14 d15:Value) (S:Option Addr) (sn sc:Nat) (sz:Int):Array Value:=
 #[d0,d1,d2,d3,d4,d5,.slice G m cap,.int .i64 q,.int .i64 a,.slice N nn cn,d10,.int .i64 sq,.int .i64 sa,.int .i64 su,d14,d15,.slice S sn sc,.int .i64 sz]
abbrev tu (S:Option Addr) (sn sc:Nat) (ss:List Value):Itm := .row 144 1 (.slice S sn sc) sn ss
abbrev vI (g m cap:Nat) (xs:List Value):Itm := .row 67 7 (.slice (some ⟨g,0,none⟩) m cap) m xs
theorem uE (k:Nat) (h:k≤1000000):IntKind.i64.wrap (k:Int)=(k:Int):=IntWalk.i64_in _ (by omega)
theorem ew {α:Type} {pre l:List α} {n:Nat} (h:pre.length=n) (j:Nat):(pre++l)[n+j]?=l[j]?:=by
 rw[List.getElem?_append_right (by omega),←h,Nat.add_sub_cancel_left]
theorem nU {α:Type} {pre l:List α} {n:Nat} (h:pre.length=n) (j:Nat) (v:α):(pre++l).set (n+j) v=pre++l.set j v:=by
 rw[List.set_append_right _ _ (by omega),←h,Nat.add_sub_cancel_left]
def ic (v:Value) (st:Stp):Fact:=⟨fun w X=>dh.rep w X [v] st,fun h k=>dh.keep h k,fun h k=>dh.more h k⟩
set_option maxHeartbeats 4000000 in
theorem wD {y W:World} {X:List Nat} {L:List Itm} {F:List Fact} (u g k cap:Nat) (pre:List Value) (x:Sgi) (steps:List Stp) (ss:List Value) (B:Option Addr) (b bc:Nat) (bs:List UInt8) (G H J P E z:Value) (q a:Int) (N:Option Addr) (nn D:Nat) (m:Value) (A sa O:Int) (t l:Value) (S:Option Addr) (i sc:Nat) (sz:Int)
 (K:HH y [] X W (tu S i sc ss :: .box u 104 (wA G H J P E z (some ⟨g,0,none⟩) (k+1) cap q a N nn D m A sa O t l S i sc sz)::vI g (k+1) cap (pre++cI x)::L) (Sl.fact au B b bc bs::Ra.fact dh ss steps::F))
 (Q:aX y) (hpre:pre.length=k*7) (hk:k≤100) (s:1≤x.num∧x.num≤99999999) (R:0≤x.sz∧x.sz≤1000000) (ac:0≤sz∧sz≤1000000) (ab:b≤100000) (Y:i≤1000):
 Calls Tryz.prog 101 #[.pointer (some ⟨u,0,none⟩),.slice B b bc] W fun e w' => ∃ S' d ss',(∃ v,e = .returned v)∧HH y [] X w' (tu S' (i+1) d ss' :: .box u 104 (wA G H J P E z (some ⟨g,0,none⟩) (k+1) cap q a N nn D m A sa O t l S' (i+1) d (sz+b))::vI g (k+1) cap (pre++cI { x with sz:=x.sz+b })::L)
  (Ra.fact dh ss' (steps ++ [.wr (aA x.num.toNat) bs])::F):=by
 obtain⟨nm,p⟩:∃ nm:Nat,x.num=(nm:Int):=⟨x.num.toNat,by omega⟩
 obtain⟨num,fi,la,fr,tt,j,sd⟩:=x
 simp only at p R s
 subst p
 have i1:(0:Int)≤(k:Int):=by omega
 have i2:(k:Int)<(k:Int)+1:=by omega
 have i5:=uE k (by omega)
 have i3:wrap64 (j+(b:Int))=j+(b:Int):=by unfold wrap64;omega
 have i4:wrap64 (sz+(b:Int))=sz+(b:Int):=by unfold wrap64;omega
 go_enter Tryz.func101,Tryz.ntmps101
 go_upto_region 0 with(fail)
 refine K.rg fun W K=>?_
 refine tK 0 K ?_
 refine tK 1 K ?_
 refine tK 2 K ?_
 refine tK 3 K ?_
 refine tL 4 (fun _ h=>h.r 1 rfl) K ?_
 refine tK 5 K ?_
 refine tK 6 K ?_
 refine tK 7 K ?_
 refine tK 8 K ?_
 refine tL 9 (fun _ h=>h.r 1 rfl) K ?_
 refine tK 10 K ?_
 refine tK 11 K ?_
 refine tK 12 K ?_
 refine tK 13 K ?_
 refine tE ?_
 have r5:=K.rowc 2 rfl (o:=k*7+5) (v := .int .i64 j) (by rw[ew hpre];rfl)
 have f5:=K.rowf 2 rfl (k*7+5)
 go_upto_region 2 with(fail)
 have K:=K.row1 2 rfl (k*7+5) (.int .i64 (j+(b:Int))) (by rw[List.length_append,hpre];simp)
 simp only[ai,aj,nU hpre,cI]at K
 clear r5 f5
 generalize W.setCell ⟨g,k*7+5,none⟩ (.int .i64 (j+(b:Int)))=W1 at K ⊢
 have c0:=K.c 1 rfl
 go_upto_region 3 with(fail)
 clear i3
 refine K.cw fun W K=>?_
 clear c0 i4
 refine K.rgl 16 16 (fun V h=>h.tl) fun W K=>?_
 refine tK 0 K.tl ?_
 refine tK 1 K.tl ?_
 refine tK 2 K.tl ?_
 refine tK 3 K.tl ?_
 refine tL 4 (fun _ h=>h.r 0 rfl) K.tl ?_
 refine tK 5 K.tl ?_
 refine tK 6 K.tl ?_
 refine tK 7 K.tl ?_
 refine tL 8 (T:=fun W=>W.cell? ⟨g,k*7,none⟩=some (.int .i64 (nm:Int))) (fun _ h=>h.rowc 1 rfl (ew hpre 0)) K.tl ?_
 refine tK 10 K.tl ?_
 refine tC 9 fun K' hK=>?_
 go_simp
 refine(iE nm (by omega) (by omega) _ (Q.on K.below)).mono ?_
 rintro e w2 ⟨rfl,n⟩
 have K:=K.on n
 refine hK.out _ _ K.tl fun _=>?_
 clear hK K' n
 try simp only[Act.put,aq,aj,ai]
 refine tC 11 fun K' hK=>?_
 go_simp
 refine(Cp (aA nm) bs B b bc _ _ K.xok (K.sl 0 rfl)).mono ?_
 rintro e Z ⟨v,rfl,C,n⟩
 have K:=(K.on n).kn (f:=ic v (.wr (aA nm) bs)) ⟨v,rfl,C⟩
 obtain⟨M,I,x3,x4,x5,rfl,-⟩:=C
 refine hK.out _ _ K.tl.ft fun _=>?_
 clear hK K' n
 try simp only[Act.put,aq,aj,ai]
 refine tC 12 fun K' hK=>?_
 go_simp
 have K:=K.to (W':=Z.alloc (.cells #[.func (.func 224) #[] #[.pointer (some ⟨M,0,none⟩),.pointer (some ⟨I,0,none⟩)]] 144))
 refine hK.out _ _ K.tl.tl.ft fun _=>?_
 clear hK K'
 try simp only[Act.put,aq,aj,ai]
 refine tA 13 K 8 0 rfl (by omega) (fun v' U h=>h.tl.ft) (fun v' U K=>?_)
 try simp only[Act.put,aq]
 obtain⟨S',d,rfl,-⟩:=aE (K.row 0 rfl)
 refine tK 14 K.tl.ft ?_
 refine tK 15 K.tl.ft ?_
 have c0:=K.c 1 rfl
 refine tZ fun K' hK=>?_
 go_simp
 refine hK.out _ _ ?_
 clear hK K' c0
 try simp only[Act.put]
 go_wp2
 refine K.bp fun W K=>?_
 go_end0
 refine⟨S',d,ss ++ [.func (.func 224) #[] #[.pointer (some ⟨M,0,none⟩),.pointer (some ⟨I,0,none⟩)]],⟨_,rfl⟩,?_⟩
 have w:=(K.ra 2 rfl).append (.single (K.fa (f:=ic _ (.wr (aA nm) bs)) 0 rfl))
 exact((K.kra w).out.forget (List.Sublist.cons_cons _ (List.Sublist.cons _ (List.Sublist.cons _ (List.Sublist.cons _ (List.Sublist.refl _)))))).hh
end
section
open Go.RowKit
theorem Fj (many q a:Int) (ns:List (List UInt8)) (bs:List UInt8) (f:mm many ⟨q,a,ns⟩=(bs,0)) (N:Option Addr) (nn b:Nat) (X:List Nat) (w:World) (hX:XOk X w) (j:Sl af w X N nn b ns) (d:nn≤1000) (k:many≤1000000):
 Calls Tryz.prog 63 #[.int .i64 many,.agg #[.int .i64 q,.int .i64 a,.slice N nn b]] w fun e w' => ∃ B bc,e = .returned (.tuple #[.slice B bs.length bc,.int .i64 0])∧Sl au w' X B bs.length bc bs∧Below w.heap.size w w':=by
 have h:=ET many q a ns N nn b X w hX j d (by omega)
 rw[f]at h
 refine h.mono ?_
 rintro e l ⟨g,⟨i,-⟩ | ⟨-,B,bc,rfl,c⟩⟩
 ·exact absurd rfl i
 ·exact⟨B,bc,rfl,c,g⟩
set_option maxHeartbeats 2000000 in
theorem AN {P W:World} {X:List Nat} {L:List Itm} {F:List Fact} (C g k cap:Nat) (pre:List Value) (x:Sgi) (steps:List Stp) (ss:List Value) (ns:List (List UInt8)) (E G H I D A:Value) (q a:Int) (N:Option Addr) (nn u:Nat) (i:Value) (t sa R:Int) (j d:Value) (S:Option Addr) (n sc:Nat) (sz:Int)
 (K:HH P [] X W (tu S n sc ss :: .box C 104 (wA E G H I D A (some ⟨g,0,none⟩) (k+1) cap q a N nn u i t sa R j d S n sc sz)::vI g (k+1) cap (pre++cI x)::L) (Ra.fact dh ss steps::Sl.fact af N nn u ns::F))
 (Y:aX P) (hpre:pre.length=k*7) (hk:k≤100) (m:1≤x.num∧x.num≤99999999) (Z:0≤x.sz∧x.sz≤1000000) (O:0≤sz∧sz≤900000) (ab:n≤900) (Q:nn≤1000) (many:Int) (M:x.la-x.fi=many) (J:0≤many∧many≤1000000) (bs:List UInt8) (s:mm many ⟨q,a,ns⟩=(bs,0)) (ad:bs.length≤1000):
 Calls Tryz.prog 41 #[.pointer (some ⟨C,0,none⟩)] W fun e w' => ∃ S' b ss',e = .returned (.bool true)∧HH P [] X w' (tu S' (n+2) b ss' :: .box C 104 (wA E G H I D A (some ⟨g,0,none⟩) (k+1) cap 0 0 none 0 0 i t sa t j d S' (n+2) b (sz+bs.length))::vI g (k+1) cap (pre++cI { x with sz:=x.sz+bs.length,sd:=true })::L)
  (Ra.fact dh ss' (steps ++ [.wr (aA x.num.toNat) bs,.sy (aA x.num.toNat)])::F):=by
 obtain⟨nm,y⟩:∃ nm:Nat,x.num=(nm:Int):=⟨x.num.toNat,by omega⟩
 obtain⟨num,fi,la,fr,tt,xz,sd⟩:=x
 simp only at y Z m M
 subst y
 have i1:(0:Int)≤(k:Int):=by omega
 have i2:(k:Int)<(k:Int)+1:=by omega
 have i5:=uE k (by omega)
 have i6:IntKind.i64.wrap (la-fi)=many:=by rw[M];exact IntWalk.i64_in _ (by omega)
 have HB:=Lib.hid s
 clear M s
 go_enter Tryz.func41,Tryz.ntmps41
 go_upto_region 1 with(fail)
 refine K.rg fun W K=>?_
 refine tK 0 K ?_
 refine tK 1 K ?_
 refine tK 2 K ?_
 refine tK 3 K ?_
 refine tL 4 (fun _ h=>h.r 1 rfl) K ?_
 refine tK 5 K ?_
 refine tK 6 K ?_
 refine tK 7 K ?_
 refine tK 8 K ?_
 refine tL 9 (fun _ h=>h.r 1 rfl) K ?_
 refine tK 10 K ?_
 refine tK 11 K ?_
 refine tK 12 K ?_
 refine tK 13 K ?_
 refine tE ?_
 go_upto_region 2 with(fail)
 refine K.rg fun W K=>?_
 refine tK 0 K ?_
 refine tK 1 K ?_
 refine tK 2 K ?_
 refine tL 3 (T:=fun W=>W.cell? ⟨g,k*7+2,none⟩=some (.int .i64 la)) (fun _ h=>h.rowc 2 rfl (ew hpre 2)) K ?_
 refine tK 4 K ?_
 refine tK 5 K ?_
 refine tK 6 K ?_
 refine tL 7 (T:=fun W=>W.cell? ⟨g,k*7+1,none⟩=some (.int .i64 fi)) (fun _ h=>h.rowc 2 rfl (ew hpre 1)) K ?_
 refine tK 8 K ?_
 refine tK 9 K ?_
 refine tK 10 K ?_
 refine tK 11 K ?_
 refine tK 12 K ?_
 refine tL 13 (fun _ h=>h.sub 1 rfl 7 [.int .i64 q,.int .i64 a,.slice N nn u]) K ?_ (hy:=fun w hw=>aD hw)
 refine tC 14 fun K' hK=>?_
 go_simp
 refine(Fj many q a ns bs HB.out N nn u _ _ K.xok (K.sl 1 rfl) Q J.2).mono ?_
 rintro e w2 ⟨B,bc,rfl,z,l⟩
 have K:=(K.on l).ksl z
 refine hK.out _ _ K.ft fun _=>?_
 clear hK K' l z
 try simp only[Act.put,aq,aj,ai]
 refine tK 15 K.ft ?_
 refine tK 16 K.ft ?_
 refine tK 17 K.ft ?_
 refine tK 18 K.ft ?_
 refine tK 19 K.ft ?_
 refine tE ?_
 go_wp2_with fail
 refine(wD C g k cap pre ⟨nm,fi,la,fr,tt,xz,sd⟩ steps ss B bs.length bc bs E G H I D A q a N nn u i t sa R j d S n sc sz K Y hpre hk m Z ⟨O.1,by omega⟩ (by omega) (by omega)).mono ?_
 rintro e w3 ⟨S1,ac,ss1,⟨v,rfl⟩,K⟩
 go_upto_region 6 with(fail)
 refine K.rgl 15 15 (fun V h=>h.tl) fun W K=>?_
 refine tK 0 K.tl ?_
 refine tK 1 K.tl ?_
 refine tK 2 K.tl ?_
 refine tK 3 K.tl ?_
 refine tL 4 (fun _ h=>h.r 0 rfl) K.tl ?_
 refine tK 5 K.tl ?_
 refine tK 6 K.tl ?_
 refine tK 7 K.tl ?_
 refine tL 8 (T:=fun W=>W.cell? ⟨g,k*7,none⟩=some (.int .i64 (nm:Int))) (fun _ h=>h.rowc 1 rfl (ew hpre 0)) K.tl ?_
 refine tC 9 fun K' hK=>?_
 go_simp
 refine(iE nm (by omega) (by omega) _ (Y.on K.below)).mono ?_
 rintro e w4 ⟨rfl,l⟩
 have K:=K.on l
 refine hK.out _ _ K.tl fun _=>?_
 clear hK K' l
 try simp only[Act.put,aq,aj,ai]
 refine tC 10 fun K' hK=>?_
 go_simp
 refine(nV (aA nm) _ _ K.xok).mono ?_
 rintro e w5 ⟨v,rfl,hv,l⟩
 have K:=(K.on l).kn (f:=ic v (.sy (aA nm))) ⟨v,rfl,hv⟩
 obtain⟨x1,rfl,-⟩:=hv
 refine hK.out _ _ K.tl.ft fun _=>?_
 clear hK K' l
 try simp only[Act.put,aq,aj,ai]
 refine tC 11 fun K' hK=>?_
 go_simp
 have K:=K.to (W':=w5.alloc (.cells #[.func (.func 148) #[] #[.pointer (some ⟨x1,0,none⟩)]] 144))
 refine hK.out _ _ K.tl.tl.ft fun _=>?_
 clear hK K'
 try simp only[Act.put,aq,aj,ai]
 refine tA 12 K 8 0 rfl (by omega) (fun v' U h=>h.tl.ft) (fun v' U K=>?_)
 try simp only[Act.put,aq]
 obtain⟨S',b,rfl,-⟩:=aE (K.row 0 rfl)
 refine tK 13 K.tl.ft ?_
 refine tK 14 K.tl.ft ?_
 have c0:=K.c 1 rfl
 refine tZ fun K' hK=>?_
 go_simp
 refine hK.out _ _ ?_
 clear hK K' c0
 try simp only[Act.put]
 go_upto_region 7 with(fail)
 refine K.cw fun W K=>?_
 have p:=(K.ra 1 rfl).append (.single (K.fa (f:=ic _ (.sy (aA nm))) 0 rfl))
 have K:=K.kra p
 clear p
 have r6:=K.rowc 2 rfl (o:=k*7+6) (v := .bool sd) (by rw[ew hpre];rfl)
 have f6:=K.rowf 2 rfl (k*7+6)
 go_upto_region 8 with(fail)
 have K:=K.row1 2 rfl (k*7+6) (.bool true) (by rw[List.length_append,hpre];simp)
 simp only[ai,aj,nU hpre,cI]at K
 clear r6 f6
 generalize W.setCell ⟨g,k*7+6,none⟩ (.bool true)=W1 at K ⊢
 go_upto_region 9 with(refine K.ss (new:=wA E G H I D A (some ⟨g,0,none⟩) (k+1) cap 0 0 none 0 0 i t sa R j d S' (n+1+1) b (sz+bs.length)) 1 rfl fun W K=>?_)
 have c0:=K.c 1 rfl
 go_wp2
 refine K.bp fun W K=>?_
 go_ret
 refine⟨S',b,ss1 ++ [.func (.func 148) #[] #[.pointer (some ⟨x1,0,none⟩)]],rfl,?_⟩
 simp only[List.append_assoc,List.singleton_append,Int.toNat_natCast]at K
 exact(K.out.forget (List.Sublist.cons_cons _ (List.Sublist.cons _ (List.Sublist.cons _ (List.Sublist.cons _ (List.Sublist.refl _)))))).hh
end
section
open Go.RowKit
theorem Fv (q a:Int) (ns:List (List UInt8)) (b:Evt) (k:ei ⟨q,a,ns⟩ b=0) (N:Option Addr) (nn h:Nat) (X:List Nat) (w:World) (hX:XOk X w) (o:Sl af w X N nn h ns) (i:nn≤1000) (g:b.cm.size≤maxLen):
 Calls Tryz.prog 62 #[.agg #[.int .i64 q,.int .i64 a,.slice N nn h],.agg (evA b)] w fun e w' => ∃ B bc d f c,e = .returned (.tuple #[.slice B (av 2 (aN ⟨q,a,ns⟩ b)).length bc,.agg #[.int .i64 b.q,.int .i64 b.a,.slice d f c],.int .i64 0]) ∧
  Sl au w' X B (av 2 (aN ⟨q,a,ns⟩ b)).length bc (av 2 (aN ⟨q,a,ns⟩ b))∧Sl af w' X d f c (bR ⟨q,a,ns⟩ b).ns∧Below w.heap.size w w':=by
 refine(Ej q a ns N nn h b X w hX o i g).mono ?_
 rintro e p ⟨m,⟨j,-⟩ | ⟨j,B,bc,d,f,c,rfl,n,l⟩⟩
 ·exact absurd k j
 ·exact⟨B,bc,d,f,c,rfl,n,l,m⟩
set_option maxHeartbeats 3000000 in
theorem mM {w0 W:World} {X:List Nat} {L:List Itm} {F:List Fact} (I g k cap:Nat) (pre:List Value) (x:Sgi) (steps:List Stp) (ss:List Value) (ns:List (List UInt8)) (b:Evt) (O P Q T M H:Value) (q a:Int) (N:Option Addr) (nn u:Nat) (j:Value) (J sa R:Int) (l i:Value) (S:Option Addr) (m sc:Nat) (sz:Int)
 (K:HH w0 [] X W (tu S m sc ss :: .box I 104 (wA O P Q T M H (some ⟨g,0,none⟩) (k+1) cap q a N nn u j J sa R l i S m sc sz)::vI g (k+1) cap (pre++cI x)::L) (Ra.fact dh ss steps::Sl.fact af N nn u ns::F))
 (hp:aX w0) (hpre:pre.length=k*7) (hk:k≤100) (D:1≤x.num∧x.num≤99999999) (hz:0≤x.sz∧x.sz≤1000000) (ab:0≤sz∧sz≤900000) (ad:m≤900) (ac:nn≤1000) (t:b.cm.size≤maxLen) (Z:ei ⟨q,a,ns⟩ b=0) (bs:List UInt8) (n:av 2 (aN ⟨q,a,ns⟩ b)=bs) (am:bs.length≤1000):
 Calls Tryz.prog 45 #[.pointer (some ⟨I,0,none⟩),.agg (evA b)] W fun e w' => ∃ S' sc' ss' d f c,e = .returned (.bool true)∧HH w0 [] X w' (tu S' (m+1) sc' ss' :: .box I 104 (wA O P Q T M H (some ⟨g,0,none⟩) (k+1) cap b.q b.a d f c j J sa R l i S' (m+1) sc' (sz+bs.length))::vI g (k+1) cap (pre++cI { x with sz:=x.sz+bs.length,la:=b.q,tt:=b.a })::L)
  (Ra.fact dh ss' (steps ++ [.wr (aA x.num.toNat) bs])::Sl.fact af d f c (bR ⟨q,a,ns⟩ b).ns::F):=by
 have i1:(0:Int)≤(k:Int):=by omega
 have i2:(k:Int)<(k:Int)+1:=by omega
 have i5:=uE k (by omega)
 have HC:=Lib.hid Z
 have ag:=Lib.hid t
 have al:=Lib.hid n
 have hAdd:=fun(X:List Nat) (w:World) (hX:XOk X w) (hs:Sl af w X N nn u ns)=>Lib.hid (Fv q a ns b Z N nn u X w hX hs ac t)
 simp only[n]at hAdd
 obtain⟨nx,E⟩:∃ nx,nx=(bR ⟨q,a,ns⟩ b).ns:=⟨_,rfl⟩
 rw[←E]at hAdd ⊢
 clear Z t n E
 obtain⟨eq,ea,ek,ae,ex,ey,ez⟩:=b
 simp only[evA]at hAdd ⊢
 go_enter Tryz.func45,Tryz.ntmps45
 go_upto_region 1 with(fail)
 refine DM (α:=Nat) (β:=World) (γ:=Option Addr) (δ:=Nat) (ε:=Option Addr) (ζ:=Nat) (η:=Nat) (G:=?G) ?main ?key
 case main=>
  intro key
  refine K.rg fun W K=>?_
  refine tK 0 K ?_
  refine tK 1 K ?_
  refine tK 2 K ?_
  refine tK 3 K ?_
  refine tL 4 (fun _ h=>h.sub 2 rfl 7 [.int .i64 q,.int .i64 a,.slice N nn u]) K ?_ (hy:=fun w V=>aD V)
  refine tL 5 (fun _ h=>h.at_ 0 rfl) K ?_ (hy:=fun w V=>aD V)
  refine tC2 6 11 (fun K' hK=>?_) (fun K' hK=>?_)
  ·go_simp
   refine(hAdd _ _ K.xok (K.sl 1 rfl)).out.mono ?_
   rintro e Y ⟨B,bc,d,f,c,rfl,A,y,C⟩
   have s:=K.on C
   have K:=(s.ksl y).ksl A
   refine hK.out _ _ s fun _=>?_
   clear hK K' C A y
   try simp only[Act.put,aq,aj,ai]
   refine tK 7 s ?_
   refine tK 8 s ?_
   refine tK 9 s ?_
   refine tK 10 s ?_
   refine tC 11 fun K' hK=>?_
   go_simp
   have K:=K.to (W':=Y.alloc (.cells #[.int .i64 0,.int .i64 0,.slice none 0 0] 34))
   refine hK.out _ _ K.tl.ft.ft fun _=>?_
   clear hK K' s
   try simp only[Act.put,aq,aj,ai]
   refine tK 12 K.tl.ft.ft ?_
   refine tSt 13 K 0 rfl (fun U h=>h.tl.ft.ft) fun U K=>?_
   refine tK 14 K.tl.ft.ft ?_
   refine tE ?_
   generalize Y.heap.size=p at K ⊢
   revert K
   exact key.out p U B bc d f c
  ·go_simp
   have K:=K.to (W':=W.alloc (.cells #[.int .i64 0,.int .i64 0,.slice none 0 0] 34))
   refine hK.out _ _ K.tl fun _=>?_
   clear hK K'
   try simp only[Act.put,aq,aj,ai]
   refine tC 6 fun K' hK=>?_
   go_simp
   refine(hAdd _ _ K.xok (K.sl 1 rfl)).out.mono ?_
   rintro e Y ⟨B,bc,d,f,c,rfl,A,y,C⟩
   have K:=((K.on C).ksl y).ksl A
   refine hK.out _ _ K.tl.ft.ft fun _=>?_
   clear hK K' C A y
   try simp only[Act.put,aq,aj,ai]
   refine tK 7 K.tl.ft.ft ?_
   refine tK 8 K.tl.ft.ft ?_
   refine tK 9 K.tl.ft.ft ?_
   refine tK 10 K.tl.ft.ft ?_
   refine tK 12 K.tl.ft.ft ?_
   refine tSt 13 K 0 rfl (fun U h=>h.tl.ft.ft) fun U K=>?_
   refine tK 14 K.tl.ft.ft ?_
   refine tE ?_
   generalize W.heap.size=p at K ⊢
   revert K
   exact key.out p U B bc d f c
 case key=>
  clear hAdd
  intro p W B bc d f c K
  go_upto_region 4 with(fail)
  have K:=((K.mv 4 rfl).mv 4 rfl).mv 4 rfl
  have K:=(K.up 2 rfl).up 1 rfl
  go_wp2_with fail
  refine(wD I g k cap pre x steps ss B bs.length bc bs O P Q T M H q a N nn u j J sa R l i S m sc sz K hp hpre hk D hz ⟨ab.1,by omega⟩ (by omega) (by omega)).mono ?_
  rintro e w3 ⟨S1,z,ss1,⟨v,rfl⟩,K⟩
  go_upto_region 5 with(fail)
  refine K.rg fun W K=>?_
  refine tK 0 K ?_
  refine tK 1 K ?_
  refine tK 2 K ?_
  refine tK 3 K ?_
  refine tL 4 (fun _ h=>h.r 1 rfl) K ?_
  refine tK 5 K ?_
  refine tK 6 K ?_
  refine tK 7 K ?_
  refine tK 8 K ?_
  refine tL 9 (fun _ h=>h.r 1 rfl) K ?_
  refine tK 10 K ?_
  refine tK 11 K ?_
  refine tK 12 K ?_
  refine tK 13 K ?_
  refine tE ?_
  have r2:=K.rowc 2 rfl (o:=k*7+2) (by rw[ew hpre];rfl)
  have f2:=K.rowf 2 rfl (k*7+2)
  have c4:=K.r 4 rfl
  go_upto_region 7 with(fail)
  have K:=K.row1 2 rfl (k*7+2) (.int .i64 eq) (by rw[List.length_append,hpre];simp)
  simp only[ai,aj,nU hpre,cI]at K
  clear r2 f2 c4
  generalize W.setCell ⟨g,k*7+2,none⟩ (.int .i64 eq)=W1 at K ⊢
  have r2:=K.rowc 2 rfl (o:=k*7+4) (by rw[ew hpre];rfl)
  have f2:=K.rowf 2 rfl (k*7+4)
  have c4:=K.r 4 rfl
  go_upto_region 8 with(fail)
  have K:=K.row1 2 rfl (k*7+4) (.int .i64 ea) (by rw[List.length_append,hpre];simp)
  simp only[ai,aj,nU hpre,cI]at K
  clear r2 f2 c4
  generalize W1.setCell ⟨g,k*7+4,none⟩ (.int .i64 ea)=W2 at K ⊢
  go_wp2_with (first | refine K.ld 3 rfl ?_ | refine K.ss (new:=wA O P Q T M H (some ⟨g,0,none⟩) (k+1) cap eq ea d f c j J sa R l i S1 (m+1) z (sz+bs.length)) 1 rfl fun W K=>?_)
  go_ret
  refine⟨S1,z,ss1,d,f,c,rfl,?_⟩
  have KF:=K.out.forget (F':=Ra.fact dh ss1 _::Sl.fact af d f c nx::F) (List.Sublist.cons_cons _ (List.Sublist.cons _ (List.Sublist.cons_cons _ (List.Sublist.cons _ (List.Sublist.cons _ (List.Sublist.refl _))))))
  exact(KF.drop (List.Sublist.cons_cons _ (List.Sublist.cons_cons _ (List.Sublist.cons_cons _ (List.Sublist.cons _ (List.Sublist.cons _ (List.Sublist.refl _))))))).hh
end
section
open Go.RowKit
theorem Cm (num q a:Int) (bs:List UInt8) (b:kV num ⟨q,a,[]⟩=(bs,0)) (X:List Nat) (w:World) (hX:XOk X w):
 Calls Tryz.prog 61 #[.int .i64 num,.agg #[.int .i64 q,.int .i64 a,.slice none 0 0]] w fun e w' => ∃ B bc,e = .returned (.tuple #[.slice B bs.length bc,.int .i64 0])∧Sl au w' X B bs.length bc bs∧Below w.heap.size w w':=by
 have h:=EM num q a [] none 0 0 X w hX Sl.nil_ (by omega)
 rw[b]at h
 refine h.mono ?_
 rintro e g ⟨d,⟨f,-⟩ | ⟨-,B,bc,rfl,c⟩⟩
 ·exact absurd rfl f
 ·exact⟨B,bc,rfl,c,d⟩
set_option maxHeartbeats 3000000 in
theorem rG {w0 W:World} {X:List Nat} {L:List Itm} {F:List Fact} (J m:Nat) (G:Option Addr) (cap:Nat) (xs:List Value) (steps:List Stp) (ss:List Value) (A:Option Addr) (n z:Nat) (D E I C y:Value) (q0 a0:Int) (N:Option Addr) (nn cn:Nat) (i:Value) (a sa H:Int) (j d:Value) (S:Option Addr) (q sc:Nat) (sz:Int)
 (K:HH w0 [] X W (tu S q sc ss :: .box J 104 (wA (.slice A n z) D E I C y G m cap q0 a0 N nn cn i a sa H j d S q sc sz) :: .row 67 7 (.slice G m cap) m xs::L) (Ra.fact dh ss steps::F))
 (hp:aX w0) (Y:xs.length=m*7) (hm:m≤63) (T:∀ k,m=k+1→xs[k*7]?=some (.int .i64 (m:Int))) (hn:n≤63) (R:0≤sz∧sz≤900000) (ac:q≤900) (bs:List UInt8) (M:kV ((m+1:Nat):Int) ⟨a,sa,[]⟩=(bs,0)) (ad:bs.length≤1000):
 Calls Tryz.prog 44 #[.pointer (some ⟨J,0,none⟩)] W fun e w' => ∃ S' sc' ss' g cap',e = .returned (.bool true)∧HH w0 [] X w' (tu S' (q+2) sc' ss' :: .box J 104 (wA (.slice A n z) D E I C y (some ⟨g,0,none⟩) (m+1) cap' a sa none 0 0 i a sa H j d S' (q+2) sc' (sz+bs.length))::vI g (m+1) cap' (xs++cI ⟨((m+1:Nat):Int),a,a,sa,sa,bs.length,false⟩)::L)
  (Ra.fact dh ss' (steps ++ [.mk (aA (m+1)),.wr (aA (m+1)) bs])::F):=by
 have HB:=Lib.hid M
 have HN:=fun(w:World) (h:aX w)=>Lib.hid (iE (m+1) (by omega) (by omega) w h)
 have ab:(aA (m+1)).toList.isEmpty=false:=by
  have h1:=(jb (n:=m+1) (by omega)).1
  rw[ByteArray.toList_eq]
  cases hl:(aA (m+1)).data.toList with
  | nil=>
    have:(aA (m+1)).data.size=12:=h1
    rw[←Array.length_toList,hl]at this
    cases this
  | cons _ _=>rfl
 obtain⟨nm,t⟩:∃ nm,nm=aA (m+1):=⟨_,rfl⟩
 simp only[←t]at HN ab ⊢
 have Z:=Lib.hid t
 clear M t
 go_enter Tryz.func44,Tryz.ntmps44
 have i6:¬ (64:Int)<(n:Int)+1:=by omega
 cases m with
 | zero=>
   have x:=K.r 1 rfl
   go_upto_region 5 with(fail)
   go_wp2_with fail
   refine(HN _ (hp.on K.below)).out.mono ?_
   rintro e w2 ⟨rfl,b⟩
   have K:=K.on b
   clear b x
   have x:=K.r 1 rfl
   go_upto_region 8 with(fail)
   clear x
   refine K.rg fun W K=>?_
   refine tK 0 K ?_
   refine tK 1 K ?_
   refine tK 2 K ?_
   refine tK 3 K ?_
   refine tK 4 K ?_
   refine tL 5 (fun _ h=>h.r 1 rfl) K ?_
   refine tK 6 K ?_
   refine tK 7 K ?_
   refine tK 8 K ?_
   refine tK 9 K ?_
   refine tK 10 K ?_
   refine tL 11 (fun _ h=>h.r 1 rfl) K ?_
   refine tK 12 K ?_
   refine tC 13 fun K' hK=>?_
   go_simp
   have K:=K.to (W':=W.alloc (.cells #[.int .i64 0,.int .i64 0,.slice none 0 0] 34))
   refine hK.out _ _ K.tl fun _=>?_
   clear hK K'
   try simp only[Act.put,aq,aj,ai]
   refine tSt 14 K 0 rfl (fun U h=>h.tl) fun U K=>?_
   refine tE ?_
   generalize W.heap.size=pc at K ⊢
   go_wp2_with (first | refine K.ld 0 rfl ?_)
   refine(Cm _ a sa bs HB.out _ _ K.xok).mono ?_
   rintro e w3 ⟨B,bc,rfl,p,b⟩
   have K:=((K.on b).ksl p).mv 1 rfl
   clear b p
   go_upto_region 12 with(fail)
   refine K.rgl 11 11 (fun V h=>h.tl) fun W K=>?_
   refine tK 0 K.tl ?_
   refine tK 1 K.tl ?_
   refine tK 2 K.tl ?_
   refine tK 3 K.tl ?_
   refine tL 4 (fun _ h=>h.r 1 rfl) K.tl ?_
   refine tK 5 K.tl ?_
   refine tC 6 fun K' hK=>?_
   go_simp
   refine(qv nm _ _ K.xok).mono ?_
   rintro e w4 ⟨v,rfl,O,b⟩
   have K:=(K.on b).kn (f:=ic v (.mk nm)) ⟨v,rfl,O⟩
   obtain⟨x1,rfl,-⟩:=O
   refine hK.out _ _ K.tl.ft fun _=>?_
   clear hK K' b
   try simp only[Act.put,aq,aj,ai]
   refine tC 7 fun K' hK=>?_
   go_simp
   have K:=K.to (W':=w4.alloc (.cells #[.func (.func 171) #[] #[.pointer (some ⟨x1,0,none⟩)]] 144))
   refine hK.out _ _ K.tl.tl.ft fun _=>?_
   clear hK K'
   try simp only[Act.put,aq,aj,ai]
   refine tA 8 K 8 0 rfl (by omega) (fun v' U h=>h.tl.ft) (fun v' U K=>?_)
   try simp only[Act.put,aq]
   obtain⟨S1,s,rfl,-⟩:=aE (K.row 0 rfl)
   refine tK 9 K.tl.ft ?_
   refine tK 10 K.tl.ft ?_
   have c2:=K.c 2 rfl
   refine tZ fun K' hK=>?_
   go_simp
   refine hK.out _ _ ?_
   clear hK K' c2
   try simp only[Act.put]
   go_upto_region 13 with(fail)
   refine K.cw fun W K=>?_
   have l:=(K.ra 2 rfl).append (.single (K.fa (f:=ic _ (.mk nm)) 0 rfl))
   have K:=((K.kra l).mv 3 rfl)
   clear l
   refine K.rgl 21 21 (fun V h=>h.tl) fun W K=>?_
   refine tK 0 K.tl ?_
   refine tK 1 K.tl ?_
   refine tK 2 K.tl ?_
   refine tK 3 K.tl ?_
   refine tK 4 K.tl ?_
   refine tL 5 (fun _ h=>h.r 2 rfl) K.tl ?_
   refine tK 6 K.tl ?_
   refine tK 7 K.tl ?_
   refine tL 8 (fun _ h=>h.r 1 rfl) K.tl ?_
   refine tK 9 K.tl ?_
   refine tL 10 (fun _ h=>h.r 1 rfl) K.tl ?_
   refine tK 11 K.tl ?_
   refine tL 12 (fun _ h=>h.r 1 rfl) K.tl ?_
   refine tK 13 K.tl ?_
   refine tL 14 (fun _ h=>h.r 1 rfl) K.tl ?_
   refine tK 15 K.tl ?_
   refine tC 16 fun K' hK=>?_
   go_simp
   have K:=K.to (W':=W.alloc (.cells #[.int .i64 1,.int .i64 a,.int .i64 a,.int .i64 sa,.int .i64 sa,.int .i64 0,.bool false] 67))
   refine hK.out _ _ K.tl.tl fun _=>?_
   clear hK K'
   try simp only[Act.put,aq,aj,ai]
   refine tA 17 K 56 0 rfl (by omega) (fun v' U h=>h.tl) (fun v' U K=>?_)
   try simp only[Act.put,aq]
   obtain⟨G2,cap2,rfl,-⟩:=aE (K.row 0 rfl)
   obtain⟨u,rfl⟩:=fY (K.row 0 rfl) (Nat.succ_pos _)
   refine tK 18 K.tl ?_
   refine tK 19 K.tl ?_
   refine tK 20 K.tl ?_
   have c3:=K.c 3 rfl
   refine tZ fun K' hK=>?_
   go_simp
   refine hK.out _ _ ?_
   clear hK K' c3
   try simp only[Act.put]
   go_upto_region 14 with(fail)
   refine K.cw fun W K=>?_
   have K:=((K.mv 3 rfl).mv 2 rfl).up 2 rfl
   go_wp2_with fail
   refine(wD J u 0 cap2 xs ⟨1,a,a,sa,sa,0,false⟩ (steps ++ [.mk nm]) _ B bs.length bc bs (.slice A n z) D E I C y q0 a0 N nn cn i a sa H j d S1 (q+1) s sz K hp Y (by omega) ⟨by simp only;omega,by simp only;omega⟩ ⟨by simp only;omega,by simp only;omega⟩ ⟨R.1,by omega⟩ (by omega) (by omega)).mono ?_
   rintro e w5 ⟨Q,o,ss2,⟨v,rfl⟩,K⟩
   go_wp2_with (first | refine K.ld 3 rfl ?_ | refine K.ss (new:=wA (.slice A n z) D E I C y (some ⟨u,0,none⟩) (0+1) cap2 a sa none 0 0 i a sa H j d Q (q+1+1) o (sz+bs.length)) 1 rfl fun W K=>?_)
   go_ret
   refine⟨Q,o,ss2,u,cap2,rfl,?_⟩
   have e1:aA ((1:Int)).toNat=nm:=Z.out.symm
   have KF:=K.out.forget (List.Sublist.cons_cons _ (List.Sublist.cons _ (List.Sublist.cons _ (List.Sublist.cons _ (List.Sublist.refl _)))))
   have P:=(KF.drop (List.Sublist.cons_cons _ (List.Sublist.cons_cons _ (List.Sublist.cons_cons _ (List.Sublist.cons _ (List.Sublist.refl _)))))).hh
   simp only[List.append_assoc,List.singleton_append,Int.zero_add,e1]at P
   exact P
 | succ k=>
   have x:=K.r 1 rfl
   obtain⟨g,rfl⟩:=fY (K.row 2 rfl) (Nat.succ_pos k)
   have r0:=K.rowc 2 rfl (T k rfl)
   have i1:(0:Int)≤(k:Int):=by omega
   have i2:(k:Int)<(k:Int)+1:=by omega
   have i3:wrap64 ((k:Int)+1+1)=(k:Int)+1+1:=by unfold wrap64;omega
   go_upto_region 5 with(fail)
   clear r0
   go_wp2_with fail
   refine(HN _ (hp.on K.below)).out.mono ?_
   rintro e w2 ⟨rfl,b⟩
   have K:=K.on b
   clear b x
   have x:=K.r 1 rfl
   go_upto_region 8 with(fail)
   clear x
   refine K.rg fun W K=>?_
   refine tK 0 K ?_
   refine tK 1 K ?_
   refine tK 2 K ?_
   refine tK 3 K ?_
   refine tK 4 K ?_
   refine tL 5 (fun _ h=>h.r 1 rfl) K ?_
   refine tK 6 K ?_
   refine tK 7 K ?_
   refine tK 8 K ?_
   refine tK 9 K ?_
   refine tK 10 K ?_
   refine tL 11 (fun _ h=>h.r 1 rfl) K ?_
   refine tK 12 K ?_
   refine tC 13 fun K' hK=>?_
   go_simp
   have K:=K.to (W':=W.alloc (.cells #[.int .i64 0,.int .i64 0,.slice none 0 0] 34))
   refine hK.out _ _ K.tl fun _=>?_
   clear hK K'
   try simp only[Act.put,aq,aj,ai]
   refine tSt 14 K 0 rfl (fun U h=>h.tl) fun U K=>?_
   refine tE ?_
   generalize W.heap.size=pc at K ⊢
   go_wp2_with (first | refine K.ld 0 rfl ?_)
   refine(Cm _ a sa bs HB.out _ _ K.xok).mono ?_
   rintro e w3 ⟨B,bc,rfl,p,b⟩
   have K:=((K.on b).ksl p).mv 1 rfl
   clear b p
   go_upto_region 12 with(fail)
   refine K.rgl 11 11 (fun V h=>h.tl) fun W K=>?_
   refine tK 0 K.tl ?_
   refine tK 1 K.tl ?_
   refine tK 2 K.tl ?_
   refine tK 3 K.tl ?_
   refine tL 4 (fun _ h=>h.r 1 rfl) K.tl ?_
   refine tK 5 K.tl ?_
   refine tC 6 fun K' hK=>?_
   go_simp
   refine(qv nm _ _ K.xok).mono ?_
   rintro e w4 ⟨v,rfl,O,b⟩
   have K:=(K.on b).kn (f:=ic v (.mk nm)) ⟨v,rfl,O⟩
   obtain⟨x1,rfl,-⟩:=O
   refine hK.out _ _ K.tl.ft fun _=>?_
   clear hK K' b
   try simp only[Act.put,aq,aj,ai]
   refine tC 7 fun K' hK=>?_
   go_simp
   have K:=K.to (W':=w4.alloc (.cells #[.func (.func 171) #[] #[.pointer (some ⟨x1,0,none⟩)]] 144))
   refine hK.out _ _ K.tl.tl.ft fun _=>?_
   clear hK K'
   try simp only[Act.put,aq,aj,ai]
   refine tA 8 K 8 0 rfl (by omega) (fun v' U h=>h.tl.ft) (fun v' U K=>?_)
   try simp only[Act.put,aq]
   obtain⟨S1,s,rfl,-⟩:=aE (K.row 0 rfl)
   refine tK 9 K.tl.ft ?_
   refine tK 10 K.tl.ft ?_
   have c2:=K.c 2 rfl
   refine tZ fun K' hK=>?_
   go_simp
   refine hK.out _ _ ?_
   clear hK K' c2
   try simp only[Act.put]
   go_upto_region 13 with(fail)
   refine K.cw fun W K=>?_
   have l:=(K.ra 2 rfl).append (.single (K.fa (f:=ic _ (.mk nm)) 0 rfl))
   have K:=((K.kra l).mv 3 rfl)
   clear l
   refine K.rgl 21 21 (fun V h=>h.tl) fun W K=>?_
   refine tK 0 K.tl ?_
   refine tK 1 K.tl ?_
   refine tK 2 K.tl ?_
   refine tK 3 K.tl ?_
   refine tK 4 K.tl ?_
   refine tL 5 (fun _ h=>h.r 2 rfl) K.tl ?_
   refine tK 6 K.tl ?_
   refine tK 7 K.tl ?_
   refine tL 8 (fun _ h=>h.r 1 rfl) K.tl ?_
   refine tK 9 K.tl ?_
   refine tL 10 (fun _ h=>h.r 1 rfl) K.tl ?_
   refine tK 11 K.tl ?_
   refine tL 12 (fun _ h=>h.r 1 rfl) K.tl ?_
   refine tK 13 K.tl ?_
   refine tL 14 (fun _ h=>h.r 1 rfl) K.tl ?_
   refine tK 15 K.tl ?_
   refine tC 16 fun K' hK=>?_
   go_simp
   have K:=K.to (W':=W.alloc (.cells #[.int .i64 ((k:Int)+1+1),.int .i64 a,.int .i64 a,.int .i64 sa,.int .i64 sa,.int .i64 0,.bool false] 67))
   refine hK.out _ _ K.tl.tl fun _=>?_
   clear hK K'
   try simp only[Act.put,aq,aj,ai]
   refine tA 17 K 56 0 rfl (by omega) (fun v' U h=>h.tl) (fun v' U K=>?_)
   try simp only[Act.put,aq]
   obtain⟨G2,cap2,rfl,-⟩:=aE (K.row 0 rfl)
   obtain⟨u,rfl⟩:=fY (K.row 0 rfl) (Nat.succ_pos _)
   refine tK 18 K.tl ?_
   refine tK 19 K.tl ?_
   refine tK 20 K.tl ?_
   have c3:=K.c 3 rfl
   refine tZ fun K' hK=>?_
   go_simp
   refine hK.out _ _ ?_
   clear hK K' c3
   try simp only[Act.put]
   go_upto_region 14 with(fail)
   refine K.cw fun W K=>?_
   have K:=((K.mv 3 rfl).mv 2 rfl).up 2 rfl
   go_wp2_with fail
   refine(wD J u (k+1) cap2 xs ⟨(k:Int)+1+1,a,a,sa,sa,0,false⟩ (steps ++ [.mk nm]) _ B bs.length bc bs (.slice A n z) D E I C y q0 a0 N nn cn i a sa H j d S1 (q+1) s sz K hp Y (by omega) ⟨by simp only;omega,by simp only;omega⟩ ⟨by simp only;omega,by simp only;omega⟩ ⟨R.1,by omega⟩ (by omega) (by omega)).mono ?_
   rintro e w5 ⟨Q,o,ss2,⟨v,rfl⟩,K⟩
   go_wp2_with (first | refine K.ld 3 rfl ?_ | refine K.ss (new:=wA (.slice A n z) D E I C y (some ⟨u,0,none⟩) (k+1+1) cap2 a sa none 0 0 i a sa H j d Q (q+1+1) o (sz+bs.length)) 1 rfl fun W K=>?_)
   go_ret
   refine⟨Q,o,ss2,u,cap2,rfl,?_⟩
   have e1:aA (((k:Int)+1+1:Int)).toNat=nm:=Z.out.symm
   have KF:=K.out.forget (List.Sublist.cons_cons _ (List.Sublist.cons _ (List.Sublist.cons _ (List.Sublist.cons _ (List.Sublist.refl _)))))
   have P:=(KF.drop (List.Sublist.cons_cons _ (List.Sublist.cons_cons _ (List.Sublist.cons_cons _ (List.Sublist.cons _ (List.Sublist.refl _)))))).hh
   simp only[List.append_assoc,List.singleton_append,Int.zero_add,e1]at P
   exact P
end
section
open Go.RowKit
def fP (fs:List Fil) (room b age:Int) (sg:List Sgi) (c:Cx) (t:St) (su er:Int) (X:List Nat) (w:World) (e:Ending) (w':World):Prop:=
 ∃ A n cp S m mc N nn cn C k ck,e = .returned (.tuple #[.agg (jnA A n cp room b age S m mc c.q c.a N nn cn C k ck t.q t.a su 0 false).toArray,.int .i64 er])∧Sl az w' X A n cp fs∧Sl bC w' X S m mc sg∧Sl af w' X N nn cn c.ns∧Sl aB w' X C k ck t.cs∧Below w.heap.size w w'
set_option maxHeartbeats 2000000 in
theorem yG (fs:List Fil) (room:Int) (ps:List Prt) (t:St) (h:eC fs room ps [] t) (R:∀ p ∈ ps,(p.al:Int)≤p.s.size) (b l:Int) (M:dM b l=true) (A:Option Addr) (n D:Nat) (S:Option Addr) (m F:Nat) (N:Option Addr) (nn E:Nat) (C:Option Addr) (k v:Nat) (B:Int) (T:0≤B∧B≤t.q) (j:cF t)
 (X:List Nat) (w:World) (hX:XOk X w) (o:Sl az w X A n D fs) (i:Sl bC w X S m F (ps.map aC)) (u:Sl af w X N nn E (ah ps).ns) (V:nn≤1000) (f:Sl aB w X C k v t.cs) (P:aX w)
 (eq ea H:Int) (d:ByteArray) (ex y z:Int) (O:d.size≤maxLen) (J:cS t ⟨t.q+1,ea,H,d,ex,y,z⟩≠0):
 Calls Tryz.prog 10 #[.agg (jnA A n D room b l S m F (ah ps).q (ah ps).a N nn E C k v t.q t.a B 0 false).toArray,.agg #[.int .i64 eq,.int .i64 ea,.int .i64 H,.string d,.int .i64 ex,.int .i64 y,.int .i64 z]] w (fP fs room b l (ps.map aC) (ah ps) t B (cS t ⟨t.q+1,ea,H,d,ex,y,z⟩) X w):=by
 have ac:=j.2.2.1
 have ae:=j.2.1
 have ab:wrap64 (t.q+1)=t.q+1:=by unfold wrap64;omega
 have Y:m≤64:=by
  have h1:=i.len
  have Q:=(dS fs h.nm).1
  have h3:=h.dk.1
  rw[h.rows]at Q
  simp only[List.length_map]at h1 Q h3
  simp only[List.length_nil]at Q
  omega
 have U:=fun(w:World) (X:List Nat) (hX:XOk X w) (o:Sl az w X A n D fs) (i:Sl bC w X S m F (ps.map aC)) (u:Sl af w X N nn E (ah ps).ns) (f:Sl aB w X C k v t.cs) (P:aX w)=>Lib.hid (gW fs room ps t h R b l M A n D S m F N nn E C k v B T false j X w hX o i u V f P)
 have g:=fun(w:World) (X:List Nat) (hX:XOk X w) (f:Sl aB w X C k v t.cs)=>Lib.hid (iJ t ⟨t.q+1,ea,H,d,ex,y,z⟩ C k v X w hX f j O)
 simp only[jnA,evA]at U g ⊢
 simp only[dR,if_neg J]at g
 obtain⟨L,G⟩:∃ L,L=cS t ⟨t.q+1,ea,H,d,ex,y,z⟩:=⟨_,rfl⟩
 simp only[←G]at g J ⊢
 have ad:¬ L=0:=J
 clear G J
 go_enter Tryz.func10,Tryz.ntmps10
 go_upto_region 1 with(fail)
 refine(hstart hX).cw fun W K=>?_
 have K:=(((K.ksl0 f).ksl0 u).ksl0 i).ksl0 o
 clear f u i o
 go_wp2_with (first | refine K.ld 2 rfl ?_)
 refine(U _ _ K.xok (K.sl 0 rfl) (K.sl 1 rfl) (K.sl 2 rfl) (K.sl 3 rfl) (P.on K.below)).out.mono ?_
 rintro e w1 ⟨rfl,x⟩
 have K:=K.on x
 clear x U
 have c2:=K.r 2 rfl
 have c1:=K.c 1 rfl
 go_upto_region 5 with(fail)
 refine K.cw fun W K=>?_
 clear c2 c1
 go_wp2_with (first | refine bu (K.sub 2 rfl 10 [.slice C k v,.int .i64 t.q,.int .i64 t.a]) ?_ | refine K.ld 1 rfl ?_)
 refine(g _ _ K.xok (K.sl 3 rfl)).out.mono ?_
 rintro e w2 ⟨C2,k2,Z,rfl,x,I⟩
 have K:=(K.on x).ksl I
 clear x I g
 go_wp2_with (first | refine K.ld 3 rfl ?_ | refine K.ld 2 rfl ?_ | (refine K.lw fun W K=>?_;refine K.sr 0 rfl fun W K=>?_) | (refine K.sr 1 rfl fun W K=>?_))
 exact K.rc2 1 rfl rfl ⟨A,n,D,S,m,F,N,nn,E,C,k,v,rfl,K.slb 1 rfl,K.slb 2 rfl,K.slb 3 rfl,K.slb 4 rfl,K.below⟩
end
section
open Go.RowKit
theorem HH.mor {P:Program} {ops:Array Oper} {Q:Exit→Act→World→Prop} {md:Region.Mode} {S:World→Prop} {b W:World} {M X:List Nat} {L:List Itm} {F:List Fact} {fuel:Nat} {listed:Array Bool} {a:Act} (K:HH b M X W L F) (hS:∀ V,HH b M X V L F→S V) (h:wpAnyH P md ops Q (fun V=>HH b M X V L F) fuel listed a W):wpAnyH P md ops Q S fuel listed a W:=nL hS fuel h
theorem kP (l:List Sgi):(l.flatMap cI).length=l.length*7:=by
 induction l with
 | nil=>rfl
 | cons y l ih=>rw[List.flatMap_cons,List.length_append,ih,List.length_cons];simp[cI];omega
set_option maxHeartbeats 6000000 in
theorem vE (f:List Sgi) (x:Sgi) (m:Nat) (fs:List Fil) (room:Int) (ps:List Prt) (t:St) (h:eC fs room ps [] t) (be:∀ p ∈ ps,(p.al:Int)≤p.s.size) (b i:Int) (bb:dM b i=true) (A:Option Addr) (n I:Nat) (S:Option Addr) (mc:Nat) (N:Option Addr) (nn cn:Nat) (C:Option Addr) (k L:Nat) (O:Int) (bh:0≤O∧O≤t.q) (J:cF t)
 (X:List Nat) (w:World) (hX:XOk X w) (B:Sl az w X A n I fs) (D:Sl bC w X S (m+1) mc (ps.map aC)) (M:Sl af w X N nn cn (ah ps).ns) (Z:nn≤1000) (o:Sl aB w X C k L t.cs) (hp:aX w)
 (eq ea z:Int) (d:ByteArray) (ex u y:Int) (ab:d.size≤maxLen) (hm:cS t ⟨t.q+1,ea,z,d,ex,u,y⟩=0) (P:ps.map aC=f ++ [x]) (hx:(1≤x.num∧x.num≤99999999)∧True∧x.fi<x.la∧(0≤x.sz∧x.sz≤1000000)∧(0≤x.fr∧x.fr≤1099511627776)) (bi:0≤ea∧ea≤1099511627776) (bd:x.sd=false) (ao:iN x (ah ps) b i ⟨t.q+1,ea,z,d,ex,u,y⟩=false)
 (hc:ei (ah ps) ⟨t.q+1,ea,z,d,ex,u,y⟩=0) (bs:List UInt8) (ae:av 2 (aN (ah ps) ⟨t.q+1,ea,z,d,ex,u,y⟩)=bs) (bl:bs.length≤1000) (hrun:fo room [.wr (aA x.num.toNat) bs] fs) (hroom:(aI fs:Int)+bs.length≤room):
 Calls Tryz.prog 10 #[.agg (jnA A n I room b i S (m+1) mc (ah ps).q (ah ps).a N nn cn C k L t.q t.a O 0 false).toArray,.agg #[.int .i64 eq,.int .i64 ea,.int .i64 z,.string d,.int .i64 ex,.int .i64 u,.int .i64 y]] w (fP (cU [.wr (aA x.num.toNat) bs] fs) room b i (f ++ [{ x with sz:=x.sz+bs.length,la:=t.q+1,tt:=ea }]) (bR (ah ps) ⟨t.q+1,ea,z,d,ex,u,y⟩) (bJ t ⟨t.q+1,ea,z,d,ex,u,y⟩) O 0 X w):=by
 have ag:n≤64:=by have Q:=B.len;have T:=h.dk.1;simp only at T;omega
 have hu64:aI fs≤65536:=by have Q:=h.dk.2.2.2.2.2;have T:=h.dk.2.2.1;simp only at Q T;omega
 have H:=Lib.hid P
 have am:=Lib.hid hrun
 have aw:=Lib.hid hc
 have bj:=Lib.hid ae
 clear P hrun hc ae
 have bc:=Lib.hid ao
 clear ao
 have bo:=J.2.2.1
 have bp:=J.2.1
 have br:wrap64 (t.q+1)=t.q+1:=by unfold wrap64;omega
 have bn:m+1≤64:=by
  have Q:=D.len
  have T:=(dS fs h.nm).1
  have h3:=h.dk.1
  rw[h.rows]at T
  simp only[List.length_map]at Q T h3
  simp only[List.length_nil]at T
  omega
 have HM:=fun(w:World) (X:List Nat) (hX:XOk X w) (B:Sl az w X A n I fs) (D:Sl bC w X S (m+1) mc (ps.map aC)) (M:Sl af w X N nn cn (ah ps).ns) (o:Sl aB w X C k L t.cs) (hp:aX w)=>Lib.hid (gW fs room ps t h be b i bb A n I S (m+1) mc N nn cn C k L O bh false J X w hX B D M Z o hp)
 have E:=fun(w:World) (X:List Nat) (hX:XOk X w) (o:Sl aB w X C k L t.cs)=>Lib.hid (iJ t ⟨t.q+1,ea,z,d,ex,u,y⟩ C k L X w hX o J ab)
 simp only[jnA,evA]at HM E ⊢
 simp only[dR,hm,if_true]at E
 obtain⟨t2,ac⟩:∃ t2,t2=bJ t ⟨t.q+1,ea,z,d,ex,u,y⟩:=⟨_,rfl⟩
 simp only[←ac]at E ⊢
 clear ac hm
 go_enter Tryz.func10,Tryz.ntmps10
 go_upto_region 1 with(fail)
 refine(hstart hX).cw fun W K=>?_
 have K:=(((K.ksl0 o).ksl0 M).ksl0 D).ksl0 B
 clear o M D B
 go_wp2_with (first | refine K.ld 2 rfl ?_)
 refine(HM _ _ K.xok (K.sl 0 rfl) (K.sl 1 rfl) (K.sl 2 rfl) (K.sl 3 rfl) (hp.on K.below)).out.mono ?_
 rintro e w1 ⟨rfl,l⟩
 have K:=K.on l
 clear l HM
 have c2:=K.r 2 rfl
 have c1:=K.c 1 rfl
 go_upto_region 5 with(fail)
 refine K.cw fun W K=>?_
 clear c2 c1
 go_wp2_with (first | refine bu (K.sub 2 rfl 10 [.slice C k L,.int .i64 t.q,.int .i64 t.a]) ?_ | refine K.ld 1 rfl ?_)
 refine(E _ _ K.xok (K.sl 3 rfl)).out.mono ?_
 rintro e w2 ⟨C2,k2,R,rfl,l,F⟩
 have K:=(K.on l).ksl F
 clear l F E
 go_upto_region 6 with(refine K.lw fun W K=>?_;refine K.sr 0 rfl fun W K=>?_)
 have c3:=K.r 3 rfl
 go_upto_region 10 with(fail)
 clear c3
 go_upto_region 11 with(first | refine K.ld 3 rfl ?_ | (refine K.lw fun W K=>?_;refine K.sr 0 rfl fun W K=>?_))
 have c4:=K.r 4 rfl
 go_wp2_with fail
 refine(gV S (m+1) mc _ _ K.xok (K.sl 2 rfl) (by omega)).mono ?_
 rintro e w3 ⟨v,vs,rfl,ad,ho,l⟩
 have K:=(K.kra ad).nrow l ho
 clear c4 l ad ho
 obtain⟨G,cap,rfl,-⟩:=aE (K.row 0 rfl)
 have c1:=K.c 1 rfl
 go_upto_region 12 with(fail)
 refine K.cw fun W K=>?_
 clear c1
 have K:=(K.nrow (e:=144) (size:=1) (n:=0) (v := .slice none 0 0) (xs:=[]) (Below.refl _ _) ⟨rfl,.inl ⟨rfl,rfl⟩⟩).kra (s:=dh) (vs:=[]) (xs:=[]) rfl
 have K:=(((K.mv 2 rfl).mv 1 rfl).up 5 rfl).up 1 rfl
 obtain⟨g,rfl⟩:=fY (K.row 2 rfl) (Nat.succ_pos m)
 have ar:vs=f.flatMap cI++cI x:=by
  rw[(aM.1 (K.ra 3 rfl)).1,H.out]
  simp
 subst ar
 have hpre:(f.flatMap cI).length=m*7:=by
  have Q:=(K.sl 6 rfl).len
  rw[H.out,List.length_append,List.length_singleton]at Q
  rw[kP]
  omega
 go_wp2_with (first | refine K.ld 6 rfl ?_ | refine K.ld 5 rfl ?_)
 refine(mZ (ps.map aC) x m (by
  have Q:=(K.sl 6 rfl).len
  rw[H.out,List.length_append,List.length_singleton]at Q
  rw[H.out,show m=f.length by omega]
  simp) (ah ps).ns ⟨t.q+1,ea,z,d,ex,u,y⟩ A n I room b i S mc (ah ps).q (ah ps).a N nn cn C k L t.q t.a O 0 false _ _ K.xok (K.sl 6 rfl) (K.sl 1 rfl) Z ab (by omega) hx.2.2.1 hx.2.2.2.1 bi hx.2.2.2.2).mono ?_
 rw[show iN x ⟨(ah ps).q,(ah ps).a,(ah ps).ns⟩ b i ⟨t.q+1,ea,z,d,ex,u,y⟩=false from bc.out]
 rintro e w4 ⟨rfl,l⟩
 have K:=K.on l
 clear l
 go_upto_region 14 with(fail)
 go_wp2_with fail
 refine(lB _ g m cap false _ (by omega) (K.r 1 rfl 6) (K.rowc 2 rfl (by rw[ew hpre];simp[cI,bd]))).mono ?_
 rintro e w5 ⟨rfl,rfl⟩
 go_upto_region 16 with(fail)
 refine K.rgt (fun V h=>h.tl.tl.tl.ft.ft) fun W K=>?_
 refine tL 0 (fun _ h=>h.at_ 2 rfl) K.tl.tl.tl.ft.ft ?_ (hy:=fun w hw=>aD hw)
 refine tC 1 fun K' hK=>?_
 go_simp
 refine(mM _ g m cap (f.flatMap cI) x _ _ (ah ps).ns ⟨t.q+1,ea,z,d,ex,u,y⟩ _ _ _ _ _ _ _ _ _ _ _ _ _ _ _ _ _ _ _ _ _ K hp hpre (by omega) hx.1 hx.2.2.2.1 (by omega) (by omega) Z ab aw.out bs bj.out bl).mono ?_
 rintro e w7 ⟨S2,Y,ss2,A4,n4,c4,rfl,K⟩
 try simp only[Int.zero_add]at K
 refine hK.out _ _ K.tl.tl.tl.ft.ft fun _=>?_
 clear hK K'
 try simp only[Act.put,aq,aj,ai]
 refine K.mor (fun V h=>h.tl.tl.tl.ft.ft) ?_
 refine tK 2 K ?_
 refine tK 3 K ?_
 refine tK 4 K ?_
 refine tL 5 (fun _ h=>h.sub 6 rfl 0 [.slice A n I,.int .i64 room,.int .i64 (-1),.bool false]) K ?_ (hy:=fun w hw=>aD hw)
 refine tK 7 K ?_
 refine tL 8 (fun _ h=>h.r 1 rfl) K ?_
 refine tK 10 K ?_
 refine tK 11 K ?_
 refine tL 12 (fun _ h=>h.r 6 rfl) K ?_
 refine tC 6 fun K' hK=>?_
 go_simp
 refine(fV fs A n I room _ _ K.xok (K.sl 5 rfl) ag hu64).mono ?_
 rintro e w8 ⟨rfl,l⟩
 have K:=K.on l
 refine hK.out _ _ K fun _=>?_
 clear hK K' l
 try simp only[Act.put,aq,aj,ai]
 have bk:IntKind.i64.wrap ((aI fs:Int)+((bs.length:Int)))=(aI fs:Int)+((bs.length:Int)):=IntWalk.i64_in _ (by omega)
 have ba:¬ room<(aI fs:Int)+((bs.length:Int)):=by omega
 refine tK 9 K ?_
 refine tK 13 K ?_
 refine tK 14 K ?_
 refine tE ?_
 obtain⟨S3,bq,e3,KS⟩:=K.out.done_row (s:=dh) 0 rfl (K.ra 0 rfl) (by decide) (by simp)
 injection e3 with e4 e5 e6
 subst e4 e6
 have K:=KS.hh
 clear KS e5 bk ba
 have c0:=K.r 0 rfl
 go_wp2_with (first | refine bu (K.sub 5 rfl 0 [.slice A n I,.int .i64 room,.int .i64 (-1),.bool false]) ?_)
 refine(kW [.wr (aA x.num.toNat) bs] fs room S2 (0+1) Y A n I _ _ K.xok (K.sl 6 rfl) (K.sl 0 rfl) am.out (by omega)).mono ?_
 rintro e w9 ⟨B6,c6,rfl,F,l⟩
 have K:=(K.on l).ksl F
 clear l F c0
 obtain⟨U,j⟩:∃ fz,fz=cU [.wr (aA x.num.toNat) bs] fs:=⟨_,rfl⟩
 rw[←j]at K ⊢
 have ap:=Lib.hid j
 clear j
 go_upto_region 22 with(refine K.lw fun W K=>?_;refine K.sr 0 rfl fun W K=>?_)
 go_upto_region 23 with(first | refine K.ld 0 rfl ?_ | refine K.ss (new:=wA (.slice B6 U.length c6) (.int .i64 room) (.int .i64 (-1)) (.bool false) (.int .i64 b) (.int .i64 i) (some ⟨g,0,none⟩) (m+1) cap (t.q+1) ea A4 n4 c4 (.slice C k L) t.q t.a O (.int .i64 0) (.bool false) S2 (0+1) Y ((bs.length:Int))) 1 rfl fun W K=>?_)
 go_upto_region 24 with(first | refine K.ld 3 rfl ?_ | refine K.ss (new:=wA (.slice B6 U.length c6) (.int .i64 room) (.int .i64 (-1)) (.bool false) (.int .i64 b) (.int .i64 i) (some ⟨g,0,none⟩) (m+1) cap (t.q+1) ea A4 n4 c4 (.slice C2 k2 R) t2.q t2.a O (.int .i64 0) (.bool false) S2 (0+1) Y ((bs.length:Int))) 1 rfl fun W K=>?_)
 go_wp2_with (first | refine bu (K.sub 1 rfl 0 (jnA B6 U.length c6 room b i (some ⟨g,0,none⟩) (m+1) cap (t.q+1) ea A4 n4 c4 C2 k2 R t2.q t2.a O 0 false)) ?_ | (refine K.sr 4 rfl fun W K=>?_))
 obtain⟨S4,bt,e7,KS⟩:=K.out.done_row (s:=bC) (xs:=f ++ [{ x with sz:=x.sz+bs.length,la:=t.q+1,tt:=ea }]) 2 rfl (aM.2 ⟨by simp,fun _ _=>trivial⟩) (by decide) (by simp)
 injection e7 with e8 e9 bm
 have K1:=KS.hh
 rw[←e8,←bm]at K1
 have j:=ap.out
 subst j
 exact K.rc2 4 rfl rfl ⟨B6,_,c6,some ⟨g,0,none⟩,m+1,cap,A4,n4,c4,C2,k2,R,rfl,K.slb 0 rfl,K1.slb 0 rfl,K.slb 3 rfl,K.slb 6 rfl,K.below⟩
end
section
open Go.RowKit
set_option maxHeartbeats 6000000 in
theorem uo  (fs:List Fil) (room:Int) (ps:List Prt) (t:St) (h:eC fs room ps [] t) (bi:∀ p ∈ ps,(p.al:Int)≤p.s.size) (b j:Int) (bh:dM b j=true) (A:Option Addr) (n D:Nat) (S:Option Addr) (U:Nat) (N:Option Addr) (nn cn:Nat) (C:Option Addr) (k H:Nat) (J:Int) (bj:0≤J∧J≤t.q) (x:cF t)
 (X:List Nat) (w:World) (hX:XOk X w) (o:Sl az w X A n D fs) (y:Sl bC w X S 0 U (ps.map aC)) (I:Sl af w X N nn cn (ah ps).ns) (bl:nn≤1000) (u:Sl aB w X C k H t.cs) (Z:aX w)
 (eq ea L:Int) (d:ByteArray) (ex E F:Int) (ap:d.size≤maxLen) (hm:cS t ⟨t.q+1,ea,L,d,ex,E,F⟩=0) (ag:ps.map aC = [])
 (bx:fs.length<64) (l m:List UInt8) (hc:kV (((0+1):Nat):Int) ⟨t.q,t.a,[]⟩=(l,0)) (ao:l.length≤1000) (ad:av 2 (aN ⟨t.q,t.a,[]⟩ ⟨t.q+1,ea,L,d,ex,E,F⟩)=m) (ar:m.length≤1000) (hrun:fo room [.mk (aA (0+1)),.wr (aA (0+1)) l,.wr (aA (0+1)) m] fs) (hroom:(aI fs:Int)+((l.length:Int)+(m.length:Int))≤room):
 Calls Tryz.prog 10 #[.agg (jnA A n D room b j S 0 U (ah ps).q (ah ps).a N nn cn C k H t.q t.a J 0 false).toArray,.agg #[.int .i64 eq,.int .i64 ea,.int .i64 L,.string d,.int .i64 ex,.int .i64 E,.int .i64 F]] w (fP (cU [.mk (aA (0+1)),.wr (aA (0+1)) l,.wr (aA (0+1)) m] fs) room b j ([⟨(((0+1):Nat):Int),t.q,t.q+1,t.a,ea,(l.length:Int)+m.length,false⟩]) (bR ⟨t.q,t.a,[]⟩ ⟨t.q+1,ea,L,d,ex,E,F⟩) (bJ t ⟨t.q+1,ea,L,d,ex,E,F⟩) J 0 X w):=by
 have aw:=fG x hm
 have bb:=Lib.hid aw
 clear aw
 have ae:n≤64:=by have Q:=o.len;have O:=h.dk.1;simp only at O;omega
 have hu64:aI fs≤65536:=by have Q:=h.dk.2.2.2.2.2;have O:=h.dk.2.2.1;simp only at Q O;omega
 have am:=Lib.hid hrun
 have bd:=Lib.hid hc
 have bm:=Lib.hid ad
 clear hrun hc ad
 have bk:n≤63:=by have Q:=o.len;omega
 have bt:=Lib.hid ag
 clear ag
 have br:=x.2.2.1
 have bs:=x.2.1
 have bz:wrap64 (t.q+1)=t.q+1:=by unfold wrap64;omega
 have bp:0≤64:=by
  have Q:=y.len
  have O:=(dS fs h.nm).1
  have h3:=h.dk.1
  rw[h.rows]at O
  simp only[List.length_map]at Q O h3
  simp only[List.length_nil]at O
  omega
 have HM:=fun(w:World) (X:List Nat) (hX:XOk X w) (o:Sl az w X A n D fs) (y:Sl bC w X S 0 U (ps.map aC)) (I:Sl af w X N nn cn (ah ps).ns) (u:Sl aB w X C k H t.cs) (Z:aX w)=>Lib.hid (gW fs room ps t h bi b j bh A n D S 0 U N nn cn C k H J bj false x X w hX o y I bl u Z)
 have z:=fun(w:World) (X:List Nat) (hX:XOk X w) (u:Sl aB w X C k H t.cs)=>Lib.hid (iJ t ⟨t.q+1,ea,L,d,ex,E,F⟩ C k H X w hX u x ap)
 simp only[jnA,evA]at HM z ⊢
 simp only[dR,hm,if_true]at z
 obtain⟨T,ab⟩:∃ T,T=bJ t ⟨t.q+1,ea,L,d,ex,E,F⟩:=⟨_,rfl⟩
 simp only[←ab]at z ⊢
 clear ab hm
 go_enter Tryz.func10,Tryz.ntmps10
 go_upto_region 1 with(fail)
 refine(hstart hX).cw fun W K=>?_
 have K:=(((K.ksl0 u).ksl0 I).ksl0 y).ksl0 o
 clear u I y o
 go_wp2_with (first | refine K.ld 2 rfl ?_)
 refine(HM _ _ K.xok (K.sl 0 rfl) (K.sl 1 rfl) (K.sl 2 rfl) (K.sl 3 rfl) (Z.on K.below)).out.mono ?_
 rintro e w1 ⟨rfl,i⟩
 have K:=K.on i
 clear i HM
 have c2:=K.r 2 rfl
 have c1:=K.c 1 rfl
 go_upto_region 5 with(fail)
 refine K.cw fun W K=>?_
 clear c2 c1
 go_wp2_with (first | refine bu (K.sub 2 rfl 10 [.slice C k H,.int .i64 t.q,.int .i64 t.a]) ?_ | refine K.ld 1 rfl ?_)
 refine(z _ _ K.xok (K.sl 3 rfl)).out.mono ?_
 rintro e w2 ⟨C2,k2,M,rfl,i,B⟩
 have K:=(K.on i).ksl B
 clear i B z
 go_upto_region 6 with(refine K.lw fun W K=>?_;refine K.sr 0 rfl fun W K=>?_)
 have c3:=K.r 3 rfl
 go_upto_region 10 with(fail)
 clear c3
 go_upto_region 11 with(first | refine K.ld 3 rfl ?_ | (refine K.lw fun W K=>?_;refine K.sr 0 rfl fun W K=>?_))
 have Y:=K.r 4 rfl
 go_wp2_with fail
 refine(gV S 0 U _ _ K.xok (K.sl 2 rfl) (by omega)).mono ?_
 rintro e w3 ⟨v,vs,rfl,ac,ho,i⟩
 have K:=(K.kra ac).nrow i ho
 clear Y i ac ho
 obtain⟨G,cap,rfl,-⟩:=aE (K.row 0 rfl)
 have c1:=K.c 1 rfl
 go_upto_region 12 with(fail)
 refine K.cw fun W K=>?_
 clear c1
 have K:=(K.nrow (e:=144) (size:=1) (n:=0) (v := .slice none 0 0) (xs:=[]) (Below.refl _ _) ⟨rfl,.inl ⟨rfl,rfl⟩⟩).kra (s:=dh) (vs:=[]) (xs:=[]) rfl
 have K:=(((K.mv 2 rfl).mv 1 rfl).up 5 rfl).up 1 rfl
 go_wp2_with (first | refine K.ld 6 rfl ?_ | refine K.ld 5 rfl ?_)
 refine(yj ⟨t.q+1,ea,L,d,ex,E,F⟩ A n D room b j S U (ah ps).q (ah ps).a N nn cn C k H t.q t.a J 0 false _ _ K.xok).mono ?_
 rintro e w4 ⟨rfl,i⟩
 have K:=K.on i
 clear i
 have bc:vs = []:=by
  have Q:=(K.sl 6 rfl).len
  rw[(aM.1 (K.ra 3 rfl)).1,List.eq_nil_of_length_eq_zero Q.symm]
  rfl
 subst bc
 go_upto_region 14 with(fail)
 go_wp2_with fail
 refine(uB _ cap G _ (K.r 1 rfl 6)).mono ?_
 rintro e w5 ⟨rfl,rfl⟩
 go_wp2_with fail
 refine(rG _ 0 G cap [] _ _ A n D _ _ _ _ _ _ _ _ _ _ _ _ _ _ _ _ _ _ _ _ K Z (rfl) (by omega) (fun kk hk=>by omega) bk (by omega) (by omega) l bd.out ao).mono ?_
 rintro e w6 ⟨S1,bq,ss1,g,cap,rfl,K⟩
 try simp only[Int.zero_add]at K
 have K:=(K.ksl (s:=af) (A:=none) (n:=0) (c:=0) (xs:=[]) Sl.nil_).up 1 rfl
 go_upto_region 16 with(fail)
 refine K.rgt (fun V h=>h.tl.tl.tl.ft.ft) fun W K=>?_
 refine tL 0 (fun _ h=>h.at_ 2 rfl) K.tl.tl.tl.ft.ft ?_ (hy:=fun w hw=>aD hw)
 refine tC 1 fun K' hK=>?_
 go_simp
 refine(mM _ g 0 cap [] ⟨(((0+1):Nat):Int),t.q,t.q,t.a,t.a,l.length,false⟩ _ _ [] ⟨t.q+1,ea,L,d,ex,E,F⟩ _ _ _ _ _ _ _ _ _ _ _ _ _ _ _ _ _ _ _ _ _ K Z (rfl) (by omega) ⟨by simp only;omega,by simp only;omega⟩ ⟨by simp only;omega,by simp only;omega⟩ (by omega) (by omega) (by omega) ap bb.out m bm.out ar).mono ?_
 rintro e w7 ⟨S2,R,ss2,A4,n4,Y,rfl,K⟩
 try simp only[Int.zero_add]at K
 refine hK.out _ _ K.tl.tl.tl.ft.ft fun _=>?_
 clear hK K'
 try simp only[Act.put,aq,aj,ai]
 refine K.mor (fun V h=>h.tl.tl.tl.ft.ft) ?_
 refine tK 2 K ?_
 refine tK 3 K ?_
 refine tK 4 K ?_
 refine tL 5 (fun _ h=>h.sub 6 rfl 0 [.slice A n D,.int .i64 room,.int .i64 (-1),.bool false]) K ?_ (hy:=fun w hw=>aD hw)
 refine tK 7 K ?_
 refine tL 8 (fun _ h=>h.r 1 rfl) K ?_
 refine tK 10 K ?_
 refine tK 11 K ?_
 refine tL 12 (fun _ h=>h.r 6 rfl) K ?_
 refine tC 6 fun K' hK=>?_
 go_simp
 refine(fV fs A n D room _ _ K.xok (K.sl 7 rfl) ae hu64).mono ?_
 rintro e w8 ⟨rfl,i⟩
 have K:=K.on i
 refine hK.out _ _ K fun _=>?_
 clear hK K' i
 try simp only[Act.put,aq,aj,ai]
 have bn:IntKind.i64.wrap ((aI fs:Int)+((l.length:Int)+(m.length:Int)))=(aI fs:Int)+((l.length:Int)+(m.length:Int)):=IntWalk.i64_in _ (by omega)
 have be:¬ room<(aI fs:Int)+((l.length:Int)+(m.length:Int)):=by omega
 refine tK 9 K ?_
 refine tK 13 K ?_
 refine tK 14 K ?_
 refine tE ?_
 obtain⟨S3,bv,e3,KS⟩:=K.out.done_row (s:=dh) 0 rfl (K.ra 0 rfl) (by decide) (by simp)
 injection e3 with e4 e5 e6
 subst e4 e6
 have K:=KS.hh
 clear KS e5 bn be
 have c0:=K.r 0 rfl
 go_wp2_with (first | refine bu (K.sub 5 rfl 0 [.slice A n D,.int .i64 room,.int .i64 (-1),.bool false]) ?_)
 refine(kW [.mk (aA (0+1)),.wr (aA (0+1)) l,.wr (aA (0+1)) m] fs room S2 (0+2+1) R A n D _ _ K.xok (K.sl 8 rfl) (K.sl 0 rfl) am.out (by omega)).mono ?_
 rintro e w9 ⟨B6,c6,rfl,B,i⟩
 have K:=(K.on i).ksl B
 clear i B c0
 obtain⟨P,f⟩:∃ fz,fz=cU [.mk (aA (0+1)),.wr (aA (0+1)) l,.wr (aA (0+1)) m] fs:=⟨_,rfl⟩
 rw[←f]at K ⊢
 have ba:=Lib.hid f
 clear f
 go_upto_region 22 with(refine K.lw fun W K=>?_;refine K.sr 0 rfl fun W K=>?_)
 go_upto_region 23 with(first | refine K.ld 0 rfl ?_ | refine K.ss (new:=wA (.slice B6 P.length c6) (.int .i64 room) (.int .i64 (-1)) (.bool false) (.int .i64 b) (.int .i64 j) (some ⟨g,0,none⟩) (0+1) cap (t.q+1) ea A4 n4 Y (.slice C k H) t.q t.a J (.int .i64 0) (.bool false) S2 (0+2+1) R ((l.length:Int)+(m.length:Int))) 1 rfl fun W K=>?_)
 go_upto_region 24 with(first | refine K.ld 3 rfl ?_ | refine K.ss (new:=wA (.slice B6 P.length c6) (.int .i64 room) (.int .i64 (-1)) (.bool false) (.int .i64 b) (.int .i64 j) (some ⟨g,0,none⟩) (0+1) cap (t.q+1) ea A4 n4 Y (.slice C2 k2 M) T.q T.a J (.int .i64 0) (.bool false) S2 (0+2+1) R ((l.length:Int)+(m.length:Int))) 1 rfl fun W K=>?_)
 go_wp2_with (first | refine bu (K.sub 1 rfl 0 (jnA B6 P.length c6 room b j (some ⟨g,0,none⟩) (0+1) cap (t.q+1) ea A4 n4 Y C2 k2 M T.q T.a J 0 false)) ?_ | (refine K.sr 4 rfl fun W K=>?_))
 obtain⟨S4,ca,e7,KS⟩:=K.out.done_row (s:=bC) (xs:=[⟨(((0+1):Nat):Int),t.q,t.q+1,t.a,ea,(l.length:Int)+m.length,false⟩]) 2 rfl (aM.2 ⟨by simp,fun _ _=>trivial⟩) (by decide) (by simp)
 injection e7 with e8 e9 bo
 have K1:=KS.hh
 rw[←e8,←bo]at K1
 have f:=ba.out
 subst f
 exact K.rc2 4 rfl rfl ⟨B6,_,c6,some ⟨g,0,none⟩,0+1,cap,A4,n4,Y,C2,k2,M,rfl,K.slb 0 rfl,K1.slb 0 rfl,K.slb 3 rfl,K.slb 8 rfl,K.below⟩
end
section
open Go.RowKit
set_option maxHeartbeats 6000000 in
theorem nD (d:List Sgi) (x:Sgi) (k1:Nat) (fs:List Fil) (room:Int) (ps:List Prt) (t:St) (h:eC fs room ps [] t) (bm:∀ p ∈ ps,(p.al:Int)≤p.s.size) (b i:Int) (bk:dM b i=true) (A:Option Addr) (n M:Nat) (S:Option Addr) (mc:Nat) (N:Option Addr) (nn cn:Nat) (C:Option Addr) (k P:Nat) (R:Int) (bn:0≤R∧R≤t.q) (D:cF t)
 (X:List Nat) (w:World) (hX:XOk X w) (y:Sl az w X A n M fs) (F:Sl bC w X S (k1+1) mc (ps.map aC)) (Q:Sl af w X N nn cn (ah ps).ns) (aw:nn≤1000) (z:Sl aB w X C k P t.cs) (hp:aX w)
 (eq ea J:Int) (f:ByteArray) (ex E H:Int) (ad:f.size≤maxLen) (hm:cS t ⟨t.q+1,ea,J,f,ex,E,H⟩=0) (T:ps.map aC=d ++ [x]) (hx:(1≤x.num∧x.num≤99999999)∧True∧x.fi<x.la∧(0≤x.sz∧x.sz≤1000000)∧(0≤x.fr∧x.fr≤1099511627776)) (bp:0≤ea∧ea≤1099511627776) (ab:x.num=((k1+1:Nat):Int)) (ap:x.sd=true)
 (cb:fs.length<64) (o u:List UInt8) (hc:kV (((k1+1+1):Nat):Int) ⟨t.q,t.a,[]⟩=(o,0)) (ba:o.length≤1000) (am:av 2 (aN ⟨t.q,t.a,[]⟩ ⟨t.q+1,ea,J,f,ex,E,H⟩)=u) (bb:u.length≤1000) (hrun:fo room [.mk (aA (k1+1+1)),.wr (aA (k1+1+1)) o,.wr (aA (k1+1+1)) u] fs) (hroom:(aI fs:Int)+((o.length:Int)+(u.length:Int))≤room):
 Calls Tryz.prog 10 #[.agg (jnA A n M room b i S (k1+1) mc (ah ps).q (ah ps).a N nn cn C k P t.q t.a R 0 false).toArray,.agg #[.int .i64 eq,.int .i64 ea,.int .i64 J,.string f,.int .i64 ex,.int .i64 E,.int .i64 H]] w (fP (cU [.mk (aA (k1+1+1)),.wr (aA (k1+1+1)) o,.wr (aA (k1+1+1)) u] fs) room b i ((d ++ [x]) ++ [⟨(((k1+1+1):Nat):Int),t.q,t.q+1,t.a,ea,(o.length:Int)+u.length,false⟩]) (bR ⟨t.q,t.a,[]⟩ ⟨t.q+1,ea,J,f,ex,E,H⟩) (bJ t ⟨t.q+1,ea,J,f,ex,E,H⟩) R 0 X w):=by
 have bc:=fG D hm
 have be:=Lib.hid bc
 clear bc
 have ao:n≤64:=by have B:=y.len;have Y:=h.dk.1;simp only at Y;omega
 have hu64:aI fs≤65536:=by have B:=h.dk.2.2.2.2.2;have Y:=h.dk.2.2.1;simp only at B Y;omega
 have O:=Lib.hid T
 have ar:=Lib.hid hrun
 have bi:=Lib.hid hc
 have bq:=Lib.hid am
 clear T hrun hc am
 have bo:n≤63:=by have B:=y.len;omega
 have bl:Hid (iN x (ah ps) b i ⟨t.q+1,ea,J,f,ex,E,H⟩=false):=Lib.hid (by unfold iN;rw[if_pos ap])
 have bx:=D.2.2.1
 have bz:=D.2.1
 have cc:wrap64 (t.q+1)=t.q+1:=by unfold wrap64;omega
 have bt:(k1+1)≤63:=by
  have B:=F.len
  have Y:=(dS fs h.nm).1
  have h3:=h.dk.1
  rw[h.rows]at Y
  simp only[List.length_map]at B Y h3
  simp only[List.length_nil]at Y
  omega
 have HM:=fun(w:World) (X:List Nat) (hX:XOk X w) (y:Sl az w X A n M fs) (F:Sl bC w X S (k1+1) mc (ps.map aC)) (Q:Sl af w X N nn cn (ah ps).ns) (z:Sl aB w X C k P t.cs) (hp:aX w)=>Lib.hid (gW fs room ps t h bm b i bk A n M S (k1+1) mc N nn cn C k P R bn false D X w hX y F Q aw z hp)
 have I:=fun(w:World) (X:List Nat) (hX:XOk X w) (z:Sl aB w X C k P t.cs)=>Lib.hid (iJ t ⟨t.q+1,ea,J,f,ex,E,H⟩ C k P X w hX z D ad)
 simp only[jnA,evA]at HM I ⊢
 simp only[dR,hm,if_true]at I
 obtain⟨t2,ae⟩:∃ t2,t2=bJ t ⟨t.q+1,ea,J,f,ex,E,H⟩:=⟨_,rfl⟩
 simp only[←ae]at I ⊢
 clear ae hm
 go_enter Tryz.func10,Tryz.ntmps10
 go_upto_region 1 with(fail)
 refine(hstart hX).cw fun W K=>?_
 have K:=(((K.ksl0 z).ksl0 Q).ksl0 F).ksl0 y
 clear z Q F y
 go_wp2_with (first | refine K.ld 2 rfl ?_)
 refine(HM _ _ K.xok (K.sl 0 rfl) (K.sl 1 rfl) (K.sl 2 rfl) (K.sl 3 rfl) (hp.on K.below)).out.mono ?_
 rintro e w1 ⟨rfl,m⟩
 have K:=K.on m
 clear m HM
 have c2:=K.r 2 rfl
 have c1:=K.c 1 rfl
 go_upto_region 5 with(fail)
 refine K.cw fun W K=>?_
 clear c2 c1
 go_wp2_with (first | refine bu (K.sub 2 rfl 10 [.slice C k P,.int .i64 t.q,.int .i64 t.a]) ?_ | refine K.ld 1 rfl ?_)
 refine(I _ _ K.xok (K.sl 3 rfl)).out.mono ?_
 rintro e w2 ⟨C2,k2,U,rfl,m,L⟩
 have K:=(K.on m).ksl L
 clear m L I
 go_upto_region 6 with(refine K.lw fun W K=>?_;refine K.sr 0 rfl fun W K=>?_)
 have c3:=K.r 3 rfl
 go_upto_region 10 with(fail)
 clear c3
 go_upto_region 11 with(first | refine K.ld 3 rfl ?_ | (refine K.lw fun W K=>?_;refine K.sr 0 rfl fun W K=>?_))
 have c4:=K.r 4 rfl
 go_wp2_with fail
 refine(gV S (k1+1) mc _ _ K.xok (K.sl 2 rfl) (by omega)).mono ?_
 rintro e w3 ⟨v,vs,rfl,ag,ho,m⟩
 have K:=(K.kra ag).nrow m ho
 clear c4 m ag ho
 obtain⟨G,cap,rfl,-⟩:=aE (K.row 0 rfl)
 have c1:=K.c 1 rfl
 go_upto_region 12 with(fail)
 refine K.cw fun W K=>?_
 clear c1
 have K:=(K.nrow (e:=144) (size:=1) (n:=0) (v := .slice none 0 0) (xs:=[]) (Below.refl _ _) ⟨rfl,.inl ⟨rfl,rfl⟩⟩).kra (s:=dh) (vs:=[]) (xs:=[]) rfl
 have K:=(((K.mv 2 rfl).mv 1 rfl).up 5 rfl).up 1 rfl
 obtain⟨g,rfl⟩:=fY (K.row 2 rfl) (Nat.succ_pos k1)
 have bh:vs=d.flatMap cI++cI x:=by
  rw[(aM.1 (K.ra 3 rfl)).1,O.out]
  simp
 subst bh
 have hpre:(d.flatMap cI).length=k1*7:=by
  have B:=(K.sl 6 rfl).len
  rw[O.out,List.length_append,List.length_singleton]at B
  rw[kP]
  omega
 go_wp2_with (first | refine K.ld 6 rfl ?_ | refine K.ld 5 rfl ?_)
 refine(mZ (ps.map aC) x k1 (by
  have B:=(K.sl 6 rfl).len
  rw[O.out,List.length_append,List.length_singleton]at B
  rw[O.out,show k1=d.length by omega]
  simp) (ah ps).ns ⟨t.q+1,ea,J,f,ex,E,H⟩ A n M room b i S mc (ah ps).q (ah ps).a N nn cn C k P t.q t.a R 0 false _ _ K.xok (K.sl 6 rfl) (K.sl 1 rfl) aw ad (by omega) hx.2.2.1 hx.2.2.2.1 bp hx.2.2.2.2).mono ?_
 rw[show iN x ⟨(ah ps).q,(ah ps).a,(ah ps).ns⟩ b i ⟨t.q+1,ea,J,f,ex,E,H⟩=false from bl.out]
 rintro e w4 ⟨rfl,m⟩
 have K:=K.on m
 clear m
 go_upto_region 14 with(fail)
 go_wp2_with fail
 refine(lB _ g k1 cap true _ (by omega) (K.r 1 rfl 6) (K.rowc 2 rfl (by rw[ew hpre];simp[cI,ap]))).mono ?_
 rintro e w5 ⟨rfl,rfl⟩
 go_wp2_with fail
 refine(rG _ (k1+1) (some ⟨g,0,none⟩) cap (d.flatMap cI++cI x) _ _ A n M _ _ _ _ _ _ _ _ _ _ _ _ _ _ _ _ _ _ _ _ K hp (by rw[List.length_append,hpre];simp[cI];omega) (by omega) (fun kk hk=>by
  obtain rfl:kk=k1:=by omega
  have B:=ew (l:=cI x) hpre 0
  rw[Nat.add_zero]at B
  rw[B]
  simp[cI,ab]) bo (by omega) (by omega) o bi.out ba).mono ?_
 rintro e w6 ⟨S1,bv,ss1,g,cap,rfl,K⟩
 try simp only[Int.zero_add]at K
 have K:=(K.ksl (s:=af) (A:=none) (n:=0) (c:=0) (xs:=[]) Sl.nil_).up 1 rfl
 go_upto_region 16 with(fail)
 refine K.rgt (fun V h=>h.tl.tl.tl.ft.ft) fun W K=>?_
 refine tL 0 (fun _ h=>h.at_ 2 rfl) K.tl.tl.tl.ft.ft ?_ (hy:=fun w hw=>aD hw)
 refine tC 1 fun K' hK=>?_
 go_simp
 refine(mM _ g (k1+1) cap (d.flatMap cI++cI x) ⟨(((k1+1+1):Nat):Int),t.q,t.q,t.a,t.a,o.length,false⟩ _ _ [] ⟨t.q+1,ea,J,f,ex,E,H⟩ _ _ _ _ _ _ _ _ _ _ _ _ _ _ _ _ _ _ _ _ _ K hp (by rw[List.length_append,hpre];simp[cI];omega) (by omega) ⟨by simp only;omega,by simp only;omega⟩ ⟨by simp only;omega,by simp only;omega⟩ (by omega) (by omega) (by omega) ad be.out u bq.out bb).mono ?_
 rintro e w7 ⟨S2,ac,ss2,A4,n4,c4,rfl,K⟩
 try simp only[Int.zero_add]at K
 refine hK.out _ _ K.tl.tl.tl.ft.ft fun _=>?_
 clear hK K'
 try simp only[Act.put,aq,aj,ai]
 refine K.mor (fun V h=>h.tl.tl.tl.ft.ft) ?_
 refine tK 2 K ?_
 refine tK 3 K ?_
 refine tK 4 K ?_
 refine tL 5 (fun _ h=>h.sub 6 rfl 0 [.slice A n M,.int .i64 room,.int .i64 (-1),.bool false]) K ?_ (hy:=fun w hw=>aD hw)
 refine tK 7 K ?_
 refine tL 8 (fun _ h=>h.r 1 rfl) K ?_
 refine tK 10 K ?_
 refine tK 11 K ?_
 refine tL 12 (fun _ h=>h.r 6 rfl) K ?_
 refine tC 6 fun K' hK=>?_
 go_simp
 refine(fV fs A n M room _ _ K.xok (K.sl 7 rfl) ao hu64).mono ?_
 rintro e w8 ⟨rfl,m⟩
 have K:=K.on m
 refine hK.out _ _ K fun _=>?_
 clear hK K' m
 try simp only[Act.put,aq,aj,ai]
 have br:IntKind.i64.wrap ((aI fs:Int)+((o.length:Int)+(u.length:Int)))=(aI fs:Int)+((o.length:Int)+(u.length:Int)):=IntWalk.i64_in _ (by omega)
 have bj:¬ room<(aI fs:Int)+((o.length:Int)+(u.length:Int)):=by omega
 refine tK 9 K ?_
 refine tK 13 K ?_
 refine tK 14 K ?_
 refine tE ?_
 obtain⟨S3,ca,e3,KS⟩:=K.out.done_row (s:=dh) 0 rfl (K.ra 0 rfl) (by decide) (by simp)
 injection e3 with e4 e5 e6
 subst e4 e6
 have K:=KS.hh
 clear KS e5 br bj
 have c0:=K.r 0 rfl
 go_wp2_with (first | refine bu (K.sub 5 rfl 0 [.slice A n M,.int .i64 room,.int .i64 (-1),.bool false]) ?_)
 refine(kW [.mk (aA (k1+1+1)),.wr (aA (k1+1+1)) o,.wr (aA (k1+1+1)) u] fs room S2 (0+2+1) ac A n M _ _ K.xok (K.sl 8 rfl) (K.sl 0 rfl) ar.out (by omega)).mono ?_
 rintro e w9 ⟨B6,c6,rfl,L,m⟩
 have K:=(K.on m).ksl L
 clear m L c0
 obtain⟨Z,j⟩:∃ fz,fz=cU [.mk (aA (k1+1+1)),.wr (aA (k1+1+1)) o,.wr (aA (k1+1+1)) u] fs:=⟨_,rfl⟩
 rw[←j]at K ⊢
 have bd:=Lib.hid j
 clear j
 go_upto_region 22 with(refine K.lw fun W K=>?_;refine K.sr 0 rfl fun W K=>?_)
 go_upto_region 23 with(first | refine K.ld 0 rfl ?_ | refine K.ss (new:=wA (.slice B6 Z.length c6) (.int .i64 room) (.int .i64 (-1)) (.bool false) (.int .i64 b) (.int .i64 i) (some ⟨g,0,none⟩) ((k1+1)+1) cap (t.q+1) ea A4 n4 c4 (.slice C k P) t.q t.a R (.int .i64 0) (.bool false) S2 (0+2+1) ac ((o.length:Int)+(u.length:Int))) 1 rfl fun W K=>?_)
 go_upto_region 24 with(first | refine K.ld 3 rfl ?_ | refine K.ss (new:=wA (.slice B6 Z.length c6) (.int .i64 room) (.int .i64 (-1)) (.bool false) (.int .i64 b) (.int .i64 i) (some ⟨g,0,none⟩) ((k1+1)+1) cap (t.q+1) ea A4 n4 c4 (.slice C2 k2 U) t2.q t2.a R (.int .i64 0) (.bool false) S2 (0+2+1) ac ((o.length:Int)+(u.length:Int))) 1 rfl fun W K=>?_)
 go_wp2_with (first | refine bu (K.sub 1 rfl 0 (jnA B6 Z.length c6 room b i (some ⟨g,0,none⟩) ((k1+1)+1) cap (t.q+1) ea A4 n4 c4 C2 k2 U t2.q t2.a R 0 false)) ?_ | (refine K.sr 4 rfl fun W K=>?_))
 obtain⟨S4,cd,e7,KS⟩:=K.out.done_row (s:=bC) (xs:=(d ++ [x]) ++ [⟨(((k1+1+1):Nat):Int),t.q,t.q+1,t.a,ea,(o.length:Int)+u.length,false⟩]) 2 rfl (aM.2 ⟨by simp,fun _ _=>trivial⟩) (by decide) (by simp)
 injection e7 with e8 e9 bs
 have K1:=KS.hh
 rw[←e8,←bs]at K1
 have j:=bd.out
 subst j
 exact K.rc2 4 rfl rfl ⟨B6,_,c6,some ⟨g,0,none⟩,(k1+1)+1,cap,A4,n4,c4,C2,k2,U,rfl,K.slb 0 rfl,K1.slb 0 rfl,K.slb 3 rfl,K.slb 8 rfl,K.below⟩
end
section
open Go.RowKit
set_option maxHeartbeats 6000000 in
theorem nA (d:List Sgi) (x:Sgi) (k1:Nat) (fs:List Fil) (room:Int) (ps:List Prt) (t:St) (h:eC fs room ps [] t) (bq:∀ p ∈ ps,(p.al:Int)≤p.s.size) (b i:Int) (bo:dM b i=true) (A:Option Addr) (n O:Nat) (S:Option Addr) (mc:Nat) (N:Option Addr) (nn cn:Nat) (C:Option Addr) (k R:Nat) (su:Int) (br:0≤su∧su≤t.q) (E:cF t)
 (X:List Nat) (w:World) (hX:XOk X w) (z:Sl az w X A n O fs) (H:Sl bC w X S (k1+1) mc (ps.map aC)) (T:Sl af w X N nn cn (ah ps).ns) (ae:nn≤1000) (B:Sl aB w X C k R t.cs) (hp:aX w)
 (eq ea L:Int) (f:ByteArray) (ex F I:Int) (am:f.size≤maxLen) (hm:cS t ⟨t.q+1,ea,L,f,ex,F,I⟩=0) (U:ps.map aC=d ++ [x]) (hx:(1≤x.num∧x.num≤99999999)∧True∧x.fi<x.la∧(0≤x.sz∧x.sz≤1000000)∧(0≤x.fr∧x.fr≤1099511627776)) (bt:0≤ea∧ea≤1099511627776) (ac:x.num=((k1+1:Nat):Int)) (bd:iN x (ah ps) b i ⟨t.q+1,ea,L,f,ex,F,I⟩=true) (many:Int) (ag:x.la-x.fi=many) (Q:0≤many∧many≤1000000) (j:List UInt8) (bi:mm many (ah ps)=(j,0)) (ap:j.length≤1000)
 (ci:fs.length<64) (u y:List UInt8) (hc:kV (((k1+1+1):Nat):Int) ⟨t.q,t.a,[]⟩=(u,0)) (bc:u.length≤1000) (aw:av 2 (aN ⟨t.q,t.a,[]⟩ ⟨t.q+1,ea,L,f,ex,F,I⟩)=y) (be:y.length≤1000) (hrun:fo room [.wr (aA x.num.toNat) j,.sy (aA x.num.toNat),.mk (aA (k1+1+1)),.wr (aA (k1+1+1)) u,.wr (aA (k1+1+1)) y] fs) (hroom:(aI fs:Int)+((j.length:Int)+(u.length:Int)+(y.length:Int))≤room):
 Calls Tryz.prog 10 #[.agg (jnA A n O room b i S (k1+1) mc (ah ps).q (ah ps).a N nn cn C k R t.q t.a su 0 false).toArray,.agg #[.int .i64 eq,.int .i64 ea,.int .i64 L,.string f,.int .i64 ex,.int .i64 F,.int .i64 I]] w (fP (cU [.wr (aA x.num.toNat) j,.sy (aA x.num.toNat),.mk (aA (k1+1+1)),.wr (aA (k1+1+1)) u,.wr (aA (k1+1+1)) y] fs) room b i ((d ++ [{ x with sz:=x.sz+j.length,sd:=true }]) ++ [⟨(((k1+1+1):Nat):Int),t.q,t.q+1,t.a,ea,(u.length:Int)+y.length,false⟩]) (bR ⟨t.q,t.a,[]⟩ ⟨t.q+1,ea,L,f,ex,F,I⟩) (bJ t ⟨t.q+1,ea,L,f,ex,F,I⟩) t.q 0 X w):=by
 have bh:=fG E hm
 have bk:=Lib.hid bh
 clear bh
 have ba:n≤64:=by have D:=z.len;have Z:=h.dk.1;simp only at Z;omega
 have hu64:aI fs≤65536:=by have D:=h.dk.2.2.2.2.2;have Z:=h.dk.2.2.1;simp only at D Z;omega
 have P:=Lib.hid U
 have bb:=Lib.hid hrun
 have bm:=Lib.hid hc
 have bv:=Lib.hid aw
 clear U hrun hc aw
 have bs:n≤63:=by have D:=z.len;omega
 have bp:=Lib.hid bd
 have ca:=Lib.hid bi
 clear bd bi
 have cf:=E.2.2.1
 have cg:=E.2.1
 have cl:wrap64 (t.q+1)=t.q+1:=by unfold wrap64;omega
 have cb:(k1+1)≤63:=by
  have D:=H.len
  have Z:=(dS fs h.nm).1
  have h3:=h.dk.1
  rw[h.rows]at Z
  simp only[List.length_map]at D Z h3
  simp only[List.length_nil]at Z
  omega
 have HM:=fun(w:World) (X:List Nat) (hX:XOk X w) (z:Sl az w X A n O fs) (H:Sl bC w X S (k1+1) mc (ps.map aC)) (T:Sl af w X N nn cn (ah ps).ns) (B:Sl aB w X C k R t.cs) (hp:aX w)=>Lib.hid (gW fs room ps t h bq b i bo A n O S (k1+1) mc N nn cn C k R su br false E X w hX z H T ae B hp)
 have J:=fun(w:World) (X:List Nat) (hX:XOk X w) (B:Sl aB w X C k R t.cs)=>Lib.hid (iJ t ⟨t.q+1,ea,L,f,ex,F,I⟩ C k R X w hX B E am)
 simp only[jnA,evA]at HM J ⊢
 simp only[dR,hm,if_true]at J
 obtain⟨t2,ao⟩:∃ t2,t2=bJ t ⟨t.q+1,ea,L,f,ex,F,I⟩:=⟨_,rfl⟩
 simp only[←ao]at J ⊢
 clear ao hm
 go_enter Tryz.func10,Tryz.ntmps10
 go_upto_region 1 with(fail)
 refine(hstart hX).cw fun W K=>?_
 have K:=(((K.ksl0 B).ksl0 T).ksl0 H).ksl0 z
 clear B T H z
 go_wp2_with (first | refine K.ld 2 rfl ?_)
 refine(HM _ _ K.xok (K.sl 0 rfl) (K.sl 1 rfl) (K.sl 2 rfl) (K.sl 3 rfl) (hp.on K.below)).out.mono ?_
 rintro e w1 ⟨rfl,o⟩
 have K:=K.on o
 clear o HM
 have c2:=K.r 2 rfl
 have c1:=K.c 1 rfl
 go_upto_region 5 with(fail)
 refine K.cw fun W K=>?_
 clear c2 c1
 go_wp2_with (first | refine bu (K.sub 2 rfl 10 [.slice C k R,.int .i64 t.q,.int .i64 t.a]) ?_ | refine K.ld 1 rfl ?_)
 refine(J _ _ K.xok (K.sl 3 rfl)).out.mono ?_
 rintro e w2 ⟨C2,k2,Y,rfl,o,M⟩
 have K:=(K.on o).ksl M
 clear o M J
 go_upto_region 6 with(refine K.lw fun W K=>?_;refine K.sr 0 rfl fun W K=>?_)
 have c3:=K.r 3 rfl
 go_upto_region 10 with(fail)
 clear c3
 go_upto_region 11 with(first | refine K.ld 3 rfl ?_ | (refine K.lw fun W K=>?_;refine K.sr 0 rfl fun W K=>?_))
 have c4:=K.r 4 rfl
 go_wp2_with fail
 refine(gV S (k1+1) mc _ _ K.xok (K.sl 2 rfl) (by omega)).mono ?_
 rintro e w3 ⟨v,vs,rfl,ar,ho,o⟩
 have K:=(K.kra ar).nrow o ho
 clear c4 o ar ho
 obtain⟨G,cap,rfl,-⟩:=aE (K.row 0 rfl)
 have c1:=K.c 1 rfl
 go_upto_region 12 with(fail)
 refine K.cw fun W K=>?_
 clear c1
 have K:=(K.nrow (e:=144) (size:=1) (n:=0) (v := .slice none 0 0) (xs:=[]) (Below.refl _ _) ⟨rfl,.inl ⟨rfl,rfl⟩⟩).kra (s:=dh) (vs:=[]) (xs:=[]) rfl
 have K:=(((K.mv 2 rfl).mv 1 rfl).up 5 rfl).up 1 rfl
 obtain⟨g,rfl⟩:=fY (K.row 2 rfl) (Nat.succ_pos k1)
 have bl:vs=d.flatMap cI++cI x:=by
  rw[(aM.1 (K.ra 3 rfl)).1,P.out]
  simp
 subst bl
 have hpre:(d.flatMap cI).length=k1*7:=by
  have D:=(K.sl 6 rfl).len
  rw[P.out,List.length_append,List.length_singleton]at D
  rw[kP]
  omega
 go_wp2_with (first | refine K.ld 6 rfl ?_ | refine K.ld 5 rfl ?_)
 refine(mZ (ps.map aC) x k1 (by
  have D:=(K.sl 6 rfl).len
  rw[P.out,List.length_append,List.length_singleton]at D
  rw[P.out,show k1=d.length by omega]
  simp) (ah ps).ns ⟨t.q+1,ea,L,f,ex,F,I⟩ A n O room b i S mc (ah ps).q (ah ps).a N nn cn C k R t.q t.a su 0 false _ _ K.xok (K.sl 6 rfl) (K.sl 1 rfl) ae am (by omega) hx.2.2.1 hx.2.2.2.1 bt hx.2.2.2.2).mono ?_
 rw[show iN x ⟨(ah ps).q,(ah ps).a,(ah ps).ns⟩ b i ⟨t.q+1,ea,L,f,ex,F,I⟩=true from bp.out]
 rintro e w4 ⟨rfl,o⟩
 have K:=K.on o
 clear o
 go_wp2_with fail
 refine(AN _ g k1 cap (d.flatMap cI) x _ _ (ah ps).ns _ _ _ _ _ _ _ _ _ _ _ _ _ _ _ _ _ _ _ _ _ K hp hpre (by omega) hx.1 hx.2.2.2.1 (by omega) (by omega) ae many ag Q j ca.out ap).mono ?_
 rintro e w5 ⟨S0,co,cd,rfl,K⟩
 try simp only[Int.zero_add]at K
 go_upto_region 14 with(fail)
 go_wp2_with fail
 refine(lB _ g k1 cap true _ (by omega) (K.r 1 rfl 6) (K.rowc 2 rfl (by rw[ew hpre];simp[cI]))).mono ?_
 rintro e cc ⟨rfl,rfl⟩
 go_wp2_with fail
 refine(rG _ (k1+1) (some ⟨g,0,none⟩) cap (d.flatMap cI++cI { x with sz:=x.sz+j.length,sd:=true }) _ _ A n O _ _ _ _ _ _ _ _ _ _ _ _ _ _ _ _ _ _ _ _ K hp (by rw[List.length_append,hpre];simp[cI];omega) (by omega) (fun kk hk=>by
  obtain rfl:kk=k1:=by omega
  have D:=ew (l:=cI { x with sz:=x.sz+j.length,sd:=true }) hpre 0
  rw[Nat.add_zero]at D
  rw[D]
  simp[cI,ac]) bs (by omega) (by omega) u bm.out bc).mono ?_
 rintro e w6 ⟨S1,ce,ss1,g,cap,rfl,K⟩
 try simp only[Int.zero_add]at K
 have K:=(K.ksl (s:=af) (A:=none) (n:=0) (c:=0) (xs:=[]) Sl.nil_).up 1 rfl
 go_upto_region 16 with(fail)
 refine K.rgt (fun V h=>h.tl.tl.tl.ft.ft) fun W K=>?_
 refine tL 0 (fun _ h=>h.at_ 2 rfl) K.tl.tl.tl.ft.ft ?_ (hy:=fun w hw=>aD hw)
 refine tC 1 fun K' hK=>?_
 go_simp
 refine(mM _ g (k1+1) cap (d.flatMap cI++cI { x with sz:=x.sz+j.length,sd:=true }) ⟨(((k1+1+1):Nat):Int),t.q,t.q,t.a,t.a,u.length,false⟩ _ _ [] ⟨t.q+1,ea,L,f,ex,F,I⟩ _ _ _ _ _ _ _ _ _ _ _ _ _ _ _ _ _ _ _ _ _ K hp (by rw[List.length_append,hpre];simp[cI];omega) (by omega) ⟨by simp only;omega,by simp only;omega⟩ ⟨by simp only;omega,by simp only;omega⟩ (by omega) (by omega) (by omega) am bk.out y bv.out be).mono ?_
 rintro e w7 ⟨S2,ad,ss2,A4,n4,c4,rfl,K⟩
 try simp only[Int.zero_add]at K
 refine hK.out _ _ K.tl.tl.tl.ft.ft fun _=>?_
 clear hK K'
 try simp only[Act.put,aq,aj,ai]
 refine K.mor (fun V h=>h.tl.tl.tl.ft.ft) ?_
 refine tK 2 K ?_
 refine tK 3 K ?_
 refine tK 4 K ?_
 refine tL 5 (fun _ h=>h.sub 6 rfl 0 [.slice A n O,.int .i64 room,.int .i64 (-1),.bool false]) K ?_ (hy:=fun w hw=>aD hw)
 refine tK 7 K ?_
 refine tL 8 (fun _ h=>h.r 1 rfl) K ?_
 refine tK 10 K ?_
 refine tK 11 K ?_
 refine tL 12 (fun _ h=>h.r 6 rfl) K ?_
 refine tC 6 fun K' hK=>?_
 go_simp
 refine(fV fs A n O room _ _ K.xok (K.sl 6 rfl) ba hu64).mono ?_
 rintro e w8 ⟨rfl,o⟩
 have K:=K.on o
 refine hK.out _ _ K fun _=>?_
 clear hK K' o
 try simp only[Act.put,aq,aj,ai]
 have bx:IntKind.i64.wrap ((aI fs:Int)+((j.length:Int)+(u.length:Int)+(y.length:Int)))=(aI fs:Int)+((j.length:Int)+(u.length:Int)+(y.length:Int)):=IntWalk.i64_in _ (by omega)
 have bn:¬ room<(aI fs:Int)+((j.length:Int)+(u.length:Int)+(y.length:Int)):=by omega
 refine tK 9 K ?_
 refine tK 13 K ?_
 refine tK 14 K ?_
 refine tE ?_
 obtain⟨S3,ch,e3,KS⟩:=K.out.done_row (s:=dh) 0 rfl (K.ra 0 rfl) (by decide) (by simp)
 injection e3 with e4 e5 e6
 subst e4 e6
 have K:=KS.hh
 clear KS e5 bx bn
 have c0:=K.r 0 rfl
 go_wp2_with (first | refine bu (K.sub 5 rfl 0 [.slice A n O,.int .i64 room,.int .i64 (-1),.bool false]) ?_)
 refine(kW [.wr (aA x.num.toNat) j,.sy (aA x.num.toNat),.mk (aA (k1+1+1)),.wr (aA (k1+1+1)) u,.wr (aA (k1+1+1)) y] fs room S2 (0+2+2+1) ad A n O _ _ K.xok (K.sl 7 rfl) (K.sl 0 rfl) bb.out (by omega)).mono ?_
 rintro e w9 ⟨B6,c6,rfl,M,o⟩
 have K:=(K.on o).ksl M
 clear o M c0
 obtain⟨ab,m⟩:∃ fz,fz=cU [.wr (aA x.num.toNat) j,.sy (aA x.num.toNat),.mk (aA (k1+1+1)),.wr (aA (k1+1+1)) u,.wr (aA (k1+1+1)) y] fs:=⟨_,rfl⟩
 rw[←m]at K ⊢
 have bj:=Lib.hid m
 clear m
 go_upto_region 22 with(refine K.lw fun W K=>?_;refine K.sr 0 rfl fun W K=>?_)
 go_upto_region 23 with(first | refine K.ld 0 rfl ?_ | refine K.ss (new:=wA (.slice B6 ab.length c6) (.int .i64 room) (.int .i64 (-1)) (.bool false) (.int .i64 b) (.int .i64 i) (some ⟨g,0,none⟩) ((k1+1)+1) cap (t.q+1) ea A4 n4 c4 (.slice C k R) t.q t.a t.q (.int .i64 0) (.bool false) S2 (0+2+2+1) ad ((j.length:Int)+(u.length:Int)+(y.length:Int))) 1 rfl fun W K=>?_)
 go_upto_region 24 with(first | refine K.ld 3 rfl ?_ | refine K.ss (new:=wA (.slice B6 ab.length c6) (.int .i64 room) (.int .i64 (-1)) (.bool false) (.int .i64 b) (.int .i64 i) (some ⟨g,0,none⟩) ((k1+1)+1) cap (t.q+1) ea A4 n4 c4 (.slice C2 k2 Y) t2.q t2.a t.q (.int .i64 0) (.bool false) S2 (0+2+2+1) ad ((j.length:Int)+(u.length:Int)+(y.length:Int))) 1 rfl fun W K=>?_)
 go_wp2_with (first | refine bu (K.sub 1 rfl 0 (jnA B6 ab.length c6 room b i (some ⟨g,0,none⟩) ((k1+1)+1) cap (t.q+1) ea A4 n4 c4 C2 k2 Y t2.q t2.a t.q 0 false)) ?_ | (refine K.sr 4 rfl fun W K=>?_))
 obtain⟨S4,cm,e7,KS⟩:=K.out.done_row (s:=bC) (xs:=(d ++ [{ x with sz:=x.sz+j.length,sd:=true }]) ++ [⟨(((k1+1+1):Nat):Int),t.q,t.q+1,t.a,ea,(u.length:Int)+y.length,false⟩]) 2 rfl (aM.2 ⟨by simp,fun _ _=>trivial⟩) (by decide) (by simp)
 injection e7 with e8 e9 bz
 have K1:=KS.hh
 rw[←e8,←bz]at K1
 have m:=bj.out
 subst m
 exact K.rc2 4 rfl rfl ⟨B6,_,c6,some ⟨g,0,none⟩,(k1+1)+1,cap,A4,n4,c4,C2,k2,Y,rfl,K.slb 0 rfl,K1.slb 0 rfl,K.slb 3 rfl,K.slb 7 rfl,K.below⟩
end
section
open Go.RowKit
set_option maxHeartbeats 3000000 in
theorem tf (fs:List Fil) (room:Int) (ps:List Prt) (t:St) (h:eC fs room ps [] t) (B:∀ p ∈ ps,(p.al:Int)≤p.s.size) (b d:Int) (x:dM b d=true) (A:Option Addr) (n l:Nat) (S:Option Addr) (u:Nat) (N:Option Addr) (nn m:Nat) (C:Option Addr) (k o:Nat) (j:Int) (D:0≤j∧j≤t.q) (v:cF t)
 (X:List Nat) (w:World) (hX:XOk X w) (g:Sl az w X A n l fs) (c:Sl bC w X S 0 u (ps.map aC)) (i:Sl af w X N nn m (ah ps).ns) (F:nn≤1000) (f:Sl aB w X C k o t.cs) (y:aX w):
 Calls Tryz.prog 11 #[.agg (jnA A n l room b d S 0 u (ah ps).q (ah ps).a N nn m C k o t.q t.a j 0 false).toArray] w (fP fs room b d (ps.map aC) (ah ps) t j 14 X w):=by
 have H:0≤64:=by
  have J:=c.len
  have z:=(dS fs h.nm).1
  have I:=h.dk.1
  rw[h.rows]at z
  simp only[List.length_map]at J z I
  simp only[List.length_nil]at z
  omega
 have E:=fun(w:World) (X:List Nat) (hX:XOk X w) (g:Sl az w X A n l fs) (c:Sl bC w X S 0 u (ps.map aC)) (i:Sl af w X N nn m (ah ps).ns) (f:Sl aB w X C k o t.cs) (y:aX w)=>Lib.hid (gW fs room ps t h B b d x A n l S 0 u N nn m C k o j D false v X w hX g c i F f y)
 simp only[jnA]at E ⊢
 go_enter Tryz.func11,Tryz.ntmps11
 go_upto_region 1 with(fail)
 refine(hstart hX).cw fun W K=>?_
 have K:=(((K.ksl0 f).ksl0 i).ksl0 c).ksl0 g
 clear f i c g
 go_wp2_with (first | refine K.ld 1 rfl ?_)
 refine(E _ _ K.xok (K.sl 0 rfl) (K.sl 1 rfl) (K.sl 2 rfl) (K.sl 3 rfl) (y.on K.below)).out.mono ?_
 rintro e M ⟨rfl,G⟩
 have K:=K.on G
 clear G E
 have L:=K.r 1 rfl
 go_upto_region 5 with(fail)
 clear L
 refine K.rg fun W K=>?_
 refine tK 0 K ?_
 refine tK 1 K ?_
 refine tK 2 K ?_
 refine tN 3 K ?_
 refine tN 4 K ?_
 refine tN 5 K ?_
 refine tN 6 K ?_
 refine tN 7 K ?_
 refine tN 8 K ?_
 refine tN 9 K ?_
 refine tK 10 K ?_
 refine tK 11 K ?_
 refine tN 12 K ?_
 refine tN 13 K ?_
 refine tN 14 K ?_
 refine tN 15 K ?_
 refine tN 16 K ?_
 refine tN 17 K ?_
 refine tN 18 K ?_
 refine tN 19 K ?_
 refine tN 20 K ?_
 refine tN 21 K ?_
 refine tN 22 K ?_
 refine tN 23 K ?_
 refine tN 24 K ?_
 refine tN 25 K ?_
 refine tN 26 K ?_
 refine tK 27 K ?_
 refine tE ?_
 go_wp2_with (first | refine K.ld 1 rfl ?_ | (refine K.sr 0 rfl fun W K=>?_))
 exact K.rc2 0 rfl rfl ⟨A,n,l,S,0,u,N,nn,m,C,k,o,rfl,K.slb 0 rfl,K.slb 1 rfl,K.slb 2 rfl,K.slb 3 rfl,K.below⟩
set_option maxHeartbeats 3000000 in
theorem pU (o:List Sgi) (x:Sgi) (c:Nat) (fs:List Fil) (room:Int) (ps:List Prt) (t:St) (h:eC fs room ps [] t) (M:∀ p ∈ ps,(p.al:Int)≤p.s.size) (b f:Int) (I:dM b f=true) (A:Option Addr) (n z:Nat) (S:Option Addr) (E:Nat) (N:Option Addr) (nn B:Nat) (C:Option Addr) (k D:Nat) (y:Int) (O:0≤y∧y≤t.q) (F:cF t)
 (X:List Nat) (w:World) (hX:XOk X w) (i:Sl az w X A n z fs) (d:Sl bC w X S (c+1) E (ps.map aC)) (l:Sl af w X N nn B (ah ps).ns) (Q:nn≤1000) (g:Sl aB w X C k D t.cs) (J:aX w) (m:ps.map aC=o ++ [x]) (H:x.sd=true):
 Calls Tryz.prog 11 #[.agg (jnA A n z room b f S (c+1) E (ah ps).q (ah ps).a N nn B C k D t.q t.a y 0 false).toArray] w (fP fs room b f (ps.map aC) (ah ps) t y 14 X w):=by
 have v:=Lib.hid m
 clear m
 have U:(c+1)≤64:=by
  have G:=d.len
  have L:=(dS fs h.nm).1
  have V:=h.dk.1
  rw[h.rows]at L
  simp only[List.length_map]at G L V
  simp only[List.length_nil]at L
  omega
 have P:=fun(w:World) (X:List Nat) (hX:XOk X w) (i:Sl az w X A n z fs) (d:Sl bC w X S (c+1) E (ps.map aC)) (l:Sl af w X N nn B (ah ps).ns) (g:Sl aB w X C k D t.cs) (J:aX w)=>Lib.hid (gW fs room ps t h M b f I A n z S (c+1) E N nn B C k D y O false F X w hX i d l Q g J)
 simp only[jnA]at P ⊢
 go_enter Tryz.func11,Tryz.ntmps11
 go_upto_region 1 with(fail)
 refine(hstart hX).cw fun W K=>?_
 have K:=(((K.ksl0 g).ksl0 l).ksl0 d).ksl0 i
 clear g l d i
 go_wp2_with (first | refine K.ld 1 rfl ?_)
 refine(P _ _ K.xok (K.sl 0 rfl) (K.sl 1 rfl) (K.sl 2 rfl) (K.sl 3 rfl) (J.on K.below)).out.mono ?_
 rintro e w1 ⟨rfl,R⟩
 have K:=K.on R
 clear R P
 have Y:=K.r 1 rfl
 go_upto_region 5 with(fail)
 clear Y
 have u:c=o.length:=by
  have G:=(K.sl 1 rfl).len
  rw[v.out,List.length_append,List.length_singleton]at G
  omega
 obtain⟨ad,rr,rfl,K,⟨rfl,-⟩⟩:=K.elem 1 rfl (j:=c) (x:=x) (by rw[v.out,u];simp)
 simp only[cI,H]at K
 have Z:=Lib.hid u
 clear u
 have i3:(0:Int)≤(c:Int):=by omega
 have i4:(c:Int)<(c:Int)+1:=by omega
 have i5:=uE c (by omega)
 refine K.rg fun W K=>?_
 refine tK 0 K ?_
 refine tK 1 K ?_
 refine tK 2 K ?_
 refine tK 3 K ?_
 refine tL 4 (fun _ h=>h.r 1 rfl) K ?_
 refine tK 5 K ?_
 refine tK 6 K ?_
 refine tK 7 K ?_
 refine tK 8 K ?_
 refine tL 9 (T:=fun W=>W.cell? ⟨(ad.add (c*7)).block,(ad.add (c*7)).off+6,none⟩=some (.bool true)) (fun _ h=>h.at' 0 rfl 6 _ rfl) K ?_
 refine tK 10 K ?_
 refine tK 11 K ?_
 refine tN 12 K ?_
 refine tN 13 K ?_
 refine tN 14 K ?_
 refine tN 15 K ?_
 refine tN 16 K ?_
 refine tN 17 K ?_
 refine tN 18 K ?_
 refine tN 19 K ?_
 refine tN 20 K ?_
 refine tN 21 K ?_
 refine tN 22 K ?_
 refine tN 23 K ?_
 refine tN 24 K ?_
 refine tN 25 K ?_
 refine tN 26 K ?_
 refine tK 27 K ?_
 refine tE ?_
 go_wp2_with (first | refine K.ld 1 rfl ?_ | (refine K.sr 0 rfl fun W K=>?_))
 exact K.rc2 0 rfl rfl ⟨A,n,z,some ad,c+1,E,N,nn,B,C,k,D,rfl,K.slb 1 rfl,K.slb 2 rfl,K.slb 3 rfl,K.slb 4 rfl,K.below⟩
set_option maxHeartbeats 6000000 in
theorem sW (f:List Sgi) (x:Sgi) (d:Nat) (fs:List Fil) (room:Int) (ps:List Prt) (t:St) (h:eC fs room ps [] t) (bb:∀ p ∈ ps,(p.al:Int)≤p.s.size) (b m:Int) (ap:dM b m=true) (A:Option Addr) (n E:Nat) (S:Option Addr) (mc:Nat) (N:Option Addr) (nn cn:Nat) (C:Option Addr) (k L:Nat) (su:Int) (bc:0≤su∧su≤t.q) (aw:cF t)
 (X:List Nat) (w:World) (hX:XOk X w) (o:Sl az w X A n E fs) (y:Sl bC w X S (d+1) mc (ps.map aC)) (B:Sl af w X N nn cn (ah ps).ns) (ab:nn≤1000) (D:Sl aB w X C k L t.cs) (hp:aX w) (F:ps.map aC=f ++ [x]) (ba:x.sd=false) (hx:(1≤x.num∧x.num≤99999999)∧x.fi<x.la∧(0≤x.sz∧x.sz≤1000000)) (many:Int) (M:x.la-x.fi=many) (z:0≤many∧many≤1000000) (l:List UInt8) (ae:mm many (ah ps)=(l,0)) (Q:l.length≤1000)
 (hrun:fo room [.wr (aA x.num.toNat) l,.sy (aA x.num.toNat)] fs) (hroom:(aI fs:Int)+l.length≤room):
 Calls Tryz.prog 11 #[.agg (jnA A n E room b m S (d+1) mc (ah ps).q (ah ps).a N nn cn C k L t.q t.a su 0 false).toArray] w (fP (cU [.wr (aA x.num.toNat) l,.sy (aA x.num.toNat)] fs) room b m (f ++ [{ x with sz:=x.sz+l.length,sd:=true }]) ⟨0,0,[]⟩ t t.q 0 X w):=by
 have U:n≤64:=by have O:=o.len;have I:=h.dk.1;simp only at I;omega
 have hu64:aI fs≤65536:=by have O:=h.dk.2.2.2.2.2;have I:=h.dk.2.2.1;simp only at O I;omega
 have H:=Lib.hid F
 have Y:=Lib.hid hrun
 have bh:=Lib.hid ae
 have i9:decide (x.la≤x.fi)=false:=decide_eq_false (by omega)
 have bj:¬ x.la≤x.fi:=by omega
 clear F hrun ae
 have bi:(d+1)≤64:=by
  have O:=y.len
  have I:=(dS fs h.nm).1
  have h3:=h.dk.1
  rw[h.rows]at I
  simp only[List.length_map]at O I h3
  simp only[List.length_nil]at I
  omega
 have HM:=fun(w:World) (X:List Nat) (hX:XOk X w) (o:Sl az w X A n E fs) (y:Sl bC w X S (d+1) mc (ps.map aC)) (B:Sl af w X N nn cn (ah ps).ns) (D:Sl aB w X C k L t.cs) (hp:aX w)=>Lib.hid (gW fs room ps t h bb b m ap A n E S (d+1) mc N nn cn C k L su bc false aw X w hX o y B ab D hp)
 simp only[jnA]at HM ⊢
 go_enter Tryz.func11,Tryz.ntmps11
 go_upto_region 1 with(fail)
 refine(hstart hX).cw fun W K=>?_
 have K:=(((K.ksl0 D).ksl0 B).ksl0 y).ksl0 o
 clear D B y o
 go_wp2_with (first | refine K.ld 1 rfl ?_)
 refine(HM _ _ K.xok (K.sl 0 rfl) (K.sl 1 rfl) (K.sl 2 rfl) (K.sl 3 rfl) (hp.on K.below)).out.mono ?_
 rintro e w1 ⟨rfl,u⟩
 have K:=K.on u
 clear u HM
 have c1:=K.r 1 rfl
 go_upto_region 5 with(fail)
 clear c1
 have J:d=f.length:=by
  have O:=(K.sl 1 rfl).len
  rw[H.out,List.length_append,List.length_singleton]at O
  omega
 obtain⟨ad,rr,rfl,K,⟨rfl,-⟩⟩:=K.elem 1 rfl (j:=d) (x:=x) (by rw[H.out,J];simp)
 simp only[cI,ba]at K
 have ar:=Lib.hid J
 clear J
 have i3:(0:Int)≤(d:Int):=by omega
 have i4:(d:Int)<(d:Int)+1:=by omega
 have i5:=uE d (by omega)
 refine K.rg fun W K=>?_
 refine tK 0 K ?_
 refine tK 1 K ?_
 refine tK 2 K ?_
 refine tK 3 K ?_
 refine tL 4 (fun _ h=>h.r 1 rfl) K ?_
 refine tK 5 K ?_
 refine tK 6 K ?_
 refine tK 7 K ?_
 refine tK 8 K ?_
 refine tL 9 (T:=fun W=>W.cell? ⟨(ad.add (d*7)).block,(ad.add (d*7)).off+6,none⟩=some (.bool false)) (fun _ h=>h.at' 0 rfl 6 _ rfl) K ?_
 refine tK 10 K ?_
 refine tK 11 K ?_
 refine tK 12 K ?_
 refine tL 13 (fun _ h=>h.r 1 rfl) K ?_
 refine tK 14 K ?_
 refine tK 15 K ?_
 refine tK 16 K ?_
 refine tK 17 K ?_
 refine tL 18 (T:=fun W=>W.cell? ⟨(ad.add (d*7)).block,(ad.add (d*7)).off+2,none⟩=some (.int .i64 x.la)) (fun _ h=>h.at' 0 rfl 2 _ rfl) K ?_
 refine tK 19 K ?_
 refine tL 20 (fun _ h=>h.r 1 rfl) K ?_
 refine tK 21 K ?_
 refine tK 22 K ?_
 refine tK 23 K ?_
 refine tK 24 K ?_
 refine tL 25 (T:=fun W=>W.cell? ⟨(ad.add (d*7)).block,(ad.add (d*7)).off+1,none⟩=some (.int .i64 x.fi)) (fun _ h=>h.at' 0 rfl 1 _ rfl) K ?_
 refine tK 26 K ?_
 refine tK 27 K ?_
 refine tE ?_
 go_upto_region 8 with(first | refine K.ld 1 rfl ?_ | (refine K.lw fun W K=>?_;refine K.sr 0 rfl fun W K=>?_))
 have c2:=K.r 2 rfl
 go_wp2_with fail
 refine(gV (some ad) (d+1) mc _ _ K.xok (K.sl 2 rfl) (by omega)).mono ?_
 rintro e w3 ⟨v,vs,rfl,R,ho,u⟩
 have K:=(K.kra R).nrow u ho
 clear c2 u R ho
 obtain⟨G,cap,rfl,-⟩:=aE (K.row 0 rfl)
 have c1:=K.c 1 rfl
 go_upto_region 9 with(fail)
 refine K.cw fun W K=>?_
 clear c1
 have K:=(K.nrow (e:=144) (size:=1) (n:=0) (v := .slice none 0 0) (xs:=[]) (Below.refl _ _) ⟨rfl,.inl ⟨rfl,rfl⟩⟩).kra (s:=dh) (vs:=[]) (xs:=[]) rfl
 have K:=(((K.mv 2 rfl).mv 1 rfl).up 5 rfl).up 1 rfl
 obtain⟨g,rfl⟩:=fY (K.row 2 rfl) (Nat.succ_pos d)
 have am:vs=f.flatMap cI++cI x:=by
  rw[(aM.1 (K.ra 3 rfl)).1,H.out]
  simp
 subst am
 have hpre:(f.flatMap cI).length=d*7:=by rw[kP,←ar.out]
 refine K.rgt (fun V h=>h.tl.tl.tl.ft.ft) fun W K=>?_
 refine tC 0 fun K' hK=>?_
 go_simp
 refine(AN _ g d cap (f.flatMap cI) x _ _ (ah ps).ns _ _ _ _ _ _ _ _ _ _ _ _ _ _ _ _ _ _ _ _ _ K hp hpre (by omega) hx.1 hx.2.2 (by omega) (by omega) ab many M z l bh.out Q).mono ?_
 rintro e w7 ⟨S2,Z,ss2,rfl,K⟩
 simp only[Int.zero_add]at K
 refine hK.out _ _ K.tl.tl.tl.ft fun _=>?_
 clear hK K'
 try simp only[Act.put,aq,aj,ai]
 refine K.mor (fun V h=>h.tl.tl.tl.ft) ?_
 refine tK 1 K ?_
 refine tK 2 K ?_
 refine tK 3 K ?_
 refine tL 4 (fun _ h=>h.sub 4 rfl 0 [.slice A n E,.int .i64 room,.int .i64 (-1),.bool false]) K ?_ (hy:=fun w hw=>aD hw)
 refine tK 6 K ?_
 refine tL 7 (fun _ h=>h.r 1 rfl) K ?_
 refine tK 9 K ?_
 refine tK 10 K ?_
 refine tL 11 (fun _ h=>h.r 4 rfl) K ?_
 refine tC 5 fun K' hK=>?_
 go_simp
 refine(fV fs A n E room _ _ K.xok (K.sl 4 rfl) U hu64).mono ?_
 rintro e w8 ⟨rfl,u⟩
 have K:=K.on u
 refine hK.out _ _ K fun _=>?_
 clear hK K' u
 try simp only[Act.put,aq,aj,ai]
 have bd:IntKind.i64.wrap ((aI fs:Int)+(l.length:Int))=(aI fs:Int)+(l.length:Int):=IntWalk.i64_in _ (by omega)
 have ao:¬ room<(aI fs:Int)+(l.length:Int):=by omega
 refine tK 8 K ?_
 refine tK 12 K ?_
 refine tK 13 K ?_
 refine tE ?_
 obtain⟨S3,bk,e3,KS⟩:=K.out.done_row (s:=dh) 0 rfl (K.ra 0 rfl) (by decide) (by simp)
 injection e3 with e4 e5 e6
 subst e4 e6
 have K:=KS.hh
 clear KS e5 bd ao
 have c0:=K.r 0 rfl
 go_wp2_with (first | refine bu (K.sub 3 rfl 0 [.slice A n E,.int .i64 room,.int .i64 (-1),.bool false]) ?_)
 refine(kW [.wr (aA x.num.toNat) l,.sy (aA x.num.toNat)] fs room S2 (0+2) Z A n E _ _ K.xok (K.sl 5 rfl) (K.sl 0 rfl) Y.out (by omega)).mono ?_
 rintro e w9 ⟨B6,c6,rfl,ac,u⟩
 have K:=(K.on u).ksl ac
 clear u ac c0
 obtain⟨P,i⟩:∃ fz,fz=cU [.wr (aA x.num.toNat) l,.sy (aA x.num.toNat)] fs:=⟨_,rfl⟩
 rw[←i]at K ⊢
 have ag:=Lib.hid i
 clear i
 go_upto_region 15 with(refine K.lw fun W K=>?_;refine K.sr 0 rfl fun W K=>?_)
 go_upto_region 16 with(first | refine K.ld 0 rfl ?_ | refine K.ss (new:=wA (.slice B6 P.length c6) (.int .i64 room) (.int .i64 (-1)) (.bool false) (.int .i64 b) (.int .i64 m) (some ⟨g,0,none⟩) (d+1) cap 0 0 none 0 0 (.slice C k L) t.q t.a t.q (.int .i64 0) (.bool false) S2 (0+2) Z (l.length:Int)) 1 rfl fun W K=>?_)
 go_wp2_with (first | refine bu (K.sub 1 rfl 0 (jnA B6 P.length c6 room b m (some ⟨g,0,none⟩) (d+1) cap 0 0 none 0 0 C k L t.q t.a t.q 0 false)) ?_ | (refine K.sr 3 rfl fun W K=>?_))
 obtain⟨S4,bl,e7,KS⟩:=K.out.done_row (s:=bC) (xs:=f ++ [{ x with sz:=x.sz+l.length,sd:=true }]) 2 rfl (aM.2 ⟨by simp,fun _ _=>trivial⟩) (by decide) (by simp)
 injection e7 with e8 e9 be
 have K1:=KS.hh
 rw[←e8,←be]at K1
 have i:=ag.out
 subst i
 exact K.rc2 3 rfl rfl ⟨B6,_,c6,some ⟨g,0,none⟩,d+1,cap,none,0,0,C,k,L,rfl,K.slb 0 rfl,K1.slb 0 rfl,Sl.nil_,K.slb 9 rfl,K.below⟩
end
section
open Go.RowKit
theorem jA {n:Nat} {t:St} (h:cF t) (i:1≤n) (g:n≤99999999):kV (n:Int) ⟨t.q,t.a,[]⟩=(av 1 (aW++aU (n:Int) t.q t.a),0):=by
 obtain⟨-,f,d,e,b,-⟩:=h
 have c:aJ ⟨t.q,t.a,[]⟩=true:=by unfold aJ;simp[f,d,e,b,dn]
 have hn:eZ (n:Int)=true:=by unfold eZ;simp;omega
 unfold kV
 rw[c,hn]
 simp
theorem oX {n:Nat} {c:Cx} (h:aJ c=true):mm (n:Int) c=(av 3 (aU (n:Int) c.q c.a),0):=by
 unfold mm
 rw[h,if_neg (by simp)]
theorem iR:∀ (gs:List Sg) (n:Nat),(aQ n gs).length=gs.length
 | [],_=>rfl
 | g::gs,n=>by simp[aQ,iR gs (n+1)]
theorem mu:Beh []:=fun d a=>by cases a
def JQ (room:Int) (k:Nat) (ev:List Evt) (b age:Int) (t:St) (er:Int) (X:List Nat) (w:World) (e:Ending) (w':World):Prop:=
 ∃ fs gs su,JI room k fs gs t su∧bg gs=ev∧fP fs room b age ((aQ 0 gs).map aC) (ah (aQ 0 gs)) t su er X w e w'
theorem JQ.of {room:Int} {k:Nat} {fs:List Fil} {gs:List Sg} {sg:List Sgi} {c:Cx} {ev:List Evt} {b a:Int} {t:St} {d g:Int} {X:List Nat} {w:World} {e:Ending} {w':World} (h:WI [] room fs sg c gs t) (p:t.q≤k) (i:k≤40) (o:0≤d) (l:d≤t.q) (n:189*((k:Int)+1)≤room) (f:bg gs=ev)
 (m:fP fs room b a sg c t d g X w e w'):JQ room k ev b a t g X w e w':=by
 have j:=h.sg
 have r:=h.c
 subst j r
 exact⟨fs,gs,d,⟨h,p,i,o,l,n⟩,f,m⟩
set_option maxHeartbeats 1000000 in
theorem mS {room:Int} {k:Nat} {fs:List Fil} {gs:List Sg} {t:St} {P:Int} (h:JI room k fs gs t P) (hk:k<40) (bd:189*((k:Int)+2)≤room) (b i:Int) (B:dM b i=true) (A:Option Addr) (n Q:Nat) (S:Option Addr) (m Y:Nat) (N:Option Addr) (nn R:Nat) (C:Option Addr) (kk W:Nat)
 (X:List Nat) (w:World) (hX:XOk X w) (E:Sl az w X A n Q fs) (p:Sl bC w X S m Y ((aQ 0 gs).map aC)) (z:Sl af w X N nn R (ah (aQ 0 gs)).ns) (K:Sl aB w X C kk W t.cs) (hp:aX w)
 (eq ea v:Int) (d:ByteArray) (ex s u:Int) (J:d.size≤maxLen):
 Calls Tryz.prog 10 #[.agg (jnA A n Q room b i S m Y (ah (aQ 0 gs)).q (ah (aQ 0 gs)).a N nn R C kk W t.q t.a P 0 false).toArray,.agg #[.int .i64 eq,.int .i64 ea,.int .i64 v,.string d,.int .i64 ex,.int .i64 s,.int .i64 u]] w
  (JQ room (k+1) (bg gs++if cS t ⟨t.q+1,ea,v,d,ex,s,u⟩=0 then [⟨t.q+1,ea,v,d,ex,s,u⟩] else []) b i (dR t ⟨t.q+1,ea,v,d,ex,s,u⟩) (cS t ⟨t.q+1,ea,v,d,ex,s,u⟩) X w):=by
 have f:=h.ok
 have D:=h.look
 have G:=h.al
 have I:nn≤1000:=by have:=h.ns;rw[z.len];omega
 obtain⟨z1,z2,z3,z4,z5,z7,z6⟩:=h.sizes
 obtain⟨i1,i2,i3,i4,i5,i6⟩:=h
 have H:0≤P∧P≤t.q:=⟨i4,i5⟩
 by_cases j:cS t ⟨t.q+1,ea,v,d,ex,s,u⟩=0
 ·have bb:=j
  rw[if_pos j]
  unfold dR
  rw[if_pos j]
  obtain⟨m1,m2,m3,-⟩:=fM j
  obtain⟨-,-,-,-,ka,kb,-,-⟩:=cK m1
  have Z:0≤ea∧ea≤1099511627776:=⟨ka,kb⟩
  have ar:=(iG t ⟨t.q+1,ea,v,d,ex,s,u⟩).1
  simp only at ar
  have aw:=fG f j
  have bc:=rL aw
  rcases List.eq_nil_or_concat gs with rfl | ⟨l,g,rfl⟩
  ·obtain rfl:m=0:=p.len
   have ap:=mL (n:=0+1) (by omega) f
   obtain⟨O,L,w3,w4⟩:=i1.beg mu (by simp) (by simp) (by omega) j (by simp only[List.length_nil];omega)
   rw[j]
   refine(uo fs room _ t D G b i B A n Q S Y N nn R C kk W P H f X w hX E p z I K hp eq ea v d ex s u J j rfl (by omega) _ _ (jA f (by omega) (by omega)) (by omega) rfl (by omega) O (by omega)).mono fun e w' M=>?_
   exact JQ.of L (by omega) (by omega) i4 (by omega) (by omega) (by simp[bg]) M
  ·rw[List.concat_eq_append]at *
   obtain⟨j1,j2,j3,j4,j5,j6,j7,j8,j9,ab,ao,ag,ae⟩:=JI.last ⟨i1,i2,i3,i4,i5,i6⟩
   have hlen:(l ++ [g]).length=l.length+1:=by simp
   obtain rfl:m=l.length+1:=by rw[p.len,List.length_map,iR,hlen]
   have r:(aQ 0 (l ++ [g])).map aC=(aQ 0 l).map aC ++ [aC (g.pr (l.length+1))]:=by rw[eo,List.map_append,Nat.zero_add];rfl
   have U:(1≤(aC (g.pr (l.length+1))).num∧(aC (g.pr (l.length+1))).num≤99999999)∧True∧(aC (g.pr (l.length+1))).fi<(aC (g.pr (l.length+1))).la∧(0≤(aC (g.pr (l.length+1))).sz∧(aC (g.pr (l.length+1))).sz≤1000000)∧(0≤(aC (g.pr (l.length+1))).fr∧(aC (g.pr (l.length+1))).fr≤1099511627776):=⟨by rw[j2];omega,trivial,j5,j8,j9⟩
   have ap:=mL (n:=l.length+1+1) (by omega) f
   have V:fs.length<64:=by omega
   rw[j]
   cases hd:g.sd with
   | true=>
     have hall:∀ x ∈ l ++ [g],x.sd=true:=fun x y=>by
      rcases List.mem_append.1 y with y | y
      ·exact j1 x y
      ·rw[List.mem_singleton]at y;rw[y];exact hd
     obtain⟨O,L,w3,w4⟩:=i1.beg mu hall (by omega) V j (by rw[hlen];omega)
     rw[hlen]at O L
     rw[r]at L
     refine(nD _ _ l.length fs room _ t D G b i B A n Q S Y N nn R C kk W P H f X w hX E p z I K hp eq ea v d ex s u J j r U Z j2 (ab.trans hd) V _ _ (jA f (by omega) (by omega)) (by omega) rfl (by omega) O (by omega)).mono fun e w' M=>?_
     exact JQ.of L (by omega) (by omega) i4 (by omega) (by omega) (by rw[cO]) M
   | false=>
     have o:ah (aQ 0 (l ++ [g]))=g.c:=by rw[eM,hd];rfl
     cases hov:iN (aC (g.pr (l.length+1))) (ah (aQ 0 (l ++ [g]))) b i ⟨t.q+1,ea,v,d,ex,s,u⟩ with
     | false=>
       have T:ei g.c ⟨t.q+1,ea,v,d,ex,s,u⟩=0:=by
        unfold iN at hov
        rw[ab,hd,if_neg (by simp),o]at hov
        refine Classical.byContradiction fun am=>?_
        rw[if_pos am]at hov
        cases hov
       have ad:=rL T
       obtain⟨O,L,w3,w4⟩:=i1.more hd (by omega) j T (by omega)
       have hc:=T
       rw[←o]at hc O L ad
       refine(vE _ _ l.length fs room _ t D G b i B A n Q S Y N nn R C kk W P H f X w hX E p z I K hp eq ea v d ex s u J j r U Z (ab.trans hd) hov hc _ rfl (by omega) O (by omega)).mono fun e w' M=>?_
       exact JQ.of L (by omega) (by omega) i4 (by omega) (by omega) (by rw[cO,cO,List.append_assoc]) M
     | true=>
       have ba:=mq (n:=g.evs.length) (by omega) f
       rw[←ag,←ae]at ba
       obtain⟨O,L,w3,w4⟩:=i1.sealW hd (by omega) (by omega)
       have hall:∀ x ∈ l ++ [{ g with sd:=true }],x.sd=true:=fun x y=>by
        rcases List.mem_append.1 y with y | y
        ·exact j1 x y
        ·rw[List.mem_singleton]at y;rw[y]
       have F:(l ++ [{ g with sd:=true }]).length=l.length+1:=by simp
       obtain⟨v1,v2,v3,v4⟩:=L.beg mu hall (by omega) (by omega) j (by rw[F];omega)
       rw[F]at v1 v2
       rw[←mO]at v2
       have hrun:=iD _ _ _ _ O v1
       have ac:=oX (n:=g.evs.length) ao
       rw[←o]at ac
       refine(nA _ _ l.length fs room _ t D G b i B A n Q S Y N nn R C kk W P H f X w hX E p z I K hp eq ea v d ex s u J j r U Z j2 hov _ j6 (by omega) _ ac (by rw[o];omega) V _ _ (jA f (by omega) (by omega)) (by omega) rfl (by omega) (by rw[o];exact hrun) (by rw[o];omega)).mono fun e w' M=>?_
       rw[o]at M
       exact JQ.of v2 (by omega) (by omega) (by omega) (by omega) (by omega) (by rw[cO,cO,cO]) M
 ·rw[if_neg j,List.append_nil]
  unfold dR
  rw[if_neg j]
  exact(yG fs room _ t D G b i B A n Q S m Y N nn R C kk W P H f X w hX E p z I K hp eq ea v d ex s u J j).mono fun e w' M=>JQ.of i1 (by omega) (by omega) i4 i5 (by omega) rfl M
set_option maxHeartbeats 1000000 in
theorem qf {room:Int} {k:Nat} {fs:List Fil} {gs:List Sg} {t:St} {s:Int} (h:JI room k fs gs t s) (b d:Int) (r:dM b d=true) (A:Option Addr) (n E:Nat) (S:Option Addr) (m H:Nat) (N:Option Addr) (nn F:Nat) (C:Option Addr) (kk G:Nat)
 (X:List Nat) (w:World) (hX:XOk X w) (z:Sl az w X A n E fs) (f:Sl bC w X S m H ((aQ 0 gs).map aC)) (o:Sl af w X N nn F (ah (aQ 0 gs)).ns) (v:Sl aB w X C kk G t.cs) (U:aX w):
 Calls Tryz.prog 11 #[.agg (jnA A n E room b d S m H (ah (aQ 0 gs)).q (ah (aQ 0 gs)).a N nn F C kk G t.q t.a s 0 false).toArray] w fun e w' => ∃ er,JQ room k (bg gs) b d t er X w e w':=by
 have j:=h.ok
 have u:=h.look
 have x:=h.al
 have B:nn≤1000:=by have:=h.ns;rw[o.len];omega
 obtain⟨z1,z2,z3,z4,z5,z7,z6⟩:=h.sizes
 obtain⟨L,M,K,P,Q,O⟩:=h
 have y:0≤s∧s≤t.q:=⟨P,Q⟩
 rcases List.eq_nil_or_concat gs with rfl | ⟨l,g,rfl⟩
 ·obtain rfl:m=0:=f.len
  exact(tf fs room _ t u x b d r A n E S H N nn F C kk G s y j X w hX z f o B v U).mono fun e w' D=>⟨_,JQ.of L M K P Q O rfl D⟩
 ·rw[List.concat_eq_append]at *
  obtain⟨j1,Z,j3,j4,Y,j6,j7,j8,j9,I,W,T,R⟩:=JI.last ⟨L,M,K,P,Q,O⟩
  have hlen:(l ++ [g]).length=l.length+1:=by simp
  obtain rfl:m=l.length+1:=by rw[f.len,List.length_map,iR,hlen]
  have p:(aQ 0 (l ++ [g])).map aC=(aQ 0 l).map aC ++ [aC (g.pr (l.length+1))]:=by rw[eo,List.map_append,Nat.zero_add];rfl
  cases hd:g.sd with
  | true=>
    exact(pU _ _ l.length fs room _ t u x b d r A n E S H N nn F C kk G s y j X w hX z f o B v U p (I.trans hd)).mono fun e w' D=>⟨_,JQ.of L M K P Q O rfl D⟩
  | false=>
    have i:ah (aQ 0 (l ++ [g]))=g.c:=by rw[eM,hd];rfl
    have V:=mq (n:=g.evs.length) (by omega) j
    rw[←T,←R]at V
    obtain⟨w1,w2,w3,w4⟩:=L.sealW hd (by omega) (by omega)
    have J:=oX (n:=g.evs.length) W
    rw[←i]at J
    refine(sW _ _ l.length fs room _ t u x b d r A n E S H N nn F C kk G s y j X w hX z f o B v U p (I.trans hd) ⟨by rw[Z];omega,Y,j8⟩ _ j6 (by omega) _ J (by rw[i];omega) (by rw[i];exact w1) (by rw[i];omega)).mono fun e w' D=>?_
    rw[i]at D
    exact⟨_,JQ.of w2 M K (by omega) (by omega) O (by rw[cO,cO]) D⟩
end
section
open Go.RowKit
theorem EJ (d:Nat) (f:Nat→Int):∃ b,∀ w:World,(Op.equalIn (d+2) 88 (.agg #[.int .i64 (f 0),.int .i64 (f 1),.int .i64 (f 2),.int .i64 (f 3),.int .i64 (f 4),.int .i64 (f 5),.int .i64 (f 6),.int .i64 (f 7),.int .i64 (f 8)]) (.agg #[.int .i64 0,.int .i64 0,.int .i64 0,.int .i64 0,.int .i64 0,.int .i64 0,.int .i64 0,.int .i64 0,.int .i64 0])).run Tryz.prog w = .ok b w:=by
 obtain⟨c,a,_⟩:=info_parts oR
 have hC:Tryz.prog.cellsOf 2=1:=by kernel_rfl
 refine⟨(f 0 == 0)&&((f 1 == 0)&&((f 2 == 0)&&((f 3 == 0)&&((f 4 == 0)&&((f 5 == 0)&&((f 6 == 0)&&((f 7 == 0)&&(f 8 == 0)))))))),fun w=>?_⟩
 rw[run_equalIn_array w (d+1) _ _ Tryz.underlying88 a]
 simp[Op.eqItems,List.range,List.range.loop,go_sem,hC,run_equalIn_int _ d 2 .i64 .i64 _ _ Tryz.underlying2]
 (repeat' split)<;>simp_all
theorem BB (h:Nat→Int) (c:Int):∃ b,∀ W:World,(binOp .eql 90 (.agg #[.int .i64 (h 0),.int .i64 (h 1),.int .i64 (h 2),.int .i64 (h 3),.int .i64 (h 4),.int .i64 (h 5),.int .i64 (h 6),.int .i64 (h 7),.int .i64 (h 8),.int .i64 c]) (.agg #[.int .i64 0,.int .i64 0,.int .i64 0,.int .i64 0,.int .i64 0,.int .i64 0,.int .i64 0,.int .i64 0,.int .i64 0,.int .i64 0])).run Tryz.prog W = .ok (.bool b) W:=by
 obtain⟨d,a⟩:=EJ 9997 h
 simp only[Nat.reduceAdd]at a
 refine⟨d&&(c == 0),fun W=>?_⟩
 cases d with
 | false=>
   go_simp
 | true=>
   by_cases e:c=0
   ·subst e
    go_simp
   ·go_simp
theorem xX (W:World):(binOp .eql 90 (.agg #[.int .i64 0,.int .i64 0,.int .i64 0,.int .i64 0,.int .i64 0,.int .i64 0,.int .i64 0,.int .i64 0,.int .i64 0,.int .i64 0]) (.agg #[.int .i64 0,.int .i64 0,.int .i64 0,.int .i64 0,.int .i64 0,.int .i64 0,.int .i64 0,.int .i64 0,.int .i64 0,.int .i64 0])).run Tryz.prog W = .ok (.bool true) W:=by
 have hA:=fun W=>og 9997 (fun _=>0) W
 simp only[Nat.reduceAdd]at hA
 go_simp
theorem vX (room has:Int):∃ b,∀ W:World,(binOp .eql 92 (.agg #[.int .i64 room,.int .i64 has]) (.agg #[.int .i64 0,.int .i64 0])).run Tryz.prog W = .ok (.bool b) W:=by
 refine⟨(room == 0)&&(has == 0),fun W=>?_⟩
 by_cases a:room=0
 ·subst a
  by_cases c:has=0
  ·subst c
   go_simp
  ·go_simp
 ·go_simp
end
end Go.Proofs.YtpokkciheejeiaaGreatDoor
