/- Lemmas and contracts that the proof of TopSegments uses, part 12 of 14: each is a theorem for every input that its premises allow. -/
import Derived.Test.YtpokkciheejeiaaGreatDoorTsK
set_option linter.unusedVariables false
set_option linter.unusedSimpArgs false
set_option maxRecDepth 100000
namespace Go.Proofs.YtpokkciheejeiaaGreatDoor
section
open Go.RowKit
def ox:Sh Bool:=jC 1 (fun b => [.bool b]) (fun _=>True) (fun _=>rfl) (by intro a u hu;rw[List.mem_singleton]at hu;subst hu;rfl)
theorem Fe {room:Int} (h:189≤room∧room≤65536):JI room 0 [] [] ⟨[],0,0⟩ 0:=
 ⟨⟨⟨[],rfl,trivial⟩,rfl,rfl,rfl,jy (by omega)⟩,by simp,by simp,by simp,by simp,by simp;omega⟩
set_option maxHeartbeats 8000000 in
theorem pS (bs:∀ w,aX w→Calls Tryz.prog 6 #[] w fun e w'=>e = .returned (.bool true)∧Below w.heap.size w w') (b E:Int) (A:Option Addr) (n cp:Nat) (l:List Evt) (A2:Option Addr) (n2 ap:Nat) (bl:List Bool) (w:World)
 (hs:Sl fc w [] A n cp l) (bi:Sl ox w [] A2 n2 ap bl) (hp:aX w):
 Calls Tryz.prog 3 #[.agg #[.int .i64 b,.int .i64 E],.slice A n cp,.slice A2 n2 ap] w fun e w'=>e = .returned (.bool true)∧Below w.heap.size w w':=by
 have hX:XOk [] w:=fun b o=>(by cases o)
 have HL:=Lib.hid hs.len
 have ci:=Lib.hid bi.len
 have cd:=fun W (hW:aX W)=>Lib.hid (bs W hW)
 clear bs
 go_enter Tryz.func3,Tryz.ntmps3
 go_upto_region 1 with(fail)
 refine(hstart hX).cw fun W K=>?_
 have K:=(K.ksl0 bi).ksl0 hs
 clear hs bi
 go_wp2_with fail
 refine(cd W (hp.on K.below)).out.mono ?_
 rintro e w1 ⟨rfl,o⟩
 have K:=K.on o
 clear o cd
 rcases Nat.lt_or_ge 40 n with dd | dd
 ·have i1:(40:Int)<(n:Int):=by omega
  go_wp2
  go_ret
  exact⟨rfl,K.below⟩
 have i1:¬ (40:Int)<(n:Int):=by omega
 go_wp2_with fail
 refine(ya l A n cp _ _ K.xok (K.sl 0 rfl) (by omega)).mono ?_
 rintro e w2 ⟨rfl,o⟩
 have K:=K.on o
 clear o
 cases al:nq l with
 | false=>
   go_wp2
   go_ret
   exact⟨rfl,K.below⟩
 | true=>
   have el:=Lib.hid al
   clear al i1
   cases hcf:dM b E with
   | false=>
     go_wp2_with (first | refine K.ld 0 rfl ?_)
     refine(zB 65000 b E (by omega) hcf _ _ K.xok).mono ?_
     rintro e w3 ⟨rfl,o⟩
     have K:=K.on o
     clear o
     go_wp2_with (refine K.lw fun W K=>?_;refine K.sr 0 rfl fun W K=>?_)
     go_ret
     exact⟨rfl,K.below⟩
   | true=>
     go_wp2_with (first | refine K.ld 0 rfl ?_)
     refine(qc 65000 b E (by omega) hcf _ _ K.xok (hp.on K.below)).mono ?_
     rintro e w3 ⟨Af,nf,cf,db,ng,cg,Nn,nn,cn,C,kc,ck,rfl,H,I,h3,h4,o⟩
     have K:=(((((K.on o).ksl h4).ksl h3).ksl I).ksl H)
     clear o H I h3 h4
     go_upto_region 6 with(refine K.lw fun W K=>?_;refine K.sr 0 rfl fun W K=>?_)
     refine K.cw fun Wj K=>?_
     go_upto_region 10 with(refine K.lw fun W K=>?_;refine K.sr 0 rfl fun W K=>?_)
     refine K.cw fun W K=>?_
     have K:=K.ksl (s:=aB) (A:=none) (n:=0) (c:=0) (xs:=[]) Sl.nil_
     have K:=(K.nrow (e:=44) (size:=7) (n:=0) (v := .slice none 0 0) (xs:=[]) (Below.refl _ _) ⟨rfl,.inl ⟨rfl,rfl⟩⟩).kra (s:=fc) (vs:=[]) (xs:=[]) rfl
     go_wp2
     go_loopw [9,11] (fun v i wr => ∃ (k r cr:Nat) (vt:Option Addr) (t:St) (d:JD) (Ac:Option Addr) (nc cc:Nat) (vs:List Value),k≤n∧i = .int .i64 k∧v = .slice vt r cr∧Hid (JI 65000 k d.fs d.gs t d.su∧r=(bg d.gs).length) ∧
      HH w [] [] wr [.row 44 7 (.slice vt r cr) r vs,.box Wj.heap.size 37 #[.slice Ac nc cc,.int .i64 t.q,.int .i64 t.a],.box w3.heap.size 39 (d.cells 65000 b E t),.box w.heap.size 23 #[.int .i64 b,.int .i64 E]]
       [Ra.fact fc vs (bg d.gs),Sl.fact aB Ac nc cc t.cs,Sl.fact az d.A d.n d.cp d.fs,Sl.fact bC d.S d.m d.mc ((aQ 0 d.gs).map aC),Sl.fact af d.N d.nn d.cn (ah (aQ 0 d.gs)).ns,Sl.fact aB d.C d.kk d.ck t.cs,Sl.fact fc A n cp l,Sl.fact ox A2 n2 ap bl]) (fun _ i _=>n-(intOf i).toNat)
     case atStart=>exact⟨0,0,0,none,⟨[],0,0⟩,⟨[],[],0,Af,nf,cf,db,ng,cg,Nn,nn,cn,C,kc,ck⟩,none,0,0,[],Nat.zero_le _,rfl,rfl,Lib.hid ⟨Fe (by omega),rfl⟩,K⟩
     case round=>
      obtain⟨k,r,cr,vt,t,d,Ac,nc,cc,vs,hk,rfl,rfl,O,K⟩:=hrel
      by_cases dy:k<n
      ·obtain⟨x,hx⟩:∃ x,l[k]?=some x:=⟨_,List.getElem?_eq_getElem (by have:=HL.out;omega)⟩
       obtain⟨bm,ea,ek,D,ex,ey,ez⟩:=x
       obtain⟨ad,rr,rfl,K,⟨rfl,co⟩⟩:=K.elem 6 rfl (j:=k) hx
       have K:=(show HH _ _ _ _ _ (At.fact _ [.int .i64 bm,.int .i64 ea,.int .i64 ek,.string D,.int .i64 ex,.int .i64 ey,.int .i64 ez]::_) from K)
       have i1:(0:Int)≤(k:Int):=by omega
       have i2:(k:Int)<(n:Int):=by omega
       have ab:=O.out.1.ok
       have hq:=ab.2.1
       have du:=ab.2.2.1
       have bn:D.size≤maxLen:=co.2.2.2.1
       go_upto_region 14 with(first | refine bu (K.at' 0 rfl) ?_ | (refine K.lw fun W K=>?_;refine K.sr 0 rfl fun W K=>?_))
       have c0:=K.c 0 rfl
       have c2:=K.r 2 rfl
       have n1:=K.ne 0 2 (by decide) rfl rfl
       go_upto_region 15 with(fail)
       refine K.cw fun W K=>?_
       clear c0 c2 n1
       go_wp2_with (first | refine K.ld 2 rfl ?_ | refine K.ld 0 rfl ?_)
       refine(yw t ⟨t.q+1,ea,ek,D,ex,ey,ez⟩ Ac nc cc _ _ K.xok (K.sl 2 rfl) ab bn).mono ?_
       rintro e w4 ⟨A4,n4,c4,rfl,o,M⟩
       have K:=(K.on o).ksl M
       clear o M
       go_upto_region 16 with(refine K.lw fun W K=>?_;refine K.sr 0 rfl fun W K=>?_)
       refine Db (α:=Nat) (β:=World) (γ:=JD) (G:=?G) ?main ?key
       case main=>
        intro key
        refine K.rg fun W K=>?_
        refine tL 0 (fun _ h=>h.at_ 4 rfl) K ?_ (hy:=fun w hw=>aD hw)
        refine tK 1 K ?_
        refine tK 2 K ?_
        refine tK 3 K ?_
        refine tL 4 (fun _ h=>h.at' 1 rfl) K ?_ (hy:=fun w hw=>aD hw)
        refine tC2 5 9 (fun K' hK=>?_) (fun K' hK=>?_)
        ·go_simp
         refine(mS O.out.1 (by omega) (by omega) b E hcf d.A d.n d.cp d.S d.m d.mc d.N d.nn d.cn d.C d.kk d.ck _ _ K.xok (K.sl 4 rfl) (K.sl 5 rfl) (K.sl 6 rfl) (K.sl 7 rfl) (hp.on K.below) bm ea ek D ex ey ez bn).mono ?_
         rintro e w5 am
         obtain⟨d',F,y,rfl,H,I,h3,h4,o⟩:=am.jd
         have KS:=K.on o
         have K:=(((KS.ksl h4).ksl h3).ksl I).ksl H
         refine hK.out _ _ KS fun _=>?_
         clear hK K' o H I h3 h4 am
         try simp only[Act.put,aq,aj,ai]
         refine tK 6 KS ?_
         refine tK 7 KS ?_
         refine tK 8 KS ?_
         refine tC 9 fun K' hK=>?_
         go_simp
         have K:=K.to (W':=w5.alloc (.cells #[.slice none 0 0,.int .i64 0,.int .i64 0,.bool false,.int .i64 0,.int .i64 0,.slice none 0 0,.int .i64 0,.int .i64 0,.slice none 0 0,.slice none 0 0,.int .i64 0,.int .i64 0,.int .i64 0,.int .i64 0,.bool false] 39))
         refine hK.out _ _ K.tl.ft.ft.ft.ft fun _=>?_
         clear hK K'
         try simp only[Act.put,aq,aj,ai]
         refine tSt 10 K 0 rfl (fun U h=>h.tl.ft.ft.ft.ft) fun U K=>?_
         refine tK 11 K.tl.ft.ft.ft.ft ?_
         refine tE ?_
         clear KS
         have HJ:=Lib.hid (And.intro F y)
         clear F y
         generalize w5.heap.size=p at K ⊢
         revert HJ K
         exact key.out p U d'
        ·go_simp
         have K:=K.to (W':=W.alloc (.cells #[.slice none 0 0,.int .i64 0,.int .i64 0,.bool false,.int .i64 0,.int .i64 0,.slice none 0 0,.int .i64 0,.int .i64 0,.slice none 0 0,.slice none 0 0,.int .i64 0,.int .i64 0,.int .i64 0,.int .i64 0,.bool false] 39))
         refine hK.out _ _ K.tl fun _=>?_
         clear hK K'
         try simp only[Act.put,aq,aj,ai]
         refine tC 5 fun K' hK=>?_
         go_simp
         refine(mS O.out.1 (by omega) (by omega) b E hcf d.A d.n d.cp d.S d.m d.mc d.N d.nn d.cn d.C d.kk d.ck _ _ K.xok (K.sl 4 rfl) (K.sl 5 rfl) (K.sl 6 rfl) (K.sl 7 rfl) (hp.on K.below) bm ea ek D ex ey ez bn).mono ?_
         rintro e w5 am
         obtain⟨d',F,y,rfl,H,I,h3,h4,o⟩:=am.jd
         have K:=((((K.on o).ksl h4).ksl h3).ksl I).ksl H
         refine hK.out _ _ K.tl.ft.ft.ft.ft fun _=>?_
         clear hK K' o H I h3 h4 am
         try simp only[Act.put,aq,aj,ai]
         refine tK 6 K.tl.ft.ft.ft.ft ?_
         refine tK 7 K.tl.ft.ft.ft.ft ?_
         refine tK 8 K.tl.ft.ft.ft.ft ?_
         refine tSt 10 K 0 rfl (fun U h=>h.tl.ft.ft.ft.ft) fun U K=>?_
         refine tK 11 K.tl.ft.ft.ft.ft ?_
         refine tE ?_
         have HJ:=Lib.hid (And.intro F y)
         clear F y
         generalize W.heap.size=p at K ⊢
         revert HJ K
         exact key.out p U d'
       case key=>
        intro p U d' HJ K
        have aw:r≤40:=by have H:=O.out.1.sizes;have I:=O.out.2;omega
        by_cases hm:cS t ⟨t.q+1,ea,ek,D,ex,ey,ez⟩=0
        ·have P:=Lib.hid (HJ.out.2.trans (by rw[if_pos hm]))
         have ag:=Lib.hid (rfl:dR t ⟨t.q+1,ea,ek,D,ex,ey,ez⟩=_)
         rw[hm]
         generalize dR t ⟨t.q+1,ea,ek,D,ex,ey,ez⟩=t' at K HJ ag ⊢
         clear ag
         go_upto_region 21 with(first | refine K.ld 2 rfl ?_ | (at_builtin;refine K.lw fun W K=>?_;refine K.ap1 64 3 rfl (by omega) fun v' U K=>?_))
         obtain⟨X,Z,rfl,-⟩:=aE (K.row 3 rfl)
         go_upto_region 22 with(first | refine K.ld 1 rfl ?_ | (refine K.sr 4 rfl fun W K=>?_))
         go_upto_region 23 with(first | refine K.ld 0 rfl ?_ | (refine K.sr 5 rfl fun W K=>?_))
         have bz:okE ⟨t.q+1,ea,ek,D,ex,ey,ez⟩:=⟨wf_i64.2 (show -9223372036854775808≤t.q+1∧t.q+1≤9223372036854775807 from by omega),co.2⟩
         have B:=(K.ra 6 rfl).append (aF.single (s:=fc) (x:=(⟨t.q+1,ea,ek,D,ex,ey,ez⟩:Evt)) ⟨rfl,bz⟩)
         rw[←P.out]at B
         have K:=(K.kra B).tl.tl.tl
         clear B
         have HR:Hid (JI 65000 (k+1) d'.fs d'.gs t' d'.su∧r+1=(bg d'.gs).length):=Lib.hid ⟨HJ.out.1,by rw[P.out,List.length_append,←O.out.2];rfl⟩
         clear HJ P O
         have K:=K.ksl (K.sl 14 rfl)
         have K:=K.ksl (K.sl 14 rfl)
         have K:=K.ksl (K.sl 6 rfl)
         have K:=K.ksl (K.sl 6 rfl)
         have K:=K.ksl (K.sl 6 rfl)
         have K:=K.ksl (K.sl 6 rfl)
         have K:=K.ksl (K.sl 11 rfl)
         have K:=K.kra (K.ra 7 rfl)
         have K:=(K.out.forget (List.Sublist.cons_cons _ (List.Sublist.cons_cons _ (List.Sublist.cons_cons _ (List.Sublist.cons_cons _ (List.Sublist.cons_cons _ (List.Sublist.cons_cons _ (List.Sublist.cons_cons _ (List.Sublist.cons_cons _ (List.nil_sublist _)))))))))).hh
         obtain⟨r',ch⟩:∃ z,z=r+1:=⟨_,rfl⟩
         rw[←ch]at HR K ⊢
         clear ch aw
         generalize vs++_=vs' at K
         generalize A4=Q at K ⊢
         generalize n4=R at K ⊢
         generalize c4=V at K ⊢
         have i9:k+1≤n:=by omega
         rcases Nat.lt_or_ge k n2 with ao | ao
         ·obtain⟨bb,bh⟩:∃ x,bl[k]?=some x:=⟨_,List.getElem?_eq_getElem (by have:=ci.out;omega)⟩
          obtain⟨de,r2,rfl,K,⟨rfl,-⟩⟩:=K.elem 7 rfl (j:=k) bh
          have s0:=At.one (K.at' 0 rfl) rfl rfl
          have i4:(k:Int)<(n2:Int):=by omega
          cases bb with
          | false=>
            go_wp2
            go_roundw
            case rel=>exact⟨k+1,r',Z,X,t',d',Q,R,V,vs',i9,by go_num,rfl,HR,K.ft⟩
            case measure=>simp[intOf];omega
          | true=>
            go_wp2_with (first | refine K.ld 2 rfl ?_)
            refine(qf HR.out.1 b E hcf d'.A d'.n d'.cp d'.S d'.m d'.mc d'.N d'.nn d'.cn d'.C d'.kk d'.ck _ _ K.xok (K.sl 3 rfl) (K.sl 4 rfl) (K.sl 5 rfl) (K.sl 6 rfl) (hp.on K.below)).mono ?_
            rintro e w6 ⟨er,ae⟩
            obtain⟨d2,F,y,rfl,H,I,h3,h4,o⟩:=ae.jd
            have K:=((((K.on o).ksl h4).ksl h3).ksl I).ksl H
            have bd:Hid (JI 65000 (k+1) d2.fs d2.gs t' d2.su∧r'=(bg d2.gs).length):=Lib.hid ⟨F,by rw[y];exact HR.out.2⟩
            have K:=K.kra (s:=fc) (vs:=vs') (xs:=bg d2.gs) (by rw[y];exact K.ra 5 rfl)
            clear o H I h3 h4 ae F y s0
            go_wp2_with (refine K.lw fun W K=>?_;refine K.sr 2 rfl fun W K=>?_)
            go_roundw
            case rel=>
             exact⟨k+1,r',Z,X,t',d2,Q,R,V,vs',i9,by go_num,rfl,bd,(((((((((K.out.know _ (K.sl 13 rfl)).know _ (K.sl 12 rfl)).know _ (K.sl 4 rfl)).know _ (K.sl 3 rfl)).know _ (K.sl 2 rfl)).know _ (K.sl 1 rfl)).know _ (K.sl 7 rfl)).know _ (K.ra 0 rfl)).forget (List.Sublist.cons_cons _ (List.Sublist.cons_cons _ (List.Sublist.cons_cons _ (List.Sublist.cons_cons _ (List.Sublist.cons_cons _ (List.Sublist.cons_cons _ (List.Sublist.cons_cons _ (List.Sublist.cons_cons _ (List.nil_sublist _)))))))))).hh⟩
            case measure=>simp[intOf];omega
         ·have i4:¬ (k:Int)<(n2:Int):=by omega
          go_wp2
          go_roundw
          case rel=>exact⟨k+1,r',Z,X,t',d',Q,R,V,vs',i9,by go_num,rfl,HR,K⟩
          case measure=>simp[intOf];omega
        ·have P:=Lib.hid (HJ.out.2.trans (by rw[if_neg hm,List.append_nil]))
         have ag:Hid (dR t ⟨t.q+1,ea,ek,D,ex,ey,ez⟩=t):=Lib.hid (by unfold dR;rw[if_neg hm])
         rw[ag.out]at K HJ
         generalize dg:cS t ⟨t.q+1,ea,ek,D,ex,ey,ez⟩=m0 at hm ⊢
         go_upto_region 22 with(fail)
         go_upto_region 23 with(first | refine K.ld 0 rfl ?_ | (refine K.sr 5 rfl fun W K=>?_))
         have K:=K.tl.tl.tl
         have HR:Hid (JI 65000 (k+1) d'.fs d'.gs t d'.su∧r=(bg d'.gs).length):=Lib.hid ⟨HJ.out.1,by rw[P.out];exact O.out.2⟩
         have K:=K.kra (s:=fc) (vs:=vs) (xs:=bg d'.gs) (by rw[P.out];exact K.ra 6 rfl)
         clear HJ P O ag dg
         have K:=K.ksl (K.sl 14 rfl)
         have K:=K.ksl (K.sl 14 rfl)
         have K:=K.ksl (K.sl 6 rfl)
         have K:=K.ksl (K.sl 6 rfl)
         have K:=K.ksl (K.sl 6 rfl)
         have K:=K.ksl (K.sl 6 rfl)
         have K:=K.ksl (K.sl 14 rfl)
         have K:=K.kra (K.ra 7 rfl)
         have K:=(K.out.forget (List.Sublist.cons_cons _ (List.Sublist.cons_cons _ (List.Sublist.cons_cons _ (List.Sublist.cons_cons _ (List.Sublist.cons_cons _ (List.Sublist.cons_cons _ (List.Sublist.cons_cons _ (List.Sublist.cons_cons _ (List.nil_sublist _)))))))))).hh
         generalize vs=vs' at K
         generalize t=t' at K HR ⊢
         generalize r=r' at K HR ⊢
         generalize cr=Z at K ⊢
         generalize vt=X at K ⊢
         generalize Ac=Q at K ⊢
         generalize nc=R at K ⊢
         generalize cc=V at K ⊢
         have i9:k+1≤n:=by omega
         rcases Nat.lt_or_ge k n2 with ao | ao
         ·obtain⟨bb,bh⟩:∃ x,bl[k]?=some x:=⟨_,List.getElem?_eq_getElem (by have:=ci.out;omega)⟩
          obtain⟨de,r2,rfl,K,⟨rfl,-⟩⟩:=K.elem 7 rfl (j:=k) bh
          have s0:=At.one (K.at' 0 rfl) rfl rfl
          have i4:(k:Int)<(n2:Int):=by omega
          cases bb with
          | false=>
            go_wp2
            go_roundw
            case rel=>exact⟨k+1,r',Z,X,t',d',Q,R,V,vs',i9,by go_num,rfl,HR,K.ft⟩
            case measure=>simp[intOf];omega
          | true=>
            go_wp2_with (first | refine K.ld 2 rfl ?_)
            refine(qf HR.out.1 b E hcf d'.A d'.n d'.cp d'.S d'.m d'.mc d'.N d'.nn d'.cn d'.C d'.kk d'.ck _ _ K.xok (K.sl 3 rfl) (K.sl 4 rfl) (K.sl 5 rfl) (K.sl 6 rfl) (hp.on K.below)).mono ?_
            rintro e w6 ⟨er,ae⟩
            obtain⟨d2,F,y,rfl,H,I,h3,h4,o⟩:=ae.jd
            have K:=((((K.on o).ksl h4).ksl h3).ksl I).ksl H
            have bd:Hid (JI 65000 (k+1) d2.fs d2.gs t' d2.su∧r'=(bg d2.gs).length):=Lib.hid ⟨F,by rw[y];exact HR.out.2⟩
            have K:=K.kra (s:=fc) (vs:=vs') (xs:=bg d2.gs) (by rw[y];exact K.ra 5 rfl)
            clear o H I h3 h4 ae F y s0
            go_wp2_with (refine K.lw fun W K=>?_;refine K.sr 2 rfl fun W K=>?_)
            go_roundw
            case rel=>
             exact⟨k+1,r',Z,X,t',d2,Q,R,V,vs',i9,by go_num,rfl,bd,(((((((((K.out.know _ (K.sl 13 rfl)).know _ (K.sl 12 rfl)).know _ (K.sl 4 rfl)).know _ (K.sl 3 rfl)).know _ (K.sl 2 rfl)).know _ (K.sl 1 rfl)).know _ (K.sl 7 rfl)).know _ (K.ra 0 rfl)).forget (List.Sublist.cons_cons _ (List.Sublist.cons_cons _ (List.Sublist.cons_cons _ (List.Sublist.cons_cons _ (List.Sublist.cons_cons _ (List.Sublist.cons_cons _ (List.Sublist.cons_cons _ (List.Sublist.cons_cons _ (List.nil_sublist _)))))))))).hh⟩
            case measure=>simp[intOf];omega
         ·have i4:¬ (k:Int)<(n2:Int):=by omega
          go_wp2
          go_roundw
          case rel=>exact⟨k+1,r',Z,X,t',d',Q,R,V,vs',i9,by go_num,rfl,HR,K⟩
          case measure=>simp[intOf];omega
      ·have i2:¬ (k:Int)<(n:Int):=by omega
       obtain rfl:k=n:=by omega
       obtain⟨ds,eb,e3,KS⟩:=K.out.done_row (s:=fc) 0 rfl (K.ra 0 rfl) (by decide) (by simp)
       injection e3 with e4 e5 e6
       subst e4 e6
       have K:=KS.hh
       clear KS e5
       have bk:=O.out.1.sizes
       have bc:=O.out.1.1.dk
       have ct:=O.out.1.1.goes
       have ca:=O.out.1.files
       have ab:=O.out.1.ok
       have cb:d.n=d.fs.length:=(K.sl 3 rfl).len
       have dp:d.n≤40:=by omega
       have eg:=Lib.hid cb
       have bq:Hid (d.n=d.gs.length):=Lib.hid (by omega)
       have bv:∀ f ∈ d.fs,f.nm.size≤maxLen:=fun f hf=>by
        have:=bc.2.2.2.1 f hf
        unfold fnB at this
        unfold maxLen
        simp at this
        omega
       have cz:=Lib.hid bc.2.2.2.2.1
       have dc:∀ (j:Nat) (g:Sg),d.gs[j]?=some g → ∃ f,d.fs[j]?=some f∧f.nm=aA (j+1)∧f.all=g.bt (j+1)∧bH f.all cM=((g.pr (j+1)).s,(g.pr (j+1)).st)∧(j+1<d.gs.length→g.sd=true):=fun j g hg=>by
        have H:=tH d.gs d.fs 0 j g _ _ ca ct dD (by omega) (fun g hg=>by have:=bk.2.2.1 g hg;omega) hg
        simpa using H
       have ce:∀ f ∈ d.fs,f.all.length≤10000:=fun f hf=>by have:=iI hf;omega
       have bo:Hid ((bg d.gs).length≤40):=Lib.hid bk.2.2.2.1
       have dl:Hid (r=(bg d.gs).length):=Lib.hid O.out.2
       clear O bk cb ca ct
       go_upto_region 26 with(fail)
       go_wp2_with (first | refine bu (K.sub 1 rfl 0 [.slice d.A d.n d.cp,.int .i64 65000,.int .i64 (-1),.bool false]) ?_)
       refine(oJ d.fs 65000 d.A d.n d.cp _ _ K.xok (K.sl 3 rfl) (by omega) bv).mono ?_
       rintro e w7 ⟨B7,c7,rfl,M,o⟩
       have K:=(((K.on o).ksl M).nrow (e:=44) (size:=7) (n:=0) (v := .slice none 0 0) (xs:=[]) (Below.refl _ _) ⟨rfl,.inl ⟨rfl,rfl⟩⟩).kra (s:=fc) (vs:=[]) (xs:=bg (d.gs.take 0)) rfl
       clear o M
       go_wp2
       go_loopw [17,19] (fun v i wr => ∃ (u r2 J:Nat) (L:Option Addr) (vs2:List Value),u≤d.n∧i = .int .i64 u∧v = .slice L r2 J∧Hid (r2=(bg (d.gs.take u)).length) ∧
        HH w [] [] wr [.row 44 7 (.slice L r2 J) r2 vs2,.box Wj.heap.size 37 #[.slice Ac nc cc,.int .i64 t.q,.int .i64 t.a],.box w3.heap.size 39 (d.cells 65000 b E t),.box w.heap.size 23 #[.int .i64 b,.int .i64 E]]
         [Ra.fact fc vs2 (bg (d.gs.take u)),Sl.fact fh B7 d.n c7 (d.fs.map Fil.nm),Sl.fact fc vt r cr (bg d.gs),Ra.fact fc vs (bg d.gs),Sl.fact aB Ac nc cc t.cs,Sl.fact az d.A d.n d.cp d.fs,Sl.fact bC d.S d.m d.mc ((aQ 0 d.gs).map aC),Sl.fact af d.N d.nn d.cn (ah (aQ 0 d.gs)).ns,Sl.fact aB d.C d.kk d.ck t.cs,Sl.fact fc A k cp l,Sl.fact ox A2 n2 ap bl]) (fun _ i _=>d.n-(intOf i).toNat)
       case atStart=>exact⟨0,0,0,none,[],Nat.zero_le _,rfl,rfl,Lib.hid rfl,K⟩
       case round=>
        obtain⟨u,r,cr,vt,vs,ao,rfl,rfl,ac,K⟩:=hrel
        by_cases dq:u<d.n
        ·obtain⟨g,hg⟩:∃ x,d.gs[u]?=some x:=⟨_,List.getElem?_eq_getElem (by have:=bq.out;omega)⟩
         obtain⟨f,hf,al,hall,cm,df⟩:=dc u g hg
         have Y:=Lib.hid (CF hg)
         have da:Hid ((bg (d.gs.take (u+1))).length≤40):=Lib.hid (by
          have H:bg d.gs=bg (d.gs.take (u+1))++bg (d.gs.drop (u+1)):=by unfold bg;rw[←List.flatMap_append,List.take_append_drop]
          have I:=bo.out
          rw[H,List.length_append]at I
          omega)
         obtain⟨ad,rr,rfl,K,⟨rfl,-⟩⟩:=K.elem 1 rfl (j:=u) (x:=f.nm) (by rw[List.getElem?_map,hf];rfl)
         have bx:=Lib.hid (qO cz.out hf)
         have HF:=Lib.hid hf
         have dm:=ce f (List.mem_of_getElem? hf)
         have cv:=Lib.hid cm
         have ba:=Lib.hid al
         have bj:Hid (f.all.length=(g.bt (u+1)).length):=Lib.hid (by rw[hall])
         have i1:(0:Int)≤(u:Int):=by omega
         have i2:(u:Int)<(d.n:Int):=by omega
         have i6:IntKind.i64.wrap ((u:Int)+1)=(u:Int)+1:=IntWalk.i64_in _ (by omega)
         clear hf hg cm hall al
         go_upto_region 30 with(fail)
         refine K.rg fun W K=>?_
         refine tK 0 K ?_
         refine tL 1 (fun _ h=>h.sub 2 rfl 0 [.slice d.A d.n d.cp,.int .i64 65000,.int .i64 (-1),.bool false]) K ?_ (hy:=fun w hw=>aD hw)
         refine tK 2 K ?_
         refine tK 3 K ?_
         refine tK 4 K ?_
         refine tL 5 (T:=fun W=>W.cell? (ad.add u)=some (.string f.nm)) (fun _ h=>At.one (h.at' 0 rfl) rfl rfl) K ?_
         refine tC 6 fun K' hK=>?_
         go_simp
         refine(tX ⟨d.fs,65000⟩ f u d.A d.n d.cp _ _ K.xok (K.sl 6 rfl) bc HF.out bx.out).mono ?_
         rw[bj.out]
         rintro e w8 ⟨B8,c8,rfl,M,o⟩
         have K:=(K.on o).ksl M
         refine hK.out _ _ K.ft fun _=>?_
         clear hK K' o M
         try simp only[Act.put,aq,aj,ai]
         refine tK 7 K.ft ?_
         refine tK 8 K.ft ?_
         refine tK 9 K.ft ?_
         refine tK 10 K.ft ?_
         refine tK 11 K.ft ?_
         refine tE ?_
         go_wp2_with fail
         refine(qZ B8 _ c8 f.all _ _ K.xok (K.sl 0 rfl) (by rw[←bj.out];exact dm)).mono ?_
         rw[cv.out]
         rintro e w9 ⟨E9,en,ec,An,ee,em,rfl,y,-,-,o⟩
         have K:=(K.on o).ksl y
         clear o y
         simp only[Sg.pr,zm]at K ⊢
         rw[show((u+1:Nat):Int)=(u:Int)+1 from by omega]
         rw[ba.out]at K
         have ar:=Lib.hid (K.sl 0 rfl).len
         have be:Hid (((u:Int)+1).toNat=u+1):=Lib.hid (by omega)
         have bp:r+en≤100000:=by
          have H:=da.out
          rw[Y.out,List.length_append]at H
          have:=ac.out
          have:=ar.out
          omega
         generalize hz:(g.bt (u+1)).length=z at K ⊢
         clear hz bj cv bx
         generalize g.c=gc at K ⊢
         go_upto_region 32 with(refine K.lw fun W K=>?_;refine K.sr 0 rfl fun W K=>?_)
         by_cases hl:u+1<d.n
         ·have hs:=df (by have:=bq.out;omega)
          rw[hs]at K ⊢
          rw[if_pos rfl]at K ⊢
          have i7:(u:Int)+1<(d.n:Int):=by omega
          refine K.rg fun W K=>?_
          refine tK 0 K ?_
          refine tK 1 K ?_
          refine tK 2 K ?_
          refine tK 3 K ?_
          refine tL 4 (fun _ h=>h.r 0 rfl) K ?_
          refine tK 5 K ?_
          refine tK 6 K ?_
          refine tK 7 K ?_
          refine tK 8 K ?_
          refine tK 9 K ?_
          refine tK 10 K ?_
          refine tK 11 K ?_
          refine tK 12 K ?_
          refine tL 13 (T:=fun W=>W.cell? (ad.add u)=some (.string (aA (u+1)))) (fun _ h=>At.one (h.at' 2 rfl) rfl rfl) K ?_
          refine tK 14 K ?_
          refine tL 15 (fun _ h=>h.r 0 rfl) K ?_
          refine tC 16 fun K' hK=>?_
          go_simp
          refine(iS ((u:Int)+1) (by omega) (by omega) _ (hp.on K.below)).mono ?_
          rw[be.out]
          rintro e br ⟨rfl,o⟩
          have K:=K.on o
          refine hK.out _ _ K fun _=>?_
          clear hK K' o
          try simp only[Act.put,aq,aj,ai]
          refine tK 17 K ?_
          refine tK 18 K ?_
          refine tK 19 K ?_
          refine tK 20 K ?_
          refine tL 21 (fun _ h=>h.r 0 rfl) K ?_
          refine tK 22 K ?_
          refine tK 23 K ?_
          refine tK 24 K ?_
          refine tK 25 K ?_
          refine tK 26 K ?_
          refine tK 27 K ?_
          refine tK 28 K ?_
          refine tK 29 K ?_
          refine tK 30 K ?_
          refine tK 31 K ?_
          refine tK 32 K ?_
          refine tK 33 K ?_
          refine tL 34 (fun _ h=>h.r 0 rfl) K ?_
          refine tK 35 K ?_
          refine tK 36 K ?_
          refine tK 37 K ?_
          refine tK 38 K ?_
          refine tK 39 K ?_
          refine tL 40 (fun _ h=>h.r 0 rfl) K ?_
          refine tK 41 K ?_
          refine tK 42 K ?_
          refine tN 43 K ?_
          refine tN 44 K ?_
          refine tN 45 K ?_
          refine tK 46 K ?_
          refine tK 47 K ?_
          refine tE ?_
          have c0:=K.r 0 rfl
          go_wp2_with (at_builtin;refine K.apS 64 1 rfl (K.sl 0 rfl) bp fun v' vs' U K=>?_)
          obtain⟨L,J,rfl,-⟩:=aE (K.row 1 rfl)
          go_roundw
          case rel=>
           have B:=(K.ra 4 rfl).append (K.ra 0 rfl)
           rw[←Y.out]at B
           have K:=(K.kra B).tl
           refine⟨u+1,r+en,J,L,vs++vs',by omega,by go_num,rfl,by rw[Y.out,List.length_append,←ac.out,←ar.out];exact Lib.hid rfl,?_⟩
           exact(K.out.forget (List.Sublist.cons_cons _ (List.Sublist.cons _ (List.Sublist.cons _ (List.Sublist.cons _ (List.Sublist.cons _ (List.Sublist.cons _ (List.Sublist.refl _)))))))).hh
          case measure=>simp[intOf];omega
         ·have i7:¬ (u:Int)+1<(d.n:Int):=by omega
          cases hs:g.sd with
          | true=>
            rw[hs]at K
            rw[if_pos rfl]at K ⊢
            refine K.rg fun W K=>?_
            refine tK 0 K ?_
            refine tK 1 K ?_
            refine tK 2 K ?_
            refine tK 3 K ?_
            refine tL 4 (fun _ h=>h.r 0 rfl) K ?_
            refine tK 5 K ?_
            refine tK 6 K ?_
            refine tK 7 K ?_
            refine tK 8 K ?_
            refine tK 9 K ?_
            refine tK 10 K ?_
            refine tK 11 K ?_
            refine tK 12 K ?_
            refine tL 13 (T:=fun W=>W.cell? (ad.add u)=some (.string (aA (u+1)))) (fun _ h=>At.one (h.at' 2 rfl) rfl rfl) K ?_
            refine tK 14 K ?_
            refine tL 15 (fun _ h=>h.r 0 rfl) K ?_
            refine tC 16 fun K' hK=>?_
            go_simp
            refine(iS ((u:Int)+1) (by omega) (by omega) _ (hp.on K.below)).mono ?_
            rw[be.out]
            rintro e br ⟨rfl,o⟩
            have K:=K.on o
            refine hK.out _ _ K fun _=>?_
            clear hK K' o
            try simp only[Act.put,aq,aj,ai]
            refine tK 17 K ?_
            refine tK 18 K ?_
            refine tK 19 K ?_
            refine tK 20 K ?_
            refine tL 21 (fun _ h=>h.r 0 rfl) K ?_
            refine tK 22 K ?_
            refine tK 23 K ?_
            refine tK 24 K ?_
            refine tK 25 K ?_
            refine tK 26 K ?_
            refine tK 27 K ?_
            refine tK 28 K ?_
            refine tK 29 K ?_
            refine tK 30 K ?_
            refine tK 31 K ?_
            refine tK 32 K ?_
            refine tN 33 K ?_
            refine tN 34 K ?_
            refine tN 35 K ?_
            refine tK 36 K ?_
            refine tK 37 K ?_
            refine tK 38 K ?_
            refine tK 39 K ?_
            refine tL 40 (fun _ h=>h.r 0 rfl) K ?_
            refine tK 41 K ?_
            refine tK 42 K ?_
            refine tN 43 K ?_
            refine tN 44 K ?_
            refine tN 45 K ?_
            refine tK 46 K ?_
            refine tK 47 K ?_
            refine tE ?_
            have c0:=K.r 0 rfl
            go_wp2_with (at_builtin;refine K.apS 64 1 rfl (K.sl 0 rfl) bp fun v' vs' U K=>?_)
            obtain⟨L,J,rfl,-⟩:=aE (K.row 1 rfl)
            go_roundw
            case rel=>
             have B:=(K.ra 4 rfl).append (K.ra 0 rfl)
             rw[←Y.out]at B
             have K:=(K.kra B).tl
             refine⟨u+1,r+en,J,L,vs++vs',by omega,by go_num,rfl,by rw[Y.out,List.length_append,←ac.out,←ar.out];exact Lib.hid rfl,?_⟩
             exact(K.out.forget (List.Sublist.cons_cons _ (List.Sublist.cons _ (List.Sublist.cons _ (List.Sublist.cons _ (List.Sublist.cons _ (List.Sublist.cons _ (List.Sublist.refl _)))))))).hh
            case measure=>simp[intOf];omega
          | false=>
            rw[hs]at K
            rw[if_neg (by simp)]at K ⊢
            refine K.rg fun W K=>?_
            refine tK 0 K ?_
            refine tK 1 K ?_
            refine tK 2 K ?_
            refine tK 3 K ?_
            refine tL 4 (fun _ h=>h.r 0 rfl) K ?_
            refine tK 5 K ?_
            refine tK 6 K ?_
            refine tK 7 K ?_
            refine tK 8 K ?_
            refine tK 9 K ?_
            refine tK 10 K ?_
            refine tK 11 K ?_
            refine tK 12 K ?_
            refine tL 13 (T:=fun W=>W.cell? (ad.add u)=some (.string (aA (u+1)))) (fun _ h=>At.one (h.at' 2 rfl) rfl rfl) K ?_
            refine tK 14 K ?_
            refine tL 15 (fun _ h=>h.r 0 rfl) K ?_
            refine tC 16 fun K' hK=>?_
            go_simp
            refine(iS ((u:Int)+1) (by omega) (by omega) _ (hp.on K.below)).mono ?_
            rw[be.out]
            rintro e br ⟨rfl,o⟩
            have K:=K.on o
            refine hK.out _ _ K fun _=>?_
            clear hK K' o
            try simp only[Act.put,aq,aj,ai]
            refine tK 17 K ?_
            refine tK 18 K ?_
            refine tK 19 K ?_
            refine tK 20 K ?_
            refine tL 21 (fun _ h=>h.r 0 rfl) K ?_
            refine tK 22 K ?_
            refine tK 23 K ?_
            refine tK 24 K ?_
            refine tK 25 K ?_
            refine tK 26 K ?_
            refine tK 27 K ?_
            refine tK 28 K ?_
            refine tK 29 K ?_
            refine tK 30 K ?_
            refine tK 31 K ?_
            refine tK 32 K ?_
            refine tN 33 K ?_
            refine tN 34 K ?_
            refine tN 35 K ?_
            refine tK 36 K ?_
            refine tK 37 K ?_
            refine tK 38 K ?_
            refine tK 39 K ?_
            refine tL 40 (fun _ h=>h.r 0 rfl) K ?_
            refine tK 41 K ?_
            refine tK 42 K ?_
            refine tK 43 K ?_
            refine tL 44 (fun _ h=>h.r 0 rfl) K ?_
            refine tK 45 K ?_
            refine tK 46 K ?_
            refine tK 47 K ?_
            refine tE ?_
            have c0:=K.r 0 rfl
            go_wp2_with (at_builtin;refine K.apS 64 1 rfl (K.sl 0 rfl) bp fun v' vs' U K=>?_)
            obtain⟨L,J,rfl,-⟩:=aE (K.row 1 rfl)
            go_roundw
            case rel=>
             have B:=(K.ra 4 rfl).append (K.ra 0 rfl)
             rw[←Y.out]at B
             have K:=(K.kra B).tl
             refine⟨u+1,r+en,J,L,vs++vs',by omega,by go_num,rfl,by rw[Y.out,List.length_append,←ac.out,←ar.out];exact Lib.hid rfl,?_⟩
             exact(K.out.forget (List.Sublist.cons_cons _ (List.Sublist.cons _ (List.Sublist.cons _ (List.Sublist.cons _ (List.Sublist.cons _ (List.Sublist.cons _ (List.Sublist.refl _)))))))).hh
            case measure=>simp[intOf];omega
        ·have i2:¬ (u:Int)<(d.n:Int):=by omega
         have e1:d.gs.take u=d.gs:=List.take_of_length_le (by have:=bq.out;omega)
         rw[e1]at K ac
         obtain⟨eh,ed,e3,KS⟩:=K.out.done_row (s:=fc) 0 rfl (K.ra 0 rfl) (by decide) (by simp)
         injection e3 with e4 e5 e6
         subst e4 e6
         have K:=KS.hh
         clear KS e5
         have aw:r≤40:=by have:=ac.out;have:=bo.out;omega
         go_wp2_with fail
         refine(zW _ _ _ _ (bg d.gs) _ _ _ (bg d.gs) _ (K.sl 0 rfl).evs (K.sl 3 rfl).evs (Nat.le_refl _) (by omega) (by have:=dl.out;have:=bo.out;omega)).mono ?_
         rintro e dv ⟨rb,rfl,cl,o⟩
         obtain rfl:rb=true:=cl.2 rfl
         have K:=K.on o
         clear o cl
         go_wp2_with (first | refine bu (K.sub 1 rfl 10 [.slice d.C d.kk d.ck,.int .i64 t.q,.int .i64 t.a]) ?_ | refine bu (K.at_ 0 rfl) ?_)
         refine(BD t d.C d.kk d.ck Ac nc cc _ _ K.xok (K.sl 9 rfl) (K.sl 5 rfl) (by have:=(K.sl 9 rfl).len;have:=ab.1;omega) (fun c hc=>by have:=(ab.2.2.2.2.2.1 c hc).cells;omega)).mono ?_
         rintro e dt ⟨rfl,o⟩
         have K:=K.on o
         go_wp2
         go_ret
         exact⟨rfl,K.below⟩
end
end Go.Proofs.YtpokkciheejeiaaGreatDoor
