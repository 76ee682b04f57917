/- Lemmas and contracts that the proof of TopParse uses, part 4 of 20: each is a theorem for every input that its premises allow. -/
import Derived.Deep.RegionHeld3
import Derived.Deep.DeepCutAuto
import Derived.Defers
import Derived.Recover
import Derived.Test.YtmpiinhnabmjcaaGreatDoorTqC
set_option linter.unusedVariables false
set_option linter.unusedSimpArgs false
set_option maxRecDepth 100000
namespace Go.Proofs.YtmpiinhnabmjcaaGreatDoor
section
open Go.RowKit
def aG {α:Type} (w0:World) (M X:List Nat) (g:Nat) (s:ByteArray) (L:List Itm) (F:List Fact) (R:Rd α) (v:α→Value) (e:Ending) (w':World):Prop:=
 ∃ j:Nat,ai w0 M X w' (cuB g s j::L) F∧j≤s.size∧match R with
   | .ok a k=>e = .returned (v a)∧j=k
   | .bad c=>e=rL c
theorem iL.held {w0 w w':World} {M X:List Nat} {L:List Itm} {F:List Fact} {R:Rd UInt8} {e:Ending} (h:ai w0 M X w L F) (hp:iL w R e w'):ai w0 M X w' L F:=by
 obtain⟨⟨n,rfl⟩,_⟩:=hp
 exact h.drewN n
theorem iL.ok {w w':World} {R:Rd UInt8} {e:Ending} {c:UInt8} {i:Nat} (hp:iL w R e w') (h:R = .ok c i):e = .returned (.int .u8 (c.toNat:Int)):=by
 subst h;exact hp.2
theorem iL.bad {w w':World} {R:Rd UInt8} {e:Ending} {c:Nat} (hp:iL w R e w') (h:R = .bad c):e=rL c:=by
 subst h;exact hp.2
theorem aG.mk_bad {α:Type} {w0 w':World} {M X:List Nat} {g:Nat} {s:ByteArray} {L:List Itm} {F:List Fact} {R:Rd α} {v:α→Value} {j c:Nat} (h:ai w0 M X w' (cuB g s j::L) F) (hj:j≤s.size) (hR:R = .bad c):aG w0 M X g s L F R v (rL c) w':=by
 subst hR;exact⟨j,h,hj,rfl⟩
theorem aG.mk_ok {α:Type} {w0 w':World} {M X:List Nat} {g:Nat} {s:ByteArray} {L:List Itm} {F:List Fact} {R:Rd α} {v:α→Value} {j:Nat} {a:α} (h:ai w0 M X w' (cuB g s j::L) F) (hj:j≤s.size) (hR:R = .ok a j):aG w0 M X g s L F R v (.returned (v a)) w':=by
 subst hR;exact⟨j,h,hj,rfl,rfl⟩
theorem ai.cur {w0 W:World} {M X:List Nat} {L:List Itm} {F:List Fact} {g i:Nat} {s:ByteArray} (h:ai w0 M X W (cuB g s i::L) F) (j:Nat) {u:Int} (hu:u=(j:Int)):ai w0 M X (W.setCell ⟨g,1,none⟩ (.int .i64 u)) (cuB g s j::L) F:=by
 subst hu
 exact h.set_ 0 rfl 1 (.int .i64 (j:Int))
theorem LU {a b:UInt8}:((a.toNat:Int) != (b.toNat:Int)) = !decide (a=b):=by
 by_cases h:a=b
 ·subst h;simp
 ·have:¬ a.toNat=b.toNat:=fun e=>h (UInt8.toNat_inj.1 e)
  rw[decide_eq_false h]
  simp only[bne,Bool.not_false,Bool.not_eq_true']
  rw[beq_eq_false_iff_ne]
  omega
set_option maxHeartbeats 4000000 in
theorem bA {w0 w:World} {M X:List Nat} {L:List Itm} {F:List Fact} {g i0:Nat} {s:ByteArray} (h:ai w0 M X w (cuB g s i0::L) F) (u:ByteArray) (hs:s.size≤20000) (hi:i0≤s.size) (hu:u.size≤100):
 Calls Tryz.prog 98 #[.pointer (some ⟨g,0,none⟩),.string u] w (aG w0 M X g s L F (aX s.data.toList u.data.toList i0) (fun _=>.tuple #[])):=by
 have HR:=Lib.hid (show aX s.data.toList u.data.toList i0=aX s.data.toList (u.data.toList.drop 0) (i0+0) from by simp)
 generalize aX s.data.toList u.data.toList i0=R at HR ⊢
 have HK0:=Lib.hid h
 clear h
 go_enter Tryz.func98,Tryz.ntmps98
 go_wp2
 go_loopw [7] (fun i wr => ∃ k:Nat,k≤u.size∧i0+k≤s.size∧i = .int .i64 k∧Hid (ai w0 M X wr (.box (g) 136 #[.string s,.int .i64 ((i0+k:Nat):Int)]::L) (F))∧Hid (R=aX s.data.toList (u.data.toList.drop k) (i0+k))) (fun i _=>u.size-(intOf i).toNat)
 case atStart=>exact⟨0,Nat.zero_le _,hi,rfl,HK0,HR⟩
 case round=>
  clear HK0 HR
  obtain⟨k,hk,hik,rfl,HK,HR⟩:=hrel
  by_cases hlt:k<u.size
  ·skip
   have hlt':k<u.data.toList.length:=by simpa using hlt
   have hd:u.data.toList.drop k=u.data.toList[k]::u.data.toList.drop (k+1):=List.drop_eq_getElem_cons hlt'
   have he:u[k]=u.data.toList[k]:=by simp[ByteArray.getElem_eq_getElem_data]
   rw[hd,aX]at HR
   generalize u.data.toList[k]=x at HR he
   clear hd
   have c_c_0_1:wr.cell? ⟨g,0,none⟩=some (.string s):=HK.out.cell 0 rfl 0
   have z_c_0_2:wr.frozen? ⟨g,0,none⟩=false:=HK.out.frozen 0 rfl 0
   have c_c_1_3:wr.cell? ⟨g,1,none⟩=some (.int .i64 ((i0+k:Nat):Int)):=HK.out.cell 0 rfl 1
   have z_c_1_4:wr.frozen? ⟨g,1,none⟩=false:=HK.out.frozen 0 rfl 1
   go_wp2_with fail
   clear c_c_0_1 z_c_0_2 c_c_1_3 z_c_1_4
   refine wp_region_held_drew (S:=fun W'=>ai w0 M X W' (.box (g) 136 #[.string s,.int .i64 ((i0+k:Nat):Int)]::L) (F)) (by kernel_rfl) HK.out.drew (fun hHeld=>?_)
   refine tS 0 hHeld ?_
   refine tS 2 hHeld ?_
   refine tS 3 hHeld ?_
   refine tS 4 hHeld ?_
   cases hp:aO s.data.toList (i0+k) with
   | bad c=>
     have HRb:=Lib.hid (show R = .bad c from by rw[HR.out,hp];rfl)
     rw[hp]at HR
     refine wpAnyH_ready (rs:=[1]) (by kernel_rfl) (by simp) ?_
     refine AllReadyH.cons rfl (fun K hK=>?_) AllReadyH.nil
     go_simp
     refine(yR g (i0+k) s _ (hHeld.cell 0 rfl 0) (hHeld.cell 0 rfl 1) (by omega)).mono ?_
     rintro e W hP
     obtain rfl:=hP.bad hp
     exact⟨rfl,aG.mk_bad (hP.held hHeld) hik HRb.out⟩
   | ok c j=>
     rw[hp]at HR
     refine wpAnyH_ready (rs:=[1]) (by kernel_rfl) (by simp) ?_
     refine AllReadyH.cons rfl (fun K hK=>?_) AllReadyH.nil
     go_simp
     refine(yR g (i0+k) s _ (hHeld.cell 0 rfl 0) (hHeld.cell 0 rfl 1) (by omega)).mono ?_
     rintro e W hP
     obtain rfl:=hP.ok hp
     refine hK.out _ _ (hP.held hHeld) (fun hHeld=>?_)
     clear hK K
     try simp only[Act.put,sI,sZ,sS]
     refine tS 5 hHeld ?_
     refine wpAnyH_done (by kernel_rfl) ?_ _
     rw[LU]
     clear hP
     have HKn:=Lib.hid hHeld
     clear hHeld
     try clear hHeld
     clear HK
     by_cases hcx:c=x
     ·skip
      subst hcx
      rw[decide_eq_true rfl]
      have HRn:=Lib.hid (show R=aX s.data.toList (List.drop (k+1) u.data.toList) (i0+k+1) from by rw[HR.out];exact if_pos rfl)
      clear HR
      have hks:i0+k+1≤s.size:=by
       unfold aO at hp
       split at hp
       ·rename_i c' hc';have:=(List.getElem?_eq_some_iff.1 hc').1;simp at this;omega
       ·cases hp
      clear hp
      have c_c_0_5:W.cell? ⟨g,0,none⟩=some (.string s):=HKn.out.cell 0 rfl 0
      have z_c_0_6:W.frozen? ⟨g,0,none⟩=false:=HKn.out.frozen 0 rfl 0
      have c_c_1_7:W.cell? ⟨g,1,none⟩=some (.int .i64 ((i0+k:Nat):Int)):=HKn.out.cell 0 rfl 1
      have z_c_1_8:W.frozen? ⟨g,1,none⟩=false:=HKn.out.frozen 0 rfl 1
      go_wp2_with fail
      exact⟨⟨k+1,by omega,by omega,by go_num,Lib.hid (HKn.out.cur (i0+(k+1)) (by omega)),HRn⟩,by simp[intOf];omega⟩
     ·skip
      rw[decide_eq_false hcx]
      have HRn:=Lib.hid (show R = .bad (i0+k+1) from by rw[HR.out];exact if_neg hcx)
      clear HR
      go_wp2_with fail
      refine(fA g (i0+k) W (HKn.out.cell 0 rfl 1) (by omega)).mono ?_
      rintro e W' ⟨rfl,rfl⟩
      exact⟨rfl,aG.mk_bad HKn.out hik HRn.out⟩
  ·skip
   obtain rfl:k=u.size:=by omega
   have HRn:=Lib.hid (show R = .ok () (i0+u.size) from by rw[HR.out,List.drop_of_length_le (by simp)];rfl)
   go_wp2
   go_end0
   exact aG.mk_ok HK.out hik HRn.out
end
section
open Go.RowKit
theorem Rd.then_ok {α β:Type} (a:α) (i:Nat) (f:α→Nat→Rd β):(Rd.ok a i).then f=f a i:=rfl
theorem aG.ok {α:Type} {w0 w':World} {M X:List Nat} {g:Nat} {s:ByteArray} {L:List Itm} {F:List Fact} {R:Rd α} {v:α→Value} {e:Ending} {a:α} {k:Nat} (hC:aG w0 M X g s L F R v e w') (h:R = .ok a k):e = .returned (v a)∧ai w0 M X w' (cuB g s k::L) F∧k≤s.size:=by
 subst h
 obtain⟨j,h1,h2,h3,rfl⟩:=hC
 exact⟨h3,h1,h2⟩
theorem aG.bad {α:Type} {w0 w':World} {M X:List Nat} {g:Nat} {s:ByteArray} {L:List Itm} {F:List Fact} {R:Rd α} {v:α→Value} {e:Ending} {c:Nat} (hC:aG w0 M X g s L F R v e w') (h:R = .bad c):e=rL c ∧ ∃ j:Nat,ai w0 M X w' (cuB g s j::L) F∧j≤s.size:=by
 subst h
 obtain⟨j,h1,h2,h3⟩:=hC
 exact⟨h3,j,h1,h2⟩
theorem aG.mk_eq {α:Type} {w0 w':World} {M X:List Nat} {g:Nat} {s:ByteArray} {L:List Itm} {F:List Fact} {R:Rd α} {v:α→Value} {e:Ending} {j:Nat} {a:α} (h:ai w0 M X w' (cuB g s j::L) F) (hj:j≤s.size) (hR:R = .ok a j) (he:e = .returned (v a)):aG w0 M X g s L F R v e w':=by
 subst he;exact aG.mk_ok h hj hR
abbrev u8V (c:UInt8):Value := .int .u8 (c.toNat:Int)
theorem jy {t:List UInt8} {i k:Nat} {c:UInt8} (h:aO t i = .ok c k):k=i∧t[i]?=some c:=by
 unfold aO at h
 split at h
 ·rename_i c' hc'
  injection h with h1 h2
  subst h1 h2
  exact⟨rfl,hc'⟩
 ·cases h
theorem bw {w0 w:World} {M X:List Nat} {L:List Itm} {F:List Fact} {g i:Nat} {s:ByteArray} (h:ai w0 M X w (cuB g s i::L) F) (hs:s.size≤20000) (hi:i≤s.size):
 Calls Tryz.prog 96 #[.pointer (some ⟨g,0,none⟩)] w (aG w0 M X g s L F (aO s.data.toList i) u8V):=by
 refine(yR g i s w (h.cell 0 rfl 0) (h.cell 0 rfl 1) (by omega)).mono ?_
 rintro e W hP
 have hH:=hP.held h
 cases hp:aO s.data.toList i with
 | bad c=>obtain rfl:=hP.bad hp;exact aG.mk_bad hH hi rfl
 | ok c k=>
   obtain rfl:=hP.ok hp
   obtain⟨rfl,_⟩:=jy hp
   exact aG.mk_ok (v:=u8V) hH hi rfl
theorem eN {w0 w:World} {M X:List Nat} {L:List Itm} {F:List Fact} {g i:Nat} {s:ByteArray} (h:ai w0 M X w (cuB g s i::L) F):
 Calls Tryz.prog 48 #[.pointer (some ⟨g,0,none⟩)] w fun e w'=>e = .returned (.bool (decide (i<s.size)))∧ai w0 M X w' (cuB g s i::L) F:=by
 refine(Eg g i s w (h.cell 0 rfl 0) (h.cell 0 rfl 1)).mono ?_
 rintro e W ⟨rfl,n,rfl⟩
 exact⟨rfl,h.drewN n⟩
def lC (t:List UInt8) (i:Nat):Nat:=i+((t.drop i).takeWhile dS).length
theorem Ad {t:List UInt8} {i:Nat} {c:UInt8} (h:t[i]?=some c) (hc:dS c=true):lC t i=lC t (i+1):=by
 obtain⟨hl,he⟩:=List.getElem?_eq_some_iff.1 h
 unfold lC
 rw[List.drop_eq_getElem_cons hl,he,List.takeWhile_cons_of_pos hc,List.length_cons]
 omega
theorem BH {t:List UInt8} {i:Nat} {c:UInt8} (h:t[i]?=some c) (hc:dS c=false):lC t i=i:=by
 obtain⟨hl,he⟩:=List.getElem?_eq_some_iff.1 h
 unfold lC
 rw[List.drop_eq_getElem_cons hl,he,List.takeWhile_cons_of_neg (by rw[hc];simp)]
 simp
theorem Dd {t:List UInt8} {i:Nat} (h:t.length≤i):lC t i=i:=by
 unfold lC
 rw[List.drop_of_length_le h]
 simp
theorem qT (s:ByteArray) (i:Nat):s.extract i (lC s.data.toList i)=sB ((s.data.toList.drop i).takeWhile dS):=by
 have h:(s.extract i (lC s.data.toList i)).data.toList=(s.data.toList.drop i).takeWhile dS:=by
  have hp:(s.data.toList.drop i).takeWhile dS <+: s.data.toList.drop i:=List.takeWhile_prefix dS
  rw[ByteArray.data_extract,Array.toList_extract]
  unfold lC
  rw[List.extract_eq_take_drop,Nat.add_sub_cancel_left]
  exact(List.prefix_iff_eq_take.1 hp).symm
 rw[←h]
def curAt (w:World) (g:Nat):Nat:=match w.cell? ⟨g,1,none⟩ with
 | some (.int _ n)=>n.toNat
 | _=>0
theorem ai.curAt {w0 W:World} {M X:List Nat} {L:List Itm} {F:List Fact} {g i:Nat} {s:ByteArray} (h:ai w0 M X W (cuB g s i::L) F):curAt W g=i:=by
 unfold Go.Proofs.YtmpiinhnabmjcaaGreatDoor.curAt
 rw[show W.cell? ⟨g,1,none⟩=some (.int .i64 (i:Int)) from h.cell 0 rfl 1]
 simp
set_option maxHeartbeats 4000000 in
theorem jG {w0 w:World} {M X:List Nat} {L:List Itm} {F:List Fact} {g i0:Nat} {s:ByteArray} (h:ai w0 M X w (cuB g s i0::L) F) (hs:s.size≤20000) (hi:i0≤s.size):
 Calls Tryz.prog 99 #[.pointer (some ⟨g,0,none⟩)] w (aG w0 M X g s L F (gE s.data.toList i0) (fun n=>.string (sB n))):=by
 obtain⟨R,hR⟩:∃ R,R=gE s.data.toList i0:=⟨_,rfl⟩
 rw[←hR]
 unfold gE at hR
 have HR:=Lib.hid hR
 clear hR
 have HK0:=Lib.hid h
 clear h
 have c_c_0_1:w.cell? ⟨g,0,none⟩=some (.string s):=HK0.out.cell 0 rfl 0
 have z_c_0_2:w.frozen? ⟨g,0,none⟩=false:=HK0.out.frozen 0 rfl 0
 have c_c_1_3:w.cell? ⟨g,1,none⟩=some (.int .i64 ((i0:Nat):Int)):=HK0.out.cell 0 rfl 1
 have z_c_1_4:w.frozen? ⟨g,1,none⟩=false:=HK0.out.frozen 0 rfl 1
 go_enter Tryz.func99,Tryz.ntmps99
 cases hr:aO s.data.toList i0 with
 | bad c=>
   have HRb:=Lib.hid (show R = .bad c from by rw[HR.out,hr];rfl)
   go_wp2_with fail
   with_reducible refine(bw HK0.out hs (by omega)).mono ?_
   rintro e W hC
   obtain⟨rfl,jj,hH,hj⟩:=hC.bad hr
   exact⟨rfl,aG.mk_bad hH hj HRb.out⟩
 | ok x k1=>
   have HR2:=HR.out
   rw[hr,Rd.then_ok]at HR2
   clear HR
   have HR:=Lib.hid HR2
   clear HR2
   go_wp2_with fail
   with_reducible refine(bw HK0.out hs (by omega)).mono ?_
   rintro e w1 hC
   obtain⟨rfl,hH,hj⟩:=hC.ok hr
   clear hC
   have hr0:=hr
   clear hr
   clear c_c_0_1 z_c_0_2 c_c_1_3 z_c_1_4
   have HK5:Hid (ai w0 M X w1 (.box (g) 136 #[.string s,.int .i64 ((k1:Nat):Int)]::L) (F)):=hH
   clear HK0
   clear hH
   have hj_k1:=hj
   clear hj
   obtain rfl:k1=i0:=(jy hr0).1
   cases hL:fK x with
   | false=>
     have HRb:=Lib.hid (show R = .bad (k1+1) from by rw[HR.out,hL];rfl)
     clear HR
     go_wp2_with fail
     refine(lX x _).mono ?_
     rw[hL]
     rintro e W ⟨rfl,rfl⟩
     go_wp2_with fail
     refine(fA g k1 w1 (HK5.out.cell 0 rfl 1) (by omega)).mono ?_
     rintro e W' ⟨rfl,rfl⟩
     exact⟨rfl,aG.mk_bad HK5.out (by omega) HRb.out⟩
   | true=>
     have HRn:=Lib.hid (show R = .ok ((s.data.toList.drop k1).takeWhile dS) (lC s.data.toList k1) from by rw[HR.out,hL];rfl)
     clear HR
     go_wp2_with fail
     refine(lX x _).mono ?_
     rw[hL]
     rintro e W ⟨rfl,rfl⟩
     go_wp2_with fail
     go_loopw [] (fun wr => ∃ k:Nat,k1≤k∧k≤s.size∧Hid (ai w0 M X wr (.box (g) 136 #[.string s,.int .i64 ((k:Nat):Int)]::L) (F))∧Hid (lC s.data.toList k1=lC s.data.toList k)) (fun wr=>s.size-curAt wr g)
     case atStart=>exact⟨k1,Nat.le_refl _,by omega,HK5,Lib.hid rfl⟩
     case round=>
      clear HK5
      obtain⟨k,hk1,hks,HK,HN⟩:=hrel
      have HW:=Lib.hid HK.out
      cases hx:s.data.toList[k]? with
      | none=>
        have hks2:s.size≤k:=by have:=List.getElem?_eq_none_iff.1 hx;simpa using this
        go_wp2_with fail
        with_reducible refine(eN HK.out).mono ?_
        rw[decide_eq_false (by omega)]
        rintro e w2 ⟨rfl,hH⟩
        have HK6:Hid (ai w0 M X w2 (.box (g) 136 #[.string s,.int .i64 ((k:Nat):Int)]::L) (F)):=hH
        clear HK
        clear hH
        have HE:Hid (lC s.data.toList k1=k):=HN.out.trans (Dd (by simpa using hks2))
        have HS:=Lib.hid (show s.extract k1 k=sB ((s.data.toList.drop k1).takeWhile dS) from by rw[←qT,HE.out])
        have c_c_0_7:w2.cell? ⟨g,0,none⟩=some (.string s):=HK6.out.cell 0 rfl 0
        have c_c_1_8:w2.cell? ⟨g,1,none⟩=some (.int .i64 ((k:Nat):Int)):=HK6.out.cell 0 rfl 1
        go_wp2
        go_quiet (fail)
        go_wp2
        go_ret
        exact aG.mk_eq (HK6.out.drewN _) hks (HRn.out.trans (by rw[HE.out])) (by rw[←HS.out];rfl)
      | some c=>
        have hlt:k<s.size:=by have:=(List.getElem?_eq_some_iff.1 hx).1;simpa using this
        have hp:aO s.data.toList k = .ok c k:=by unfold aO;rw[hx]
        go_wp2_with fail
        with_reducible refine(eN HK.out).mono ?_
        rw[decide_eq_true (hlt)]
        rintro e w2 ⟨rfl,hH⟩
        have HK6:Hid (ai w0 M X w2 (.box (g) 136 #[.string s,.int .i64 ((k:Nat):Int)]::L) (F)):=hH
        clear HK
        clear hH
        go_wp2_with fail
        with_reducible refine(bw HK6.out hs (by omega)).mono ?_
        rintro e w3 hC
        obtain⟨rfl,hH,hj⟩:=hC.ok hp
        clear hC hj
        have HK7:Hid (ai w0 M X w3 (.box (g) 136 #[.string s,.int .i64 ((k:Nat):Int)]::L) (F)):=hH
        clear HK6
        clear hH
        cases hl:fK c with
        | true=>
          go_wp2_with fail
          with_reducible refine(lX c _).mono ?_
          rw[hl]
          rintro e W' ⟨rfl,rfl⟩
          have c_c_0_8:w3.cell? ⟨g,0,none⟩=some (.string s):=HK7.out.cell 0 rfl 0
          have z_c_0_9:w3.frozen? ⟨g,0,none⟩=false:=HK7.out.frozen 0 rfl 0
          have c_c_1_10:w3.cell? ⟨g,1,none⟩=some (.int .i64 ((k:Nat):Int)):=HK7.out.cell 0 rfl 1
          have z_c_1_11:w3.frozen? ⟨g,1,none⟩=false:=HK7.out.frozen 0 rfl 1
          go_wp2_with fail
          exact⟨⟨k+1,by omega,by omega,Lib.hid (HK7.out.cur (k+1) (by omega)),Lib.hid (HN.out.trans (Ad hx (by unfold dS;rw[hl];rfl)))⟩,by rw[(HK7.out.cur (k+1) (u:=(k:Int)+1) (by omega)).curAt,HW.out.curAt];omega⟩
        | false=>
          go_wp2_with fail
          with_reducible refine(lX c _).mono ?_
          rw[hl]
          rintro e W' ⟨rfl,rfl⟩
          go_wp2_with fail
          with_reducible refine(bw HK7.out hs (by omega)).mono ?_
          rintro e w4 hC
          obtain⟨rfl,hH,hj⟩:=hC.ok hp
          clear hC hj
          have HK8:Hid (ai w0 M X w4 (.box (g) 136 #[.string s,.int .i64 ((k:Nat):Int)]::L) (F)):=hH
          clear HK7
          clear hH
          cases hd:cn c with
          | true=>
            go_wp2_with fail
            with_reducible refine(eW c _).mono ?_
            rw[hd]
            rintro e W' ⟨rfl,rfl⟩
            have c_c_0_9:w4.cell? ⟨g,0,none⟩=some (.string s):=HK8.out.cell 0 rfl 0
            have z_c_0_10:w4.frozen? ⟨g,0,none⟩=false:=HK8.out.frozen 0 rfl 0
            have c_c_1_11:w4.cell? ⟨g,1,none⟩=some (.int .i64 ((k:Nat):Int)):=HK8.out.cell 0 rfl 1
            have z_c_1_12:w4.frozen? ⟨g,1,none⟩=false:=HK8.out.frozen 0 rfl 1
            go_wp2_with fail
            exact⟨⟨k+1,by omega,by omega,Lib.hid (HK8.out.cur (k+1) (by omega)),Lib.hid (HN.out.trans (Ad hx (by unfold dS;rw[hl,hd];rfl)))⟩,by rw[(HK8.out.cur (k+1) (u:=(k:Int)+1) (by omega)).curAt,HW.out.curAt];omega⟩
          | false=>
            go_wp2_with fail
            with_reducible refine(eW c _).mono ?_
            rw[hd]
            rintro e W' ⟨rfl,rfl⟩
            have HE:Hid (lC s.data.toList k1=k):=HN.out.trans (BH hx (by unfold dS;rw[hl,hd];rfl))
            have HS:=Lib.hid (show s.extract k1 k=sB ((s.data.toList.drop k1).takeWhile dS) from by rw[←qT,HE.out])
            have c_c_0_9:w4.cell? ⟨g,0,none⟩=some (.string s):=HK8.out.cell 0 rfl 0
            have c_c_1_10:w4.cell? ⟨g,1,none⟩=some (.int .i64 ((k:Nat):Int)):=HK8.out.cell 0 rfl 1
            go_wp2
            go_quiet (fail)
            go_wp2
            go_ret
            exact aG.mk_eq (HK8.out.drewN _) hks (HRn.out.trans (by rw[HE.out])) (by rw[←HS.out];rfl)
end
section
open Go.RowKit
def mu (value:Bool) (t:List UInt8) (i:Nat):Rd UInt8:=(aO t i).then fun y _=>if Ah value y=true then .ok (if y=110 then 10 else y) (i+1) else .bad (i+1)
theorem gK {x:UInt8} {n:Nat} (hn:n<256) (h:(x.toNat:Int)=n):x=UInt8.ofNat n:=by
 have h1:x.toNat=n:=by omega
 rw[←h1];simp
theorem uY {x:UInt8} {n:Nat} (hn:n<256) (h:¬ (x.toNat:Int)=n):¬ x=UInt8.ofNat n:=by
 rintro rfl
 apply h
 rw[UInt8.toNat_ofNat_of_lt' hn]
theorem ff {s:ByteArray} {i k:Nat} {c:UInt8} (h:aO s.data.toList i = .ok c k):k=i∧i<s.size∧s.data.toList[i]?=some c:=by
 obtain⟨h1,h2⟩:=jy h
 refine⟨h1,?_,h2⟩
 have:=(List.getElem?_eq_some_iff.1 h2).1
 simpa using this
set_option maxHeartbeats 4000000 in
theorem uA {w0 w:World} {M X:List Nat} {L:List Itm} {F:List Fact} {g i0:Nat} {s:ByteArray} (h:ai w0 M X w (cuB g s i0::L) F) (value:Bool) (hs:s.size≤20000) (hi:i0≤s.size):
 Calls Tryz.prog 178 #[.pointer (some ⟨g,0,none⟩),.bool value] w (aG w0 M X g s L F (mu value s.data.toList i0) u8V):=by
 obtain⟨R,hR⟩:∃ R,R=mu value s.data.toList i0:=⟨_,rfl⟩
 rw[←hR]
 unfold mu at hR
 have HR:=Lib.hid hR
 clear hR
 have HK0:=Lib.hid h
 clear h
 go_enter Tryz.func178,Tryz.ntmps178
 cases hr:aO s.data.toList i0 with
 | bad c=>
   have HRb:=Lib.hid (show R = .bad c from by rw[HR.out,hr];rfl)
   go_wp2_with fail
   with_reducible refine(bw HK0.out hs (by omega)).mono ?_
   rintro e W hC
   obtain⟨rfl,jj,hH,hj⟩:=hC.bad hr
   exact⟨rfl,aG.mk_bad hH hj HRb.out⟩
 | ok x k1=>
   have HR2:=HR.out
   rw[hr,Rd.then_ok]at HR2
   clear HR
   have HR:=Lib.hid HR2
   clear HR2
   go_wp2_with fail
   with_reducible refine(bw HK0.out hs (by omega)).mono ?_
   rintro e w1 hC
   obtain⟨rfl,hH,hj⟩:=hC.ok hr
   clear hC
   have hr0:=hr
   clear hr
   have HK1:Hid (ai w0 M X w1 (.box (g) 136 #[.string s,.int .i64 ((k1:Nat):Int)]::L) (F)):=hH
   clear HK0
   clear hH
   have hj_k1:=hj
   clear hj
   obtain⟨rfl,hlt,-⟩:=ff hr0
   clear hr0 hj_k1
   unfold u8V
   obtain⟨m,hm⟩:∃ m:Int,m=(x.toNat:Int):=⟨_,rfl⟩
   rw[←hm]
   by_cases hm2:m=92
   ·skip
    have hx:x=92:=gK (n:=92) (by decide) (hm.symm.trans hm2)
    subst hx
    have HRn:=Lib.hid (show R = .ok 92 (k1+1) from by rw[HR.out];cases value<;>first | rfl | skip)
    clear HR hm
    subst hm2
    have c_c_0_2:w1.cell? ⟨g,0,none⟩=some (.string s):=HK1.out.cell 0 rfl 0
    have z_c_0_3:w1.frozen? ⟨g,0,none⟩=false:=HK1.out.frozen 0 rfl 0
    have c_c_1_4:w1.cell? ⟨g,1,none⟩=some (.int .i64 ((k1:Nat):Int)):=HK1.out.cell 0 rfl 1
    have z_c_1_5:w1.frozen? ⟨g,1,none⟩=false:=HK1.out.frozen 0 rfl 1
    cases value
    all_goals
     go_wp2
     go_ret
     exact aG.mk_eq (HK1.out.cur (k1+1) (by omega)) (by omega) HRn.out rfl
   by_cases hm3:m=110
   ·have hm2:=hm3
    have hx:x=110:=gK (n:=110) (by decide) (hm.symm.trans hm2)
    subst hx
    have HRn:=Lib.hid (show R = .ok 10 (k1+1) from by rw[HR.out];cases value<;>first | rfl | skip)
    clear HR hm
    subst hm2
    have c_c_0_2:w1.cell? ⟨g,0,none⟩=some (.string s):=HK1.out.cell 0 rfl 0
    have z_c_0_3:w1.frozen? ⟨g,0,none⟩=false:=HK1.out.frozen 0 rfl 0
    have c_c_1_4:w1.cell? ⟨g,1,none⟩=some (.int .i64 ((k1:Nat):Int)):=HK1.out.cell 0 rfl 1
    have z_c_1_5:w1.frozen? ⟨g,1,none⟩=false:=HK1.out.frozen 0 rfl 1
    cases value
    all_goals
     go_wp2
     go_ret
     exact aG.mk_eq (HK1.out.cur (k1+1) (by omega)) (by omega) HRn.out rfl
   by_cases hm4:m=34∧value=true
   ·obtain⟨hm2,hv⟩:=hm4
    have hx:x=34:=gK (n:=34) (by decide) (hm.symm.trans hm2)
    subst hx
    have HRn:=Lib.hid (show R = .ok 34 (k1+1) from by rw[HR.out];cases value<;>first | rfl | cases hv)
    clear HR hm
    subst hm2
    have c_c_0_2:w1.cell? ⟨g,0,none⟩=some (.string s):=HK1.out.cell 0 rfl 0
    have z_c_0_3:w1.frozen? ⟨g,0,none⟩=false:=HK1.out.frozen 0 rfl 0
    have c_c_1_4:w1.cell? ⟨g,1,none⟩=some (.int .i64 ((k1:Nat):Int)):=HK1.out.cell 0 rfl 1
    have z_c_1_5:w1.frozen? ⟨g,1,none⟩=false:=HK1.out.frozen 0 rfl 1
    cases hv
    go_wp2
    go_ret
    exact aG.mk_eq (HK1.out.cur (k1+1) (by omega)) (by omega) HRn.out rfl
   have HRn:=Lib.hid (show R = .bad (k1+1) from by
    rw[HR.out]
    refine if_neg ?_
    unfold Ah
    simp only[Bool.or_eq_true,Bool.and_eq_true,beq_iff_eq]
    rintro((rfl | rfl) | ⟨rfl,hv⟩)
    ·exact hm2 hm
    ·exact hm3 hm
    ·exact hm4 ⟨hm,hv⟩)
   clear HR hm
   cases value
   ·skip
    have b2:(m != 92)=true:=by simpa using hm2
    have b3:(m != 110)=true:=by simpa using hm3
    clear hm4
    go_wp2_with fail
    all_goals
     refine(fA g k1 w1 (HK1.out.cell 0 rfl 1) (by omega)).mono ?_
     rintro e W' ⟨rfl,rfl⟩
     exact⟨rfl,aG.mk_bad HK1.out (by omega) HRn.out⟩
   ·skip
    have hm5:¬ m=34:=fun h=>hm4 ⟨h,rfl⟩
    have b2:(m != 92)=true:=by simpa using hm2
    have b3:(m != 110)=true:=by simpa using hm3
    have b5:(m != 34)=true:=by simpa using hm5
    clear hm4
    go_wp2_with fail
    all_goals
     refine(fA g k1 w1 (HK1.out.cell 0 rfl 1) (by omega)).mono ?_
     rintro e W' ⟨rfl,rfl⟩
     exact⟨rfl,aG.mk_bad HK1.out (by omega) HRn.out⟩
set_option maxHeartbeats 4000000 in
theorem Dt {w0 w:World} {M X:List Nat} {L:List Itm} {F:List Fact} {g i0:Nat} {s:ByteArray} (h:ai w0 M X w (cuB g s i0::L) F) (hs:s.size≤20000) (hi:i0≤s.size):
 Calls Tryz.prog 101 #[.pointer (some ⟨g,0,none⟩)] w (aG w0 M X g s L F (sE s.data.toList i0) (fun k=>.int .i64 (k:Int))):=by
 obtain⟨R,hR⟩:∃ R,R=sE s.data.toList i0:=⟨_,rfl⟩
 rw[←hR]
 unfold sE at hR
 have HR:=Lib.hid hR
 clear hR
 have HK0:=Lib.hid h
 clear h
 go_enter Tryz.func101,Tryz.ntmps101
 cases hr:aO s.data.toList i0 with
 | bad c=>
   have HRb:=Lib.hid (show R = .bad c from by rw[HR.out,hr];rfl)
   go_wp2_with fail
   with_reducible refine(bw HK0.out hs (by omega)).mono ?_
   rintro e W hC
   obtain⟨rfl,jj,hH,hj⟩:=hC.bad hr
   exact⟨rfl,aG.mk_bad hH hj HRb.out⟩
 | ok x k1=>
   have HR2:=HR.out
   rw[hr,Rd.then_ok]at HR2
   clear HR
   have HR:=Lib.hid HR2
   clear HR2
   go_wp2_with fail
   with_reducible refine(bw HK0.out hs (by omega)).mono ?_
   rintro e w1 hC
   obtain⟨rfl,hH,hj⟩:=hC.ok hr
   clear hC
   have hr0:=hr
   clear hr
   have HK1:Hid (ai w0 M X w1 (.box (g) 136 #[.string s,.int .i64 ((k1:Nat):Int)]::L) (F)):=hH
   clear HK0
   clear hH
   have hj_k1:=hj
   clear hj
   obtain⟨rfl,hlt,-⟩:=ff hr0
   clear hr0 hj_k1
   unfold u8V
   obtain⟨m,hm⟩:∃ m:Int,m=(x.toNat:Int):=⟨_,rfl⟩
   rw[←hm]
   by_cases hm2:m=99
   ·skip
    have hx:x=99:=gK (n:=99) (by decide) (hm.symm.trans hm2)
    subst hx
    clear hm
    subst hm2
    have HRx:Hid (R=(aX s.data.toList mA k1).then fun _ j=>.ok 1 j):=HR.out
    clear HR
    have HR:=HRx
    clear HRx
    cases hr:aX s.data.toList mA k1 with
    | bad c=>
      have HRb:=Lib.hid (show R = .bad c from by rw[HR.out,hr];rfl)
      go_wp2_with fail
      with_reducible refine(bA HK1.out ⟨#[99,111,117,110,116,101,114]⟩ hs (by omega) (by decide)).mono ?_
      rintro e W hC
      obtain⟨rfl,jj,hH,hj⟩:=hC.bad hr
      exact⟨rfl,aG.mk_bad hH hj HRb.out⟩
    | ok y k2=>
      have HR2:=HR.out
      rw[hr,Rd.then_ok]at HR2
      clear HR
      have HR:=Lib.hid HR2
      clear HR2
      go_wp2_with fail
      with_reducible refine(bA HK1.out ⟨#[99,111,117,110,116,101,114]⟩ hs (by omega) (by decide)).mono ?_
      rintro e w2 hC
      obtain⟨rfl,hH,hj⟩:=hC.ok hr
      clear hC
      have hr0:=hr
      clear hr
      have HK2:Hid (ai w0 M X w2 (.box (g) 136 #[.string s,.int .i64 ((k2:Nat):Int)]::L) (F)):=hH
      clear HK1
      clear hH
      have hj_k2:=hj
      clear hj
      go_wp2
      go_ret
      exact aG.mk_eq HK2.out (by omega) HR.out rfl
   by_cases hm3:m=103
   ·skip
    have hx:x=103:=gK (n:=103) (by decide) (hm.symm.trans hm3)
    subst hx
    clear hm
    subst hm3
    have HRx:Hid (R=(aX s.data.toList vn k1).then fun _ j=>.ok 2 j):=HR.out
    clear HR
    have HR:=HRx
    clear HRx
    cases hr:aX s.data.toList vn k1 with
    | bad c=>
      have HRb:=Lib.hid (show R = .bad c from by rw[HR.out,hr];rfl)
      go_wp2_with fail
      with_reducible refine(bA HK1.out ⟨#[103,97,117,103,101]⟩ hs (by omega) (by decide)).mono ?_
      rintro e W hC
      obtain⟨rfl,jj,hH,hj⟩:=hC.bad hr
      exact⟨rfl,aG.mk_bad hH hj HRb.out⟩
    | ok y k2=>
      have HR2:=HR.out
      rw[hr,Rd.then_ok]at HR2
      clear HR
      have HR:=Lib.hid HR2
      clear HR2
      go_wp2_with fail
      with_reducible refine(bA HK1.out ⟨#[103,97,117,103,101]⟩ hs (by omega) (by decide)).mono ?_
      rintro e w2 hC
      obtain⟨rfl,hH,hj⟩:=hC.ok hr
      clear hC
      have hr0:=hr
      clear hr
      have HK2:Hid (ai w0 M X w2 (.box (g) 136 #[.string s,.int .i64 ((k2:Nat):Int)]::L) (F)):=hH
      clear HK1
      clear hH
      have hj_k2:=hj
      clear hj
      go_wp2
      go_ret
      exact aG.mk_eq HK2.out (by omega) HR.out rfl
   have hx2:¬ x=99:=uY (n:=99) (by decide) (by rw[←hm];exact hm2)
   have hx3:¬ x=103:=uY (n:=103) (by decide) (by rw[←hm];exact hm3)
   have b2:(m == 99)=false:=by simpa using hm2
   have b3:(m == 103)=false:=by simpa using hm3
   have HRx:=Lib.hid (show R=(aX s.data.toList iX k1).then fun _ j=>.ok 3 j from by rw[HR.out,if_neg hx2,if_neg hx3])
   clear HR hm
   have HR:=HRx
   clear HRx
   cases hr:aX s.data.toList iX k1 with
   | bad c=>
     have HRb:=Lib.hid (show R = .bad c from by rw[HR.out,hr];rfl)
     go_wp2_with fail
     with_reducible refine(bA HK1.out ⟨#[104,105,115,116,111,103,114,97,109]⟩ hs (by omega) (by decide)).mono ?_
     rintro e W hC
     obtain⟨rfl,jj,hH,hj⟩:=hC.bad hr
     exact⟨rfl,aG.mk_bad hH hj HRb.out⟩
   | ok y k2=>
     have HR2:=HR.out
     rw[hr,Rd.then_ok]at HR2
     clear HR
     have HR:=Lib.hid HR2
     clear HR2
     go_wp2_with fail
     with_reducible refine(bA HK1.out ⟨#[104,105,115,116,111,103,114,97,109]⟩ hs (by omega) (by decide)).mono ?_
     rintro e w2 hC
     obtain⟨rfl,hH,hj⟩:=hC.ok hr
     clear hC
     have hr0:=hr
     clear hr
     have HK2:Hid (ai w0 M X w2 (.box (g) 136 #[.string s,.int .i64 ((k2:Nat):Int)]::L) (F)):=hH
     clear HK1
     clear hH
     have hj_k2:=hj
     clear hj
     go_wp2
     go_ret
     exact aG.mk_eq HK2.out (by omega) HR.out rfl
end
section
open Go.RowKit
theorem gm {MO n k:Nat} {t:List UInt8} (h:n=0∨t[k]?=none ∨ ∃ c,t[k]?=some c∧cn c=false):eK MO (t.drop k) n k = .ok n k:=by
 cases hd:t.drop k with
 | nil=>rfl
 | cons c r=>
   have hc:=(drop_cons hd).1
   unfold eK
   rw[if_neg]
   rintro⟨h1,h2⟩
   rcases h with h | h | ⟨c',h,h3⟩
   ·omega
   ·rw[h]at hc;cases hc
   ·rw[h]at hc
    injection hc with hc
    subst hc
    rw[h2]at h3
    cases h3
theorem rF {MO n k:Nat} {t:List UInt8} {c:UInt8} (hc:t[k]?=some c) (hd:cn c=true) (hn:0<n):eK MO (t.drop k) n k=if(MO-(c.toNat-48))/10<n then .bad (k+1) else eK MO (t.drop (k+1)) (n*10+(c.toNat-48)) (k+1):=by
 obtain⟨hl,he⟩:=List.getElem?_eq_some_iff.1 hc
 rw[List.drop_eq_getElem_cons hl,he,eK,if_pos ⟨hn,hd⟩]
structure Ba (MO n:Nat) (ni:Int):Prop where
 eq:ni=(n:Int)
 le:n≤MO
set_option maxHeartbeats 16000000 in
theorem lU {w0 w:World} {M X:List Nat} {L:List Itm} {F:List Fact} {g i0:Nat} {s:ByteArray} (h:ai w0 M X w (cuB g s i0::L) F) (hs:s.size≤20000) (hi:i0≤s.size):
 Calls Tryz.prog 175 #[.pointer (some ⟨g,0,none⟩)] w (aG w0 M X g s L F (rY s.data.toList i0) (fun n=>.int .i64 n)):=by
 obtain⟨R,hR⟩:∃ R,R=rY s.data.toList i0:=⟨_,rfl⟩
 rw[←hR]
 unfold rY at hR
 have HR:=Lib.hid hR
 clear hR
 have HK0:=Lib.hid h
 clear h
 go_enter Tryz.func175,Tryz.ntmps175
 cases hr:aO s.data.toList i0 with
 | bad c=>
   have HRb:=Lib.hid (show R = .bad c from by rw[HR.out,hr];rfl)
   go_wp2_with fail
   with_reducible refine(bw HK0.out hs (by omega)).mono ?_
   rintro e W hC
   obtain⟨rfl,jj,hH,hj⟩:=hC.bad hr
   exact⟨rfl,aG.mk_bad hH hj HRb.out⟩
 | ok x k1=>
   have HR2:=HR.out
   rw[hr,Rd.then_ok]at HR2
   clear HR
   have HR:=Lib.hid HR2
   clear HR2
   go_wp2_with fail
   with_reducible refine(bw HK0.out hs (by omega)).mono ?_
   rintro e w1 hC
   obtain⟨rfl,hH,hj⟩:=hC.ok hr
   clear hC
   have hr0:=hr
   clear hr
   have HK1:Hid (ai w0 M X w1 (.box (g) 136 #[.string s,.int .i64 ((k1:Nat):Int)]::L) (F)):=hH
   clear HK0
   clear hH
   have hj_k1:=hj
   clear hj
   obtain⟨rfl,hlt,-⟩:=ff hr0
   have hp:=hr0
   clear hr0 hj_k1
   unfold u8V
   obtain⟨m,hm⟩:∃ m:Int,m=(x.toNat:Int):=⟨_,rfl⟩
   rw[←hm]
   by_cases hm2:m=45
   ·skip
    have hx:x=45:=gK (n:=45) (by decide) (hm.symm.trans hm2)
    subst hx
    clear hm
    subst hm2
    have HRx:Hid (R=(aO s.data.toList (k1+1)).then (fun f _=>if cn f=true∧f≠48 then(eK 9223372036854775808 (s.data.toList.drop (k1+2)) (f.toNat-48) (k1+2)).then fun n j=>.ok (-(n:Int)) j else .bad (k1+2))):=HR.out
    clear HR
    have HR:=HRx
    clear HRx
    have c_c_0_2:w1.cell? ⟨g,0,none⟩=some (.string s):=HK1.out.cell 0 rfl 0
    have z_c_0_3:w1.frozen? ⟨g,0,none⟩=false:=HK1.out.frozen 0 rfl 0
    have c_c_1_4:w1.cell? ⟨g,1,none⟩=some (.int .i64 ((k1:Nat):Int)):=HK1.out.cell 0 rfl 1
    have z_c_1_5:w1.frozen? ⟨g,1,none⟩=false:=HK1.out.frozen 0 rfl 1
    go_wp2_with fail
    clear c_c_0_2 z_c_0_3 c_c_1_4 z_c_1_5
    have HK6:Hid (ai w0 M X (w1.setCell ⟨g,1,none⟩ (.int .i64 ((k1:Int)+1))) (.box (g) 136 #[.string s,.int .i64 ((k1+1:Nat):Int)]::L) (F)):=HK1.out.cur (k1+1) (by omega)
    clear HK1
    cases hr:aO s.data.toList (k1+1) with
    | bad c=>
      have HRb:=Lib.hid (show R = .bad c from by rw[HR.out,hr];rfl)
      go_wp2_with fail
      with_reducible refine(bw HK6.out hs (by omega)).mono ?_
      rintro e W hC
      obtain⟨rfl,jj,hH,hj⟩:=hC.bad hr
      exact⟨rfl,aG.mk_bad hH hj HRb.out⟩
    | ok f k2=>
      have HR2:=HR.out
      rw[hr,Rd.then_ok]at HR2
      clear HR
      have HR:=Lib.hid HR2
      clear HR2
      go_wp2_with fail
      with_reducible refine(bw HK6.out hs (by omega)).mono ?_
      rintro e w2 hC
      obtain⟨rfl,hH,hj⟩:=hC.ok hr
      clear hC
      have hr0:=hr
      clear hr
      have HK7:Hid (ai w0 M X w2 (.box (g) 136 #[.string s,.int .i64 ((k2:Nat):Int)]::L) (F)):=hH
      clear HK6
      clear hH
      have hj_k2:=hj
      clear hj
      obtain⟨rfl,hlt2,-⟩:=ff hr0
      clear hr0 hj_k2
      unfold u8V
      cases hdf:cn f with
      | false=>
        have HRb:=Lib.hid (show R = .bad (k1+1+1) from by rw[HR.out,hdf];rfl)
        clear HR
        go_wp2_with fail
        with_reducible refine(eW f _).mono ?_
        rw[hdf]
        rintro e W' ⟨rfl,rfl⟩
        go_wp2_with fail
        refine(fA g (k1+1) w2 (HK7.out.cell 0 rfl 1) (by omega)).mono ?_
        rintro e W' ⟨rfl,rfl⟩
        exact⟨rfl,aG.mk_bad HK7.out (by omega) HRb.out⟩
      | true=>
        go_wp2_with fail
        with_reducible refine(eW f _).mono ?_
        rw[hdf]
        rintro e W' ⟨rfl,rfl⟩
        have hfb:=cV.1 hdf
        obtain⟨q,hq⟩:∃ q:Int,q=(f.toNat:Int):=⟨_,rfl⟩
        rw[←hq]
        have hq1:48≤q:=by omega
        have hq2:q≤57:=by omega
        have HQF:=Lib.hid hq
        clear hq
        by_cases hz:q=48
        ·skip
         have HRb:=Lib.hid (show R = .bad (k1+1+1) from by
          rw[HR.out,if_neg]
          rintro⟨_,h⟩
          apply h
          exact gK (n:=48) (by decide) (HQF.out.symm.trans hz))
         clear HR
         subst hz
         go_wp2_with fail
         refine(fA g (k1+1) w2 (HK7.out.cell 0 rfl 1) (by omega)).mono ?_
         rintro e W' ⟨rfl,rfl⟩
         exact⟨rfl,aG.mk_bad HK7.out (by omega) HRb.out⟩
        have bz:(q == 48)=false:=by simpa using hz
        have hz':¬ f=48:=uY (n:=48) (by decide) (by rw[←HQF.out];exact hz)
        have hn0:0<f.toNat-48:=by have h1:=HQF.out;omega
        have HR2:=Lib.hid (show R=(eK 9223372036854775808 (s.data.toList.drop (k1+1+1)) (f.toNat-48) (k1+1+1)).then (fun n j=>.ok (-(n:Int)) j) from by rw[HR.out,if_pos ⟨hdf,hz'⟩])
        clear HR
        have hw8:IntKind.u8.wrap (q-48)=q-48:=IntWalk.u8_in _ (by omega)
        have hw64:IntKind.u64.wrap (q-48)=q-48:=IntWalk.u64_in _ (by omega)
        have HN0:=Lib.hid (show Ba 9223372036854775808 (f.toNat-48) (q-48) from by have h1:=HQF.out;exact⟨by omega,by omega⟩)
        obtain⟨MO,hMO⟩:∃ MO:Nat,MO=9223372036854775808:=⟨_,rfl⟩
        rw[←hMO]at HR2 HN0
        have HMO:=Lib.hid hMO
        clear hMO
        have c_c_0_8:w2.cell? ⟨g,0,none⟩=some (.string s):=HK7.out.cell 0 rfl 0
        have z_c_0_9:w2.frozen? ⟨g,0,none⟩=false:=HK7.out.frozen 0 rfl 0
        have c_c_1_10:w2.cell? ⟨g,1,none⟩=some (.int .i64 ((k1+1:Nat):Int)):=HK7.out.cell 0 rfl 1
        have z_c_1_11:w2.frozen? ⟨g,1,none⟩=false:=HK7.out.frozen 0 rfl 1
        go_wp2_with fail
        go_loopw [6] (fun nv wr => ∃ (k n:Nat) (ni:Int),nv = .int .u64 ni∧Hid (Ba MO n ni)∧k≤s.size∧0<n∧Hid (ai w0 M X wr (.box (g) 136 #[.string s,.int .i64 ((k:Nat):Int)]::L) (F))∧Hid (R=(eK MO (s.data.toList.drop k) n k).then (fun n j=>.ok (-(n:Int)) j))) (fun _ wr=>s.size-curAt wr g)
        case atStart=>exact⟨k1+1+1,_,_,rfl,HN0,by omega,hn0,Lib.hid (HK7.out.cur (k1+1+1) (by omega)),HR2⟩
        case round=>
         clear c_c_0_8 z_c_0_9 c_c_1_10 z_c_1_11
         clear HK7 HN0 HR2 hdf hfb hw8 hw64
         obtain⟨k,n,ni,rfl,HN,hk,hnp,HK,HR⟩:=hrel
         have HW:=Lib.hid HK.out
         have hni:0<ni:=by rw[HN.out.eq];omega
         cases hx:s.data.toList[k]? with
         | none=>
           have hks2:s.size≤k:=by have:=List.getElem?_eq_none_iff.1 hx;simpa using this
           go_wp2_with fail
           with_reducible refine(eN HK.out).mono ?_
           rw[decide_eq_false (by omega)]
           rintro e w3 ⟨rfl,hH⟩
           have HK12:Hid (ai w0 M X w3 (.box (g) 136 #[.string s,.int .i64 ((k:Nat):Int)]::L) (F)):=hH
           clear HK
           clear hH
           have HE:=Lib.hid (show R = .ok (-(n:Int)) k from by rw[HR.out,gm (.inr (.inl hx))];rfl)
           clear HR
           obtain⟨z,hz1⟩:∃ z:Int,IntKind.u64.wrap (-ni)=z:=⟨_,rfl⟩
           have hz2:IntKind.i64.wrap z = -ni:=by have h1:=HN.out.eq;have h2:=HN.out.le;have h3:=HMO.out;rw[←hz1,IntKind.wrap_u64,IntKind.wrap_i64];omega
           go_wp2
           go_ret
           exact aG.mk_eq HK12.out hk HE.out (show Ending.returned (.int .i64 (-ni))=_ from by rw[HN.out.eq])
         | some c=>
           have hlk:k<s.size:=by have:=(List.getElem?_eq_some_iff.1 hx).1;simpa using this
           have hp:aO s.data.toList k = .ok c k:=by unfold aO;rw[hx]
           go_wp2_with fail
           with_reducible refine(eN HK.out).mono ?_
           rw[decide_eq_true (hlk)]
           rintro e w3 ⟨rfl,hH⟩
           have HK12:Hid (ai w0 M X w3 (.box (g) 136 #[.string s,.int .i64 ((k:Nat):Int)]::L) (F)):=hH
           clear HK
           clear hH
           go_wp2_with fail
           with_reducible refine(bw HK12.out hs (by omega)).mono ?_
           rintro e w4 hC
           obtain⟨rfl,hH,hj⟩:=hC.ok hp
           clear hC hj
           have HK13:Hid (ai w0 M X w4 (.box (g) 136 #[.string s,.int .i64 ((k:Nat):Int)]::L) (F)):=hH
           clear HK12
           clear hH
           cases hd:cn c with
           | false=>
             go_wp2_with fail
             with_reducible refine(eW c _).mono ?_
             rw[hd]
             rintro e W' ⟨rfl,rfl⟩
             have HE:=Lib.hid (show R = .ok (-(n:Int)) k from by rw[HR.out,gm (.inr (.inr ⟨c,hx,hd⟩))];rfl)
             clear HR
             obtain⟨z,hz1⟩:∃ z:Int,IntKind.u64.wrap (-ni)=z:=⟨_,rfl⟩
             have hz2:IntKind.i64.wrap z = -ni:=by have h1:=HN.out.eq;have h2:=HN.out.le;have h3:=HMO.out;rw[←hz1,IntKind.wrap_u64,IntKind.wrap_i64];omega
             go_wp2
             go_ret
             exact aG.mk_eq HK13.out hk HE.out (show Ending.returned (.int .i64 (-ni))=_ from by rw[HN.out.eq])
           | true=>
             go_wp2_with fail
             with_reducible refine(eW c _).mono ?_
             rw[hd]
             rintro e W' ⟨rfl,rfl⟩
             go_wp2_with fail
             with_reducible refine(bw HK13.out hs (by omega)).mono ?_
             rintro e w5 hC
             obtain⟨rfl,hH,hj⟩:=hC.ok hp
             clear hC hj
             have HK14:Hid (ai w0 M X w5 (.box (g) 136 #[.string s,.int .i64 ((k:Nat):Int)]::L) (F)):=hH
             clear HK13
             clear hH
             have hcb:=cV.1 hd
             have HG:=Lib.hid (rF (MO:=MO) hx hd hnp)
             clear hx hd
             obtain⟨d,hd⟩:∃ d:Int,d=(c.toNat:Int):=⟨_,rfl⟩
             unfold u8V
             rw[←hd]
             have hd1:48≤d:=by omega
             have hd2:d≤57:=by omega
             have HD:=Lib.hid hd
             clear hd
             have hw8:IntKind.u8.wrap (d-48)=d-48:=IntWalk.u8_in _ (by omega)
             have hw64:IntKind.u64.wrap (d-48)=d-48:=IntWalk.u64_in _ (by omega)
             obtain⟨q1,hq1⟩:∃ q1:Int,q1=(9223372036854775808-(d-48))/10:=⟨_,rfl⟩
             have hq3:IntKind.u64.wrap (9223372036854775808-(d-48))=9223372036854775808-(d-48):=IntWalk.u64_in _ (by omega)
             have hq4:IntKind.u64.wrap ((9223372036854775808-(d-48)).tdiv 10)=q1:=by rw[hq1];exact IntWalk.u64_quo _ _ (by omega)
             have HQ:=Lib.hid (show q1=(((MO-(c.toNat-48))/10:Nat):Int) from by have h1:=HD.out;rw[HMO.out];omega)
             clear hq1
             by_cases hov:q1<ni
             ·skip
              have HRb:=Lib.hid (show R = .bad (k+1) from by rw[HR.out,HG.out,if_pos (by have h1:=HQ.out;have h2:=HN.out.eq;omega)];rfl)
              clear HR HG
              go_wp2_with fail
              refine(fA g k w5 (HK14.out.cell 0 rfl 1) (by omega)).mono ?_
              rintro e W' ⟨rfl,rfl⟩
              exact⟨rfl,aG.mk_bad HK14.out (by omega) HRb.out⟩
             have HRn:=Lib.hid (show R=(eK MO (s.data.toList.drop (k+1)) (n*10+(c.toNat-48)) (k+1)).then (fun n j=>.ok (-(n:Int)) j) from by rw[HR.out,HG.out,if_neg (by have h1:=HQ.out;have h2:=HN.out.eq;omega)])
             have HNn:=Lib.hid (show Ba MO (n*10+(c.toNat-48)) (ni*10+(d-48)) from by have h1:=HQ.out;have h2:=HN.out.eq;have h3:=HMO.out;have h4:=HN.out.le;have h5:=HD.out;exact⟨by omega,by omega⟩)
             clear HR HG
             have hm1:IntKind.u64.wrap (ni*10)=ni*10:=by have h1:=HNn.out.eq;have h2:=HNn.out.le;have h3:=HMO.out;exact IntWalk.u64_in _ (by omega)
             have hm2:IntKind.u64.wrap (ni*10+(d-48))=ni*10+(d-48):=by have h1:=HNn.out.eq;have h2:=HNn.out.le;have h3:=HMO.out;exact IntWalk.u64_in _ (by omega)
             have c_c_0_15:w5.cell? ⟨g,0,none⟩=some (.string s):=HK14.out.cell 0 rfl 0
             have z_c_0_16:w5.frozen? ⟨g,0,none⟩=false:=HK14.out.frozen 0 rfl 0
             have c_c_1_17:w5.cell? ⟨g,1,none⟩=some (.int .i64 ((k:Nat):Int)):=HK14.out.cell 0 rfl 1
             have z_c_1_18:w5.frozen? ⟨g,1,none⟩=false:=HK14.out.frozen 0 rfl 1
             go_wp2_with fail
             exact⟨⟨k+1,_,_,rfl,HNn,by omega,by omega,Lib.hid (HK14.out.cur (k+1) (by omega)),HRn⟩,by rw[(HK14.out.cur (k+1) (u:=(k:Int)+1) (by omega)).curAt,HW.out.curAt];omega⟩
   ·skip
    have hx2:¬ x=45:=uY (n:=45) (by decide) (by rw[←hm];exact hm2)
    have b2:(m == 45)=false:=by simpa using hm2
    have HRx:=Lib.hid (show R=(if cn x=true then(eK 9223372036854775807 (s.data.toList.drop (k1+1)) (x.toNat-48) (k1+1)).then (fun n j=>.ok (n:Int) j) else .bad (k1+1)) from by rw[HR.out,if_neg hx2])
    clear HR hx2 hm
    have HR:=HRx
    clear HRx
    go_wp2_with fail
    with_reducible refine(bw HK1.out hs (by omega)).mono ?_
    rintro e w2 hC
    obtain⟨rfl,hH,hj⟩:=hC.ok hp
    clear hC hj
    have HK2:Hid (ai w0 M X w2 (.box (g) 136 #[.string s,.int .i64 ((k1:Nat):Int)]::L) (F)):=hH
    clear HK1
    clear hH
    have hlt2:=hlt
    unfold u8V
    cases hdf:cn x with
    | false=>
      have HRb:=Lib.hid (show R = .bad (k1+1) from by rw[HR.out,hdf];rfl)
      clear HR
      go_wp2_with fail
      with_reducible refine(eW x _).mono ?_
      rw[hdf]
      rintro e W' ⟨rfl,rfl⟩
      go_wp2_with fail
      refine(fA g (k1) w2 (HK2.out.cell 0 rfl 1) (by omega)).mono ?_
      rintro e W' ⟨rfl,rfl⟩
      exact⟨rfl,aG.mk_bad HK2.out (by omega) HRb.out⟩
    | true=>
      go_wp2_with fail
      with_reducible refine(eW x _).mono ?_
      rw[hdf]
      rintro e W' ⟨rfl,rfl⟩
      have hfb:=cV.1 hdf
      obtain⟨q,hq⟩:∃ q:Int,q=(x.toNat:Int):=⟨_,rfl⟩
      rw[←hq]
      have hq1:48≤q:=by omega
      have hq2:q≤57:=by omega
      have HQF:=Lib.hid hq
      clear hq
      have HR2:=Lib.hid (show R=(eK 9223372036854775807 (s.data.toList.drop (k1+1)) (x.toNat-48) (k1+1)).then (fun n j=>.ok (n:Int) j) from by rw[HR.out,if_pos hdf])
      clear HR
      have hw8:IntKind.u8.wrap (q-48)=q-48:=IntWalk.u8_in _ (by omega)
      have hw64:IntKind.u64.wrap (q-48)=q-48:=IntWalk.u64_in _ (by omega)
      have HN0:=Lib.hid (show Ba 9223372036854775807 (x.toNat-48) (q-48) from by have h1:=HQF.out;exact⟨by omega,by omega⟩)
      obtain⟨MO,hMO⟩:∃ MO:Nat,MO=9223372036854775807:=⟨_,rfl⟩
      rw[←hMO]at HR2 HN0
      have HMO:=Lib.hid hMO
      clear hMO
      have c_c_0_3:w2.cell? ⟨g,0,none⟩=some (.string s):=HK2.out.cell 0 rfl 0
      have z_c_0_4:w2.frozen? ⟨g,0,none⟩=false:=HK2.out.frozen 0 rfl 0
      have c_c_1_5:w2.cell? ⟨g,1,none⟩=some (.int .i64 ((k1:Nat):Int)):=HK2.out.cell 0 rfl 1
      have z_c_1_6:w2.frozen? ⟨g,1,none⟩=false:=HK2.out.frozen 0 rfl 1
      go_wp2_with fail
      go_loopw [6] (fun nv wr => ∃ (k n:Nat) (ni:Int),nv = .int .u64 ni∧Hid (Ba MO n ni)∧k≤s.size∧Hid (ai w0 M X wr (.box (g) 136 #[.string s,.int .i64 ((k:Nat):Int)]::L) (F))∧Hid (R=(eK MO (s.data.toList.drop k) n k).then (fun n j=>.ok (n:Int) j))) (fun _ wr=>s.size-curAt wr g)
      case atStart=>exact⟨k1+1,_,_,rfl,HN0,by omega,Lib.hid (HK2.out.cur (k1+1) (by omega)),HR2⟩
      case round=>
       clear c_c_0_3 z_c_0_4 c_c_1_5 z_c_1_6
       clear HK2 HN0 HR2 hdf hfb hw8 hw64
       obtain⟨k,n,ni,rfl,HN,hk,HK,HR⟩:=hrel
       have HW:=Lib.hid HK.out
       by_cases hn:n=0
       ·skip
        obtain rfl:ni=0:=by rw[HN.out.eq,hn];rfl
        have HE:=Lib.hid (show R = .ok ((n:Int)) k from by rw[HR.out,gm (.inl hn)];rfl)
        clear HR
        have hz2:IntKind.i64.wrap 0=0:=by have h1:=HN.out.eq;have h2:=HN.out.le;have h3:=HMO.out;exact IntWalk.i64_in _ (by omega)
        go_wp2
        go_ret
        exact aG.mk_eq HK.out hk HE.out (show Ending.returned (.int .i64 (0))=_ from by rw[HN.out.eq])
       have hnp:0<n:=by omega
       have hni:0<ni:=by rw[HN.out.eq];omega
       cases hx:s.data.toList[k]? with
       | none=>
         have hks2:s.size≤k:=by have:=List.getElem?_eq_none_iff.1 hx;simpa using this
         go_wp2_with fail
         with_reducible refine(eN HK.out).mono ?_
         rw[decide_eq_false (by omega)]
         rintro e w3 ⟨rfl,hH⟩
         have HK7:Hid (ai w0 M X w3 (.box (g) 136 #[.string s,.int .i64 ((k:Nat):Int)]::L) (F)):=hH
         clear HK
         clear hH
         have HE:=Lib.hid (show R = .ok ((n:Int)) k from by rw[HR.out,gm (.inr (.inl hx))];rfl)
         clear HR
         have hz2:IntKind.i64.wrap ni=ni:=by have h1:=HN.out.eq;have h2:=HN.out.le;have h3:=HMO.out;exact IntWalk.i64_in _ (by omega)
         go_wp2
         go_ret
         exact aG.mk_eq HK7.out hk HE.out (show Ending.returned (.int .i64 (ni))=_ from by rw[HN.out.eq])
       | some c=>
         have hlk:k<s.size:=by have:=(List.getElem?_eq_some_iff.1 hx).1;simpa using this
         have hp:aO s.data.toList k = .ok c k:=by unfold aO;rw[hx]
         go_wp2_with fail
         with_reducible refine(eN HK.out).mono ?_
         rw[decide_eq_true (hlk)]
         rintro e w3 ⟨rfl,hH⟩
         have HK7:Hid (ai w0 M X w3 (.box (g) 136 #[.string s,.int .i64 ((k:Nat):Int)]::L) (F)):=hH
         clear HK
         clear hH
         go_wp2_with fail
         with_reducible refine(bw HK7.out hs (by omega)).mono ?_
         rintro e w4 hC
         obtain⟨rfl,hH,hj⟩:=hC.ok hp
         clear hC hj
         have HK8:Hid (ai w0 M X w4 (.box (g) 136 #[.string s,.int .i64 ((k:Nat):Int)]::L) (F)):=hH
         clear HK7
         clear hH
         cases hd:cn c with
         | false=>
           go_wp2_with fail
           with_reducible refine(eW c _).mono ?_
           rw[hd]
           rintro e W' ⟨rfl,rfl⟩
           have HE:=Lib.hid (show R = .ok ((n:Int)) k from by rw[HR.out,gm (.inr (.inr ⟨c,hx,hd⟩))];rfl)
           clear HR
           have hz2:IntKind.i64.wrap ni=ni:=by have h1:=HN.out.eq;have h2:=HN.out.le;have h3:=HMO.out;exact IntWalk.i64_in _ (by omega)
           go_wp2
           go_ret
           exact aG.mk_eq HK8.out hk HE.out (show Ending.returned (.int .i64 (ni))=_ from by rw[HN.out.eq])
         | true=>
           go_wp2_with fail
           with_reducible refine(eW c _).mono ?_
           rw[hd]
           rintro e W' ⟨rfl,rfl⟩
           go_wp2_with fail
           with_reducible refine(bw HK8.out hs (by omega)).mono ?_
           rintro e w5 hC
           obtain⟨rfl,hH,hj⟩:=hC.ok hp
           clear hC hj
           have HK9:Hid (ai w0 M X w5 (.box (g) 136 #[.string s,.int .i64 ((k:Nat):Int)]::L) (F)):=hH
           clear HK8
           clear hH
           have hcb:=cV.1 hd
           have HG:=Lib.hid (rF (MO:=MO) hx hd hnp)
           clear hx hd
           obtain⟨d,hd⟩:∃ d:Int,d=(c.toNat:Int):=⟨_,rfl⟩
           unfold u8V
           rw[←hd]
           have hd1:48≤d:=by omega
           have hd2:d≤57:=by omega
           have HD:=Lib.hid hd
           clear hd
           have hw8:IntKind.u8.wrap (d-48)=d-48:=IntWalk.u8_in _ (by omega)
           have hw64:IntKind.u64.wrap (d-48)=d-48:=IntWalk.u64_in _ (by omega)
           obtain⟨q1,hq1⟩:∃ q1:Int,q1=(9223372036854775807-(d-48))/10:=⟨_,rfl⟩
           have hq3:IntKind.u64.wrap (9223372036854775807-(d-48))=9223372036854775807-(d-48):=IntWalk.u64_in _ (by omega)
           have hq4:IntKind.u64.wrap ((9223372036854775807-(d-48)).tdiv 10)=q1:=by rw[hq1];exact IntWalk.u64_quo _ _ (by omega)
           have HQ:=Lib.hid (show q1=(((MO-(c.toNat-48))/10:Nat):Int) from by have h1:=HD.out;rw[HMO.out];omega)
           clear hq1
           by_cases hov:q1<ni
           ·skip
            have HRb:=Lib.hid (show R = .bad (k+1) from by rw[HR.out,HG.out,if_pos (by have h1:=HQ.out;have h2:=HN.out.eq;omega)];rfl)
            clear HR HG
            go_wp2_with fail
            refine(fA g k w5 (HK9.out.cell 0 rfl 1) (by omega)).mono ?_
            rintro e W' ⟨rfl,rfl⟩
            exact⟨rfl,aG.mk_bad HK9.out (by omega) HRb.out⟩
           have HRn:=Lib.hid (show R=(eK MO (s.data.toList.drop (k+1)) (n*10+(c.toNat-48)) (k+1)).then (fun n j=>.ok (n:Int) j) from by rw[HR.out,HG.out,if_neg (by have h1:=HQ.out;have h2:=HN.out.eq;omega)])
           have HNn:=Lib.hid (show Ba MO (n*10+(c.toNat-48)) (ni*10+(d-48)) from by have h1:=HQ.out;have h2:=HN.out.eq;have h3:=HMO.out;have h4:=HN.out.le;have h5:=HD.out;exact⟨by omega,by omega⟩)
           clear HR HG
           have hm1:IntKind.u64.wrap (ni*10)=ni*10:=by have h1:=HNn.out.eq;have h2:=HNn.out.le;have h3:=HMO.out;exact IntWalk.u64_in _ (by omega)
           have hm2:IntKind.u64.wrap (ni*10+(d-48))=ni*10+(d-48):=by have h1:=HNn.out.eq;have h2:=HNn.out.le;have h3:=HMO.out;exact IntWalk.u64_in _ (by omega)
           have c_c_0_10:w5.cell? ⟨g,0,none⟩=some (.string s):=HK9.out.cell 0 rfl 0
           have z_c_0_11:w5.frozen? ⟨g,0,none⟩=false:=HK9.out.frozen 0 rfl 0
           have c_c_1_12:w5.cell? ⟨g,1,none⟩=some (.int .i64 ((k:Nat):Int)):=HK9.out.cell 0 rfl 1
           have z_c_1_13:w5.frozen? ⟨g,1,none⟩=false:=HK9.out.frozen 0 rfl 1
           go_wp2_with fail
           exact⟨⟨k+1,_,_,rfl,HNn,by omega,Lib.hid (HK9.out.cur (k+1) (by omega)),HRn⟩,by rw[(HK9.out.cur (k+1) (u:=(k:Int)+1) (by omega)).curAt,HW.out.curAt];omega⟩
end
section
open Go.RowKit
open Go.Shelf
abbrev ic (g:Nat) (s:ByteArray) (k b:Nat) (p v:Value) (acc:List UInt8):List Itm:=[cuB g s k,.box b 82 #[p,v],.row 5 1 v acc.length (Lib.byteCells acc)]
theorem iJ {w W:World} {g k b:Nat} {s:ByteArray} {p v:Value} {acc:List UInt8} (h:ai w [g] [g] W (ic g s k b p v acc) []) (hp:p = .pointer none∨p = .pointer (some ⟨b,0,none⟩)):IsB w.heap.size b (Lib.byteCells acc) W:=by
 have hne:¬ g=b:=h.ne 0 1 (by decide) rfl rfl
 have hB:w.heap.size≤b:=by
  rcases h.ge 1 rfl with h1 | h1
  ·exact h1
  ·rw[List.mem_singleton]at h1;exact absurd h1.symm hne
 have hrow:W.ownsRow w.heap.size 5 1 v (Lib.byteCells acc).length (Lib.byteCells acc):=by
  have h1:=h.row 2 rfl
  have h2:=(h.ents _ (List.mem_of_getElem? (show(ic g s k b p v acc)[2]?=some _ from rfl))).2
  have h3:∀ x,v.ownBlock=some x→x≠g:=fun x e e'=>by
   subst e'
   exact h.apart_ (i:=0) (j:=2) (by decide) rfl rfl x rfl e
  have hl:(Lib.byteCells acc).length=acc.length:=by simp[Lib.byteCells]
  rw[hl]
  rcases h1 with⟨e1,e2 | ⟨g',cap,cur,rfl,e3,e4⟩⟩
  ·exact⟨e1,.inl e2⟩
  ·refine⟨e1,.inr ⟨g',cap,cur,rfl,?_,e4⟩⟩
   rcases(h2 g' rfl).1 with h4 | h4
   ·exact h4
   ·rw[List.mem_singleton]at h4;exact absurd h4 (h3 g' rfl)
 have hvb:v.ownBlock≠some b:=fun e=>h.apart_ (i:=1) (j:=2) (by decide) rfl rfl b rfl e
 rcases hp with rfl | rfl
 ·exact .inl ⟨hB,v,h.blk 1 rfl,hrow,hvb⟩
 ·exact .inr ⟨hB,v,h.blk 1 rfl,hrow,hvb⟩
theorem pz {w W W':World} {g k b:Nat} {s:ByteArray} {p v:Value} {acc acc':List UInt8} (h:ai w [g] [g] W (ic g s k b p v acc) []) (hu:AU w.heap.size b (Lib.byteCells acc') W') (hb:Below w.heap.size W W'):∃ v',ai w [g] [g] W' (ic g s k b (.pointer (some ⟨b,0,none⟩)) v' acc') []:=by
 obtain⟨hB,v',hbk,hown,hvb⟩:=hu
 have hl:(Lib.byteCells acc').length=acc'.length:=by simp[Lib.byteCells]
 rw[hl]at hown
 have hgw:g<w.heap.size:=h.xok g (List.mem_singleton.2 rfl)
 have hgb:g≠b:=by omega
 have hvge:∀ x,v'.ownBlock=some x→w.heap.size≤x∧x<W'.heap.size:=fun x e=>zh hown x e
 refine⟨v',⟨⟨hb.os.trans h.same.1,hb.tape.trans h.same.2.1,hb.output.trans h.same.2.2⟩,Nat.le_trans h.size hb.size,fun x hx hm=>(hb.block x hx).trans (h.block x hx hm),h.given,h.xok,fun x hx=>?_,?_,by simp⟩⟩
 ·simp only[ic,List.mem_cons,List.not_mem_nil,or_false]at hx
  rcases hx with rfl | rfl | rfl
  ·exact⟨(hb.block g hgw).trans (h.blk 0 rfl),fun x e=>by injection e with e;subst e;exact⟨.inr (List.mem_singleton.2 rfl),Nat.lt_of_lt_of_le hgw (Nat.le_trans h.size hb.size)⟩⟩
  ·exact⟨hbk,fun x e=>by injection e with e;subst e;exact⟨.inl hB,Blk.lt (t:=82) hbk⟩⟩
  ·exact⟨bX hown (Nat.zero_le _),fun x e=>⟨.inl (hvge x e).1,(hvge x e).2⟩⟩
 ·refine List.Pairwise.cons (fun y hy x e e'=>?_) (List.Pairwise.cons (fun y hy x e e'=>?_) (List.pairwise_singleton _ _))
  ·injection e with e
   subst e
   simp only[List.mem_cons,List.not_mem_nil,or_false]at hy
   rcases hy with rfl | rfl
   ·injection e' with e';exact hgb e'.symm
   ·have:=(hvge g e').1;omega
  ·injection e with e
   subst e
   rw[List.mem_singleton]at hy
   subst hy
   exact hvb e'
theorem sy {value:Bool} {t:List UInt8} {k:Nat} {acc:List UInt8} (h:t[k]?=none):dH value (t.drop k) k acc = .ok acc k:=by
 rw[List.drop_of_length_le (List.getElem?_eq_none_iff.1 h)]
 unfold dH
 rfl
theorem yS {t:List UInt8} {k:Nat} {acc:List UInt8} (h:t[k]?=some 34):dH true (t.drop k) k acc = .ok acc k:=by
 obtain⟨hl,he⟩:=List.getElem?_eq_some_iff.1 h
 rw[List.drop_eq_getElem_cons hl,he]
 unfold dH
 rfl
theorem oz {value:Bool} {t:List UInt8} {k:Nat} {acc:List UInt8} {x:UInt8} (h:t[k]?=some x) (h1:¬ (value&&x == 34)=true) (h2:¬ x=92):dH value (t.drop k) k acc=dH value (t.drop (k+1)) (k+1) (acc ++ [x]):=by
 obtain⟨hl,he⟩:=List.getElem?_eq_some_iff.1 h
 rw[List.drop_eq_getElem_cons hl,he]
 rw[dH.eq_def]
 simp only
 rw[if_neg h1,if_neg h2]
theorem qa {value:Bool} {t:List UInt8} {k:Nat} {acc:List UInt8} (h:t[k]?=some 92):dH value (t.drop k) k acc=(mu value t (k+1)).then fun y j=>dH value (t.drop j) j (acc ++ [y]):=by
 obtain⟨hl,he⟩:=List.getElem?_eq_some_iff.1 h
 rw[List.drop_eq_getElem_cons hl,he]
 rw[dH.eq_def]
 simp only
 rw[if_neg (by cases value<;>decide),if_pos trivial]
 unfold mu aO
 cases hd:t.drop (k+1) with
 | nil=>
   rw[List.getElem?_eq_none (by have:=congrArg List.length hd;simp at this;omega)]
   rfl
 | cons y r=>
   obtain⟨e1,e2⟩:=drop_cons hd
   rw[e1,Rd.then_ok]
   simp only
   split
   ·rw[Rd.then_ok,e2]
   ·rfl
theorem mZ {w0 w W W2:World} {M X:List Nat} {L:List Itm} {F:List Fact} {g i0 k b:Nat} {s:ByteArray} {p v:Value} {acc:List UInt8} (h0:ai w0 M X w (cuB g s i0::L) F) (h:ai w [g] [g] W (ic g s k b p v acc) []) (hb:Below w.heap.size W W2):ai w0 M X W2 (cuB g s k::L) F:=by
 have hgw:g<w.heap.size:=h.xok g (List.mem_singleton.2 rfl)
 exact h0.wrote1 0 rfl ⟨hb.os.trans h.same.1,hb.tape.trans h.same.2.1,hb.output.trans h.same.2.2,Nat.le_trans h.size hb.size,fun x hx hm=>(hb.block x hx).trans (h.block x hx hm)⟩ ((hb.block g hgw).trans (h.blk 0 rfl))
set_option maxHeartbeats 16000000 in
theorem kr {w0 w:World} {M X:List Nat} {L:List Itm} {F:List Fact} {g i0:Nat} {s:ByteArray} (h:ai w0 M X w (cuB g s i0::L) F) (value:Bool) (hs:s.size≤20000) (hi:i0≤s.size):
 Calls Tryz.prog 100 #[.pointer (some ⟨g,0,none⟩),.bool value] w (aG w0 M X g s L F (vc value s.data.toList i0) (fun x=>.string (sB x))):=by
 obtain⟨R,hR⟩:∃ R,R=vc value s.data.toList i0:=⟨_,rfl⟩
 rw[←hR]
 unfold vc at hR
 have HR:=Lib.hid hR
 clear hR
 have HOut:=Lib.hid h
 have hgw:g<w.heap.size:=h.lt 0 rfl
 have HK0:=Lib.hid (show ai w [g] [g] (w.alloc (.cells #[.pointer none,.slice none 0 0] 82)) (ic g s i0 w.heap.size (.pointer none) (.slice none 0 0) []) [] from by
  have h1:ai w [g] [g] w [cuB g s i0] []:=ai.start_at w (fun x hx=>by rw[List.mem_singleton]at hx;subst hx;exact hgw) (h.blk 0 rfl) (List.mem_singleton.2 rfl)
  have h2:=(h1.alloc 82 #[.pointer none,.slice none 0 0]).nil_row 5 1
  exact h2.perm ((List.Perm.swap _ _ _).trans ((List.Perm.cons _ (List.Perm.swap _ _ _)).trans (List.Perm.swap _ _ _)) |>.trans (List.Perm.cons _ (List.Perm.refl _))))
 clear h
 cases value with
 | true=>
   go_enter Tryz.func100,Tryz.ntmps100
   go_wp2_with fail
   go_loopw [] (fun wr => ∃ (k:Nat) (acc:List UInt8) (p v:Value),k≤s.size∧acc.length≤k∧Hid (p = .pointer none∨p = .pointer (some ⟨w.heap.size,0,none⟩))∧Hid (ai w [g] [g] wr (ic g s k w.heap.size p v acc) [])∧Hid (R=dH true (s.data.toList.drop k) k acc)) (fun wr=>s.size-curAt wr g)
   case atStart=>exact⟨i0,[],_,_,hi,Nat.zero_le _,Lib.hid (.inl rfl),HK0,HR⟩
   case round=>
    clear HK0 HR
    obtain⟨k,acc,p,v,hk,hac,HP,HK,HR⟩:=hrel
    have HW:=Lib.hid HK.out
    cases hx:s.data.toList[k]? with
    | none=>
      have hks2:s.size≤k:=by have:=List.getElem?_eq_none_iff.1 hx;simpa using this
      go_wp2_with fail
      with_reducible refine(eN HK.out).mono ?_
      rw[decide_eq_false (by omega)]
      rintro e w3 ⟨rfl,hH⟩
      have HK1:Hid (ai w [g] [g] w3 (ic g s (k) w.heap.size (p) (v) (acc)) []):=hH
      clear HK
      clear hH
      have HE:Hid (R = .ok acc k):=HR.out.trans (sy hx)
      clear HR
      go_wp2_with fail
      with_reducible refine(Tryz.Builder_String_any w.heap.size w.heap.size acc _ (iJ HK1.out HP.out) HK1.out.size).mono ?_
      rintro e W9 ⟨rfl,hb⟩
      go_wp2
      go_ret
      exact aG.mk_eq (mZ HOut.out HK1.out hb) hk HE.out rfl
    | some x=>
      have hlk:k<s.size:=by have:=(List.getElem?_eq_some_iff.1 hx).1;simpa using this
      have hp:aO s.data.toList k = .ok x k:=by unfold aO;rw[hx]
      go_wp2_with fail
      with_reducible refine(eN HK.out).mono ?_
      rw[decide_eq_true (hlk)]
      rintro e w3 ⟨rfl,hH⟩
      have HK1:Hid (ai w [g] [g] w3 (ic g s (k) w.heap.size (p) (v) (acc)) []):=hH
      clear HK
      clear hH
      go_wp2_with fail
      with_reducible refine(bw HK1.out hs (by omega)).mono ?_
      rintro e w4 hC
      obtain⟨rfl,hH,hj⟩:=hC.ok hp
      clear hC hj
      have HK2:Hid (ai w [g] [g] w4 (ic g s (k) w.heap.size (p) (v) (acc)) []):=hH
      clear HK1
      clear hH
      by_cases h34:x=34
      ·skip
       subst h34
       unfold u8V
       have HE:Hid (R = .ok acc k):=HR.out.trans (yS hx)
       clear HR
       go_wp2_with fail
       with_reducible refine(Tryz.Builder_String_any w.heap.size w.heap.size acc _ (iJ HK2.out HP.out) HK2.out.size).mono ?_
       rintro e W9 ⟨rfl,hb⟩
       go_wp2
       go_ret
       exact aG.mk_eq (mZ HOut.out HK2.out hb) hk HE.out rfl
      by_cases h92:x=92
      ·skip
       subst h92
       unfold u8V
       have HR1:=Lib.hid (HR.out.trans (qa hx))
       clear HR
       have HR:=HR1
       clear HR1 hx hp
       have c_c_0_3:w4.cell? ⟨g,0,none⟩=some (.string s):=HK2.out.cell 0 rfl 0
       have z_c_0_4:w4.frozen? ⟨g,0,none⟩=false:=HK2.out.frozen 0 rfl 0
       have c_c_1_5:w4.cell? ⟨g,1,none⟩=some (.int .i64 ((k:Nat):Int)):=HK2.out.cell 0 rfl 1
       have z_c_1_6:w4.frozen? ⟨g,1,none⟩=false:=HK2.out.frozen 0 rfl 1
       go_wp2_with fail
       clear c_c_0_3 z_c_0_4 c_c_1_5 z_c_1_6
       have HK7:Hid (ai w [g] [g] (w4.setCell ⟨g,1,none⟩ (.int .i64 ((k:Int)+1))) (ic g s (k+1) w.heap.size (p) (v) (acc)) []):=HK2.out.cur (k+1) (by omega)
       clear HK2
       cases hr:mu true s.data.toList (k+1) with
       | bad c=>
         have HRb:=Lib.hid (show R = .bad c from by rw[HR.out,hr];rfl)
         with_reducible refine(uA HK7.out true hs (by omega)).mono ?_
         rintro e W hC
         obtain⟨rfl,jj,hH,hj⟩:=hC.bad hr
         exact⟨rfl,aG.mk_bad (mZ HOut.out hH (Below.refl _ _)) hj HRb.out⟩
       | ok y k2=>
         have HR2:=HR.out
         rw[hr,Rd.then_ok]at HR2
         clear HR
         have HR:=Lib.hid HR2
         clear HR2
         with_reducible refine(uA HK7.out true hs (by omega)).mono ?_
         rintro e w5 hC
         obtain⟨rfl,hH,hj⟩:=hC.ok hr
         clear hC
         have hr0:=hr
         clear hr
         have HK8:Hid (ai w [g] [g] w5 (ic g s (k2) w.heap.size (p) (v) (acc)) []):=hH
         clear HK7
         clear hH
         have hj_k2:=hj
         clear hj
         have hk2:k+2≤k2:=by
          unfold mu at hr0
          cases hq:aO s.data.toList (k+1) with
          | bad c=>rw[hq]at hr0;cases hr0
          | ok c j=>
            obtain⟨rfl,-⟩:=jy hq
            rw[hq,Rd.then_ok]at hr0
            split at hr0
            ·injection hr0 with _ h2;omega
            ·cases hr0
         clear hr0
         have HRn:=HR
         clear HR
         unfold u8V
         go_wp2_with fail
         with_reducible refine(dU w.heap.size w.heap.size (Lib.byteCells acc) (y.toNat:Int) _ (iJ HK8.out HP.out) (by simp[Lib.byteCells];omega) HK8.out.size).mono ?_
         rintro e W8 ⟨rfl,hu,hb⟩
         obtain⟨v',hH⟩:=pz HK8.out (acc':=acc ++ [y]) (by rw[Lib.byteCells_append];exact hu) hb
         clear hu hb
         clear HK8
         have HKn:=Lib.hid hH
         clear hH
         have hc8:=HKn.out.curAt
         go_wp2_with fail
         exact⟨⟨k2,acc ++ [y],_,v',by omega,by simp;omega,Lib.hid (.inr rfl),HKn,HRn⟩,by rw[hc8,HW.out.curAt];omega⟩
      have HRn:=Lib.hid (HR.out.trans (oz hx (by simpa using h34) h92))
      clear HR hx hp
      unfold u8V
      obtain⟨m,hm⟩:∃ m:Int,m=(x.toNat:Int):=⟨_,rfl⟩
      rw[←hm]
      have b92:(m == 92)=false:=by rw[hm,beq_eq_false_iff_ne];exact fun h=>h92 (gK (n:=92) (by decide) h)
      have b34:(m == 34)=false:=by rw[hm,beq_eq_false_iff_ne];exact fun h=>h34 (gK (n:=34) (by decide) h)
      clear h34
      have HM:=Lib.hid hm
      clear hm h92
      have c_c_0_3:w4.cell? ⟨g,0,none⟩=some (.string s):=HK2.out.cell 0 rfl 0
      have z_c_0_4:w4.frozen? ⟨g,0,none⟩=false:=HK2.out.frozen 0 rfl 0
      have c_c_1_5:w4.cell? ⟨g,1,none⟩=some (.int .i64 ((k:Nat):Int)):=HK2.out.cell 0 rfl 1
      have z_c_1_6:w4.frozen? ⟨g,1,none⟩=false:=HK2.out.frozen 0 rfl 1
      go_wp2_with fail
      clear c_c_0_3 z_c_0_4 c_c_1_5 z_c_1_6
      have HK7:Hid (ai w [g] [g] (w4.setCell ⟨g,1,none⟩ (.int .i64 ((k:Int)+1))) (ic g s (k+1) w.heap.size (p) (v) (acc)) []):=HK2.out.cur (k+1) (by omega)
      clear HK2
      rw[HM.out]
      clear HM b92 b34
      go_wp2_with fail
      with_reducible refine(dU w.heap.size w.heap.size (Lib.byteCells acc) (x.toNat:Int) _ (iJ HK7.out HP.out) (by simp[Lib.byteCells];omega) HK7.out.size).mono ?_
      rintro e W8 ⟨rfl,hu,hb⟩
      obtain⟨v',hH⟩:=pz HK7.out (acc':=acc ++ [x]) (by rw[Lib.byteCells_append];exact hu) hb
      clear hu hb
      clear HK7
      have HKn:=Lib.hid hH
      clear hH
      have hc8:=HKn.out.curAt
      go_wp2_with fail
      exact⟨⟨k+1,acc ++ [x],_,v',by omega,by simp;omega,Lib.hid (.inr rfl),HKn,HRn⟩,by rw[hc8,HW.out.curAt];omega⟩
 | false=>
   go_enter Tryz.func100,Tryz.ntmps100
   go_wp2_with fail
   go_loopw [] (fun wr => ∃ (k:Nat) (acc:List UInt8) (p v:Value),k≤s.size∧acc.length≤k∧Hid (p = .pointer none∨p = .pointer (some ⟨w.heap.size,0,none⟩))∧Hid (ai w [g] [g] wr (ic g s k w.heap.size p v acc) [])∧Hid (R=dH false (s.data.toList.drop k) k acc)) (fun wr=>s.size-curAt wr g)
   case atStart=>exact⟨i0,[],_,_,hi,Nat.zero_le _,Lib.hid (.inl rfl),HK0,HR⟩
   case round=>
    clear HK0 HR
    obtain⟨k,acc,p,v,hk,hac,HP,HK,HR⟩:=hrel
    have HW:=Lib.hid HK.out
    cases hx:s.data.toList[k]? with
    | none=>
      have hks2:s.size≤k:=by have:=List.getElem?_eq_none_iff.1 hx;simpa using this
      go_wp2_with fail
      with_reducible refine(eN HK.out).mono ?_
      rw[decide_eq_false (by omega)]
      rintro e w3 ⟨rfl,hH⟩
      have HK1:Hid (ai w [g] [g] w3 (ic g s (k) w.heap.size (p) (v) (acc)) []):=hH
      clear HK
      clear hH
      have HE:Hid (R = .ok acc k):=HR.out.trans (sy hx)
      clear HR
      go_wp2_with fail
      with_reducible refine(Tryz.Builder_String_any w.heap.size w.heap.size acc _ (iJ HK1.out HP.out) HK1.out.size).mono ?_
      rintro e W9 ⟨rfl,hb⟩
      go_wp2
      go_ret
      exact aG.mk_eq (mZ HOut.out HK1.out hb) hk HE.out rfl
    | some x=>
      have hlk:k<s.size:=by have:=(List.getElem?_eq_some_iff.1 hx).1;simpa using this
      have hp:aO s.data.toList k = .ok x k:=by unfold aO;rw[hx]
      go_wp2_with fail
      with_reducible refine(eN HK.out).mono ?_
      rw[decide_eq_true (hlk)]
      rintro e w3 ⟨rfl,hH⟩
      have HK1:Hid (ai w [g] [g] w3 (ic g s (k) w.heap.size (p) (v) (acc)) []):=hH
      clear HK
      clear hH
      go_wp2_with fail
      with_reducible refine(bw HK1.out hs (by omega)).mono ?_
      rintro e w4 hC
      obtain⟨rfl,hH,hj⟩:=hC.ok hp
      clear hC hj
      have HK2:Hid (ai w [g] [g] w4 (ic g s (k) w.heap.size (p) (v) (acc)) []):=hH
      clear HK1
      clear hH
      by_cases h92:x=92
      ·skip
       subst h92
       unfold u8V
       have HR1:=Lib.hid (HR.out.trans (qa hx))
       clear HR
       have HR:=HR1
       clear HR1 hx hp
       have c_c_0_3:w4.cell? ⟨g,0,none⟩=some (.string s):=HK2.out.cell 0 rfl 0
       have z_c_0_4:w4.frozen? ⟨g,0,none⟩=false:=HK2.out.frozen 0 rfl 0
       have c_c_1_5:w4.cell? ⟨g,1,none⟩=some (.int .i64 ((k:Nat):Int)):=HK2.out.cell 0 rfl 1
       have z_c_1_6:w4.frozen? ⟨g,1,none⟩=false:=HK2.out.frozen 0 rfl 1
       go_wp2_with fail
       clear c_c_0_3 z_c_0_4 c_c_1_5 z_c_1_6
       have HK7:Hid (ai w [g] [g] (w4.setCell ⟨g,1,none⟩ (.int .i64 ((k:Int)+1))) (ic g s (k+1) w.heap.size (p) (v) (acc)) []):=HK2.out.cur (k+1) (by omega)
       clear HK2
       cases hr:mu false s.data.toList (k+1) with
       | bad c=>
         have HRb:=Lib.hid (show R = .bad c from by rw[HR.out,hr];rfl)
         with_reducible refine(uA HK7.out false hs (by omega)).mono ?_
         rintro e W hC
         obtain⟨rfl,jj,hH,hj⟩:=hC.bad hr
         exact⟨rfl,aG.mk_bad (mZ HOut.out hH (Below.refl _ _)) hj HRb.out⟩
       | ok y k2=>
         have HR2:=HR.out
         rw[hr,Rd.then_ok]at HR2
         clear HR
         have HR:=Lib.hid HR2
         clear HR2
         with_reducible refine(uA HK7.out false hs (by omega)).mono ?_
         rintro e w5 hC
         obtain⟨rfl,hH,hj⟩:=hC.ok hr
         clear hC
         have hr0:=hr
         clear hr
         have HK8:Hid (ai w [g] [g] w5 (ic g s (k2) w.heap.size (p) (v) (acc)) []):=hH
         clear HK7
         clear hH
         have hj_k2:=hj
         clear hj
         have hk2:k+2≤k2:=by
          unfold mu at hr0
          cases hq:aO s.data.toList (k+1) with
          | bad c=>rw[hq]at hr0;cases hr0
          | ok c j=>
            obtain⟨rfl,-⟩:=jy hq
            rw[hq,Rd.then_ok]at hr0
            split at hr0
            ·injection hr0 with _ h2;omega
            ·cases hr0
         clear hr0
         have HRn:=HR
         clear HR
         unfold u8V
         go_wp2_with fail
         with_reducible refine(dU w.heap.size w.heap.size (Lib.byteCells acc) (y.toNat:Int) _ (iJ HK8.out HP.out) (by simp[Lib.byteCells];omega) HK8.out.size).mono ?_
         rintro e W8 ⟨rfl,hu,hb⟩
         obtain⟨v',hH⟩:=pz HK8.out (acc':=acc ++ [y]) (by rw[Lib.byteCells_append];exact hu) hb
         clear hu hb
         clear HK8
         have HKn:=Lib.hid hH
         clear hH
         have hc8:=HKn.out.curAt
         go_wp2_with fail
         exact⟨⟨k2,acc ++ [y],_,v',by omega,by simp;omega,Lib.hid (.inr rfl),HKn,HRn⟩,by rw[hc8,HW.out.curAt];omega⟩
      have HRn:=Lib.hid (HR.out.trans (oz hx (by simp) h92))
      clear HR hx hp
      unfold u8V
      obtain⟨m,hm⟩:∃ m:Int,m=(x.toNat:Int):=⟨_,rfl⟩
      rw[←hm]
      have b92:(m == 92)=false:=by rw[hm,beq_eq_false_iff_ne];exact fun h=>h92 (gK (n:=92) (by decide) h)
      have HM:=Lib.hid hm
      clear hm h92
      have c_c_0_3:w4.cell? ⟨g,0,none⟩=some (.string s):=HK2.out.cell 0 rfl 0
      have z_c_0_4:w4.frozen? ⟨g,0,none⟩=false:=HK2.out.frozen 0 rfl 0
      have c_c_1_5:w4.cell? ⟨g,1,none⟩=some (.int .i64 ((k:Nat):Int)):=HK2.out.cell 0 rfl 1
      have z_c_1_6:w4.frozen? ⟨g,1,none⟩=false:=HK2.out.frozen 0 rfl 1
      go_wp2_with fail
      clear c_c_0_3 z_c_0_4 c_c_1_5 z_c_1_6
      have HK7:Hid (ai w [g] [g] (w4.setCell ⟨g,1,none⟩ (.int .i64 ((k:Int)+1))) (ic g s (k+1) w.heap.size (p) (v) (acc)) []):=HK2.out.cur (k+1) (by omega)
      clear HK2
      rw[HM.out]
      clear HM b92
      go_wp2_with fail
      with_reducible refine(dU w.heap.size w.heap.size (Lib.byteCells acc) (x.toNat:Int) _ (iJ HK7.out HP.out) (by simp[Lib.byteCells];omega) HK7.out.size).mono ?_
      rintro e W8 ⟨rfl,hu,hb⟩
      obtain⟨v',hH⟩:=pz HK7.out (acc':=acc ++ [x]) (by rw[Lib.byteCells_append];exact hu) hb
      clear hu hb
      clear HK7
      have HKn:=Lib.hid hH
      clear hH
      have hc8:=HKn.out.curAt
      go_wp2_with fail
      exact⟨⟨k+1,acc ++ [x],_,v',by omega,by simp;omega,Lib.hid (.inr rfl),HKn,HRn⟩,by rw[hc8,HW.out.curAt];omega⟩
end
section
open Go.RowKit
def aW {α:Type} (w0:World) (M X:List Nat) (g:Nat) (s:ByteArray) (L:List Itm) (F:List Fact) (R:Rd α) (P:α→Value→List Fact→Prop) (e:Ending) (w':World):Prop:=match R with
 | .ok a k => ∃ v Fs,P a v Fs∧e = .returned v∧ai w0 M X w' (cuB g s k::L) (Fs++F)∧k≤s.size
 | .bad c=>e=rL c ∧ ∃ j:Nat,ai w0 M X w' (cuB g s j::L) F∧j≤s.size
section
variable {α:Type} {w0 w':World} {M X:List Nat} {g:Nat} {s:ByteArray} {L:List Itm} {F:List Fact} {R:Rd α} {P:α→Value→List Fact→Prop} {e:Ending}
theorem aW.mk_bad {j c:Nat} (h:ai w0 M X w' (cuB g s j::L) F) (hj:j≤s.size) (hR:R = .bad c):aW w0 M X g s L F R P (rL c) w':=by
 subst hR;exact⟨rfl,j,h,hj⟩
theorem aW.mk_ok {a:α} {k:Nat} {v:Value} {Fs:List Fact} (hP:P a v Fs) (h:ai w0 M X w' (cuB g s k::L) (Fs++F)) (hk:k≤s.size) (hR:R = .ok a k) (he:e = .returned v):aW w0 M X g s L F R P e w':=by
 subst hR;exact⟨v,Fs,hP,he,h,hk⟩
theorem aW.ok {a:α} {k:Nat} (hC:aW w0 M X g s L F R P e w') (h:R = .ok a k):∃ v Fs,P a v Fs∧e = .returned v∧ai w0 M X w' (cuB g s k::L) (Fs++F)∧k≤s.size:=by
 subst h;exact hC
theorem aW.bad {c:Nat} (hC:aW w0 M X g s L F R P e w') (h:R = .bad c):e=rL c ∧ ∃ j:Nat,ai w0 M X w' (cuB g s j::L) F∧j≤s.size:=by
 subst h;exact hC
end
theorem Rd.sat_ok {α:Type} {t:List UInt8} {r:Rd α} {S:α→Nat→Prop} {a:α} {i:Nat} (h:r.sat t S) (e:r = .ok a i):S a i:=by
 subst e;exact h
theorem nS {value:Bool}:∀ (n:Nat) (r:List UInt8) (i:Nat) (acc x:List UInt8) (j:Nat),r.length≤n→dH value r i acc = .ok x j→i≤j∧x.length≤acc.length+r.length
 | _,[],i,acc,x,j,_,h=>by
   unfold dH at h
   injection h with h1 h2
   subst h1 h2
   simp
 | 0,y::r,i,acc,x,j,hn,h=>by simp at hn
 | n+1,y::r,i,acc,x,j,hn,h=>by
   rw[dH.eq_def]at h
   simp only at h
   split at h
   ·injection h with h1 h2
    subst h1 h2
    exact⟨Nat.le_refl _,by simp⟩
   ·split at h
    ·cases r with
     | nil=>cases h
     | cons z r'=>
       simp only at h
       split at h
       ·have:=nS n r' (i+2) _ x j (by simp at hn;omega) h
        simp at this ⊢
        omega
       ·cases h
    ·have:=nS n r (i+1) _ x j (by simp at hn;omega) h
     simp at this ⊢
     omega
theorem yf {value:Bool} {t x:List UInt8} {i j:Nat} (h:vc value t i = .ok x j):i≤j∧x.length≤t.length:=by
 have:=nS _ _ i [] x j (Nat.le_refl _) h
 simp at this
 exact⟨this.1,by omega⟩
theorem ko {t x:List UInt8} {i j:Nat} (h:gE t i = .ok x j):i≤j∧x.length≤t.length:=by
 unfold gE at h
 cases hp:aO t i with
 | bad c=>rw[hp]at h;cases h
 | ok c k=>
   rw[hp,Rd.then_ok]at h
   split at h
   ·injection h with h1 h2
    subst h1 h2
    refine⟨by omega,?_⟩
    have:=(List.takeWhile_prefix dS (l:=t.drop i)).length_le
    simp at this
    omega
   ·cases h
theorem th {t u:List UInt8} {i j:Nat} {a:Unit} (hi:i≤t.length) (h:aX t u i = .ok a j):i≤j:=(Rd.sat_ok (bY u i hi) h).1
theorem JM:kQ Tryz.prog 71 146 2 32:=wE Tryz.underlying71 (z := .agg #[.string ⟨#[]⟩,.string ⟨#[]⟩]) (by kernel_rfl) rfl (by omega)
def Jt (l:aE):Prop:=l.name.length≤maxLen∧l.val.length≤maxLen
def Mf (ls:List aE) (v:Value) (Fs:List Fact):Prop := ∃ A n c,v = .slice A n c∧Fs = [Sl.fact aj A n c ls]
set_option maxHeartbeats 16000000 in
theorem xZ {w0 w:World} {X:List Nat} {L:List Itm} {F:List Fact} {g i0 f0:Nat} {s:ByteArray} (h:ai w0 [] X w (cuB g s i0::L) F) (hs:s.size≤20000) (hi:i0≤s.size) (hf:s.size+1≤f0+i0):
 Calls Tryz.prog 174 #[.pointer (some ⟨g,0,none⟩)] w (aW w0 [] X g s L F (ep s.data.toList f0 i0 []) Mf):=by
 have hsl:s.data.toList.length=s.size:=by simp
 obtain⟨R,hR⟩:∃ R,R=ep s.data.toList f0 i0 []:=⟨_,rfl⟩
 rw[←hR]
 have HR:=Lib.hid hR
 clear hR
 have HS:=Lib.hid hsl
 clear hsl
 have HK0:Hid (ai w0 [] X w (cuB g s i0 :: .row 146 2 (.slice none 0 0) ([]:List aE).length (([]:List aE).flatMap cR)::L) F):=(h.nil_row 146 2).swap
 have HB:=Lib.hid h.size
 clear h
 go_enter Tryz.func174,Tryz.ntmps174
 go_wp2_with fail
 go_loopw [3] (fun l0 wr => ∃ (k f:Nat) (acc:List aE),k≤s.size∧s.size+1≤f+k∧acc.length≤k∧Hid (∀ l ∈ acc,Jt l)∧Hid (ai w0 [] X wr (.box (g) 136 #[.string s,.int .i64 ((k:Nat):Int)] :: .row 146 2 (l0) (acc.length) (acc.flatMap cR)::L) (F))∧Hid (R=ep s.data.toList f k acc)) (fun _ wr=>s.size-curAt wr g)
 case atStart=>exact⟨i0,f0,[],hi,hf,Nat.zero_le _,Lib.hid (by simp),HK0,HR⟩
 case round=>
  clear HK0 HR
  obtain⟨k,f,acc,hk,hfk,hac,HO,HK,HR⟩:=hrel
  have HW:=Lib.hid HK.out
  have hw1:=HW.out.curAt
  have HWc:=Lib.hid hw1
  clear hw1
  obtain⟨f,rfl⟩:∃ f',f=f'+1:=⟨f-1,by omega⟩
  have HR1:=HR.out
  rw[ep]at HR1
  clear HR
  have HR:=Lib.hid HR1
  clear HR1
  cases hr:gE s.data.toList k with
  | bad c=>
    have HRb:=Lib.hid (show R = .bad c from by rw[HR.out,hr];rfl)
    go_wp2_with fail
    with_reducible refine(jG HK.out hs (by omega)).mono ?_
    rintro e W hC
    obtain⟨rfl,jj,hH,hj⟩:=hC.bad hr
    exact⟨rfl,aW.mk_bad (hH.drop (List.Sublist.cons_cons _ (List.Sublist.cons _ (List.Sublist.refl _)))) hj HRb.out⟩
  | ok nm k1=>
    have HR2:=HR.out
    rw[hr,Rd.then_ok]at HR2
    clear HR
    have HR:=Lib.hid HR2
    clear HR2
    go_wp2_with fail
    with_reducible refine(jG HK.out hs (by omega)).mono ?_
    rintro e w1 hC
    obtain⟨rfl,hH,hj⟩:=hC.ok hr
    clear hC
    have hr0:=hr
    clear hr
    have HK1:Hid (ai w0 [] X w1 (.box (g) 136 #[.string s,.int .i64 ((k1:Nat):Int)] :: .row 146 2 (u3) (acc.length) (acc.flatMap cR)::L) (F)):=hH
    clear HK
    clear hH
    have hj_k1:=hj
    clear hj
    have hl1:=ko hr0
    rw[HS.out]at hl1
    clear hr0
    cases hr:aX s.data.toList [61,34] k1 with
    | bad c=>
      have HRb:=Lib.hid (show R = .bad c from by rw[HR.out,hr];rfl)
      go_wp2_with fail
      with_reducible refine(bA HK1.out ⟨#[61,34]⟩ hs (by omega) (by decide)).mono ?_
      rintro e W hC
      obtain⟨rfl,jj,hH,hj⟩:=hC.bad hr
      exact⟨rfl,aW.mk_bad (hH.drop (List.Sublist.cons_cons _ (List.Sublist.cons _ (List.Sublist.refl _)))) hj HRb.out⟩
    | ok y k2=>
      have HR2:=HR.out
      rw[hr,Rd.then_ok]at HR2
      clear HR
      have HR:=Lib.hid HR2
      clear HR2
      go_wp2_with fail
      with_reducible refine(bA HK1.out ⟨#[61,34]⟩ hs (by omega) (by decide)).mono ?_
      rintro e w2 hC
      obtain⟨rfl,hH,hj⟩:=hC.ok hr
      clear hC
      have hr0:=hr
      clear hr
      have HK2:Hid (ai w0 [] X w2 (.box (g) 136 #[.string s,.int .i64 ((k2:Nat):Int)] :: .row 146 2 (u3) (acc.length) (acc.flatMap cR)::L) (F)):=hH
      clear HK1
      clear hH
      have hj_k2:=hj
      clear hj
      have hl2:=th (by rw[HS.out];omega) hr0
      clear hr0
      cases hr:vc true s.data.toList k2 with
      | bad c=>
        have HRb:=Lib.hid (show R = .bad c from by rw[HR.out,hr];rfl)
        go_wp2_with fail
        with_reducible refine(kr HK2.out true hs (by omega)).mono ?_
        rintro e W hC
        obtain⟨rfl,jj,hH,hj⟩:=hC.bad hr
        exact⟨rfl,aW.mk_bad (hH.drop (List.Sublist.cons_cons _ (List.Sublist.cons _ (List.Sublist.refl _)))) hj HRb.out⟩
      | ok vl k3=>
        have HR2:=HR.out
        rw[hr,Rd.then_ok]at HR2
        clear HR
        have HR:=Lib.hid HR2
        clear HR2
        go_wp2_with fail
        with_reducible refine(kr HK2.out true hs (by omega)).mono ?_
        rintro e w3 hC
        obtain⟨rfl,hH,hj⟩:=hC.ok hr
        clear hC
        have hr0:=hr
        clear hr
        have HK3:Hid (ai w0 [] X w3 (.box (g) 136 #[.string s,.int .i64 ((k3:Nat):Int)] :: .row 146 2 (u3) (acc.length) (acc.flatMap cR)::L) (F)):=hH
        clear HK2
        clear hH
        have hj_k3:=hj
        clear hj
        have hl3:=yf hr0
        rw[HS.out]at hl3
        clear hr0
        cases hr:aX s.data.toList [34] k3 with
        | bad c=>
          have HRb:=Lib.hid (show R = .bad c from by rw[HR.out,hr];rfl)
          go_wp2_with fail
          with_reducible refine(bA HK3.out ⟨#[34]⟩ hs (by omega) (by decide)).mono ?_
          rintro e W hC
          obtain⟨rfl,jj,hH,hj⟩:=hC.bad hr
          exact⟨rfl,aW.mk_bad (hH.drop (List.Sublist.cons_cons _ (List.Sublist.cons _ (List.Sublist.refl _)))) hj HRb.out⟩
        | ok y k4=>
          have HR2:=HR.out
          rw[hr,Rd.then_ok]at HR2
          clear HR
          have HR:=Lib.hid HR2
          clear HR2
          go_wp2_with fail
          with_reducible refine(bA HK3.out ⟨#[34]⟩ hs (by omega) (by decide)).mono ?_
          rintro e w4 hC
          obtain⟨rfl,hH,hj⟩:=hC.ok hr
          clear hC
          have hr0:=hr
          clear hr
          have HK4:Hid (ai w0 [] X w4 (.box (g) 136 #[.string s,.int .i64 ((k4:Nat):Int)] :: .row 146 2 (u3) (acc.length) (acc.flatMap cR)::L) (F)):=hH
          clear HK3
          clear hH
          have hj_k4:=hj
          clear hj
          have hl4:=th (by rw[HS.out];omega) hr0
          clear hr0
          obtain⟨an,han⟩:∃ an,an=acc.length:=⟨_,rfl⟩
          have HAN:=Lib.hid han
          rw[←han]at hac
          rw[←han]at HK4
          clear han
          go_wp2_with (at_builtin;go_must (refine ec HK4.out 1 rfl (.tmp 14) (.tmp 18) 71 rfl JM rfl rfl (cs:=#[.string (sB nm),.string (sB vl)]) rfl rfl (by intro u hu;simp at hu;rcases hu with rfl | rfl<;>rfl) (by unfold maxLen;omega) (by omega) ?_);intro l2 w8 hk8;have HK8:=Lib.hid hk8;clear hk8)
          have HK9:=Lib.hid (show ai w0 [] X w8 (.box (g) 136 #[.string s,.int .i64 ((k4:Nat):Int)] :: .row 146 2 (l2) ((acc ++ [aE.mk nm vl]).length) ((acc ++ [aE.mk nm vl]).flatMap cR)::L) (F) from by
           have h1:=HK8.out
           rw[HAN.out]at h1
           simpa [cR] using h1)
          clear HK8 HK4
          have HO9:=Lib.hid (show ∀ l ∈ acc ++ [aE.mk nm vl],Jt l from by
           intro l hl
           rcases List.mem_append.1 hl with hl | hl
           ·exact HO.out l hl
           ·rw[List.mem_singleton.1 hl];exact⟨by unfold maxLen;simp only;omega,by unfold maxLen;simp only;omega⟩)
          have hal:(acc ++ [aE.mk nm vl]).length=an+1:=by rw[HAN.out];simp
          generalize acc ++ [aE.mk nm vl]=acc2 at HK9 HR hal HO9
          have HAL:=Lib.hid hal
          clear hal
          cases hr:aO s.data.toList k4 with
          | bad c=>
            have HRb:=Lib.hid (show R = .bad c from by rw[HR.out,hr];rfl)
            go_wp2_with fail
            with_reducible refine(bw HK9.out hs (by omega)).mono ?_
            rintro e W hC
            obtain⟨rfl,jj,hH,hj⟩:=hC.bad hr
            exact⟨rfl,aW.mk_bad (hH.drop (List.Sublist.cons_cons _ (List.Sublist.cons _ (List.Sublist.refl _)))) hj HRb.out⟩
          | ok x k5=>
            have HR2:=HR.out
            rw[hr,Rd.then_ok]at HR2
            clear HR
            have HR:=Lib.hid HR2
            clear HR2
            go_wp2_with fail
            with_reducible refine(bw HK9.out hs (by omega)).mono ?_
            rintro e w9 hC
            obtain⟨rfl,hH,hj⟩:=hC.ok hr
            clear hC
            have hr0:=hr
            clear hr
            have HK5:Hid (ai w0 [] X w9 (.box (g) 136 #[.string s,.int .i64 ((k5:Nat):Int)] :: .row 146 2 (l2) (acc2.length) (acc2.flatMap cR)::L) (F)):=hH
            clear HK9
            clear hH
            have hj_k5:=hj
            clear hj
            obtain⟨rfl,hlt,-⟩:=ff hr0
            clear hr0 hj_k5
            unfold u8V
            obtain⟨m,hm⟩:∃ m:Int,m=(x.toNat:Int):=⟨_,rfl⟩
            rw[←hm]
            by_cases h44:x=44
            ·skip
             subst h44
             obtain rfl:m=44:=hm
             have HRn:=Lib.hid (show R=ep s.data.toList f (k5+1) acc2 from by rw[HR.out];exact if_pos rfl)
             clear HR
             have c_c_0_6:w9.cell? ⟨g,0,none⟩=some (.string s):=HK5.out.cell 0 rfl 0
             have z_c_0_7:w9.frozen? ⟨g,0,none⟩=false:=HK5.out.frozen 0 rfl 0
             have c_c_1_8:w9.cell? ⟨g,1,none⟩=some (.int .i64 ((k5:Nat):Int)):=HK5.out.cell 0 rfl 1
             have z_c_1_9:w9.frozen? ⟨g,1,none⟩=false:=HK5.out.frozen 0 rfl 1
             go_wp2_with fail
             exact⟨⟨k5+1,f,acc2,by omega,by omega,by rw[HAL.out];omega,HO9,Lib.hid (HK5.out.cur (k5+1) (by omega)),HRn⟩,by rw[(HK5.out.cur (k5+1) (u:=(k5:Int)+1) (by omega)).curAt,HWc.out];omega⟩
            have b44:(m == 44)=false:=by rw[hm,beq_eq_false_iff_ne];exact fun h=>h44 (gK (n:=44) (by decide) h)
            have HRn:=Lib.hid (show R=(aX s.data.toList [125] k5).then (fun _ i5=>.ok acc2 i5) from by rw[HR.out];exact if_neg h44)
            clear HR hm h44
            have HR:=HRn
            clear HRn
            cases hr:aX s.data.toList [125] k5 with
            | bad c=>
              have HRb:=Lib.hid (show R = .bad c from by rw[HR.out,hr];rfl)
              go_wp2_with fail
              with_reducible refine(bA HK5.out ⟨#[125]⟩ hs (by omega) (by decide)).mono ?_
              rintro e W hC
              obtain⟨rfl,jj,hH,hj⟩:=hC.bad hr
              exact⟨rfl,aW.mk_bad (hH.drop (List.Sublist.cons_cons _ (List.Sublist.cons _ (List.Sublist.refl _)))) hj HRb.out⟩
            | ok z k6=>
              have HR2:=HR.out
              rw[hr,Rd.then_ok]at HR2
              clear HR
              have HR:=Lib.hid HR2
              clear HR2
              go_wp2_with fail
              with_reducible refine(bA HK5.out ⟨#[125]⟩ hs (by omega) (by decide)).mono ?_
              rintro e w10 hC
              obtain⟨rfl,hH,hj⟩:=hC.ok hr
              clear hC
              have hr0:=hr
              clear hr
              have HK6:Hid (ai w0 [] X w10 (.box (g) 136 #[.string s,.int .i64 ((k6:Nat):Int)] :: .row 146 2 (l2) (acc2.length) (acc2.flatMap cR)::L) (F)):=hH
              clear HK5
              clear hH
              have hj_k6:=hj
              clear hj
              clear hr0
              obtain⟨Al,cl,hv,hD⟩:=HK6.out.done_row (s:=aj) 1 rfl (fk.2 ⟨rfl,HO9.out⟩) (by decide) (by simp)
              subst hv
              have HD:=Lib.hid hD
              clear hD HK6
              go_wp2_with fail
              go_ret
              exact aW.mk_ok ⟨_,_,_,rfl,rfl⟩ HD.out hj_k6 HR.out rfl
end
section
open Go.RowKit
def MB (x:aF) (v:Value) (Fs:List Fact):Prop := ∃ A n c,v = .agg #[.string (sB x.name),.slice A n c,.int .i64 x.val]∧Fs = [Sl.fact aj A n c x.labs]∧lN x.val∧x.name.length≤20000
theorem xl {t:List UInt8} {i j:Nat} {n:Int} (hi:i≤t.length) (h:rY t i = .ok n j):lN n:=by
 have:=Rd.sat_ok (zS hi) h
 exact this.2
theorem qY {W:World} {gr:Nat} {x0 x1 x2:Value} (h:Blk W gr 73 #[x0,x1,x2]) (tmps:Array Value) (ht:tmps[2]?.getD undef = .pointer (some ⟨gr,0,none⟩)):(results Tryz.f97 tmps).run Tryz.prog W = .ok (.agg #[x0,x1,x2]) W:=by
 have c0:W.cell? ⟨gr,0,none⟩=some x0:=h.cell 0
 have c1:W.cell? ⟨gr,1,none⟩=some x1:=h.cell 1
 have c2:W.cell? ⟨gr,2,none⟩=some x2:=h.cell 2
 simp[results,Tryz.results97,go_sem,ht,c0,c1,c2]
set_option maxHeartbeats 16000000 in
theorem xA {w0 w:World} {X:List Nat} {L:List Itm} {F:List Fact} {g i0:Nat} {s:ByteArray} (h:ai w0 [] X w (cuB g s i0::L) F) (hs:s.size≤20000) (hi:i0≤s.size):
 Calls Tryz.prog 97 #[.pointer (some ⟨g,0,none⟩)] w (aW w0 [] X g s L F (kq s.data.toList i0) MB):=by
 obtain⟨R,hR⟩:∃ R,R=kq s.data.toList i0:=⟨_,rfl⟩
 rw[←hR]
 unfold kq at hR
 have HR:=Lib.hid hR
 clear hR
 have HS:=Lib.hid (show s.data.toList.length=s.size from by simp)
 have HK0:=Lib.hid h
 clear h
 go_enter Tryz.func97,Tryz.ntmps97
 have HK1:Hid (ai w0 [] X (w.alloc (.cells #[.string ⟨#[]⟩,.slice none 0 0,.int .i64 0] 73)) (.box (g) 136 #[.string s,.int .i64 ((i0:Nat):Int)] :: .box (w.heap.size) 73 #[.string ⟨#[]⟩,.slice none 0 0,.int .i64 0]::L) (F)):=(HK0.out.alloc_at 73 #[.string ⟨#[]⟩,.slice none 0 0,.int .i64 0] (w.heap.size) (by simp)).swap
 clear HK0
 go_wp2_with fail
 generalize hgr:w.heap.size=gr at HK1 ⊢
 clear hgr
 cases hr:gE s.data.toList i0 with
 | bad c=>
   have HRb:=Lib.hid (show R = .bad c from by rw[HR.out,hr];rfl)
   go_wp2_with fail
   with_reducible refine(jG HK1.out hs (by omega)).mono ?_
   rintro e W hC
   obtain⟨rfl,jj,hH,hj⟩:=hC.bad hr
   exact⟨rfl,aW.mk_bad (hH.drop (List.Sublist.cons_cons _ (List.Sublist.cons _ (List.Sublist.refl _)))) hj HRb.out⟩
 | ok nm k1=>
   have HR2:=HR.out
   rw[hr,Rd.then_ok]at HR2
   clear HR
   have HR:=Lib.hid HR2
   clear HR2
   go_wp2_with fail
   with_reducible refine(jG HK1.out hs (by omega)).mono ?_
   rintro e w1 hC
   obtain⟨rfl,hH,hj⟩:=hC.ok hr
   clear hC
   have hr0:=hr
   clear hr
   have HK2:Hid (ai w0 [] X w1 (.box (g) 136 #[.string s,.int .i64 ((k1:Nat):Int)] :: .box (gr) 73 #[.string ⟨#[]⟩,.slice none 0 0,.int .i64 0]::L) (F)):=hH
   clear HK1
   clear hH
   have hj_k1:=hj
   clear hj
   have hl1:=ko hr0
   rw[HS.out]at hl1
   clear hr0
   have HK3:Hid (ai w0 [] X (w1.alloc (.cells #[.string (sB nm),.slice none 0 0,.int .i64 0] 73)) (.box (g) 136 #[.string s,.int .i64 ((k1:Nat):Int)] :: .box (w1.heap.size) 73 #[.string (sB nm),.slice none 0 0,.int .i64 0] :: .box (gr) 73 #[.string ⟨#[]⟩,.slice none 0 0,.int .i64 0]::L) (F)):=(HK2.out.alloc_at 73 #[.string (sB nm),.slice none 0 0,.int .i64 0] (w1.heap.size) (by simp)).swap
   clear HK2
   go_wp2_with fail
   generalize hgx:w1.heap.size=gx at HK3 ⊢
   clear hgx
   cases hr:aO s.data.toList k1 with
   | bad c=>
     have HRb:=Lib.hid (show R = .bad c from by rw[HR.out,hr];rfl)
     with_reducible refine(bw HK3.out hs (by omega)).mono ?_
     rintro e W hC
     obtain⟨rfl,jj,hH,hj⟩:=hC.bad hr
     exact⟨rfl,aW.mk_bad (hH.drop (List.Sublist.cons_cons _ (List.Sublist.cons _ (List.Sublist.cons _ (List.Sublist.refl _))))) hj HRb.out⟩
   | ok x k2=>
     have HR2:=HR.out
     rw[hr,Rd.then_ok]at HR2
     clear HR
     have HR:=Lib.hid HR2
     clear HR2
     with_reducible refine(bw HK3.out hs (by omega)).mono ?_
     rintro e w2 hC
     obtain⟨rfl,hH,hj⟩:=hC.ok hr
     clear hC
     have hr0:=hr
     clear hr
     have HK4:Hid (ai w0 [] X w2 (.box (g) 136 #[.string s,.int .i64 ((k2:Nat):Int)] :: .box (gx) 73 #[.string (sB nm),.slice none 0 0,.int .i64 0] :: .box (gr) 73 #[.string ⟨#[]⟩,.slice none 0 0,.int .i64 0]::L) (F)):=hH
     clear HK3
     clear hH
     have hj_k2:=hj
     clear hj
     obtain⟨rfl,hlt,-⟩:=ff hr0
     clear hr0 hj_k2
     unfold u8V
     obtain⟨m,hm⟩:∃ m:Int,m=(x.toNat:Int):=⟨_,rfl⟩
     rw[←hm]
     by_cases h123:x=123
     ·skip
      subst h123
      obtain rfl:m=123:=hm
      have HRn:Hid (R=(ep s.data.toList (s.data.toList.length+1) (k2+1) []).then (fun ls i2=>(aX s.data.toList [32] i2).then fun _ i3=>(rY s.data.toList i3).then fun n i4=>.ok ⟨nm,ls,n⟩ i4)):=HR.out
      clear HR
      have HR:=HRn
      clear HRn
      have c_c_0_5:w2.cell? ⟨g,0,none⟩=some (.string s):=HK4.out.cell 0 rfl 0
      have z_c_0_6:w2.frozen? ⟨g,0,none⟩=false:=HK4.out.frozen 0 rfl 0
      have c_c_1_7:w2.cell? ⟨g,1,none⟩=some (.int .i64 ((k2:Nat):Int)):=HK4.out.cell 0 rfl 1
      have z_c_1_8:w2.frozen? ⟨g,1,none⟩=false:=HK4.out.frozen 0 rfl 1
      have ne_9:¬ (g=gx):=HK4.out.ne 0 1 (by decide) rfl rfl
      have ne_10:¬ (gx=g):=HK4.out.ne 1 0 (by decide) rfl rfl
      have ne_11:¬ (g=gr):=HK4.out.ne 0 2 (by decide) rfl rfl
      have ne_12:¬ (gr=g):=HK4.out.ne 2 0 (by decide) rfl rfl
      go_wp2_with fail
      clear c_c_0_5 z_c_0_6 c_c_1_7 z_c_1_8 ne_9 ne_10 ne_11 ne_12
      have HK13:Hid (ai w0 [] X (w2.setCell ⟨g,1,none⟩ (.int .i64 ((k2:Int)+1))) (.box (g) 136 #[.string s,.int .i64 ((k2+1:Nat):Int)] :: .box (gx) 73 #[.string (sB nm),.slice none 0 0,.int .i64 0] :: .box (gr) 73 #[.string ⟨#[]⟩,.slice none 0 0,.int .i64 0]::L) (F)):=HK4.out.cur (k2+1) (by omega)
      clear HK4
      cases hr:ep s.data.toList (s.data.toList.length+1) (k2+1) [] with
      | bad c=>
        have HRb:=Lib.hid (show R = .bad c from by rw[HR.out,hr];rfl)
        with_reducible refine(xZ (f0:=s.data.toList.length+1) HK13.out hs (by omega) (by rw[HS.out];omega)).mono ?_
        rintro e W hC
        obtain⟨rfl,jj,hH,hj⟩:=hC.bad hr
        exact⟨rfl,aW.mk_bad (hH.drop (List.Sublist.cons_cons _ (List.Sublist.cons _ (List.Sublist.cons _ (List.Sublist.refl _))))) hj HRb.out⟩
      | ok ls k4=>
        have HR2:=HR.out
        rw[hr,Rd.then_ok]at HR2
        clear HR
        have HR:=Lib.hid HR2
        clear HR2
        with_reducible refine(xZ (f0:=s.data.toList.length+1) HK13.out hs (by omega) (by rw[HS.out];omega)).mono ?_
        rintro e w4 hC
        obtain⟨v,Fs,⟨Al,nl,cl,rfl,rfl⟩,rfl,hH,hj⟩:=hC.ok hr
        clear hC
        have hr0:=hr
        clear hr
        have HK14:Hid (ai w0 [] X w4 (.box (g) 136 #[.string s,.int .i64 ((k4:Nat):Int)] :: .box (gx) 73 #[.string (sB nm),.slice none 0 0,.int .i64 0] :: .box (gr) 73 #[.string ⟨#[]⟩,.slice none 0 0,.int .i64 0]::L) (Sl.fact aj Al nl cl ls::F)):=hH
        clear HK13
        clear hH
        have hj_k4:=hj
        clear hj
        clear hr0
        have c_x_0_15:w4.cell? ⟨gx,0,none⟩=some (.string (sB nm)):=HK14.out.cell 1 rfl 0
        have z_x_0_16:w4.frozen? ⟨gx,0,none⟩=false:=HK14.out.frozen 1 rfl 0
        have c_x_1_17:w4.cell? ⟨gx,1,none⟩=some (.slice none 0 0):=HK14.out.cell 1 rfl 1
        have z_x_1_18:w4.frozen? ⟨gx,1,none⟩=false:=HK14.out.frozen 1 rfl 1
        have c_x_2_19:w4.cell? ⟨gx,2,none⟩=some (.int .i64 0):=HK14.out.cell 1 rfl 2
        have z_x_2_20:w4.frozen? ⟨gx,2,none⟩=false:=HK14.out.frozen 1 rfl 2
        go_wp2_with fail
        have HK21:Hid (ai w0 [] X (w4.setCell ⟨gx,1,none⟩ (.slice Al nl cl)) (.box (g) 136 #[.string s,.int .i64 ((k4:Nat):Int)] :: .box (gx) 73 #[.string (sB nm),.slice Al nl cl,.int .i64 0] :: .box (gr) 73 #[.string ⟨#[]⟩,.slice none 0 0,.int .i64 0]::L) (Sl.fact aj Al nl cl ls::F)):=HK14.out.set_ 1 rfl 1 (.slice Al nl cl)
        clear HK14
        cases hr:aX s.data.toList [32] k4 with
        | bad c=>
          have HRb:=Lib.hid (show R = .bad c from by rw[HR.out,hr];rfl)
          go_wp2_with fail
          with_reducible refine(bA HK21.out ⟨#[32]⟩ hs (by omega) (by decide)).mono ?_
          rintro e W hC
          obtain⟨rfl,jj,hH,hj⟩:=hC.bad hr
          exact⟨rfl,aW.mk_bad ((hH.drop (List.Sublist.cons_cons _ (List.Sublist.cons _ (List.Sublist.cons _ (List.Sublist.refl _))))).forget (List.Sublist.cons _ (List.Sublist.refl _))) hj HRb.out⟩
        | ok y k5=>
          have HR2:=HR.out
          rw[hr,Rd.then_ok]at HR2
          clear HR
          have HR:=Lib.hid HR2
          clear HR2
          go_wp2_with fail
          with_reducible refine(bA HK21.out ⟨#[32]⟩ hs (by omega) (by decide)).mono ?_
          rintro e w5 hC
          obtain⟨rfl,hH,hj⟩:=hC.ok hr
          clear hC
          have hr0:=hr
          clear hr
          clear c_x_0_15 z_x_0_16 c_x_1_17 z_x_1_18 c_x_2_19 z_x_2_20
          have HK22:Hid (ai w0 [] X w5 (.box (g) 136 #[.string s,.int .i64 ((k5:Nat):Int)] :: .box (gx) 73 #[.string (sB nm),.slice Al nl cl,.int .i64 0] :: .box (gr) 73 #[.string ⟨#[]⟩,.slice none 0 0,.int .i64 0]::L) (Sl.fact aj Al nl cl ls::F)):=hH
          clear HK21
          clear hH
          have hj_k5:=hj
          clear hj
          clear hr0
          cases hr:rY s.data.toList k5 with
          | bad c=>
            have HRb:=Lib.hid (show R = .bad c from by rw[HR.out,hr];rfl)
            go_wp2_with fail
            with_reducible refine(lU HK22.out hs (by omega)).mono ?_
            rintro e W hC
            obtain⟨rfl,jj,hH,hj⟩:=hC.bad hr
            exact⟨rfl,aW.mk_bad ((hH.drop (List.Sublist.cons_cons _ (List.Sublist.cons _ (List.Sublist.cons _ (List.Sublist.refl _))))).forget (List.Sublist.cons _ (List.Sublist.refl _))) hj HRb.out⟩
          | ok n k6=>
            have HR2:=HR.out
            rw[hr,Rd.then_ok]at HR2
            clear HR
            have HR:=Lib.hid HR2
            clear HR2
            go_wp2_with fail
            with_reducible refine(lU HK22.out hs (by omega)).mono ?_
            rintro e w6 hC
            obtain⟨rfl,hH,hj⟩:=hC.ok hr
            clear hC
            have hr0:=hr
            clear hr
            have HK23:Hid (ai w0 [] X w6 (.box (g) 136 #[.string s,.int .i64 ((k6:Nat):Int)] :: .box (gx) 73 #[.string (sB nm),.slice Al nl cl,.int .i64 0] :: .box (gr) 73 #[.string ⟨#[]⟩,.slice none 0 0,.int .i64 0]::L) (Sl.fact aj Al nl cl ls::F)):=hH
            clear HK22
            clear hH
            have hj_k6:=hj
            clear hj
            have hin:=xl (by rw[HS.out];omega) hr0
            clear hr0
            have c_x_0_24:w6.cell? ⟨gx,0,none⟩=some (.string (sB nm)):=HK23.out.cell 1 rfl 0
            have z_x_0_25:w6.frozen? ⟨gx,0,none⟩=false:=HK23.out.frozen 1 rfl 0
            have c_x_1_26:w6.cell? ⟨gx,1,none⟩=some (.slice Al nl cl):=HK23.out.cell 1 rfl 1
            have z_x_1_27:w6.frozen? ⟨gx,1,none⟩=false:=HK23.out.frozen 1 rfl 1
            have c_x_2_28:w6.cell? ⟨gx,2,none⟩=some (.int .i64 0):=HK23.out.cell 1 rfl 2
            have z_x_2_29:w6.frozen? ⟨gx,2,none⟩=false:=HK23.out.frozen 1 rfl 2
            have c_r_0_30:w6.cell? ⟨gr,0,none⟩=some (.string ⟨#[]⟩):=HK23.out.cell 2 rfl 0
            have z_r_0_31:w6.frozen? ⟨gr,0,none⟩=false:=HK23.out.frozen 2 rfl 0
            have c_r_1_32:w6.cell? ⟨gr,1,none⟩=some (.slice none 0 0):=HK23.out.cell 2 rfl 1
            have z_r_1_33:w6.frozen? ⟨gr,1,none⟩=false:=HK23.out.frozen 2 rfl 1
            have c_r_2_34:w6.cell? ⟨gr,2,none⟩=some (.int .i64 0):=HK23.out.cell 2 rfl 2
            have z_r_2_35:w6.frozen? ⟨gr,2,none⟩=false:=HK23.out.frozen 2 rfl 2
            have ne_36:¬ (gx=gr):=HK23.out.ne 1 2 (by decide) rfl rfl
            have ne_37:¬ (gr=gx):=HK23.out.ne 2 1 (by decide) rfl rfl
            go_wp2
            have HK38:Hid (ai w0 [] X (w6.setCell ⟨gx,2,none⟩ (.int .i64 n)) (.box (g) 136 #[.string s,.int .i64 ((k6:Nat):Int)] :: .box (gx) 73 #[.string (sB nm),.slice Al nl cl,.int .i64 n] :: .box (gr) 73 #[.string ⟨#[]⟩,.slice none 0 0,.int .i64 0]::L) (Sl.fact aj Al nl cl ls::F)):=HK23.out.set_ 1 rfl 2 (.int .i64 n)
            clear HK23
            have HK39:Hid (ai w0 [] X ((((w6.setCell ⟨gx,2,none⟩ (.int .i64 n)).setCell ⟨gr,0,none⟩ (.string (sB nm))).setCell ⟨gr,1,none⟩ (.slice Al nl cl)).setCell ⟨gr,2,none⟩ (.int .i64 n)) (.box (g) 136 #[.string s,.int .i64 ((k6:Nat):Int)] :: .box (gx) 73 #[.string (sB nm),.slice Al nl cl,.int .i64 n] :: .box (gr) 73 #[.string (sB nm),.slice Al nl cl,.int .i64 n]::L) (Sl.fact aj Al nl cl ls::F)):=(((HK38.out.set_ 2 rfl 0 (.string (sB nm))).set_ 2 rfl 1 (.slice Al nl cl)).set_ 2 rfl 2 (.int .i64 n))
            clear HK38
            exact bodyPost_ret (qY (HK39.out.blk 2 rfl) _ rfl) rfl (aW.mk_ok ⟨_,_,_,rfl,rfl,hin,by simp only;omega⟩ (HK39.out.drop (List.Sublist.cons_cons _ (List.Sublist.cons _ (List.Sublist.cons _ (List.Sublist.refl _))))) hj_k6 HR.out rfl)
     have b123:(m == 123)=false:=by rw[hm,beq_eq_false_iff_ne];exact fun h=>h123 (gK (n:=123) (by decide) h)
     have HRn:=Lib.hid (show R=(aX s.data.toList [32] k2).then (fun _ i3=>(rY s.data.toList i3).then fun n i4=>.ok ⟨nm,[],n⟩ i4) from by rw[HR.out,if_neg h123];rfl)
     clear HR hm h123
     have HR:=HRn
     clear HRn
     have HK5:Hid (ai w0 [] X w2 (.box (g) 136 #[.string s,.int .i64 ((k2:Nat):Int)] :: .box (gx) 73 #[.string (sB nm),.slice none 0 0,.int .i64 0] :: .box (gr) 73 #[.string ⟨#[]⟩,.slice none 0 0,.int .i64 0]::L) (Sl.fact aj none 0 0 ([]:List aE)::F)):=HK4.out.know (Sl.fact aj none 0 0 ([]:List aE)) Sl.nil_
     clear HK4
     cases hr:aX s.data.toList [32] k2 with
     | bad c=>
       have HRb:=Lib.hid (show R = .bad c from by rw[HR.out,hr];rfl)
       go_wp2_with fail
       with_reducible refine(bA HK5.out ⟨#[32]⟩ hs (by omega) (by decide)).mono ?_
       rintro e W hC
       obtain⟨rfl,jj,hH,hj⟩:=hC.bad hr
       exact⟨rfl,aW.mk_bad ((hH.drop (List.Sublist.cons_cons _ (List.Sublist.cons _ (List.Sublist.cons _ (List.Sublist.refl _))))).forget (List.Sublist.cons _ (List.Sublist.refl _))) hj HRb.out⟩
     | ok y k5=>
       have HR2:=HR.out
       rw[hr,Rd.then_ok]at HR2
       clear HR
       have HR:=Lib.hid HR2
       clear HR2
       go_wp2_with fail
       with_reducible refine(bA HK5.out ⟨#[32]⟩ hs (by omega) (by decide)).mono ?_
       rintro e w5 hC
       obtain⟨rfl,hH,hj⟩:=hC.ok hr
       clear hC
       have hr0:=hr
       clear hr
       have HK6:Hid (ai w0 [] X w5 (.box (g) 136 #[.string s,.int .i64 ((k5:Nat):Int)] :: .box (gx) 73 #[.string (sB nm),.slice none 0 0,.int .i64 0] :: .box (gr) 73 #[.string ⟨#[]⟩,.slice none 0 0,.int .i64 0]::L) (Sl.fact aj none 0 0 ([]:List aE)::F)):=hH
       clear HK5
       clear hH
       have hj_k5:=hj
       clear hj
       clear hr0
       cases hr:rY s.data.toList k5 with
       | bad c=>
         have HRb:=Lib.hid (show R = .bad c from by rw[HR.out,hr];rfl)
         go_wp2_with fail
         with_reducible refine(lU HK6.out hs (by omega)).mono ?_
         rintro e W hC
         obtain⟨rfl,jj,hH,hj⟩:=hC.bad hr
         exact⟨rfl,aW.mk_bad ((hH.drop (List.Sublist.cons_cons _ (List.Sublist.cons _ (List.Sublist.cons _ (List.Sublist.refl _))))).forget (List.Sublist.cons _ (List.Sublist.refl _))) hj HRb.out⟩
       | ok n k6=>
         have HR2:=HR.out
         rw[hr,Rd.then_ok]at HR2
         clear HR
         have HR:=Lib.hid HR2
         clear HR2
         go_wp2_with fail
         with_reducible refine(lU HK6.out hs (by omega)).mono ?_
         rintro e w6 hC
         obtain⟨rfl,hH,hj⟩:=hC.ok hr
         clear hC
         have hr0:=hr
         clear hr
         have HK7:Hid (ai w0 [] X w6 (.box (g) 136 #[.string s,.int .i64 ((k6:Nat):Int)] :: .box (gx) 73 #[.string (sB nm),.slice none 0 0,.int .i64 0] :: .box (gr) 73 #[.string ⟨#[]⟩,.slice none 0 0,.int .i64 0]::L) (Sl.fact aj none 0 0 ([]:List aE)::F)):=hH
         clear HK6
         clear hH
         have hj_k6:=hj
         clear hj
         have hin:=xl (by rw[HS.out];omega) hr0
         clear hr0
         have c_x_0_8:w6.cell? ⟨gx,0,none⟩=some (.string (sB nm)):=HK7.out.cell 1 rfl 0
         have z_x_0_9:w6.frozen? ⟨gx,0,none⟩=false:=HK7.out.frozen 1 rfl 0
         have c_x_1_10:w6.cell? ⟨gx,1,none⟩=some (.slice none 0 0):=HK7.out.cell 1 rfl 1
         have z_x_1_11:w6.frozen? ⟨gx,1,none⟩=false:=HK7.out.frozen 1 rfl 1
         have c_x_2_12:w6.cell? ⟨gx,2,none⟩=some (.int .i64 0):=HK7.out.cell 1 rfl 2
         have z_x_2_13:w6.frozen? ⟨gx,2,none⟩=false:=HK7.out.frozen 1 rfl 2
         have c_r_0_14:w6.cell? ⟨gr,0,none⟩=some (.string ⟨#[]⟩):=HK7.out.cell 2 rfl 0
         have z_r_0_15:w6.frozen? ⟨gr,0,none⟩=false:=HK7.out.frozen 2 rfl 0
         have c_r_1_16:w6.cell? ⟨gr,1,none⟩=some (.slice none 0 0):=HK7.out.cell 2 rfl 1
         have z_r_1_17:w6.frozen? ⟨gr,1,none⟩=false:=HK7.out.frozen 2 rfl 1
         have c_r_2_18:w6.cell? ⟨gr,2,none⟩=some (.int .i64 0):=HK7.out.cell 2 rfl 2
         have z_r_2_19:w6.frozen? ⟨gr,2,none⟩=false:=HK7.out.frozen 2 rfl 2
         have ne_20:¬ (gx=gr):=HK7.out.ne 1 2 (by decide) rfl rfl
         have ne_21:¬ (gr=gx):=HK7.out.ne 2 1 (by decide) rfl rfl
         go_wp2
         have HK22:Hid (ai w0 [] X (w6.setCell ⟨gx,2,none⟩ (.int .i64 n)) (.box (g) 136 #[.string s,.int .i64 ((k6:Nat):Int)] :: .box (gx) 73 #[.string (sB nm),.slice none 0 0,.int .i64 n] :: .box (gr) 73 #[.string ⟨#[]⟩,.slice none 0 0,.int .i64 0]::L) (Sl.fact aj none 0 0 ([]:List aE)::F)):=HK7.out.set_ 1 rfl 2 (.int .i64 n)
         clear HK7
         have HK23:Hid (ai w0 [] X ((((w6.setCell ⟨gx,2,none⟩ (.int .i64 n)).setCell ⟨gr,0,none⟩ (.string (sB nm))).setCell ⟨gr,1,none⟩ (.slice none 0 0)).setCell ⟨gr,2,none⟩ (.int .i64 n)) (.box (g) 136 #[.string s,.int .i64 ((k6:Nat):Int)] :: .box (gx) 73 #[.string (sB nm),.slice none 0 0,.int .i64 n] :: .box (gr) 73 #[.string (sB nm),.slice none 0 0,.int .i64 n]::L) (Sl.fact aj none 0 0 ([]:List aE)::F)):=(((HK22.out.set_ 2 rfl 0 (.string (sB nm))).set_ 2 rfl 1 (.slice none 0 0)).set_ 2 rfl 2 (.int .i64 n))
         clear HK22
         exact bodyPost_ret (qY (HK23.out.blk 2 rfl) _ rfl) rfl (aW.mk_ok ⟨_,_,_,rfl,rfl,hin,by simp only;omega⟩ (HK23.out.drop (List.Sublist.cons_cons _ (List.Sublist.cons _ (List.Sublist.cons _ (List.Sublist.refl _))))) hj_k6 HR.out rfl)
end
section
open Go.RowKit
def LnP:PLn→Value→List Fact→Prop
 | .help nm x,v,Fs=>v = .agg #[.int .i64 1,.string (sB nm),.string (sB x),.int .i64 0,.string ⟨#[]⟩,.slice none 0 0,.int .i64 0]∧Fs = []∧nm.length≤20000∧x.length≤20000
 | .kind nm k,v,Fs=>v = .agg #[.int .i64 2,.string (sB nm),.string ⟨#[]⟩,.int .i64 (k:Int),.string ⟨#[]⟩,.slice none 0 0,.int .i64 0]∧Fs = []∧nm.length≤20000
 | .smp x,v,Fs => ∃ A n c,v = .agg #[.int .i64 3,.string ⟨#[]⟩,.string ⟨#[]⟩,.int .i64 0,.string (sB x.name),.slice A n c,.int .i64 x.val]∧Fs = [Sl.fact aj A n c x.labs]∧lN x.val∧x.name.length≤20000
theorem qX {W:World} {gr:Nat} {x0 x1 x2 x3 x4 x5 x6:Value} (h:Blk W gr 75 #[x0,x1,x2,x3,x4,x5,x6]) (tmps:Array Value) (ht:tmps[2]?.getD undef = .pointer (some ⟨gr,0,none⟩)):(results Tryz.f47 tmps).run Tryz.prog W = .ok (.agg #[x0,x1,x2,x3,x4,x5,x6]) W:=by
 have c0:W.cell? ⟨gr,0,none⟩=some x0:=h.cell 0
 have c1:W.cell? ⟨gr,1,none⟩=some x1:=h.cell 1
 have c2:W.cell? ⟨gr,2,none⟩=some x2:=h.cell 2
 have c3:W.cell? ⟨gr,3,none⟩=some x3:=h.cell 3
 have c4:W.cell? ⟨gr,4,none⟩=some x4:=h.cell 4
 have c5:W.cell? ⟨gr,5,none⟩=some x5:=h.cell 5
 have c6:W.cell? ⟨gr,6,none⟩=some x6:=h.cell 6
 simp[results,Tryz.results47,go_sem,ht,c0,c1,c2,c3,c4,c5,c6]
set_option maxHeartbeats 16000000 in
theorem Ep {w0 w:World} {X:List Nat} {L:List Itm} {F:List Fact} {g:Nat} {s:ByteArray} (h:ai w0 [] X w (cuB g s 0::L) F) (hs:s.size≤20000):
 Calls Tryz.prog 47 #[.pointer (some ⟨g,0,none⟩)] w (aW w0 [] X g s L F (tq s.data.toList) LnP):=by
 obtain⟨R,hR⟩:∃ R,R=tq s.data.toList:=⟨_,rfl⟩
 rw[←hR]
 unfold tq at hR
 have HR:=Lib.hid hR
 clear hR
 have HS:=Lib.hid (show s.data.toList.length=s.size from by simp)
 have HK0:=Lib.hid h
 clear h
 go_enter Tryz.func47,Tryz.ntmps47
 have HK1:Hid (ai w0 [] X (w.alloc (.cells #[.int .i64 0,.string ⟨#[]⟩,.string ⟨#[]⟩,.int .i64 0,.string ⟨#[]⟩,.slice none 0 0,.int .i64 0] 75)) (.box (g) 136 #[.string s,.int .i64 ((0:Nat):Int)] :: .box (w.heap.size) 75 #[.int .i64 0,.string ⟨#[]⟩,.string ⟨#[]⟩,.int .i64 0,.string ⟨#[]⟩,.slice none 0 0,.int .i64 0]::L) (F)):=(HK0.out.alloc_at 75 #[.int .i64 0,.string ⟨#[]⟩,.string ⟨#[]⟩,.int .i64 0,.string ⟨#[]⟩,.slice none 0 0,.int .i64 0] (w.heap.size) (by simp)).swap
 clear HK0
 go_wp2_with fail
 generalize hgr:w.heap.size=gr at HK1 ⊢
 clear hgr
 cases hr:aO s.data.toList 0 with
 | bad c=>
   have HRb:=Lib.hid (show R = .bad c from by rw[HR.out,hr];rfl)
   with_reducible refine(bw HK1.out hs (by omega)).mono ?_
   rintro e W hC
   obtain⟨rfl,jj,hH,hj⟩:=hC.bad hr
   exact⟨rfl,aW.mk_bad (hH.drop (List.Sublist.cons_cons _ (List.Sublist.cons _ (List.Sublist.refl _)))) hj HRb.out⟩
 | ok x k0=>
   have HR2:=HR.out
   rw[hr,Rd.then_ok]at HR2
   clear HR
   have HR:=Lib.hid HR2
   clear HR2
   with_reducible refine(bw HK1.out hs (by omega)).mono ?_
   rintro e w1 hC
   obtain⟨rfl,hH,hj⟩:=hC.ok hr
   clear hC
   have hr0:=hr
   clear hr
   have HK2:Hid (ai w0 [] X w1 (.box (g) 136 #[.string s,.int .i64 ((k0:Nat):Int)] :: .box (gr) 75 #[.int .i64 0,.string ⟨#[]⟩,.string ⟨#[]⟩,.int .i64 0,.string ⟨#[]⟩,.slice none 0 0,.int .i64 0]::L) (F)):=hH
   clear HK1
   clear hH
   have hj_k0:=hj
   clear hj
   obtain⟨rfl,hlt,-⟩:=ff hr0
   clear hr0 hj_k0
   unfold u8V
   obtain⟨m,hm⟩:∃ m:Int,m=(x.toNat:Int):=⟨_,rfl⟩
   rw[←hm]
   by_cases h35:x=35
   ·skip
    subst h35
    obtain rfl:m=35:=hm
    have HRn:=HR.out
    rw[if_pos rfl]at HRn
    clear HR
    have HR:=Lib.hid HRn
    clear HRn
    cases hr:aX s.data.toList [35,32] 0 with
    | bad c=>
      have HRb:=Lib.hid (show R = .bad c from by rw[HR.out,hr];rfl)
      go_wp2_with fail
      with_reducible refine(bA HK2.out ⟨#[35,32]⟩ hs (by omega) (by decide)).mono ?_
      rintro e W hC
      obtain⟨rfl,jj,hH,hj⟩:=hC.bad hr
      exact⟨rfl,aW.mk_bad (hH.drop (List.Sublist.cons_cons _ (List.Sublist.cons _ (List.Sublist.refl _)))) hj HRb.out⟩
    | ok y k1=>
      have HR2:=HR.out
      rw[hr,Rd.then_ok]at HR2
      clear HR
      have HR:=Lib.hid HR2
      clear HR2
      go_wp2_with fail
      with_reducible refine(bA HK2.out ⟨#[35,32]⟩ hs (by omega) (by decide)).mono ?_
      rintro e w2 hC
      obtain⟨rfl,hH,hj⟩:=hC.ok hr
      clear hC
      have hr0:=hr
      clear hr
      have HK3:Hid (ai w0 [] X w2 (.box (g) 136 #[.string s,.int .i64 ((k1:Nat):Int)] :: .box (gr) 75 #[.int .i64 0,.string ⟨#[]⟩,.string ⟨#[]⟩,.int .i64 0,.string ⟨#[]⟩,.slice none 0 0,.int .i64 0]::L) (F)):=hH
      clear HK2
      clear hH
      have hj_k1:=hj
      clear hj
      clear hr0
      cases hr:aO s.data.toList k1 with
      | bad c=>
        have HRb:=Lib.hid (show R = .bad c from by rw[HR.out,hr];rfl)
        go_wp2_with fail
        with_reducible refine(bw HK3.out hs (by omega)).mono ?_
        rintro e W hC
        obtain⟨rfl,jj,hH,hj⟩:=hC.bad hr
        exact⟨rfl,aW.mk_bad (hH.drop (List.Sublist.cons_cons _ (List.Sublist.cons _ (List.Sublist.refl _)))) hj HRb.out⟩
      | ok z k2=>
        have HR2:=HR.out
        rw[hr,Rd.then_ok]at HR2
        clear HR
        have HR:=Lib.hid HR2
        clear HR2
        go_wp2_with fail
        with_reducible refine(bw HK3.out hs (by omega)).mono ?_
        rintro e w3 hC
        obtain⟨rfl,hH,hj⟩:=hC.ok hr
        clear hC
        have hr0:=hr
        clear hr
        have HK4:Hid (ai w0 [] X w3 (.box (g) 136 #[.string s,.int .i64 ((k2:Nat):Int)] :: .box (gr) 75 #[.int .i64 0,.string ⟨#[]⟩,.string ⟨#[]⟩,.int .i64 0,.string ⟨#[]⟩,.slice none 0 0,.int .i64 0]::L) (F)):=hH
        clear HK3
        clear hH
        have hj_k2:=hj
        clear hj
        obtain⟨rfl,hlt2,-⟩:=ff hr0
        clear hr0 hj_k2
        unfold u8V
        obtain⟨q,hq⟩:∃ q:Int,q=(z.toNat:Int):=⟨_,rfl⟩
        rw[←hq]
        by_cases h72:z=72
        ·skip
         subst h72
         obtain rfl:q=72:=hq
         have HRn:=HR.out
         rw[if_pos rfl]at HRn
         clear HR
         have HR:=Lib.hid HRn
         clear HRn
         cases hr:aX s.data.toList qs k2 with
         | bad c=>
           have HRb:=Lib.hid (show R = .bad c from by rw[HR.out,hr];rfl)
           go_wp2_with fail
           with_reducible refine(bA HK4.out ⟨#[72,69,76,80,32]⟩ hs (by omega) (by decide)).mono ?_
           rintro e W hC
           obtain⟨rfl,jj,hH,hj⟩:=hC.bad hr
           exact⟨rfl,aW.mk_bad (hH.drop (List.Sublist.cons_cons _ (List.Sublist.cons _ (List.Sublist.refl _)))) hj HRb.out⟩
         | ok y k3=>
           have HR2:=HR.out
           rw[hr,Rd.then_ok]at HR2
           clear HR
           have HR:=Lib.hid HR2
           clear HR2
           go_wp2_with fail
           with_reducible refine(bA HK4.out ⟨#[72,69,76,80,32]⟩ hs (by omega) (by decide)).mono ?_
           rintro e w4 hC
           obtain⟨rfl,hH,hj⟩:=hC.ok hr
           clear hC
           have hr0:=hr
           clear hr
           have HK5:Hid (ai w0 [] X w4 (.box (g) 136 #[.string s,.int .i64 ((k3:Nat):Int)] :: .box (gr) 75 #[.int .i64 0,.string ⟨#[]⟩,.string ⟨#[]⟩,.int .i64 0,.string ⟨#[]⟩,.slice none 0 0,.int .i64 0]::L) (F)):=hH
           clear HK4
           clear hH
           have hj_k3:=hj
           clear hj
           clear hr0
           cases hr:gE s.data.toList k3 with
           | bad c=>
             have HRb:=Lib.hid (show R = .bad c from by rw[HR.out,hr];rfl)
             go_wp2_with fail
             with_reducible refine(jG HK5.out hs (by omega)).mono ?_
             rintro e W hC
             obtain⟨rfl,jj,hH,hj⟩:=hC.bad hr
             exact⟨rfl,aW.mk_bad (hH.drop (List.Sublist.cons_cons _ (List.Sublist.cons _ (List.Sublist.refl _)))) hj HRb.out⟩
           | ok nm k4=>
             have HR2:=HR.out
             rw[hr,Rd.then_ok]at HR2
             clear HR
             have HR:=Lib.hid HR2
             clear HR2
             go_wp2_with fail
             with_reducible refine(jG HK5.out hs (by omega)).mono ?_
             rintro e w5 hC
             obtain⟨rfl,hH,hj⟩:=hC.ok hr
             clear hC
             have hr0:=hr
             clear hr
             have HK6:Hid (ai w0 [] X w5 (.box (g) 136 #[.string s,.int .i64 ((k4:Nat):Int)] :: .box (gr) 75 #[.int .i64 0,.string ⟨#[]⟩,.string ⟨#[]⟩,.int .i64 0,.string ⟨#[]⟩,.slice none 0 0,.int .i64 0]::L) (F)):=hH
             clear HK5
             clear hH
             have hj_k4:=hj
             clear hj
             have hl4:=ko hr0
             rw[HS.out]at hl4
             clear hr0
             have HK7:Hid (ai w0 [] X (w5.alloc (.cells #[.int .i64 1,.string (sB nm),.string ⟨#[]⟩,.int .i64 0,.string ⟨#[]⟩,.slice none 0 0,.int .i64 0] 75)) (.box (g) 136 #[.string s,.int .i64 ((k4:Nat):Int)] :: .box (w5.heap.size) 75 #[.int .i64 1,.string (sB nm),.string ⟨#[]⟩,.int .i64 0,.string ⟨#[]⟩,.slice none 0 0,.int .i64 0] :: .box (gr) 75 #[.int .i64 0,.string ⟨#[]⟩,.string ⟨#[]⟩,.int .i64 0,.string ⟨#[]⟩,.slice none 0 0,.int .i64 0]::L) (F)):=(HK6.out.alloc_at 75 #[.int .i64 1,.string (sB nm),.string ⟨#[]⟩,.int .i64 0,.string ⟨#[]⟩,.slice none 0 0,.int .i64 0] (w5.heap.size) (by simp)).swap
             clear HK6
             go_wp2_with fail
             generalize hgx:w5.heap.size=gx at HK7 ⊢
             clear hgx
             cases hr:aX s.data.toList [32] k4 with
             | bad c=>
               have HRb:=Lib.hid (show R = .bad c from by rw[HR.out,hr];rfl)
               with_reducible refine(bA HK7.out ⟨#[32]⟩ hs (by omega) (by decide)).mono ?_
               rintro e W hC
               obtain⟨rfl,jj,hH,hj⟩:=hC.bad hr
               exact⟨rfl,aW.mk_bad (hH.drop (List.Sublist.cons_cons _ (List.Sublist.cons _ (List.Sublist.cons _ (List.Sublist.refl _))))) hj HRb.out⟩
             | ok y k5=>
               have HR2:=HR.out
               rw[hr,Rd.then_ok]at HR2
               clear HR
               have HR:=Lib.hid HR2
               clear HR2
               with_reducible refine(bA HK7.out ⟨#[32]⟩ hs (by omega) (by decide)).mono ?_
               rintro e w6 hC
               obtain⟨rfl,hH,hj⟩:=hC.ok hr
               clear hC
               have hr0:=hr
               clear hr
               have HK8:Hid (ai w0 [] X w6 (.box (g) 136 #[.string s,.int .i64 ((k5:Nat):Int)] :: .box (gx) 75 #[.int .i64 1,.string (sB nm),.string ⟨#[]⟩,.int .i64 0,.string ⟨#[]⟩,.slice none 0 0,.int .i64 0] :: .box (gr) 75 #[.int .i64 0,.string ⟨#[]⟩,.string ⟨#[]⟩,.int .i64 0,.string ⟨#[]⟩,.slice none 0 0,.int .i64 0]::L) (F)):=hH
               clear HK7
               clear hH
               have hj_k5:=hj
               clear hj
               clear hr0
               cases hr:vc false s.data.toList k5 with
               | bad c=>
                 have HRb:=Lib.hid (show R = .bad c from by rw[HR.out,hr];rfl)
                 go_wp2_with fail
                 with_reducible refine(kr HK8.out false hs (by omega)).mono ?_
                 rintro e W hC
                 obtain⟨rfl,jj,hH,hj⟩:=hC.bad hr
                 exact⟨rfl,aW.mk_bad (hH.drop (List.Sublist.cons_cons _ (List.Sublist.cons _ (List.Sublist.cons _ (List.Sublist.refl _))))) hj HRb.out⟩
               | ok tx k6=>
                 have HR2:=HR.out
                 rw[hr,Rd.then_ok]at HR2
                 clear HR
                 have HR:=Lib.hid HR2
                 clear HR2
                 go_wp2_with fail
                 with_reducible refine(kr HK8.out false hs (by omega)).mono ?_
                 rintro e w7 hC
                 obtain⟨rfl,hH,hj⟩:=hC.ok hr
                 clear hC
                 have hr0:=hr
                 clear hr
                 have HK9:Hid (ai w0 [] X w7 (.box (g) 136 #[.string s,.int .i64 ((k6:Nat):Int)] :: .box (gx) 75 #[.int .i64 1,.string (sB nm),.string ⟨#[]⟩,.int .i64 0,.string ⟨#[]⟩,.slice none 0 0,.int .i64 0] :: .box (gr) 75 #[.int .i64 0,.string ⟨#[]⟩,.string ⟨#[]⟩,.int .i64 0,.string ⟨#[]⟩,.slice none 0 0,.int .i64 0]::L) (F)):=hH
                 clear HK8
                 clear hH
                 have hj_k6:=hj
                 clear hj
                 have hl6:=yf hr0
                 rw[HS.out]at hl6
                 clear hr0
                 have c_x_0_10:w7.cell? ⟨gx,0,none⟩=some (.int .i64 1):=HK9.out.cell 1 rfl 0
                 have z_x_0_11:w7.frozen? ⟨gx,0,none⟩=false:=HK9.out.frozen 1 rfl 0
                 have c_x_1_12:w7.cell? ⟨gx,1,none⟩=some (.string (sB nm)):=HK9.out.cell 1 rfl 1
                 have z_x_1_13:w7.frozen? ⟨gx,1,none⟩=false:=HK9.out.frozen 1 rfl 1
                 have c_x_2_14:w7.cell? ⟨gx,2,none⟩=some (.string ⟨#[]⟩):=HK9.out.cell 1 rfl 2
                 have z_x_2_15:w7.frozen? ⟨gx,2,none⟩=false:=HK9.out.frozen 1 rfl 2
                 have c_x_3_16:w7.cell? ⟨gx,3,none⟩=some (.int .i64 0):=HK9.out.cell 1 rfl 3
                 have z_x_3_17:w7.frozen? ⟨gx,3,none⟩=false:=HK9.out.frozen 1 rfl 3
                 have c_x_4_18:w7.cell? ⟨gx,4,none⟩=some (.string ⟨#[]⟩):=HK9.out.cell 1 rfl 4
                 have z_x_4_19:w7.frozen? ⟨gx,4,none⟩=false:=HK9.out.frozen 1 rfl 4
                 have c_x_5_20:w7.cell? ⟨gx,5,none⟩=some (.slice none 0 0):=HK9.out.cell 1 rfl 5
                 have z_x_5_21:w7.frozen? ⟨gx,5,none⟩=false:=HK9.out.frozen 1 rfl 5
                 have c_x_6_22:w7.cell? ⟨gx,6,none⟩=some (.int .i64 0):=HK9.out.cell 1 rfl 6
                 have z_x_6_23:w7.frozen? ⟨gx,6,none⟩=false:=HK9.out.frozen 1 rfl 6
                 have c_r_0_24:w7.cell? ⟨gr,0,none⟩=some (.int .i64 0):=HK9.out.cell 2 rfl 0
                 have z_r_0_25:w7.frozen? ⟨gr,0,none⟩=false:=HK9.out.frozen 2 rfl 0
                 have c_r_1_26:w7.cell? ⟨gr,1,none⟩=some (.string ⟨#[]⟩):=HK9.out.cell 2 rfl 1
                 have z_r_1_27:w7.frozen? ⟨gr,1,none⟩=false:=HK9.out.frozen 2 rfl 1
                 have c_r_2_28:w7.cell? ⟨gr,2,none⟩=some (.string ⟨#[]⟩):=HK9.out.cell 2 rfl 2
                 have z_r_2_29:w7.frozen? ⟨gr,2,none⟩=false:=HK9.out.frozen 2 rfl 2
                 have c_r_3_30:w7.cell? ⟨gr,3,none⟩=some (.int .i64 0):=HK9.out.cell 2 rfl 3
                 have z_r_3_31:w7.frozen? ⟨gr,3,none⟩=false:=HK9.out.frozen 2 rfl 3
                 have c_r_4_32:w7.cell? ⟨gr,4,none⟩=some (.string ⟨#[]⟩):=HK9.out.cell 2 rfl 4
                 have z_r_4_33:w7.frozen? ⟨gr,4,none⟩=false:=HK9.out.frozen 2 rfl 4
                 have c_r_5_34:w7.cell? ⟨gr,5,none⟩=some (.slice none 0 0):=HK9.out.cell 2 rfl 5
                 have z_r_5_35:w7.frozen? ⟨gr,5,none⟩=false:=HK9.out.frozen 2 rfl 5
                 have c_r_6_36:w7.cell? ⟨gr,6,none⟩=some (.int .i64 0):=HK9.out.cell 2 rfl 6
                 have z_r_6_37:w7.frozen? ⟨gr,6,none⟩=false:=HK9.out.frozen 2 rfl 6
                 have ne_38:¬ (gx=gr):=HK9.out.ne 1 2 (by decide) rfl rfl
                 have ne_39:¬ (gr=gx):=HK9.out.ne 2 1 (by decide) rfl rfl
                 go_wp2
                 have HK40:Hid (ai w0 [] X (w7.setCell ⟨gx,2,none⟩ (.string (sB tx))) (.box (g) 136 #[.string s,.int .i64 ((k6:Nat):Int)] :: .box (gx) 75 #[.int .i64 1,.string (sB nm),.string (sB tx),.int .i64 0,.string ⟨#[]⟩,.slice none 0 0,.int .i64 0] :: .box (gr) 75 #[.int .i64 0,.string ⟨#[]⟩,.string ⟨#[]⟩,.int .i64 0,.string ⟨#[]⟩,.slice none 0 0,.int .i64 0]::L) (F)):=HK9.out.set_ 1 rfl 2 (.string (sB tx))
                 clear HK9
                 have HK41:Hid (ai w0 [] X ((((((((w7.setCell ⟨gx,2,none⟩ (.string (sB tx))).setCell ⟨gr,0,none⟩ (.int .i64 1)).setCell ⟨gr,1,none⟩ (.string (sB nm))).setCell ⟨gr,2,none⟩ (.string (sB tx))).setCell ⟨gr,3,none⟩ (.int .i64 0)).setCell ⟨gr,4,none⟩ (.string ⟨#[]⟩)).setCell ⟨gr,5,none⟩ (.slice none 0 0)).setCell ⟨gr,6,none⟩ (.int .i64 0)) (.box (g) 136 #[.string s,.int .i64 ((k6:Nat):Int)] :: .box (gx) 75 #[.int .i64 1,.string (sB nm),.string (sB tx),.int .i64 0,.string ⟨#[]⟩,.slice none 0 0,.int .i64 0] :: .box (gr) 75 #[.int .i64 1,.string (sB nm),.string (sB tx),.int .i64 0,.string ⟨#[]⟩,.slice none 0 0,.int .i64 0]::L) (F)):=(((((((HK40.out.set_ 2 rfl 0 (.int .i64 1)).set_ 2 rfl 1 (.string (sB nm))).set_ 2 rfl 2 (.string (sB tx))).set_ 2 rfl 3 (.int .i64 0)).set_ 2 rfl 4 (.string ⟨#[]⟩)).set_ 2 rfl 5 (.slice none 0 0)).set_ 2 rfl 6 (.int .i64 0))
                 clear HK40
                 exact bodyPost_ret (qX (HK41.out.blk 2 rfl) _ rfl) rfl (aW.mk_ok (show LnP (.help nm tx) _ [] from⟨rfl,rfl,by omega,by omega⟩) (HK41.out.drop (List.Sublist.cons_cons _ (List.Sublist.cons _ (List.Sublist.cons _ (List.Sublist.refl _))))) hj_k6 HR.out rfl)
        have b72:(q == 72)=false:=by rw[hq,beq_eq_false_iff_ne];exact fun h=>h72 (gK (n:=72) (by decide) h)
        have HRn:=HR.out
        rw[if_neg h72]at HRn
        clear HR hq h72
        have HR:=Lib.hid HRn
        clear HRn
        cases hr:aX s.data.toList xe k2 with
        | bad c=>
          have HRb:=Lib.hid (show R = .bad c from by rw[HR.out,hr];rfl)
          go_wp2_with fail
          with_reducible refine(bA HK4.out ⟨#[84,89,80,69,32]⟩ hs (by omega) (by decide)).mono ?_
          rintro e W hC
          obtain⟨rfl,jj,hH,hj⟩:=hC.bad hr
          exact⟨rfl,aW.mk_bad (hH.drop (List.Sublist.cons_cons _ (List.Sublist.cons _ (List.Sublist.refl _)))) hj HRb.out⟩
        | ok y k3=>
          have HR2:=HR.out
          rw[hr,Rd.then_ok]at HR2
          clear HR
          have HR:=Lib.hid HR2
          clear HR2
          go_wp2_with fail
          with_reducible refine(bA HK4.out ⟨#[84,89,80,69,32]⟩ hs (by omega) (by decide)).mono ?_
          rintro e w4 hC
          obtain⟨rfl,hH,hj⟩:=hC.ok hr
          clear hC
          have hr0:=hr
          clear hr
          have HK5:Hid (ai w0 [] X w4 (.box (g) 136 #[.string s,.int .i64 ((k3:Nat):Int)] :: .box (gr) 75 #[.int .i64 0,.string ⟨#[]⟩,.string ⟨#[]⟩,.int .i64 0,.string ⟨#[]⟩,.slice none 0 0,.int .i64 0]::L) (F)):=hH
          clear HK4
          clear hH
          have hj_k3:=hj
          clear hj
          clear hr0
          cases hr:gE s.data.toList k3 with
          | bad c=>
            have HRb:=Lib.hid (show R = .bad c from by rw[HR.out,hr];rfl)
            go_wp2_with fail
            with_reducible refine(jG HK5.out hs (by omega)).mono ?_
            rintro e W hC
            obtain⟨rfl,jj,hH,hj⟩:=hC.bad hr
            exact⟨rfl,aW.mk_bad (hH.drop (List.Sublist.cons_cons _ (List.Sublist.cons _ (List.Sublist.refl _)))) hj HRb.out⟩
          | ok nm k4=>
            have HR2:=HR.out
            rw[hr,Rd.then_ok]at HR2
            clear HR
            have HR:=Lib.hid HR2
            clear HR2
            go_wp2_with fail
            with_reducible refine(jG HK5.out hs (by omega)).mono ?_
            rintro e w5 hC
            obtain⟨rfl,hH,hj⟩:=hC.ok hr
            clear hC
            have hr0:=hr
            clear hr
            have HK6:Hid (ai w0 [] X w5 (.box (g) 136 #[.string s,.int .i64 ((k4:Nat):Int)] :: .box (gr) 75 #[.int .i64 0,.string ⟨#[]⟩,.string ⟨#[]⟩,.int .i64 0,.string ⟨#[]⟩,.slice none 0 0,.int .i64 0]::L) (F)):=hH
            clear HK5
            clear hH
            have hj_k4:=hj
            clear hj
            have hl4:=ko hr0
            rw[HS.out]at hl4
            clear hr0
            have HK7:Hid (ai w0 [] X (w5.alloc (.cells #[.int .i64 2,.string (sB nm),.string ⟨#[]⟩,.int .i64 0,.string ⟨#[]⟩,.slice none 0 0,.int .i64 0] 75)) (.box (g) 136 #[.string s,.int .i64 ((k4:Nat):Int)] :: .box (w5.heap.size) 75 #[.int .i64 2,.string (sB nm),.string ⟨#[]⟩,.int .i64 0,.string ⟨#[]⟩,.slice none 0 0,.int .i64 0] :: .box (gr) 75 #[.int .i64 0,.string ⟨#[]⟩,.string ⟨#[]⟩,.int .i64 0,.string ⟨#[]⟩,.slice none 0 0,.int .i64 0]::L) (F)):=(HK6.out.alloc_at 75 #[.int .i64 2,.string (sB nm),.string ⟨#[]⟩,.int .i64 0,.string ⟨#[]⟩,.slice none 0 0,.int .i64 0] (w5.heap.size) (by simp)).swap
            clear HK6
            go_wp2_with fail
            generalize hgx:w5.heap.size=gx at HK7 ⊢
            clear hgx
            cases hr:aX s.data.toList [32] k4 with
            | bad c=>
              have HRb:=Lib.hid (show R = .bad c from by rw[HR.out,hr];rfl)
              with_reducible refine(bA HK7.out ⟨#[32]⟩ hs (by omega) (by decide)).mono ?_
              rintro e W hC
              obtain⟨rfl,jj,hH,hj⟩:=hC.bad hr
              exact⟨rfl,aW.mk_bad (hH.drop (List.Sublist.cons_cons _ (List.Sublist.cons _ (List.Sublist.cons _ (List.Sublist.refl _))))) hj HRb.out⟩
            | ok y k5=>
              have HR2:=HR.out
              rw[hr,Rd.then_ok]at HR2
              clear HR
              have HR:=Lib.hid HR2
              clear HR2
              with_reducible refine(bA HK7.out ⟨#[32]⟩ hs (by omega) (by decide)).mono ?_
              rintro e w6 hC
              obtain⟨rfl,hH,hj⟩:=hC.ok hr
              clear hC
              have hr0:=hr
              clear hr
              have HK8:Hid (ai w0 [] X w6 (.box (g) 136 #[.string s,.int .i64 ((k5:Nat):Int)] :: .box (gx) 75 #[.int .i64 2,.string (sB nm),.string ⟨#[]⟩,.int .i64 0,.string ⟨#[]⟩,.slice none 0 0,.int .i64 0] :: .box (gr) 75 #[.int .i64 0,.string ⟨#[]⟩,.string ⟨#[]⟩,.int .i64 0,.string ⟨#[]⟩,.slice none 0 0,.int .i64 0]::L) (F)):=hH
              clear HK7
              clear hH
              have hj_k5:=hj
              clear hj
              clear hr0
              cases hr:sE s.data.toList k5 with
              | bad c=>
                have HRb:=Lib.hid (show R = .bad c from by rw[HR.out,hr];rfl)
                go_wp2_with fail
                with_reducible refine(Dt HK8.out hs (by omega)).mono ?_
                rintro e W hC
                obtain⟨rfl,jj,hH,hj⟩:=hC.bad hr
                exact⟨rfl,aW.mk_bad (hH.drop (List.Sublist.cons_cons _ (List.Sublist.cons _ (List.Sublist.cons _ (List.Sublist.refl _))))) hj HRb.out⟩
              | ok kd k6=>
                have HR2:=HR.out
                rw[hr,Rd.then_ok]at HR2
                clear HR
                have HR:=Lib.hid HR2
                clear HR2
                go_wp2_with fail
                with_reducible refine(Dt HK8.out hs (by omega)).mono ?_
                rintro e w7 hC
                obtain⟨rfl,hH,hj⟩:=hC.ok hr
                clear hC
                have hr0:=hr
                clear hr
                have HK9:Hid (ai w0 [] X w7 (.box (g) 136 #[.string s,.int .i64 ((k6:Nat):Int)] :: .box (gx) 75 #[.int .i64 2,.string (sB nm),.string ⟨#[]⟩,.int .i64 0,.string ⟨#[]⟩,.slice none 0 0,.int .i64 0] :: .box (gr) 75 #[.int .i64 0,.string ⟨#[]⟩,.string ⟨#[]⟩,.int .i64 0,.string ⟨#[]⟩,.slice none 0 0,.int .i64 0]::L) (F)):=hH
                clear HK8
                clear hH
                have hj_k6:=hj
                clear hj
                clear hr0
                have c_x_0_10:w7.cell? ⟨gx,0,none⟩=some (.int .i64 2):=HK9.out.cell 1 rfl 0
                have z_x_0_11:w7.frozen? ⟨gx,0,none⟩=false:=HK9.out.frozen 1 rfl 0
                have c_x_1_12:w7.cell? ⟨gx,1,none⟩=some (.string (sB nm)):=HK9.out.cell 1 rfl 1
                have z_x_1_13:w7.frozen? ⟨gx,1,none⟩=false:=HK9.out.frozen 1 rfl 1
                have c_x_2_14:w7.cell? ⟨gx,2,none⟩=some (.string ⟨#[]⟩):=HK9.out.cell 1 rfl 2
                have z_x_2_15:w7.frozen? ⟨gx,2,none⟩=false:=HK9.out.frozen 1 rfl 2
                have c_x_3_16:w7.cell? ⟨gx,3,none⟩=some (.int .i64 0):=HK9.out.cell 1 rfl 3
                have z_x_3_17:w7.frozen? ⟨gx,3,none⟩=false:=HK9.out.frozen 1 rfl 3
                have c_x_4_18:w7.cell? ⟨gx,4,none⟩=some (.string ⟨#[]⟩):=HK9.out.cell 1 rfl 4
                have z_x_4_19:w7.frozen? ⟨gx,4,none⟩=false:=HK9.out.frozen 1 rfl 4
                have c_x_5_20:w7.cell? ⟨gx,5,none⟩=some (.slice none 0 0):=HK9.out.cell 1 rfl 5
                have z_x_5_21:w7.frozen? ⟨gx,5,none⟩=false:=HK9.out.frozen 1 rfl 5
                have c_x_6_22:w7.cell? ⟨gx,6,none⟩=some (.int .i64 0):=HK9.out.cell 1 rfl 6
                have z_x_6_23:w7.frozen? ⟨gx,6,none⟩=false:=HK9.out.frozen 1 rfl 6
                have c_r_0_24:w7.cell? ⟨gr,0,none⟩=some (.int .i64 0):=HK9.out.cell 2 rfl 0
                have z_r_0_25:w7.frozen? ⟨gr,0,none⟩=false:=HK9.out.frozen 2 rfl 0
                have c_r_1_26:w7.cell? ⟨gr,1,none⟩=some (.string ⟨#[]⟩):=HK9.out.cell 2 rfl 1
                have z_r_1_27:w7.frozen? ⟨gr,1,none⟩=false:=HK9.out.frozen 2 rfl 1
                have c_r_2_28:w7.cell? ⟨gr,2,none⟩=some (.string ⟨#[]⟩):=HK9.out.cell 2 rfl 2
                have z_r_2_29:w7.frozen? ⟨gr,2,none⟩=false:=HK9.out.frozen 2 rfl 2
                have c_r_3_30:w7.cell? ⟨gr,3,none⟩=some (.int .i64 0):=HK9.out.cell 2 rfl 3
                have z_r_3_31:w7.frozen? ⟨gr,3,none⟩=false:=HK9.out.frozen 2 rfl 3
                have c_r_4_32:w7.cell? ⟨gr,4,none⟩=some (.string ⟨#[]⟩):=HK9.out.cell 2 rfl 4
                have z_r_4_33:w7.frozen? ⟨gr,4,none⟩=false:=HK9.out.frozen 2 rfl 4
                have c_r_5_34:w7.cell? ⟨gr,5,none⟩=some (.slice none 0 0):=HK9.out.cell 2 rfl 5
                have z_r_5_35:w7.frozen? ⟨gr,5,none⟩=false:=HK9.out.frozen 2 rfl 5
                have c_r_6_36:w7.cell? ⟨gr,6,none⟩=some (.int .i64 0):=HK9.out.cell 2 rfl 6
                have z_r_6_37:w7.frozen? ⟨gr,6,none⟩=false:=HK9.out.frozen 2 rfl 6
                have ne_38:¬ (gx=gr):=HK9.out.ne 1 2 (by decide) rfl rfl
                have ne_39:¬ (gr=gx):=HK9.out.ne 2 1 (by decide) rfl rfl
                go_wp2
                have HK40:Hid (ai w0 [] X (w7.setCell ⟨gx,3,none⟩ (.int .i64 (kd:Int))) (.box (g) 136 #[.string s,.int .i64 ((k6:Nat):Int)] :: .box (gx) 75 #[.int .i64 2,.string (sB nm),.string ⟨#[]⟩,.int .i64 (kd:Int),.string ⟨#[]⟩,.slice none 0 0,.int .i64 0] :: .box (gr) 75 #[.int .i64 0,.string ⟨#[]⟩,.string ⟨#[]⟩,.int .i64 0,.string ⟨#[]⟩,.slice none 0 0,.int .i64 0]::L) (F)):=HK9.out.set_ 1 rfl 3 (.int .i64 (kd:Int))
                clear HK9
                have HK41:Hid (ai w0 [] X ((((((((w7.setCell ⟨gx,3,none⟩ (.int .i64 (kd:Int))).setCell ⟨gr,0,none⟩ (.int .i64 2)).setCell ⟨gr,1,none⟩ (.string (sB nm))).setCell ⟨gr,2,none⟩ (.string ⟨#[]⟩)).setCell ⟨gr,3,none⟩ (.int .i64 (kd:Int))).setCell ⟨gr,4,none⟩ (.string ⟨#[]⟩)).setCell ⟨gr,5,none⟩ (.slice none 0 0)).setCell ⟨gr,6,none⟩ (.int .i64 0)) (.box (g) 136 #[.string s,.int .i64 ((k6:Nat):Int)] :: .box (gx) 75 #[.int .i64 2,.string (sB nm),.string ⟨#[]⟩,.int .i64 (kd:Int),.string ⟨#[]⟩,.slice none 0 0,.int .i64 0] :: .box (gr) 75 #[.int .i64 2,.string (sB nm),.string ⟨#[]⟩,.int .i64 (kd:Int),.string ⟨#[]⟩,.slice none 0 0,.int .i64 0]::L) (F)):=(((((((HK40.out.set_ 2 rfl 0 (.int .i64 2)).set_ 2 rfl 1 (.string (sB nm))).set_ 2 rfl 2 (.string ⟨#[]⟩)).set_ 2 rfl 3 (.int .i64 (kd:Int))).set_ 2 rfl 4 (.string ⟨#[]⟩)).set_ 2 rfl 5 (.slice none 0 0)).set_ 2 rfl 6 (.int .i64 0))
                clear HK40
                exact bodyPost_ret (qX (HK41.out.blk 2 rfl) _ rfl) rfl (aW.mk_ok (show LnP (.kind nm kd) _ [] from⟨rfl,rfl,by omega⟩) (HK41.out.drop (List.Sublist.cons_cons _ (List.Sublist.cons _ (List.Sublist.cons _ (List.Sublist.refl _))))) hj_k6 HR.out rfl)
   have b35:(m != 35)=true:=by rw[hm];simpa using fun h=>h35 (gK (n:=35) (by decide) h)
   have HRn:=HR.out
   rw[if_neg h35]at HRn
   clear HR hm h35
   have HR:=Lib.hid HRn
   clear HRn
   cases hr:kq s.data.toList 0 with
   | bad c=>
     have HRb:=Lib.hid (show R = .bad c from by rw[HR.out,hr];rfl)
     go_wp2_with fail
     with_reducible refine(xA HK2.out hs (by omega)).mono ?_
     rintro e W hC
     obtain⟨rfl,jj,hH,hj⟩:=hC.bad hr
     exact⟨rfl,aW.mk_bad (hH.drop (List.Sublist.cons_cons _ (List.Sublist.cons _ (List.Sublist.refl _)))) hj HRb.out⟩
   | ok sm k6=>
     have HR2:=HR.out
     rw[hr,Rd.then_ok]at HR2
     clear HR
     have HR:=Lib.hid HR2
     clear HR2
     go_wp2_with fail
     with_reducible refine(xA HK2.out hs (by omega)).mono ?_
     rintro e w7 hC
     obtain⟨v,Fs,⟨Al,nl,cl,rfl,rfl,hin,hln⟩,rfl,hH,hj⟩:=hC.ok hr
     clear hC
     have hr0:=hr
     clear hr
     have HK3:Hid (ai w0 [] X w7 (.box (g) 136 #[.string s,.int .i64 ((k6:Nat):Int)] :: .box (gr) 75 #[.int .i64 0,.string ⟨#[]⟩,.string ⟨#[]⟩,.int .i64 0,.string ⟨#[]⟩,.slice none 0 0,.int .i64 0]::L) (Sl.fact aj Al nl cl sm.labs::F)):=hH
     clear HK2
     clear hH
     have hj_k6:=hj
     clear hj
     clear hr0
     have c_r_0_4:w7.cell? ⟨gr,0,none⟩=some (.int .i64 0):=HK3.out.cell 1 rfl 0
     have z_r_0_5:w7.frozen? ⟨gr,0,none⟩=false:=HK3.out.frozen 1 rfl 0
     have c_r_1_6:w7.cell? ⟨gr,1,none⟩=some (.string ⟨#[]⟩):=HK3.out.cell 1 rfl 1
     have z_r_1_7:w7.frozen? ⟨gr,1,none⟩=false:=HK3.out.frozen 1 rfl 1
     have c_r_2_8:w7.cell? ⟨gr,2,none⟩=some (.string ⟨#[]⟩):=HK3.out.cell 1 rfl 2
     have z_r_2_9:w7.frozen? ⟨gr,2,none⟩=false:=HK3.out.frozen 1 rfl 2
     have c_r_3_10:w7.cell? ⟨gr,3,none⟩=some (.int .i64 0):=HK3.out.cell 1 rfl 3
     have z_r_3_11:w7.frozen? ⟨gr,3,none⟩=false:=HK3.out.frozen 1 rfl 3
     have c_r_4_12:w7.cell? ⟨gr,4,none⟩=some (.string ⟨#[]⟩):=HK3.out.cell 1 rfl 4
     have z_r_4_13:w7.frozen? ⟨gr,4,none⟩=false:=HK3.out.frozen 1 rfl 4
     have c_r_5_14:w7.cell? ⟨gr,5,none⟩=some (.slice none 0 0):=HK3.out.cell 1 rfl 5
     have z_r_5_15:w7.frozen? ⟨gr,5,none⟩=false:=HK3.out.frozen 1 rfl 5
     have c_r_6_16:w7.cell? ⟨gr,6,none⟩=some (.int .i64 0):=HK3.out.cell 1 rfl 6
     have z_r_6_17:w7.frozen? ⟨gr,6,none⟩=false:=HK3.out.frozen 1 rfl 6
     go_wp2
     have HK18:Hid (ai w0 [] X (((((((w7.setCell ⟨gr,0,none⟩ (.int .i64 3)).setCell ⟨gr,1,none⟩ (.string ⟨#[]⟩)).setCell ⟨gr,2,none⟩ (.string ⟨#[]⟩)).setCell ⟨gr,3,none⟩ (.int .i64 0)).setCell ⟨gr,4,none⟩ (.string (sB sm.name))).setCell ⟨gr,5,none⟩ (.slice Al nl cl)).setCell ⟨gr,6,none⟩ (.int .i64 sm.val)) (.box (g) 136 #[.string s,.int .i64 ((k6:Nat):Int)] :: .box (gr) 75 #[.int .i64 3,.string ⟨#[]⟩,.string ⟨#[]⟩,.int .i64 0,.string (sB sm.name),.slice Al nl cl,.int .i64 sm.val]::L) (Sl.fact aj Al nl cl sm.labs::F)):=(((((((HK3.out.set_ 1 rfl 0 (.int .i64 3)).set_ 1 rfl 1 (.string ⟨#[]⟩)).set_ 1 rfl 2 (.string ⟨#[]⟩)).set_ 1 rfl 3 (.int .i64 0)).set_ 1 rfl 4 (.string (sB sm.name))).set_ 1 rfl 5 (.slice Al nl cl)).set_ 1 rfl 6 (.int .i64 sm.val))
     clear HK3
     exact bodyPost_ret (qX (HK18.out.blk 1 rfl) _ rfl) rfl (aW.mk_ok (show LnP (.smp sm) _ [Sl.fact aj Al nl cl sm.labs] from⟨_,_,_,rfl,rfl,hin,hln⟩) (HK18.out.drop (List.Sublist.cons_cons _ (List.Sublist.cons _ (List.Sublist.refl _)))) hj_k6 HR.out rfl)
end
section
open Go.RowKit
abbrev lp:Array Value:=#[.int .i64 0,.string ⟨#[]⟩,.string ⟨#[]⟩,.int .i64 0,.string ⟨#[]⟩,.slice none 0 0,.int .i64 0]
set_option maxHeartbeats 4000000 in
theorem zo {w0 w:World} (gl gc:Nat):
 CallsD Tryz.prog 46 #[.pointer (some ⟨gl,0,none⟩),.pointer (some ⟨gc,0,none⟩)] .returning w fun e u' w'=>e = .returned (.tuple #[])∧u' = .returning∧w'=w:=by
 refine callsD_of_wpS Tryz.func46 rfl fun c₀ cs hu=>?_
 apply wpS_seq
 apply wpS_region
 simp[wpOpsS,go_sem,recoverD,hu,Tryz.ntmps46,Exit.thenS]
 apply wpS_seq
 apply wpS_seq
 apply wpS_region
 simp[wpOpsS,go_sem,Exit.thenS]
 refine wpS_cond (t:=true) (by simp[Act.eval,Array.replicate]) ?_
 simp only[if_true]
 refine wpS_of_wp (wp_ret ?_)
 cases c₀
 simp_all [bodyPostS,results,Tryz.results46,Exit.thenS]
theorem mY (v:Value) (T:TypeId) (W:World):(Instr.typeAssert (.iface 132 v) T 132 true).run Tryz.prog W = .ok (.tuple #[v,.bool true]) W:=by
 simp[Instr.typeAssert,run_underlying Tryz.underlying132,go_sem,Result.andThen]
set_option maxHeartbeats 1000000 in
theorem iZ {w0 w:World} {M X:List Nat} {L:List Itm} {F:List Fact} {gl gc c:Nat} {x0 x1 x2 x3 x4 x5 x6:Value} {older:List PanicEntry} (h:ai w0 M X w (.box gl 75 #[x0,x1,x2,x3,x4,x5,x6] :: .box gc 3 #[.int .i64 0]::L) F):
 CallsD Tryz.prog 46 #[.pointer (some ⟨gl,0,none⟩),.pointer (some ⟨gc,0,none⟩)] (.panicking ({ v := .iface 132 (.agg #[.int .i64 (c:Int)]),recovered:=false }::older)) w fun e u' w'=>
  e = .returned (.tuple #[])∧u' = .panicking ({ v := .iface 132 (.agg #[.int .i64 (c:Int)]),recovered:=true }::older)∧ai w0 M X w' (.box gl 75 lp :: .box gc 3 #[.int .i64 (c:Int)]::L) F:=by
 have HK0:=Lib.hid h
 clear h
 refine callsD_of_wpS Tryz.func46 rfl fun c₀ cs₀ hu=>?_
 apply wpS_seq
 apply wpS_region
 simp[wpOpsS,go_sem,recoverD,hu,Tryz.ntmps46,Exit.thenS]
 refine wpS_of_wp ?_
 simp only[Array.replicate_succ,Array.replicate_zero,List.push_toArray,List.append_toArray,List.nil_append,List.cons_append,sI,sZ,sS]
 have hta:=mY
 go_wp2_with fail
 have HK1:Hid (ai w0 M X (w.alloc (.cells #[.int .i64 (c:Int)] 132)) (.box (w.heap.size) 132 #[.int .i64 (c:Int)] :: .box (gl) 75 #[x0,x1,x2,x3,x4,x5,x6] :: .box (gc) 3 #[.int .i64 0]::L) (F)):=HK0.out.alloc_at 132 #[.int .i64 (c:Int)] (w.heap.size) (by simp)
 clear HK0
 refine wp_region_held_drew (S:=fun W'=>Blk W' (w.heap.size) 132 #[.int .i64 (c:Int)]) (by kernel_rfl) (HK1.out.blk 0 rfl).drew (fun hHeld=>?_)
 have HK2:Hid (ai w0 M X (w.alloc (.cells #[.int .i64 (c:Int)] 132)).drew (.box (w.heap.size) 132 #[.int .i64 (c:Int)] :: .box (gl) 75 #[x0,x1,x2,x3,x4,x5,x6] :: .box (gc) 3 #[.int .i64 0]::L) (F)):=HK1.out.drew
 clear HK1
 generalize (w.alloc (.cells #[.int .i64 (c:Int)] 132)).drew=wd at hHeld HK2 ⊢
 have c_l_0_3:wd.cell? ⟨gl,0,none⟩=some (x0):=HK2.out.cell 1 rfl 0
 have z_l_0_4:wd.frozen? ⟨gl,0,none⟩=false:=HK2.out.frozen 1 rfl 0
 have c_l_1_5:wd.cell? ⟨gl,1,none⟩=some (x1):=HK2.out.cell 1 rfl 1
 have z_l_1_6:wd.frozen? ⟨gl,1,none⟩=false:=HK2.out.frozen 1 rfl 1
 have c_l_2_7:wd.cell? ⟨gl,2,none⟩=some (x2):=HK2.out.cell 1 rfl 2
 have z_l_2_8:wd.frozen? ⟨gl,2,none⟩=false:=HK2.out.frozen 1 rfl 2
 have c_l_3_9:wd.cell? ⟨gl,3,none⟩=some (x3):=HK2.out.cell 1 rfl 3
 have z_l_3_10:wd.frozen? ⟨gl,3,none⟩=false:=HK2.out.frozen 1 rfl 3
 have c_l_4_11:wd.cell? ⟨gl,4,none⟩=some (x4):=HK2.out.cell 1 rfl 4
 have z_l_4_12:wd.frozen? ⟨gl,4,none⟩=false:=HK2.out.frozen 1 rfl 4
 have c_l_5_13:wd.cell? ⟨gl,5,none⟩=some (x5):=HK2.out.cell 1 rfl 5
 have z_l_5_14:wd.frozen? ⟨gl,5,none⟩=false:=HK2.out.frozen 1 rfl 5
 have c_l_6_15:wd.cell? ⟨gl,6,none⟩=some (x6):=HK2.out.cell 1 rfl 6
 have z_l_6_16:wd.frozen? ⟨gl,6,none⟩=false:=HK2.out.frozen 1 rfl 6
 have c_c_0_17:wd.cell? ⟨gc,0,none⟩=some (.int .i64 0):=HK2.out.cell 2 rfl 0
 have z_c_0_18:wd.frozen? ⟨gc,0,none⟩=false:=HK2.out.frozen 2 rfl 0
 have ne_19:¬ (gl=gc):=HK2.out.ne 1 2 (by decide) rfl rfl
 have ne_20:¬ (gc=gl):=HK2.out.ne 2 1 (by decide) rfl rfl
 have ne_21:¬ (gl=w.heap.size):=HK2.out.ne 1 0 (by decide) rfl rfl
 have ne_22:¬ (w.heap.size=gl):=HK2.out.ne 0 1 (by decide) rfl rfl
 have ne_23:¬ (gc=w.heap.size):=HK2.out.ne 2 0 (by decide) rfl rfl
 have ne_24:¬ (w.heap.size=gc):=HK2.out.ne 0 2 (by decide) rfl rfl
 refine tS 0 hHeld ?_
 refine tS 1 hHeld ?_
 refine tS 2 hHeld ?_ (hy:=by(intro W hSW;(try dsimp only at hSW);have q0:W.cell? ⟨w.heap.size,0,none⟩=some (.int .i64 (c:Int)):=hSW.cell 0;go_simp;try with_reducible rfl))
 refine wpAnyH_ready (rs:=[3]) (by kernel_rfl) (by simp) ?_
 refine AllReadyH.cons rfl (fun K hK=>?_) AllReadyH.nil
 go_simp
 refine hK.out _ _ (((((((hHeld.far (p:=⟨gl,0,none⟩) (HK2.out.ne 0 1 (by decide) rfl rfl) (.int .i64 0)).far (p:=⟨gl,1,none⟩) (HK2.out.ne 0 1 (by decide) rfl rfl) (.string ⟨#[]⟩)).far (p:=⟨gl,2,none⟩) (HK2.out.ne 0 1 (by decide) rfl rfl) (.string ⟨#[]⟩)).far (p:=⟨gl,3,none⟩) (HK2.out.ne 0 1 (by decide) rfl rfl) (.int .i64 0)).far (p:=⟨gl,4,none⟩) (HK2.out.ne 0 1 (by decide) rfl rfl) (.string ⟨#[]⟩)).far (p:=⟨gl,5,none⟩) (HK2.out.ne 0 1 (by decide) rfl rfl) (.slice none 0 0)).far (p:=⟨gl,6,none⟩) (HK2.out.ne 0 1 (by decide) rfl rfl) (.int .i64 0)) (fun hHeld=>?_)
 clear hK K
 try simp only[Act.put,sI,sZ,sS]
 refine wpAnyH_ready (rs:=[4]) (by kernel_rfl) (by simp) ?_
 refine AllReadyH.cons rfl (fun K hK=>?_) AllReadyH.nil
 go_simp
 refine hK.out _ _ (hHeld.far (p:=⟨gc,0,none⟩) (HK2.out.ne 0 2 (by decide) rfl rfl) (.int .i64 (c:Int))) (fun hHeld=>?_)
 clear hK K
 try simp only[Act.put,sI,sZ,sS]
 refine wpAnyH_done (by kernel_rfl) ?_ _
 clear c_l_0_3 z_l_0_4 c_l_1_5 z_l_1_6 c_l_2_7 z_l_2_8 c_l_3_9 z_l_3_10 c_l_4_11 z_l_4_12 c_l_5_13 z_l_5_14 c_l_6_15 z_l_6_16 c_c_0_17 z_c_0_18 ne_19 ne_20 ne_21 ne_22 ne_23 ne_24
 have HK25:Hid (ai w0 M X (((((((wd.setCell ⟨gl,0,none⟩ (.int .i64 0)).setCell ⟨gl,1,none⟩ (.string ⟨#[]⟩)).setCell ⟨gl,2,none⟩ (.string ⟨#[]⟩)).setCell ⟨gl,3,none⟩ (.int .i64 0)).setCell ⟨gl,4,none⟩ (.string ⟨#[]⟩)).setCell ⟨gl,5,none⟩ (.slice none 0 0)).setCell ⟨gl,6,none⟩ (.int .i64 0)) (.box (w.heap.size) 132 #[.int .i64 (c:Int)] :: .box (gl) 75 #[.int .i64 0,.string ⟨#[]⟩,.string ⟨#[]⟩,.int .i64 0,.string ⟨#[]⟩,.slice none 0 0,.int .i64 0] :: .box (gc) 3 #[.int .i64 0]::L) (F)):=(((((((HK2.out.set_ 1 rfl 0 (.int .i64 0)).set_ 1 rfl 1 (.string ⟨#[]⟩)).set_ 1 rfl 2 (.string ⟨#[]⟩)).set_ 1 rfl 3 (.int .i64 0)).set_ 1 rfl 4 (.string ⟨#[]⟩)).set_ 1 rfl 5 (.slice none 0 0)).set_ 1 rfl 6 (.int .i64 0))
 clear HK2
 have HK26:Hid (ai w0 M X ((((((((wd.setCell ⟨gl,0,none⟩ (.int .i64 0)).setCell ⟨gl,1,none⟩ (.string ⟨#[]⟩)).setCell ⟨gl,2,none⟩ (.string ⟨#[]⟩)).setCell ⟨gl,3,none⟩ (.int .i64 0)).setCell ⟨gl,4,none⟩ (.string ⟨#[]⟩)).setCell ⟨gl,5,none⟩ (.slice none 0 0)).setCell ⟨gl,6,none⟩ (.int .i64 0)).setCell ⟨gc,0,none⟩ (.int .i64 (c:Int))) (.box (w.heap.size) 132 #[.int .i64 (c:Int)] :: .box (gl) 75 #[.int .i64 0,.string ⟨#[]⟩,.string ⟨#[]⟩,.int .i64 0,.string ⟨#[]⟩,.slice none 0 0,.int .i64 0] :: .box (gc) 3 #[.int .i64 (c:Int)]::L) (F)):=HK25.out.set_ 2 rfl 0 (.int .i64 (c:Int))
 clear HK25
 have HK27:Hid (ai w0 M X ((((((((wd.setCell ⟨gl,0,none⟩ (.int .i64 0)).setCell ⟨gl,1,none⟩ (.string ⟨#[]⟩)).setCell ⟨gl,2,none⟩ (.string ⟨#[]⟩)).setCell ⟨gl,3,none⟩ (.int .i64 0)).setCell ⟨gl,4,none⟩ (.string ⟨#[]⟩)).setCell ⟨gl,5,none⟩ (.slice none 0 0)).setCell ⟨gl,6,none⟩ (.int .i64 0)).setCell ⟨gc,0,none⟩ (.int .i64 (c:Int))) (.box (gl) 75 #[.int .i64 0,.string ⟨#[]⟩,.string ⟨#[]⟩,.int .i64 0,.string ⟨#[]⟩,.slice none 0 0,.int .i64 0] :: .box (gc) 3 #[.int .i64 (c:Int)]::L) (F)):=(HK26.out.drop (List.Sublist.cons _ (List.Sublist.cons_cons _ (List.Sublist.cons_cons _ (List.Sublist.refl L)))))
 clear HK26
 exact⟨rfl,_,rfl,.tuple #[],by simp[results,Tryz.results46,go_sem],rfl,rfl,HK27.out⟩
end
section
open Go.RowKit
def LC (r:Rd PLn) (w0:World) (X:List Nat) (L:List Itm) (F:List Fact) (e:Ending) (w':World):Prop:=match r with
 | .ok ln _ => ∃ v Fs,LnP ln v Fs∧e = .returned (.tuple #[v,.int .i64 0])∧ai w0 [] X w' L (Fs++F)
 | .bad c=>e = .returned (.tuple #[.agg lp,.int .i64 (c:Int)])∧ai w0 [] X w' L F
theorem LnP.agg {ln:PLn} {v:Value} {Fs:List Fact} (h:LnP ln v Fs):∃ n0 s1 s2 n3 s4 A n c n6,v = .agg #[.int .i64 n0,.string s1,.string s2,.int .i64 n3,.string s4,.slice A n c,.int .i64 n6]:=by
 cases ln with
 | help nm x=>exact⟨_,_,_,_,_,_,_,_,_,h.1⟩
 | kind nm k=>exact⟨_,_,_,_,_,_,_,_,_,h.1⟩
 | smp x=>obtain⟨A,n,c,h1,_⟩:=h;exact⟨_,_,_,_,_,_,_,_,_,h1⟩
theorem mg {W:World} {gl gc:Nat} {x0 x1 x2 x3 x4 x5 x6 y:Value} (h:Blk W gl 75 #[x0,x1,x2,x3,x4,x5,x6]) (hc:Blk W gc 3 #[y]) (tmps:Array Value) (ht:tmps[4]?.getD undef = .pointer (some ⟨gl,0,none⟩)) (ht2:tmps[5]?.getD undef = .pointer (some ⟨gc,0,none⟩)):(results Tryz.f13 tmps).run Tryz.prog W = .ok (.tuple #[.agg #[x0,x1,x2,x3,x4,x5,x6],y]) W:=by
 have c0:W.cell? ⟨gl,0,none⟩=some x0:=h.cell 0
 have c1:W.cell? ⟨gl,1,none⟩=some x1:=h.cell 1
 have c2:W.cell? ⟨gl,2,none⟩=some x2:=h.cell 2
 have c3:W.cell? ⟨gl,3,none⟩=some x3:=h.cell 3
 have c4:W.cell? ⟨gl,4,none⟩=some x4:=h.cell 4
 have c5:W.cell? ⟨gl,5,none⟩=some x5:=h.cell 5
 have c6:W.cell? ⟨gl,6,none⟩=some x6:=h.cell 6
 have d0:W.cell? ⟨gc,0,none⟩=some y:=hc.cell 0
 simp[results,Tryz.results13,go_sem,ht,ht2,c0,c1,c2,c3,c4,c5,c6,d0]
set_option maxHeartbeats 4000000 in
theorem Ea {w0 w:World} {X:List Nat} {L:List Itm} {F:List Fact} {s:ByteArray} (b:Bool) (h:ai w0 [] X w L F) (hs:s.size≤20000):
 Calls Tryz.prog 13 #[.string s,.bool b] w (LC (jb s.data.toList b) w0 X L F):=by
 have hmf:∀ (fn:Fn) (first cap:Array Value) (w:World),(Instr.makeFunc fn first cap).run Tryz.prog w = .ok (.func fn first cap) w:=fun _ _ _ _=>rfl
 obtain⟨R,hR⟩:∃ R,R=jb s.data.toList b:=⟨_,rfl⟩
 rw[←hR]
 unfold jb at hR
 have HR:=Lib.hid hR
 clear hR
 have HS:=Lib.hid (show s.data.toList.length=s.size from by simp)
 have HK0:=Lib.hid h
 clear h
 go_enter_defers Tryz.func13,Tryz.ntmps13
 have HK1:Hid (ai w0 [] X (w.alloc (.cells #[.int .i64 0,.string ⟨#[]⟩,.string ⟨#[]⟩,.int .i64 0,.string ⟨#[]⟩,.slice none 0 0,.int .i64 0] 75)) (.box (w.heap.size) 75 #[.int .i64 0,.string ⟨#[]⟩,.string ⟨#[]⟩,.int .i64 0,.string ⟨#[]⟩,.slice none 0 0,.int .i64 0]::L) (F)):=HK0.out.alloc_at 75 #[.int .i64 0,.string ⟨#[]⟩,.string ⟨#[]⟩,.int .i64 0,.string ⟨#[]⟩,.slice none 0 0,.int .i64 0] (w.heap.size) (by simp)
 clear HK0
 have HK2:Hid (ai w0 [] X ((w.alloc (.cells #[.int .i64 0,.string ⟨#[]⟩,.string ⟨#[]⟩,.int .i64 0,.string ⟨#[]⟩,.slice none 0 0,.int .i64 0] 75)).alloc (.cells #[.int .i64 0] 3)) (.box (w.heap.size+1) 3 #[.int .i64 0] :: .box (w.heap.size) 75 #[.int .i64 0,.string ⟨#[]⟩,.string ⟨#[]⟩,.int .i64 0,.string ⟨#[]⟩,.slice none 0 0,.int .i64 0]::L) (F)):=HK1.out.alloc_at 3 #[.int .i64 0] (w.heap.size+1) (by simp)
 clear HK1
 have HK3:Hid (ai w0 [] X (((w.alloc (.cells #[.int .i64 0,.string ⟨#[]⟩,.string ⟨#[]⟩,.int .i64 0,.string ⟨#[]⟩,.slice none 0 0,.int .i64 0] 75)).alloc (.cells #[.int .i64 0] 3)).alloc (.cells #[.string s,.int .i64 0] 136)) (.box (w.heap.size+1+1) 136 #[.string s,.int .i64 0] :: .box (w.heap.size+1) 3 #[.int .i64 0] :: .box (w.heap.size) 75 #[.int .i64 0,.string ⟨#[]⟩,.string ⟨#[]⟩,.int .i64 0,.string ⟨#[]⟩,.slice none 0 0,.int .i64 0]::L) (F)):=HK2.out.alloc_at 136 #[.string s,.int .i64 0] (w.heap.size+1+1) (by simp)
 clear HK2
 cases hr:tq s.data.toList with
 | bad c=>
   have HRb:=Lib.hid (show R = .bad c from by rw[HR.out,hr];rfl)
   clear HR
   go_wp2_with fail
   generalize ((w.alloc (.cells #[.int .i64 0,.string ⟨#[]⟩,.string ⟨#[]⟩,.int .i64 0,.string ⟨#[]⟩,.slice none 0 0,.int .i64 0] 75)).alloc (.cells #[.int .i64 0] 3)).alloc (.cells #[.string s,.int .i64 0] 136)=w1 at HK3 ⊢
   generalize w.heap.size+1+1=gu at HK3 ⊢
   generalize w.heap.size+1=gc at HK3 ⊢
   generalize w.heap.size=gl at HK3 ⊢
   have HL:Hid (ai w0 [] X w1 (cuB gu s 0 :: .box gc 3 #[.int .i64 0] :: .box gl 75 lp::L) F):=HK3.out
   clear HK3
   refine(Ep HL.out hs).mono ?_
   rintro e w' hC
   obtain⟨rfl,jj,hH,hj⟩:=hC.bad hr
   refine leaves_cons (f:=46) (args:=#[.pointer (some ⟨gl,0,none⟩),.pointer (some ⟨gc,0,none⟩)]) (by simp) (by simp[go_sem]) ?_
   refine(iZ ((hH.drop (List.Sublist.cons _ (List.Sublist.refl _))).swap)).mono ?_
   rintro e u' w2 ⟨rfl,rfl,hH2⟩
   refine⟨_,mg (hH2.blk 0 rfl) (hH2.blk 1 rfl) _ rfl rfl,?_⟩
   rw[HRb.out]
   exact⟨rfl,hH2.drop (List.Sublist.cons _ (List.Sublist.cons _ (List.Sublist.refl _)))⟩
 | ok ln i=>
   have HR2:=HR.out
   rw[hr,Rd.then_ok]at HR2
   clear HR
   have HR:=Lib.hid HR2
   clear HR2
   go_wp2_with fail
   generalize ((w.alloc (.cells #[.int .i64 0,.string ⟨#[]⟩,.string ⟨#[]⟩,.int .i64 0,.string ⟨#[]⟩,.slice none 0 0,.int .i64 0] 75)).alloc (.cells #[.int .i64 0] 3)).alloc (.cells #[.string s,.int .i64 0] 136)=w1 at HK3 ⊢
   generalize w.heap.size+1+1=gu at HK3 ⊢
   generalize w.heap.size+1=gc at HK3 ⊢
   generalize w.heap.size=gl at HK3 ⊢
   have HL:Hid (ai w0 [] X w1 (cuB gu s 0 :: .box gc 3 #[.int .i64 0] :: .box gl 75 lp::L) F):=HK3.out
   clear HK3
   refine(Ep HL.out hs).mono ?_
   rintro e w2 hC
   obtain⟨v,Fs,hP,rfl,hH,hj⟩:=hC.ok hr
   clear hC hr
   have HP:=Lib.hid hP
   have HH:=Lib.hid hH
   clear hP hH HL
   obtain⟨n0,s1,s2,n3,s4,As,ns,cs,n6,rfl⟩:=HP.out.agg
   have c_l_0_4:w2.cell? ⟨gl,0,none⟩=some (.int .i64 0):=HH.out.cell 2 rfl 0
   have z_l_0_5:w2.frozen? ⟨gl,0,none⟩=false:=HH.out.frozen 2 rfl 0
   have c_l_1_6:w2.cell? ⟨gl,1,none⟩=some (.string ⟨#[]⟩):=HH.out.cell 2 rfl 1
   have z_l_1_7:w2.frozen? ⟨gl,1,none⟩=false:=HH.out.frozen 2 rfl 1
   have c_l_2_8:w2.cell? ⟨gl,2,none⟩=some (.string ⟨#[]⟩):=HH.out.cell 2 rfl 2
   have z_l_2_9:w2.frozen? ⟨gl,2,none⟩=false:=HH.out.frozen 2 rfl 2
   have c_l_3_10:w2.cell? ⟨gl,3,none⟩=some (.int .i64 0):=HH.out.cell 2 rfl 3
   have z_l_3_11:w2.frozen? ⟨gl,3,none⟩=false:=HH.out.frozen 2 rfl 3
   have c_l_4_12:w2.cell? ⟨gl,4,none⟩=some (.string ⟨#[]⟩):=HH.out.cell 2 rfl 4
   have z_l_4_13:w2.frozen? ⟨gl,4,none⟩=false:=HH.out.frozen 2 rfl 4
   have c_l_5_14:w2.cell? ⟨gl,5,none⟩=some (.slice none 0 0):=HH.out.cell 2 rfl 5
   have z_l_5_15:w2.frozen? ⟨gl,5,none⟩=false:=HH.out.frozen 2 rfl 5
   have c_l_6_16:w2.cell? ⟨gl,6,none⟩=some (.int .i64 0):=HH.out.cell 2 rfl 6
   have z_l_6_17:w2.frozen? ⟨gl,6,none⟩=false:=HH.out.frozen 2 rfl 6
   go_wp2_with fail
   have HK18:Hid (ai w0 [] X (((((((w2.setCell ⟨gl,0,none⟩ (.int .i64 n0)).setCell ⟨gl,1,none⟩ (.string s1)).setCell ⟨gl,2,none⟩ (.string s2)).setCell ⟨gl,3,none⟩ (.int .i64 n3)).setCell ⟨gl,4,none⟩ (.string s4)).setCell ⟨gl,5,none⟩ (.slice As ns cs)).setCell ⟨gl,6,none⟩ (.int .i64 n6)) (.box (gu) 136 #[.string s,.int .i64 ((i:Nat):Int)] :: .box (gc) 3 #[.int .i64 0] :: .box (gl) 75 #[.int .i64 n0,.string s1,.string s2,.int .i64 n3,.string s4,.slice As ns cs,.int .i64 n6]::L) ((Fs++F))):=(((((((HH.out.set_ 2 rfl 0 (.int .i64 n0)).set_ 2 rfl 1 (.string s1)).set_ 2 rfl 2 (.string s2)).set_ 2 rfl 3 (.int .i64 n3)).set_ 2 rfl 4 (.string s4)).set_ 2 rfl 5 (.slice As ns cs)).set_ 2 rfl 6 (.int .i64 n6))
   clear HH
   clear c_l_0_4 z_l_0_5 c_l_1_6 z_l_1_7 c_l_2_8 z_l_2_9 c_l_3_10 z_l_3_11 c_l_4_12 z_l_4_13 c_l_5_14 z_l_5_15 c_l_6_16 z_l_6_17
   generalize ((((((w2.setCell ⟨gl,0,none⟩ (.int .i64 n0)).setCell ⟨gl,1,none⟩ (.string s1)).setCell ⟨gl,2,none⟩ (.string s2)).setCell ⟨gl,3,none⟩ (.int .i64 n3)).setCell ⟨gl,4,none⟩ (.string s4)).setCell ⟨gl,5,none⟩ (.slice As ns cs)).setCell ⟨gl,6,none⟩ (.int .i64 n6)=w3 at HK18 ⊢
   by_cases hlt:i<s.size
   ·skip
    refine(eN HK18.out).mono ?_
    rw[decide_eq_true hlt]
    rintro e w4 ⟨rfl,hH4⟩
    have HL4:=Lib.hid hH4
    clear hH4 HK18
    have HRb:=Lib.hid (show R = .bad (i+1) from by rw[HR.out,if_pos (.inl (by rw[HS.out];exact hlt))])
    clear HR HP
    go_wp2_with fail
    refine(fA gu i w4 (HL4.out.cell 0 rfl 1) (by omega)).mono ?_
    rintro e w5 ⟨rfl,hw5⟩
    subst hw5
    have hH:=HL4.out.forget (List.sublist_append_right Fs F)
    refine leaves_cons (f:=46) (args:=#[.pointer (some ⟨gl,0,none⟩),.pointer (some ⟨gc,0,none⟩)]) (by simp) (by simp[go_sem]) ?_
    refine(iZ ((hH.drop (List.Sublist.cons _ (List.Sublist.refl _))).swap)).mono ?_
    rintro e u' w2 ⟨rfl,rfl,hH2⟩
    refine⟨_,mg (hH2.blk 0 rfl) (hH2.blk 1 rfl) _ rfl rfl,?_⟩
    rw[HRb.out]
    exact⟨rfl,hH2.drop (List.Sublist.cons _ (List.Sublist.cons _ (List.Sublist.refl _)))⟩
   cases b with
   | false=>
     refine(eN HK18.out).mono ?_
     rw[decide_eq_false hlt]
     rintro e w4 ⟨rfl,hH4⟩
     have HL4:=Lib.hid hH4
     clear hH4 HK18
     have HRb:=Lib.hid (show R = .bad (i+1) from by rw[HR.out,if_pos (.inr rfl)])
     clear HR HP
     go_wp2_with fail
     refine(fA gu i w4 (HL4.out.cell 0 rfl 1) (by omega)).mono ?_
     rintro e w5 ⟨rfl,hw5⟩
     subst hw5
     have hH:=HL4.out.forget (List.sublist_append_right Fs F)
     refine leaves_cons (f:=46) (args:=#[.pointer (some ⟨gl,0,none⟩),.pointer (some ⟨gc,0,none⟩)]) (by simp) (by simp[go_sem]) ?_
     refine(iZ ((hH.drop (List.Sublist.cons _ (List.Sublist.refl _))).swap)).mono ?_
     rintro e u' w2 ⟨rfl,rfl,hH2⟩
     refine⟨_,mg (hH2.blk 0 rfl) (hH2.blk 1 rfl) _ rfl rfl,?_⟩
     rw[HRb.out]
     exact⟨rfl,hH2.drop (List.Sublist.cons _ (List.Sublist.cons _ (List.Sublist.refl _)))⟩
   | true=>
     refine(eN HK18.out).mono ?_
     rw[decide_eq_false hlt]
     rintro e w4 ⟨rfl,hH4⟩
     have HL4:=Lib.hid hH4
     clear hH4 HK18
     have HRb:=Lib.hid (show R = .ok ln i from by rw[HR.out,if_neg (by rw[HS.out];simpa using hlt)])
     clear HR
     have c_l_0_19:w4.cell? ⟨gl,0,none⟩=some (.int .i64 n0):=HL4.out.cell 2 rfl 0
     have z_l_0_20:w4.frozen? ⟨gl,0,none⟩=false:=HL4.out.frozen 2 rfl 0
     have c_l_1_21:w4.cell? ⟨gl,1,none⟩=some (.string s1):=HL4.out.cell 2 rfl 1
     have z_l_1_22:w4.frozen? ⟨gl,1,none⟩=false:=HL4.out.frozen 2 rfl 1
     have c_l_2_23:w4.cell? ⟨gl,2,none⟩=some (.string s2):=HL4.out.cell 2 rfl 2
     have z_l_2_24:w4.frozen? ⟨gl,2,none⟩=false:=HL4.out.frozen 2 rfl 2
     have c_l_3_25:w4.cell? ⟨gl,3,none⟩=some (.int .i64 n3):=HL4.out.cell 2 rfl 3
     have z_l_3_26:w4.frozen? ⟨gl,3,none⟩=false:=HL4.out.frozen 2 rfl 3
     have c_l_4_27:w4.cell? ⟨gl,4,none⟩=some (.string s4):=HL4.out.cell 2 rfl 4
     have z_l_4_28:w4.frozen? ⟨gl,4,none⟩=false:=HL4.out.frozen 2 rfl 4
     have c_l_5_29:w4.cell? ⟨gl,5,none⟩=some (.slice As ns cs):=HL4.out.cell 2 rfl 5
     have z_l_5_30:w4.frozen? ⟨gl,5,none⟩=false:=HL4.out.frozen 2 rfl 5
     have c_l_6_31:w4.cell? ⟨gl,6,none⟩=some (.int .i64 n6):=HL4.out.cell 2 rfl 6
     have z_l_6_32:w4.frozen? ⟨gl,6,none⟩=false:=HL4.out.frozen 2 rfl 6
     have c_c_0_33:w4.cell? ⟨gc,0,none⟩=some (.int .i64 0):=HL4.out.cell 1 rfl 0
     have z_c_0_34:w4.frozen? ⟨gc,0,none⟩=false:=HL4.out.frozen 1 rfl 0
     have ne_35:¬ (gl=gc):=HL4.out.ne 2 1 (by decide) rfl rfl
     have ne_36:¬ (gc=gl):=HL4.out.ne 1 2 (by decide) rfl rfl
     go_wp2_with fail
     have HK37:Hid (ai w0 [] X (((((((w4.setCell ⟨gl,0,none⟩ (.int .i64 n0)).setCell ⟨gl,1,none⟩ (.string s1)).setCell ⟨gl,2,none⟩ (.string s2)).setCell ⟨gl,3,none⟩ (.int .i64 n3)).setCell ⟨gl,4,none⟩ (.string s4)).setCell ⟨gl,5,none⟩ (.slice As ns cs)).setCell ⟨gl,6,none⟩ (.int .i64 n6)) (.box (gu) 136 #[.string s,.int .i64 ((i:Nat):Int)] :: .box (gc) 3 #[.int .i64 0] :: .box (gl) 75 #[.int .i64 n0,.string s1,.string s2,.int .i64 n3,.string s4,.slice As ns cs,.int .i64 n6]::L) ((Fs++F))):=(((((((HL4.out.set_ 2 rfl 0 (.int .i64 n0)).set_ 2 rfl 1 (.string s1)).set_ 2 rfl 2 (.string s2)).set_ 2 rfl 3 (.int .i64 n3)).set_ 2 rfl 4 (.string s4)).set_ 2 rfl 5 (.slice As ns cs)).set_ 2 rfl 6 (.int .i64 n6))
     clear HL4
     have HK38:Hid (ai w0 [] X ((((((((w4.setCell ⟨gl,0,none⟩ (.int .i64 n0)).setCell ⟨gl,1,none⟩ (.string s1)).setCell ⟨gl,2,none⟩ (.string s2)).setCell ⟨gl,3,none⟩ (.int .i64 n3)).setCell ⟨gl,4,none⟩ (.string s4)).setCell ⟨gl,5,none⟩ (.slice As ns cs)).setCell ⟨gl,6,none⟩ (.int .i64 n6)).setCell ⟨gc,0,none⟩ (.int .i64 0)) (.box (gu) 136 #[.string s,.int .i64 ((i:Nat):Int)] :: .box (gc) 3 #[.int .i64 0] :: .box (gl) 75 #[.int .i64 n0,.string s1,.string s2,.int .i64 n3,.string s4,.slice As ns cs,.int .i64 n6]::L) ((Fs++F))):=HK37.out.set_ 1 rfl 0 (.int .i64 0)
     clear HK37
     refine leaves_cons (f:=46) (args:=#[.pointer (some ⟨gl,0,none⟩),.pointer (some ⟨gc,0,none⟩)]) (by simp) (by simp[go_sem]) ?_
     refine(zo (w0:=w0) gl gc).mono ?_
     rintro e u' w6 ⟨rfl,rfl,rfl⟩
     refine⟨_,mg (HK38.out.blk 2 rfl) (HK38.out.blk 1 rfl) _ rfl rfl,?_⟩
     rw[HRb.out]
     exact⟨_,Fs,HP.out,rfl,HK38.out.drop (List.Sublist.cons _ (List.Sublist.cons _ (List.Sublist.cons _ (List.Sublist.refl _))))⟩
end
section
open Go.RowKit
theorem yL (b i:Nat):(Addr.mk b 0 none).add i=⟨b,i,none⟩:=by
 unfold Addr.add
 split
 ·rename_i h;rw[h]
 ·rw[Nat.zero_add]
def RdS (w0:World) (X:List Nat) (L:List Itm) (F:List Fact) (g:Nat) (done:List ax) (f:ax) (gf cap:Nat) (vs0:List Value) (A:Option Addr) (sc:Nat) (scs:List Value) (w:World):Prop:=
 ai w0 [] X w (.box g 68 #[.slice (some ⟨gf,0,none⟩) (done.length+1) cap] :: .row 85 4 (.slice (some ⟨gf,0,none⟩) (done.length+1) cap) (done.length+1) (vs0 ++ [.string (sB f.name),.string (sB f.help),.int .i64 (f.type:Int),.slice A f.smps.length sc]) :: .row 73 3 (.slice A f.smps.length sc) f.smps.length scs::L)
  (Ra.fact az vs0 done::Ra.fact ak scs f.smps::F)
structure gM (done:List ax) (f:ax):Prop where
 count:done.length+1≤40
 name:f.name.length≤64
 help:f.help.length≤200
 type:f.type≤3
 smps:f.smps.length≤400
 zero:f.type=0→f.smps = []
 hist:f.type=3 → ∀ (i:Nat) (a:aF),i%11=0→f.smps[i]?=some a→a.labs ≠ []
theorem RdS.drewN {w0 w:World} {X:List Nat} {L:List Itm} {F:List Fact} {g:Nat} {done:List ax} {f:ax} {gf cap:Nat} {vs0:List Value} {A:Option Addr} {sc:Nat} {scs:List Value} (h:RdS w0 X L F g done f gf cap vs0 A sc scs w) (n:Nat):RdS w0 X L F g done f gf cap vs0 A sc scs (w.drewN n):=ai.drewN h n
theorem RdS.vs {w0 w:World} {X:List Nat} {L:List Itm} {F:List Fact} {g:Nat} {done:List ax} {f:ax} {gf cap:Nat} {vs0:List Value} {A:Option Addr} {sc:Nat} {scs:List Value} (h:RdS w0 X L F g done f gf cap vs0 A sc scs w):vs0.length=done.length*4:=(ai.ra h 0 rfl).length
theorem RdS.row {w0 w:World} {X:List Nat} {L:List Itm} {F:List Fact} {g:Nat} {done:List ax} {f:ax} {gf cap:Nat} {vs0:List Value} {A:Option Addr} {sc:Nat} {scs:List Value} (h:RdS w0 X L F g done f gf cap vs0 A sc scs w):
 done.length+1≤cap∧cap≤maxLen∧gf<w.heap.size∧w.cell? ⟨gf,done.length*4,none⟩=some (.string (sB f.name))∧w.cell? ⟨gf,done.length*4+1,none⟩=some (.string (sB f.help))∧w.cell? ⟨gf,done.length*4+2,none⟩=some (.int .i64 (f.type:Int))∧w.cell? ⟨gf,done.length*4+3,none⟩=some (.slice A f.smps.length sc) ∧ ∀ j,w.frozen? ⟨gf,j,none⟩=false:=by
 obtain⟨g',cap',he,h1,h2,h3,h4,h5⟩:=ai.row_form h 1 rfl (Nat.succ_pos _)
 injection he with he1 he2 he3
 injection he1 with he1
 injection he1 with he1
 subst he1 he3
 have hv:=h.vs
 have q:∀ (j:Nat) u,[Value.string (sB f.name),.string (sB f.help),.int .i64 (f.type:Int),.slice A f.smps.length sc][j]?=some u→w.cell? ⟨gf,done.length*4+j,none⟩=some u:=fun j u hj=>h4 _ u (by
  rw[List.getElem?_append_right (by omega),hv,Nat.add_sub_cancel_left];exact hj)
 exact⟨h1,h2,h3,q 0 _ rfl,q 1 _ rfl,q 2 _ rfl,q 3 _ rfl,h5⟩
theorem Et (q:Nat):((q:Int) == 0)=decide (q=0):=by
 by_cases h:q=0
 ·rw[decide_eq_true h,h];rfl
 ·rw[decide_eq_false h,beq_eq_false_iff_ne];omega
theorem mM (g:Nat) (w:World) (h0:w.cell? ⟨g,0,none⟩=some (.slice none 0 0)):Calls Tryz.prog 51 #[.pointer (some ⟨g,0,none⟩)] w fun e w'=>e = .returned (.pointer none)∧w'=w:=by
 go_enter Tryz.func51,Tryz.ntmps51
 go_wp2
 go_ret
 exact⟨rfl,rfl⟩
theorem uP (g gf d cap:Nat) (w:World) (h0:w.cell? ⟨g,0,none⟩=some (.slice (some ⟨gf,0,none⟩) (d+1) cap)) (hd:d≤1000):Calls Tryz.prog 51 #[.pointer (some ⟨g,0,none⟩)] w fun e w'=>e = .returned (.pointer (some ⟨gf,d*4,none⟩)) ∧ ∃ n,w'=w.drewN n:=by
 have H0:=Lib.hid h0
 have hadd:=yL gf (d*4)
 have HA:=Lib.hid hadd
 obtain⟨n,hn⟩:∃ n,n=d+1:=⟨_,rfl⟩
 rw[←hn]at h0 H0
 have b0:((n:Int) == 0)=false:=by rw[beq_eq_false_iff_ne];omega
 have hw:IntKind.i64.wrap ((n:Int)-1)=(d:Int):=by rw[IntWalk.i64_in _ (by omega)];omega
 have i1:(0:Int)≤(d:Int):=by omega
 have i2:(d:Int)<(n:Int):=by omega
 clear hn hadd
 go_enter Tryz.func51,Tryz.ntmps51
 go_wp2_with fail
 refine wp_region_noPanic ?_
 refine wp_region_held_drew (S:=fun W => ∃ n,W=w.drewN n) (by kernel_rfl) (show ∃ n,w.drew=w.drewN n from⟨1,rfl⟩) (fun hHeld=>?_)
 refine tS 0 hHeld ?_
 refine tS 1 hHeld ?_
 refine tS 2 hHeld ?_
 refine tS 3 hHeld ?_ (hy:=by(intro W hSW;(try dsimp only at hSW);obtain⟨m,rfl⟩:=hSW;have q0:(w.drewN m).cell? ⟨g,0,none⟩=some (.slice (some ⟨gf,0,none⟩) n cap):=H0.out;go_simp;try with_reducible rfl))
 refine tS 4 hHeld ?_
 refine tS 5 hHeld ?_
 refine tS 6 hHeld ?_
 refine tS 7 hHeld ?_ (hy:=by(intro W hSW;(try dsimp only at hSW);obtain⟨m,rfl⟩:=hSW;have q0:(w.drewN m).cell? ⟨g,0,none⟩=some (.slice (some ⟨gf,0,none⟩) n cap):=H0.out;go_simp;try with_reducible rfl))
 refine tS 8 hHeld ?_
 refine tS 9 hHeld ?_
 refine tS 10 hHeld ?_
 refine tS 11 hHeld ?_
 refine wpAnyH_done (by kernel_rfl) ?_ _
 refine NoPanic.normal ?_
 go_wp2
 go_ret
 refine⟨?_,⟨1,rfl⟩⟩
 rw[←HA.out]
 rfl
theorem sF {w0 w:World} {X:List Nat} {L:List Itm} {F:List Fact} {g:Nat} (h:ai w0 [] X w (.box g 68 #[.slice none 0 0]::L) F):
 Calls Tryz.prog 15 #[.pointer (some ⟨g,0,none⟩)] w fun e w'=>e = .returned (.bool true)∧w'=w:=by
 go_enter Tryz.func15,Tryz.ntmps15
 go_wp2_with fail
 refine(mM g w (h.cell 0 rfl 0)).mono ?_
 rintro e w' ⟨rfl,rfl⟩
 go_wp2
 go_ret
 exact⟨rfl,rfl⟩
set_option maxHeartbeats 2000000 in
theorem AT {w0 w:World} {X:List Nat} {L:List Itm} {F:List Fact} {g:Nat} {done:List ax} {f:ax} {gf cap:Nat} {vs0:List Value} {A:Option Addr} {sc:Nat} {scs:List Value} (h:RdS w0 X L F g done f gf cap vs0 A sc scs w) (hf:gM done f):
 Calls Tryz.prog 15 #[.pointer (some ⟨g,0,none⟩)] w fun e w'=>e = .returned (.bool (cK f)) ∧ ∃ n,w'=w.drewN n:=by
 have hc:=hf.count
 have hsn:=hf.smps
 have hty:=hf.type
 obtain⟨k1,k2,k3,c0,c1,c2,c3,-⟩:=h.row
 have hr:w.cell? ⟨g,0,none⟩=some (.slice (some ⟨gf,0,none⟩) (done.length+1) cap):=ai.cell h 0 rfl 0
 have HW:Hid (cK f=(decide (f.smps.length≠0)&&(decide (f.type≠3) || decide (f.smps.length%11=0)))):=rfl
 generalize cK f=r at HW ⊢
 generalize f.smps.length=n at *
 generalize f.type=ty at *
 clear h hf c0 c1
 go_enter Tryz.func15,Tryz.ntmps15
 go_wp2_with fail
 refine(uP g gf done.length cap w hr (by omega)).mono ?_
 rintro e w' ⟨rfl,m,rfl⟩
 have d2:(w.drewN m).cell? ⟨gf,done.length*4+2,none⟩=some (.int .i64 (ty:Int)):=c2
 have d3:(w.drewN m).cell? ⟨gf,done.length*4+3,none⟩=some (.slice A n sc):=c3
 clear c2 c3 hr k1 k2 k3
 by_cases hn:n=0
 ·have b0:((n:Int) == 0)=true:=by rw[beq_iff_eq];omega
  have HR:=Lib.hid (show r=false from by rw[HW.out,decide_eq_false (by omega)];rfl)
  clear hn
  go_wp2
  go_ret
  exact⟨bD HR.out.symm,m,rfl⟩
 have b0:((n:Int) == 0)=false:=by rw[beq_eq_false_iff_ne];omega
 by_cases h3:ty=3
 ·have b1:((ty:Int) != 3)=false:=by rw[bne_eq_false_iff_eq];omega
  have HR:=Lib.hid (show r=decide (n%11=0) from by rw[HW.out,decide_eq_true hn,decide_eq_false (by omega)];rfl)
  have hm:(n:Int)%11=((n%11:Nat):Int):=by omega
  generalize n%11=q at HR hm
  clear h3 hn
  go_wp2
  go_ret
  exact⟨bD (by rw[HR.out];first | exact Et _ | rfl),m,rfl⟩
 ·have b1:((ty:Int) != 3)=true:=by rw[bne_iff_ne];omega
  have HR:=Lib.hid (show r=true from by rw[HW.out,decide_eq_true hn,decide_eq_true (by omega)];rfl)
  clear h3 hn
  go_wp2
  go_ret
  exact⟨bD HR.out.symm,m,rfl⟩
end
section
open Go.RowKit
theorem Da:kQ Tryz.prog 23 85 4 64:=wE Tryz.underlying23 (z := .agg #[.string ⟨#[]⟩,.string ⟨#[]⟩,.int .i64 0,.slice none 0 0]) (by kernel_rfl) rfl (by omega)
section
variable {P:Program} {w0 W:World} {M X0:List Nat} {L:List Itm} {F:List Fact}
theorem dI {ops:Array Oper} {o:Oper} {a:Act} {K:Act→World→Prop} {Q:Exit→Act→World→Prop} {E:Prop} (HK:ai w0 M X0 W L F) (k:Nat) (hgd:o.guard=none) (s x:Operand) (t:TypeId)
 (ho:o.op = .call { callee := .builtin .append,args:=#[s,x],argTypes:=#[t,t] }) {e:TypeId} {size bytes:Nat} (hT:kQ P t e size bytes)
 {v:Value} {n:Nat} {xs:List Value} (hk:L[k]?=some (.row e size v n xs)) (hs:a.eval s=v)
 {cs:Array Value} (hx:a.eval x = .slice (some ⟨W.heap.size,0,none⟩) 1 1) (hcs:cs.size=size) (h1:∀ u ∈ cs.toList,u.oneCell'=true)
 (h63:n+1≤maxLen) (hbytes:(n+1)*bytes≤140737488355328)
 (h:∀ v' w',ai w0 M X0 w' (L.set k (.row e size v' (n+1) (xs++cs.toList))) F→K (a.put o.dst v') w'):if Region.wanted o (yielded ops a.tmps)=true then Oper.wp P o a (W.alloc (.cells cs e)) K Q else E:=by
 obtain⟨ht,i,z,hi,hz,hsize,hby,hzs,hsz⟩:=hT
 refine je _ hgd s x t ho 0 e i z size bytes ht hi hz hsize hby hzs hsz v n xs hs ((HK.alloc_off _).ent k hk) (W.heap.size+1) _ 1 1 cs.toList hx ?_ h1 h63 hbytes (Nat.zero_le _) (fun v' w' h2 h3 h4=>h v' w' ((HK.alloc_off _).appended k hk h2 h3 h4))
 refine⟨by simp[hcs],fun _=>⟨_,rfl,Nat.lt_succ_self _,fun j u hu=>?_⟩⟩
 rw[add_plain,Nat.zero_add,(Blk.new W e cs).cell j]
 simpa using hu
theorem ai.ra_nil {α:Type} (s:Sh α) (h:ai w0 M X0 W L F):ai w0 M X0 W L (Ra.fact s [] []::F):=h.know (Ra.fact s [] []) (show aB s W (Exs L++X0) [] [] from rfl)
theorem pG {i:Nat} {e:TypeId} {size n:Nat} {v:Value} {xs:List Value} (h:ai w0 M X0 W L F) (hi:L[i]?=some (.row e size v n xs)) (hn:0<n):∃ g cap,v = .slice (some ⟨g,0,none⟩) n cap:=by
 obtain⟨g,cap,h1,_⟩:=h.row_form i hi hn
 exact⟨g,cap,h1⟩
end
theorem RdS.of_next {w0 w:World} {X:List Nat} {L:List Itm} {F:List Fact} {g:Nat} {done:List ax} {f:ax} {gf cap:Nat} {vs0:List Value} {A:Option Addr} {sc:Nat} {scs:List Value} {nm x:List UInt8}
 (h:ai w0 [] X w (.box g 68 #[.slice (some ⟨gf,0,none⟩) (done.length+1+1) cap] :: .row 85 4 (.slice (some ⟨gf,0,none⟩) (done.length+1+1) cap) (done.length+1+1) ((vs0 ++ [.string (sB f.name),.string (sB f.help),.int .i64 (f.type:Int),.slice A f.smps.length sc]) ++ [.string (sB nm),.string (sB x),.int .i64 0,.slice none 0 0]) :: .row 73 3 (.slice A f.smps.length sc) f.smps.length scs::L)
  (Ra.fact az vs0 done::Ra.fact ak scs f.smps::F)) (hf:gM done f):RdS w0 X L F g (done ++ [f]) ⟨nm,x,0,[]⟩ gf cap (vs0 ++ [.string (sB f.name),.string (sB f.help),.int .i64 (f.type:Int),.slice A f.smps.length sc]) none 0 [] w:=by
 obtain⟨A',c',e1,h2⟩:=h.done_row (s:=ak) 2 rfl (h.ra 1 rfl) (by decide) (by simp)
 injection e1 with e1 e2 e3
 subst e1 e3
 have hs:=h2.sl 0 rfl
 have hd:=h2.ra 1 rfl
 have hr:az.rep w _ [.string (sB f.name),.string (sB f.help),.int .i64 (f.type:Int),.slice A f.smps.length sc] f:=⟨A,f.smps.length,sc,rfl,hs,hf.type,by have:=hf.name;unfold maxLen;omega,by have:=hf.help;unfold maxLen;omega⟩
 have h3:=(h2.know (Ra.fact az _ (done ++ [f])) (hd.snoc hr)).forget (List.Sublist.cons_cons _ (List.Sublist.cons _ (List.Sublist.cons _ (List.Sublist.cons _ (List.Sublist.refl F)))))
 have h4:=ai.ra_nil ak (h3.nil_row 73 3)
 have h5:=h4.perm (L' := .box g 68 #[.slice (some ⟨gf,0,none⟩) (done.length+1+1) cap] :: .row 85 4 (.slice (some ⟨gf,0,none⟩) (done.length+1+1) cap) (done.length+1+1) _ :: .row 73 3 (.slice none 0 0) 0 []::L) (List.perm_middle (l₁:=[_,_])).symm
 have hl:(done ++ [f]).length=done.length+1:=by simp
 unfold RdS
 rw[hl]
 exact⟨h5.same,h5.size,h5.block,h5.given,h5.xok,h5.ents,h5.apart,fun z hz=>h5.facts z (by
  rcases List.mem_cons.1 hz with rfl | hz
  ·exact List.mem_cons_of_mem _ (List.mem_cons_self ..)
  ·rcases List.mem_cons.1 hz with rfl | hz
   ·exact List.mem_cons_self ..
   ·exact List.mem_cons_of_mem _ (List.mem_cons_of_mem _ hz))⟩
theorem RdS.of_first {w0 w:World} {X:List Nat} {L:List Itm} {F:List Fact} {g:Nat} {gf cap:Nat} {nm x:List UInt8}
 (h:ai w0 [] X w (.box g 68 #[.slice (some ⟨gf,0,none⟩) 1 cap] :: .row 85 4 (.slice (some ⟨gf,0,none⟩) 1 cap) 1 [.string (sB nm),.string (sB x),.int .i64 0,.slice none 0 0]::L) F):RdS w0 X L F g [] ⟨nm,x,0,[]⟩ gf cap [] none 0 [] w:=by
 have h4:=ai.ra_nil az (ai.ra_nil ak (h.nil_row 73 3))
 exact h4.perm (List.perm_middle (l₁:=[_,_])).symm
theorem yh (nm x:List UInt8):bk [] none (.help nm x)=if 64<nm.length∨200<x.length then none else some ([],⟨nm,x,0,[]⟩):=by simp[bk,gX]
theorem CF (done:List ax) (f:ax) (nm x:List UInt8):bk done (some f) (.help nm x)=if cK f=false∨40≤done.length+1 then none else if 64<nm.length∨200<x.length then none else if ltS f.name nm=false then none else some (done ++ [f],⟨nm,x,0,[]⟩):=by simp[bk,gX]
def kI (r:Option (List ax×ax)) (w0:World) (X:List Nat) (L:List Itm) (F:List Fact) (g:Nat) (e:Ending) (w':World):Prop:=match r with
 | none=>e = .returned (.bool false)∧ai w0 [] X w' L F
 | some (d,c)=>e = .returned (.bool true)∧(∃ gf cap vs0 A sc scs,RdS w0 X L F g d c gf cap vs0 A sc scs w')∧gM d c
set_option maxHeartbeats 8000000 in
theorem vH {w0 w:World} {X:List Nat} {L:List Itm} {F:List Fact} {g:Nat} {nm x:List UInt8} (h:ai w0 [] X w (.box g 68 #[.slice none 0 0]::L) F) (hn:nm.length≤20000) (hx:x.length≤20000):
 Calls Tryz.prog 50 #[.pointer (some ⟨g,0,none⟩),.agg #[.int .i64 1,.string (sB nm),.string (sB x),.int .i64 0,.string ⟨#[]⟩,.slice none 0 0,.int .i64 0]] w (kI (bk [] none (.help nm x)) w0 X L F g):=by
 obtain⟨R,hR⟩:∃ R,R=bk [] none (.help nm x):=⟨_,rfl⟩
 rw[←hR]
 have HR:=Lib.hid hR
 clear hR
 have HK0:=Lib.hid h
 clear h
 go_enter Tryz.func50,Tryz.ntmps50
 have HK1:Hid (ai w0 [] X (w.alloc (.cells #[.int .i64 1,.string (sB nm),.string (sB x),.int .i64 0,.string ⟨#[]⟩,.slice none 0 0,.int .i64 0] 75)) (.box (w.heap.size) 75 #[.int .i64 1,.string (sB nm),.string (sB x),.int .i64 0,.string ⟨#[]⟩,.slice none 0 0,.int .i64 0] :: .box (g) 68 #[.slice none 0 0]::L) (F)):=HK0.out.alloc_at 75 #[.int .i64 1,.string (sB nm),.string (sB x),.int .i64 0,.string ⟨#[]⟩,.slice none 0 0,.int .i64 0] (w.heap.size) (by simp)
 clear HK0
 go_wp2_with fail
 generalize w.alloc (.cells #[.int .i64 1,.string (sB nm),.string (sB x),.int .i64 0,.string ⟨#[]⟩,.slice none 0 0,.int .i64 0] 75)=w1 at HK1 ⊢
 generalize w.heap.size=gl at HK1 ⊢
 refine(sF (HK1.out.swap)).mono ?_
 rintro e w2 ⟨rfl,rfl⟩
 have c_r_0_2:w2.cell? ⟨g,0,none⟩=some (.slice none 0 0):=HK1.out.cell 1 rfl 0
 have c_ln_0_3:w2.cell? ⟨gl,0,none⟩=some (.int .i64 1):=HK1.out.cell 0 rfl 0
 have c_ln_1_4:w2.cell? ⟨gl,1,none⟩=some (.string (sB nm)):=HK1.out.cell 0 rfl 1
 have c_ln_2_5:w2.cell? ⟨gl,2,none⟩=some (.string (sB x)):=HK1.out.cell 0 rfl 2
 have c_ln_3_6:w2.cell? ⟨gl,3,none⟩=some (.int .i64 0):=HK1.out.cell 0 rfl 3
 have c_ln_4_7:w2.cell? ⟨gl,4,none⟩=some (.string ⟨#[]⟩):=HK1.out.cell 0 rfl 4
 have c_ln_5_8:w2.cell? ⟨gl,5,none⟩=some (.slice none 0 0):=HK1.out.cell 0 rfl 5
 have c_ln_6_9:w2.cell? ⟨gl,6,none⟩=some (.int .i64 0):=HK1.out.cell 0 rfl 6
 by_cases hb:64<nm.length∨200<x.length
 ·skip
  have HRb:=Lib.hid (show R=none from by rw[HR.out];rw[yh,if_pos hb])
  by_cases h64:64<nm.length
  ·skip
   have e1:decide ((64:Int)<(nm.length:Int))=true:=by simp;omega
   go_wp2
   go_ret
   rw[HRb.out]
   exact⟨rfl,HK1.out.drop (List.Sublist.cons _ (List.Sublist.cons _ (List.Sublist.refl _)))⟩
  have e1:decide ((64:Int)<(nm.length:Int))=false:=by simp;omega
  have e2:decide ((200:Int)<(x.length:Int))=true:=by simp;omega
  go_wp2
  go_ret
  rw[HRb.out]
  exact⟨rfl,HK1.out.drop (List.Sublist.cons _ (List.Sublist.cons _ (List.Sublist.refl _)))⟩
 have e1:decide ((64:Int)<(nm.length:Int))=false:=by simp;omega
 have e2:decide ((200:Int)<(x.length:Int))=false:=by simp;omega
 have HRb:=Lib.hid (show R=some ([],⟨nm,x,0,[]⟩) from by rw[HR.out];rw[yh,if_neg hb])
 go_wp2_with fail
 refine(mM g w2 (HK1.out.cell 1 rfl 0)).mono ?_
 rintro e w3 ⟨rfl,rfl⟩
 go_wp2_with fail
 refine wp_region_noPanic ?_
 refine wp_region_held_drew (S:=fun W'=>ai w0 [] X W' (.box (gl) 75 #[.int .i64 1,.string (sB nm),.string (sB x),.int .i64 0,.string ⟨#[]⟩,.slice none 0 0,.int .i64 0] :: .box (g) 68 #[.slice none 0 0]::L) (F)) (by kernel_rfl) HK1.out.drew (fun hHeld=>?_)
 refine tS 0 hHeld ?_
 refine tS 1 hHeld ?_
 refine tS 2 hHeld ?_
 refine tU 3 hHeld ?_
 refine tU 4 hHeld ?_
 refine tU 5 hHeld ?_
 refine tU 6 hHeld ?_
 refine tU 7 hHeld ?_
 refine tU 8 hHeld ?_
 refine tU 9 hHeld ?_
 refine tS 10 hHeld ?_
 refine wpAnyH_done (by kernel_rfl) ?_ _
 refine NoPanic.normal ?_
 have HKd:=Lib.hid hHeld
 clear hHeld HK1
 generalize w3.drew=w6 at HKd ⊢
 have HK10:Hid (ai w0 [] X w6 (.row 85 4 (.slice none 0 0) (0) ([]) :: .box (gl) 75 #[.int .i64 1,.string (sB nm),.string (sB x),.int .i64 0,.string ⟨#[]⟩,.slice none 0 0,.int .i64 0] :: .box (g) 68 #[.slice none 0 0]::L) (F)):=(HKd.out.nil_row 85 4)
 clear HKd
 go_wp2_with fail
 refine wp_region_noPanic ?_
 refine wp_region_held_drew (S:=fun W'=>Blk W' (gl) 75 #[.int .i64 1,.string (sB nm),.string (sB x),.int .i64 0,.string ⟨#[]⟩,.slice none 0 0,.int .i64 0]) (by kernel_rfl) (HK10.out.blk 1 rfl).drew (fun hHeld=>?_)
 have HK11:Hid (ai w0 [] X w6.drew (.row 85 4 (.slice none 0 0) (0) ([]) :: .box (gl) 75 #[.int .i64 1,.string (sB nm),.string (sB x),.int .i64 0,.string ⟨#[]⟩,.slice none 0 0,.int .i64 0] :: .box (g) 68 #[.slice none 0 0]::L) (F)):=HK10.out.drew
 clear HK10
 generalize w6.drew=wd at hHeld HK11 ⊢
 have c_r_0_12:wd.cell? ⟨g,0,none⟩=some (.slice none 0 0):=HK11.out.cell 2 rfl 0
 have z_r_0_13:wd.frozen? ⟨g,0,none⟩=false:=HK11.out.frozen 2 rfl 0
 have ne_14:¬ (g=gl):=HK11.out.ne 2 1 (by decide) rfl rfl
 have ne_15:¬ (gl=g):=HK11.out.ne 1 2 (by decide) rfl rfl
 refine tS 0 hHeld ?_
 refine tS 1 hHeld ?_
 refine tS 2 hHeld ?_
 refine tS 3 hHeld ?_
 refine tS 5 hHeld ?_
 refine tS 6 hHeld ?_ (hy:=by(intro W hSW;(try dsimp only at hSW);have q0:W.cell? ⟨gl,0,none⟩=some (.int .i64 1):=hSW.cell 0;have q1:W.cell? ⟨gl,1,none⟩=some (.string (sB nm)):=hSW.cell 1;have q2:W.cell? ⟨gl,2,none⟩=some (.string (sB x)):=hSW.cell 2;have q3:W.cell? ⟨gl,3,none⟩=some (.int .i64 0):=hSW.cell 3;have q4:W.cell? ⟨gl,4,none⟩=some (.string ⟨#[]⟩):=hSW.cell 4;have q5:W.cell? ⟨gl,5,none⟩=some (.slice none 0 0):=hSW.cell 5;have q6:W.cell? ⟨gl,6,none⟩=some (.int .i64 0):=hSW.cell 6;go_simp;try with_reducible rfl))
 refine tS 7 hHeld ?_
 refine tS 8 hHeld ?_ (hy:=by(intro W hSW;(try dsimp only at hSW);have q0:W.cell? ⟨gl,0,none⟩=some (.int .i64 1):=hSW.cell 0;have q1:W.cell? ⟨gl,1,none⟩=some (.string (sB nm)):=hSW.cell 1;have q2:W.cell? ⟨gl,2,none⟩=some (.string (sB x)):=hSW.cell 2;have q3:W.cell? ⟨gl,3,none⟩=some (.int .i64 0):=hSW.cell 3;have q4:W.cell? ⟨gl,4,none⟩=some (.string ⟨#[]⟩):=hSW.cell 4;have q5:W.cell? ⟨gl,5,none⟩=some (.slice none 0 0):=hSW.cell 5;have q6:W.cell? ⟨gl,6,none⟩=some (.int .i64 0):=hSW.cell 6;go_simp;try with_reducible rfl))
 refine tS 9 hHeld ?_
 refine mL (G:=?G) ?main ?key
 case main=>
  intro hkey
  refine wpAnyH_ready (rs:=[4,10]) (by kernel_rfl) (by simp) ?_
  refine AllReadyH.cons rfl (fun K hK=>?_) (AllReadyH.cons rfl (fun K hK=>?_) AllReadyH.nil)
  ·go_simp
   refine hK.out _ _ hHeld (fun hHeld=>?_)
   clear hK K
   try simp only[Act.put,sI,sZ,sS]
   refine wpAnyH_ready (rs:=[10]) (by kernel_rfl) (by simp) ?_
   refine AllReadyH.cons rfl (fun K hK=>?_) AllReadyH.nil
   go_simp
   refine hK.out _ _ (hHeld.alloc (.cells #[.string (sB nm),.string (sB x),.int .i64 0,.slice none 0 0] 85)) (fun hHeld=>?_)
   clear hK K
   try simp only[Act.put,sI,sZ,sS]
   clear hHeld
   exact hkey.out
  ·go_simp
   refine hK.out _ _ (hHeld.alloc (.cells #[.string (sB nm),.string (sB x),.int .i64 0,.slice none 0 0] 85)) (fun hHeld=>?_)
   clear hK K
   try simp only[Act.put,sI,sZ,sS]
   have c8:(wd.alloc (.cells #[.string (sB nm),.string (sB x),.int .i64 0,.slice none 0 0] 85)).cell? ⟨g,0,none⟩=some (.slice none 0 0):=(HK11.out.alloc_off (.cells #[.string (sB nm),.string (sB x),.int .i64 0,.slice none 0 0] 85)).cell 2 rfl 0
   refine wpAnyH_ready (rs:=[4]) (by kernel_rfl) (by simp) ?_
   refine AllReadyH.cons rfl (fun K hK=>?_) AllReadyH.nil
   go_simp
   refine hK.out _ _ hHeld (fun hHeld=>?_)
   clear hK K
   try simp only[Act.put,sI,sZ,sS]
   clear hHeld
   exact hkey.out
 case key=>
  clear c_r_0_12 z_r_0_13 ne_14 ne_15
  replace hHeld:=(hHeld.alloc (.cells #[.string (sB nm),.string (sB x),.int .i64 0,.slice none 0 0] 85))
  refine wpAnyH_ready (rs:=[11]) (by kernel_rfl) (by simp) ?_
  refine AllReadyH.cons rfl (fun K hK=>?_) AllReadyH.nil
  refine dI HK11.out 0 rfl (.tmp 44) (.tmp 50) 23 rfl Da rfl rfl rfl (cs:=#[.string (sB nm),.string (sB x),.int .i64 0,.slice none 0 0]) rfl (by simp[Value.oneCell']) (by unfold maxLen;omega) (by omega) ?_
  intro v2 w4 hk4
  have HK16:Hid (ai w0 [] X w4 (.row 85 4 (v2) (0+1) ([]++#[.string (sB nm),.string (sB x),.int .i64 0,.slice none 0 0].toList) :: .box (gl) 75 #[.int .i64 1,.string (sB nm),.string (sB x),.int .i64 0,.string ⟨#[]⟩,.slice none 0 0,.int .i64 0] :: .box (g) 68 #[.slice none 0 0]::L) (F)):=hk4
  clear HK11
  clear hk4
  refine hK.out _ _ (HK16.out.blk 1 rfl) (fun hHeld=>?_)
  clear hK K
  try simp only[Act.put,sI,sZ,sS]
  refine tS 12 hHeld ?_
  refine tS 13 hHeld ?_
  obtain⟨gf2,cap2,rfl⟩:=pG HK16.out (i:=0) rfl (by omega)
  have c_r_0_17:w4.cell? ⟨g,0,none⟩=some (.slice none 0 0):=HK16.out.cell 2 rfl 0
  have z_r_0_18:w4.frozen? ⟨g,0,none⟩=false:=HK16.out.frozen 2 rfl 0
  have ne_19:¬ (g=gl):=HK16.out.ne 2 1 (by decide) rfl rfl
  have ne_20:¬ (gl=g):=HK16.out.ne 1 2 (by decide) rfl rfl
  refine wpAnyH_ready (rs:=[14]) (by kernel_rfl) (by simp) ?_
  refine AllReadyH.cons rfl (fun K hK=>?_) AllReadyH.nil
  go_simp
  refine hK.out _ _ (hHeld.far (p:=⟨g,0,none⟩) (HK16.out.ne 1 2 (by decide) rfl rfl) (.slice (some ⟨gf2,0,none⟩) (0+1) cap2)) (fun hHeld=>?_)
  clear hK K
  try simp only[Act.put,sI,sZ,sS]
  refine wpAnyH_done (by kernel_rfl) ?_ _
  refine NoPanic.normal ?_
  clear hHeld
  clear c_r_0_17 z_r_0_18 ne_19 ne_20
  have HK21:Hid (ai w0 [] X (w4.setCell ⟨g,0,none⟩ (.slice (some ⟨gf2,0,none⟩) (0+1) cap2)) (.row 85 4 (.slice (some ⟨gf2,0,none⟩) (0+1) cap2) (0+1) ([]++#[.string (sB nm),.string (sB x),.int .i64 0,.slice none 0 0].toList) :: .box (gl) 75 #[.int .i64 1,.string (sB nm),.string (sB x),.int .i64 0,.string ⟨#[]⟩,.slice none 0 0,.int .i64 0] :: .box (g) 68 #[.slice (some ⟨gf2,0,none⟩) (0+1) cap2]::L) (F)):=HK16.out.set_ 2 rfl 0 (.slice (some ⟨gf2,0,none⟩) (0+1) cap2)
  clear HK16
  generalize w4.setCell ⟨g,0,none⟩ (.slice (some ⟨gf2,0,none⟩) (0+1) cap2)=w5 at HK21 ⊢
  go_wp2
  go_ret
  rw[HRb.out]
  have h1:=HK21.out.perm (L' := .box gl 75 #[.int .i64 1,.string (sB nm),.string (sB x),.int .i64 0,.string ⟨#[]⟩,.slice none 0 0,.int .i64 0] :: .box g 68 #[.slice (some ⟨gf2,0,none⟩) (0+1) cap2] :: .row 85 4 (.slice (some ⟨gf2,0,none⟩) (0+1) cap2) (0+1) ([]++#[.string (sB nm),.string (sB x),.int .i64 0,.slice none 0 0].toList)::L) (List.perm_middle (l₁:=[_,_])).symm
  exact⟨rfl,⟨gf2,cap2,[],none,0,[],RdS.of_first (h1.drop (List.Sublist.cons _ (List.Sublist.refl _)))⟩,⟨by simp,by show nm.length≤64;omega,by show x.length≤200;omega,Nat.zero_le _,Nat.zero_le _,fun _=>rfl,fun h=>by cases h⟩⟩
set_option maxHeartbeats 8000000 in
theorem rQ {w0 w:World} {X:List Nat} {L:List Itm} {F:List Fact} {g:Nat} {nm x:List UInt8} {done:List ax} {f:ax} {gf cap:Nat} {vs0:List Value} {A:Option Addr} {sc:Nat} {scs:List Value} (h:RdS w0 X L F g done f gf cap vs0 A sc scs w) (hf:gM done f) (hn:nm.length≤20000) (hx:x.length≤20000):
 Calls Tryz.prog 50 #[.pointer (some ⟨g,0,none⟩),.agg #[.int .i64 1,.string (sB nm),.string (sB x),.int .i64 0,.string ⟨#[]⟩,.slice none 0 0,.int .i64 0]] w (kI (bk done (some f) (.help nm x)) w0 X L F g):=by
 obtain⟨R,hR⟩:∃ R,R=bk done (some f) (.help nm x):=⟨_,rfl⟩
 rw[←hR]
 have HR:=Lib.hid hR
 clear hR
 have HK0:Hid (ai w0 [] X w (.box (g) 68 #[.slice (some ⟨gf,0,none⟩) (done.length+1) cap] :: .row 85 4 (.slice (some ⟨gf,0,none⟩) (done.length+1) cap) (done.length+1) (vs0 ++ [.string (sB f.name),.string (sB f.help),.int .i64 (f.type:Int),.slice A f.smps.length sc]) :: .row 73 3 (.slice A f.smps.length sc) (f.smps.length) (scs)::L) (Ra.fact az vs0 done::Ra.fact ak scs f.smps::F)):=h
 clear h
 have HF:=Lib.hid hf
 have hcnt:=hf.count
 clear hf
 go_enter Tryz.func50,Tryz.ntmps50
 have HK1:Hid (ai w0 [] X (w.alloc (.cells #[.int .i64 1,.string (sB nm),.string (sB x),.int .i64 0,.string ⟨#[]⟩,.slice none 0 0,.int .i64 0] 75)) (.box (w.heap.size) 75 #[.int .i64 1,.string (sB nm),.string (sB x),.int .i64 0,.string ⟨#[]⟩,.slice none 0 0,.int .i64 0] :: .box (g) 68 #[.slice (some ⟨gf,0,none⟩) (done.length+1) cap] :: .row 85 4 (.slice (some ⟨gf,0,none⟩) (done.length+1) cap) (done.length+1) (vs0 ++ [.string (sB f.name),.string (sB f.help),.int .i64 (f.type:Int),.slice A f.smps.length sc]) :: .row 73 3 (.slice A f.smps.length sc) (f.smps.length) (scs)::L) (Ra.fact az vs0 done::Ra.fact ak scs f.smps::F)):=HK0.out.alloc_at 75 #[.int .i64 1,.string (sB nm),.string (sB x),.int .i64 0,.string ⟨#[]⟩,.slice none 0 0,.int .i64 0] (w.heap.size) (by simp)
 clear HK0
 go_wp2_with fail
 generalize w.alloc (.cells #[.int .i64 1,.string (sB nm),.string (sB x),.int .i64 0,.string ⟨#[]⟩,.slice none 0 0,.int .i64 0] 75)=w1 at HK1 ⊢
 generalize w.heap.size=gl at HK1 ⊢
 refine(AT (show RdS w0 X L F g done f gf cap vs0 A sc scs w1 from HK1.out.drop (List.Sublist.cons _ (List.Sublist.refl _))) HF.out).mono ?_
 rintro e w2 ⟨rfl,m,rfl⟩
 have HK2:Hid (ai w0 [] X (w1.drewN m) (.box (gl) 75 #[.int .i64 1,.string (sB nm),.string (sB x),.int .i64 0,.string ⟨#[]⟩,.slice none 0 0,.int .i64 0] :: .box (g) 68 #[.slice (some ⟨gf,0,none⟩) (done.length+1) cap] :: .row 85 4 (.slice (some ⟨gf,0,none⟩) (done.length+1) cap) (done.length+1) (vs0 ++ [.string (sB f.name),.string (sB f.help),.int .i64 (f.type:Int),.slice A f.smps.length sc]) :: .row 73 3 (.slice A f.smps.length sc) (f.smps.length) (scs)::L) (Ra.fact az vs0 done::Ra.fact ak scs f.smps::F)):=HK1.out.drewN m
 clear HK1
 generalize w1.drewN m=w2 at HK2 ⊢
 have HR1:=Lib.hid (HR.out.trans (CF done f nm x))
 clear HR
 cases hwf:cK f with
 | false=>
   have HRb:=Lib.hid (show R=none from by rw[HR1.out,if_pos (.inl hwf)])
   go_wp2
   go_ret
   rw[HRb.out]
   exact⟨rfl,(HK2.out.drop (List.Sublist.cons _ (List.Sublist.cons _ (List.Sublist.cons _ (List.Sublist.cons _ (List.Sublist.refl _)))))).forget (List.Sublist.cons _ (List.Sublist.cons _ (List.Sublist.refl _)))⟩
 | true=>
   have c_r_0_3:w2.cell? ⟨g,0,none⟩=some (.slice (some ⟨gf,0,none⟩) (done.length+1) cap):=HK2.out.cell 1 rfl 0
   have c_ln_0_4:w2.cell? ⟨gl,0,none⟩=some (.int .i64 1):=HK2.out.cell 0 rfl 0
   have c_ln_1_5:w2.cell? ⟨gl,1,none⟩=some (.string (sB nm)):=HK2.out.cell 0 rfl 1
   have c_ln_2_6:w2.cell? ⟨gl,2,none⟩=some (.string (sB x)):=HK2.out.cell 0 rfl 2
   have c_ln_3_7:w2.cell? ⟨gl,3,none⟩=some (.int .i64 0):=HK2.out.cell 0 rfl 3
   have c_ln_4_8:w2.cell? ⟨gl,4,none⟩=some (.string ⟨#[]⟩):=HK2.out.cell 0 rfl 4
   have c_ln_5_9:w2.cell? ⟨gl,5,none⟩=some (.slice none 0 0):=HK2.out.cell 0 rfl 5
   have c_ln_6_10:w2.cell? ⟨gl,6,none⟩=some (.int .i64 0):=HK2.out.cell 0 rfl 6
   by_cases h40:40≤done.length+1
   ·skip
    have hcd:done.length+1=40:=by omega
    have e0:decide (((done.length+1:Nat):Int) ≥ 40)=true:=by simp;omega
    have e00:decide ((40:Int)≤((done.length+1:Nat):Int))=true:=by simp;omega
    have e01:(40:Int)≤(done.length:Int)+1:=by omega
    clear hcd
    have HRb:=Lib.hid (show R=none from by rw[HR1.out,if_pos (.inr h40)])
    go_wp2
    go_ret
    rw[HRb.out]
    exact⟨rfl,(HK2.out.drop (List.Sublist.cons _ (List.Sublist.cons _ (List.Sublist.cons _ (List.Sublist.cons _ (List.Sublist.refl _)))))).forget (List.Sublist.cons _ (List.Sublist.cons _ (List.Sublist.refl _)))⟩
   have e0:decide (((done.length+1:Nat):Int) ≥ 40)=false:=by simp;omega
   have e01:¬ (40:Int)≤(done.length:Int)+1:=by omega
   have HR2:=Lib.hid (HR1.out.trans (if_neg (fun h=>h.elim (fun h=>by rw[hwf]at h;cases h) (fun h=>h40 h))))
   clear HR1
   by_cases hb:64<nm.length∨200<x.length
   ·skip
    have HR1:=HR2
    by_cases h64:64<nm.length
    ·skip
     have e1:decide ((64:Int)<(nm.length:Int))=true:=by simp;omega
     have HRb:=Lib.hid (show R=none from by rw[HR1.out,if_pos hb])
     go_wp2
     go_ret
     rw[HRb.out]
     exact⟨rfl,(HK2.out.drop (List.Sublist.cons _ (List.Sublist.cons _ (List.Sublist.cons _ (List.Sublist.cons _ (List.Sublist.refl _)))))).forget (List.Sublist.cons _ (List.Sublist.cons _ (List.Sublist.refl _)))⟩
    have e1:decide ((64:Int)<(nm.length:Int))=false:=by simp;omega
    have e2:decide ((200:Int)<(x.length:Int))=true:=by simp;omega
    have HRb:=Lib.hid (show R=none from by rw[HR1.out,if_pos hb])
    go_wp2
    go_ret
    rw[HRb.out]
    exact⟨rfl,(HK2.out.drop (List.Sublist.cons _ (List.Sublist.cons _ (List.Sublist.cons _ (List.Sublist.cons _ (List.Sublist.refl _)))))).forget (List.Sublist.cons _ (List.Sublist.cons _ (List.Sublist.refl _)))⟩
   have e1:decide ((64:Int)<(nm.length:Int))=false:=by simp;omega
   have e2:decide ((200:Int)<(x.length:Int))=false:=by simp;omega
   have HR1:=Lib.hid (HR2.out.trans (if_neg hb))
   clear HR2
   go_wp2_with fail
   refine(uP g gf done.length cap w2 (HK2.out.cell 1 rfl 0) (by omega)).mono ?_
   rintro e w3 ⟨rfl,m3,rfl⟩
   clear c_r_0_3 c_ln_0_4 c_ln_1_5 c_ln_2_6 c_ln_3_7 c_ln_4_8 c_ln_5_9 c_ln_6_10
   have HK11:Hid (ai w0 [] X (w2.drewN m3) (.box (gl) 75 #[.int .i64 1,.string (sB nm),.string (sB x),.int .i64 0,.string ⟨#[]⟩,.slice none 0 0,.int .i64 0] :: .box (g) 68 #[.slice (some ⟨gf,0,none⟩) (done.length+1) cap] :: .row 85 4 (.slice (some ⟨gf,0,none⟩) (done.length+1) cap) (done.length+1) (vs0 ++ [.string (sB f.name),.string (sB f.help),.int .i64 (f.type:Int),.slice A f.smps.length sc]) :: .row 73 3 (.slice A f.smps.length sc) (f.smps.length) (scs)::L) (Ra.fact az vs0 done::Ra.fact ak scs f.smps::F)):=HK2.out.drewN m3
   clear HK2
   generalize w2.drewN m3=w3 at HK11 ⊢
   go_wp2_with fail
   cases hlt:ltS f.name nm with
   | false=>
     have b0:Op.bytesLess f.name nm=false:=hlt
     refine wp_region_noPanic ?_
     refine wp_region_held_drew (S:=fun W'=>ai w0 [] X W' (.box (gl) 75 #[.int .i64 1,.string (sB nm),.string (sB x),.int .i64 0,.string ⟨#[]⟩,.slice none 0 0,.int .i64 0] :: .box (g) 68 #[.slice (some ⟨gf,0,none⟩) (done.length+1) cap] :: .row 85 4 (.slice (some ⟨gf,0,none⟩) (done.length+1) cap) (done.length+1) (vs0 ++ [.string (sB f.name),.string (sB f.help),.int .i64 (f.type:Int),.slice A f.smps.length sc]) :: .row 73 3 (.slice A f.smps.length sc) (f.smps.length) (scs)::L) (Ra.fact az vs0 done::Ra.fact ak scs f.smps::F)) (by kernel_rfl) HK11.out.drew (fun hHeld=>?_)
     refine tS 0 hHeld ?_
     refine tS 1 hHeld ?_
     refine tS 2 hHeld ?_
     refine tS 3 hHeld ?_
     refine tS 4 hHeld ?_
     refine tS 5 hHeld ?_
     refine tS 6 hHeld ?_ (hy:=by(intro W hSW;(try dsimp only at hSW);have q0:=(RdS.row (show RdS w0 X L F g done f gf cap vs0 A sc scs W from hSW.drop (List.Sublist.cons _ (List.Sublist.refl _)))).2.2.2.1;go_simp;try with_reducible rfl))
     refine tS 7 hHeld ?_
     refine tS 8 hHeld ?_ (hy:=by(intro W hSW;(try dsimp only at hSW);have q0:W.cell? ⟨gl,0,none⟩=some (.int .i64 1):=hSW.cell 0 rfl 0;have q1:W.cell? ⟨gl,1,none⟩=some (.string (sB nm)):=hSW.cell 0 rfl 1;have q2:W.cell? ⟨gl,2,none⟩=some (.string (sB x)):=hSW.cell 0 rfl 2;have q3:W.cell? ⟨gl,3,none⟩=some (.int .i64 0):=hSW.cell 0 rfl 3;have q4:W.cell? ⟨gl,4,none⟩=some (.string ⟨#[]⟩):=hSW.cell 0 rfl 4;have q5:W.cell? ⟨gl,5,none⟩=some (.slice none 0 0):=hSW.cell 0 rfl 5;have q6:W.cell? ⟨gl,6,none⟩=some (.int .i64 0):=hSW.cell 0 rfl 6;go_simp;try with_reducible rfl))
     refine tS 9 hHeld ?_
     refine tS 10 hHeld ?_
     refine wpAnyH_done (by kernel_rfl) ?_ _
     refine NoPanic.normal ?_
     have HKd:=Lib.hid hHeld
     clear hHeld HK11
     generalize w3.drew=w6 at HKd ⊢
     have HRb:=Lib.hid (show R=none from by rw[HR1.out,if_pos hlt])
     go_wp2
     go_ret
     rw[HRb.out]
     exact⟨rfl,(HKd.out.drop (List.Sublist.cons _ (List.Sublist.cons _ (List.Sublist.cons _ (List.Sublist.cons _ (List.Sublist.refl _)))))).forget (List.Sublist.cons _ (List.Sublist.cons _ (List.Sublist.refl _)))⟩
   | true=>
     have b0:Op.bytesLess f.name nm=true:=hlt
     have HRb:=Lib.hid (show R=some (done ++ [f],⟨nm,x,0,[]⟩) from by rw[HR1.out,if_neg (by rw[hlt];simp)])
     refine wp_region_noPanic ?_
     refine wp_region_held_drew (S:=fun W'=>ai w0 [] X W' (.box (gl) 75 #[.int .i64 1,.string (sB nm),.string (sB x),.int .i64 0,.string ⟨#[]⟩,.slice none 0 0,.int .i64 0] :: .box (g) 68 #[.slice (some ⟨gf,0,none⟩) (done.length+1) cap] :: .row 85 4 (.slice (some ⟨gf,0,none⟩) (done.length+1) cap) (done.length+1) (vs0 ++ [.string (sB f.name),.string (sB f.help),.int .i64 (f.type:Int),.slice A f.smps.length sc]) :: .row 73 3 (.slice A f.smps.length sc) (f.smps.length) (scs)::L) (Ra.fact az vs0 done::Ra.fact ak scs f.smps::F)) (by kernel_rfl) HK11.out.drew (fun hHeld=>?_)
     refine tS 0 hHeld ?_
     refine tS 1 hHeld ?_
     refine tS 2 hHeld ?_
     refine tS 3 hHeld ?_
     refine tS 4 hHeld ?_
     refine tS 5 hHeld ?_
     refine tS 6 hHeld ?_ (hy:=by(intro W hSW;(try dsimp only at hSW);have q0:=(RdS.row (show RdS w0 X L F g done f gf cap vs0 A sc scs W from hSW.drop (List.Sublist.cons _ (List.Sublist.refl _)))).2.2.2.1;go_simp;try with_reducible rfl))
     refine tS 7 hHeld ?_
     refine tS 8 hHeld ?_ (hy:=by(intro W hSW;(try dsimp only at hSW);have q0:W.cell? ⟨gl,0,none⟩=some (.int .i64 1):=hSW.cell 0 rfl 0;have q1:W.cell? ⟨gl,1,none⟩=some (.string (sB nm)):=hSW.cell 0 rfl 1;have q2:W.cell? ⟨gl,2,none⟩=some (.string (sB x)):=hSW.cell 0 rfl 2;have q3:W.cell? ⟨gl,3,none⟩=some (.int .i64 0):=hSW.cell 0 rfl 3;have q4:W.cell? ⟨gl,4,none⟩=some (.string ⟨#[]⟩):=hSW.cell 0 rfl 4;have q5:W.cell? ⟨gl,5,none⟩=some (.slice none 0 0):=hSW.cell 0 rfl 5;have q6:W.cell? ⟨gl,6,none⟩=some (.int .i64 0):=hSW.cell 0 rfl 6;go_simp;try with_reducible rfl))
     refine tS 9 hHeld ?_
     refine tS 10 hHeld ?_
     refine wpAnyH_done (by kernel_rfl) ?_ _
     refine NoPanic.normal ?_
     have HKd:=Lib.hid hHeld
     clear hHeld HK11
     generalize w3.drew=w6 at HKd ⊢
     go_wp2_with fail
     refine wp_region_noPanic ?_
     refine wp_region_held_drew (S:=fun W'=>Blk W' (gl) 75 #[.int .i64 1,.string (sB nm),.string (sB x),.int .i64 0,.string ⟨#[]⟩,.slice none 0 0,.int .i64 0]) (by kernel_rfl) (HKd.out.blk 0 rfl).drew (fun hHeld=>?_)
     have HK12:Hid (ai w0 [] X w6.drew (.box (gl) 75 #[.int .i64 1,.string (sB nm),.string (sB x),.int .i64 0,.string ⟨#[]⟩,.slice none 0 0,.int .i64 0] :: .box (g) 68 #[.slice (some ⟨gf,0,none⟩) (done.length+1) cap] :: .row 85 4 (.slice (some ⟨gf,0,none⟩) (done.length+1) cap) (done.length+1) (vs0 ++ [.string (sB f.name),.string (sB f.help),.int .i64 (f.type:Int),.slice A f.smps.length sc]) :: .row 73 3 (.slice A f.smps.length sc) (f.smps.length) (scs)::L) (Ra.fact az vs0 done::Ra.fact ak scs f.smps::F)):=HKd.out.drew
     clear HKd
     generalize w6.drew=wd at hHeld HK12 ⊢
     have c_r_0_13:wd.cell? ⟨g,0,none⟩=some (.slice (some ⟨gf,0,none⟩) (done.length+1) cap):=HK12.out.cell 1 rfl 0
     have z_r_0_14:wd.frozen? ⟨g,0,none⟩=false:=HK12.out.frozen 1 rfl 0
     have ne_15:¬ (g=gl):=HK12.out.ne 1 0 (by decide) rfl rfl
     have ne_16:¬ (gl=g):=HK12.out.ne 0 1 (by decide) rfl rfl
     refine tS 0 hHeld ?_
     refine tS 1 hHeld ?_
     refine tS 2 hHeld ?_
     refine tS 3 hHeld ?_
     refine tS 5 hHeld ?_
     refine tS 6 hHeld ?_ (hy:=by(intro W hSW;(try dsimp only at hSW);have q0:W.cell? ⟨gl,0,none⟩=some (.int .i64 1):=hSW.cell 0;have q1:W.cell? ⟨gl,1,none⟩=some (.string (sB nm)):=hSW.cell 1;have q2:W.cell? ⟨gl,2,none⟩=some (.string (sB x)):=hSW.cell 2;have q3:W.cell? ⟨gl,3,none⟩=some (.int .i64 0):=hSW.cell 3;have q4:W.cell? ⟨gl,4,none⟩=some (.string ⟨#[]⟩):=hSW.cell 4;have q5:W.cell? ⟨gl,5,none⟩=some (.slice none 0 0):=hSW.cell 5;have q6:W.cell? ⟨gl,6,none⟩=some (.int .i64 0):=hSW.cell 6;go_simp;try with_reducible rfl))
     refine tS 7 hHeld ?_
     refine tS 8 hHeld ?_ (hy:=by(intro W hSW;(try dsimp only at hSW);have q0:W.cell? ⟨gl,0,none⟩=some (.int .i64 1):=hSW.cell 0;have q1:W.cell? ⟨gl,1,none⟩=some (.string (sB nm)):=hSW.cell 1;have q2:W.cell? ⟨gl,2,none⟩=some (.string (sB x)):=hSW.cell 2;have q3:W.cell? ⟨gl,3,none⟩=some (.int .i64 0):=hSW.cell 3;have q4:W.cell? ⟨gl,4,none⟩=some (.string ⟨#[]⟩):=hSW.cell 4;have q5:W.cell? ⟨gl,5,none⟩=some (.slice none 0 0):=hSW.cell 5;have q6:W.cell? ⟨gl,6,none⟩=some (.int .i64 0):=hSW.cell 6;go_simp;try with_reducible rfl))
     refine tS 9 hHeld ?_
     refine mL (G:=?G) ?main ?key
     case main=>
      intro hkey
      refine wpAnyH_ready (rs:=[4,10]) (by kernel_rfl) (by simp) ?_
      refine AllReadyH.cons rfl (fun K hK=>?_) (AllReadyH.cons rfl (fun K hK=>?_) AllReadyH.nil)
      ·go_simp
       refine hK.out _ _ hHeld (fun hHeld=>?_)
       clear hK K
       try simp only[Act.put,sI,sZ,sS]
       refine wpAnyH_ready (rs:=[10]) (by kernel_rfl) (by simp) ?_
       refine AllReadyH.cons rfl (fun K hK=>?_) AllReadyH.nil
       go_simp
       refine hK.out _ _ (hHeld.alloc (.cells #[.string (sB nm),.string (sB x),.int .i64 0,.slice none 0 0] 85)) (fun hHeld=>?_)
       clear hK K
       try simp only[Act.put,sI,sZ,sS]
       clear hHeld
       exact hkey.out
      ·go_simp
       refine hK.out _ _ (hHeld.alloc (.cells #[.string (sB nm),.string (sB x),.int .i64 0,.slice none 0 0] 85)) (fun hHeld=>?_)
       clear hK K
       try simp only[Act.put,sI,sZ,sS]
       have c8:(wd.alloc (.cells #[.string (sB nm),.string (sB x),.int .i64 0,.slice none 0 0] 85)).cell? ⟨g,0,none⟩=some (.slice (some ⟨gf,0,none⟩) (done.length+1) cap):=(HK12.out.alloc_off (.cells #[.string (sB nm),.string (sB x),.int .i64 0,.slice none 0 0] 85)).cell 1 rfl 0
       refine wpAnyH_ready (rs:=[4]) (by kernel_rfl) (by simp) ?_
       refine AllReadyH.cons rfl (fun K hK=>?_) AllReadyH.nil
       go_simp
       refine hK.out _ _ hHeld (fun hHeld=>?_)
       clear hK K
       try simp only[Act.put,sI,sZ,sS]
       clear hHeld
       exact hkey.out
     case key=>
      clear c_r_0_13 z_r_0_14 ne_15 ne_16
      replace hHeld:=(hHeld.alloc (.cells #[.string (sB nm),.string (sB x),.int .i64 0,.slice none 0 0] 85))
      refine wpAnyH_ready (rs:=[11]) (by kernel_rfl) (by simp) ?_
      refine AllReadyH.cons rfl (fun K hK=>?_) AllReadyH.nil
      refine dI HK12.out 2 rfl (.tmp 44) (.tmp 50) 23 rfl Da rfl rfl rfl (cs:=#[.string (sB nm),.string (sB x),.int .i64 0,.slice none 0 0]) rfl (by simp[Value.oneCell']) (by unfold maxLen;omega) (by omega) ?_
      intro v2 w4 hk4
      have HK17:Hid (ai w0 [] X w4 (.box (gl) 75 #[.int .i64 1,.string (sB nm),.string (sB x),.int .i64 0,.string ⟨#[]⟩,.slice none 0 0,.int .i64 0] :: .box (g) 68 #[.slice (some ⟨gf,0,none⟩) (done.length+1) cap] :: .row 85 4 (v2) (done.length+1+1) ((vs0 ++ [.string (sB f.name),.string (sB f.help),.int .i64 (f.type:Int),.slice A f.smps.length sc])++#[.string (sB nm),.string (sB x),.int .i64 0,.slice none 0 0].toList) :: .row 73 3 (.slice A f.smps.length sc) (f.smps.length) (scs)::L) (Ra.fact az vs0 done::Ra.fact ak scs f.smps::F)):=hk4
      clear HK12
      clear hk4
      refine hK.out _ _ (HK17.out.blk 0 rfl) (fun hHeld=>?_)
      clear hK K
      try simp only[Act.put,sI,sZ,sS]
      refine tS 12 hHeld ?_
      refine tS 13 hHeld ?_
      obtain⟨gf2,cap2,rfl⟩:=pG HK17.out (i:=2) rfl (by omega)
      have c_r_0_18:w4.cell? ⟨g,0,none⟩=some (.slice (some ⟨gf,0,none⟩) (done.length+1) cap):=HK17.out.cell 1 rfl 0
      have z_r_0_19:w4.frozen? ⟨g,0,none⟩=false:=HK17.out.frozen 1 rfl 0
      have ne_20:¬ (g=gl):=HK17.out.ne 1 0 (by decide) rfl rfl
      have ne_21:¬ (gl=g):=HK17.out.ne 0 1 (by decide) rfl rfl
      refine wpAnyH_ready (rs:=[14]) (by kernel_rfl) (by simp) ?_
      refine AllReadyH.cons rfl (fun K hK=>?_) AllReadyH.nil
      go_simp
      refine hK.out _ _ (hHeld.far (p:=⟨g,0,none⟩) (HK17.out.ne 0 1 (by decide) rfl rfl) (.slice (some ⟨gf2,0,none⟩) (done.length+1+1) cap2)) (fun hHeld=>?_)
      clear hK K
      try simp only[Act.put,sI,sZ,sS]
      refine wpAnyH_done (by kernel_rfl) ?_ _
      refine NoPanic.normal ?_
      clear hHeld
      clear c_r_0_18 z_r_0_19 ne_20 ne_21
      have HK22:Hid (ai w0 [] X (w4.setCell ⟨g,0,none⟩ (.slice (some ⟨gf2,0,none⟩) (done.length+1+1) cap2)) (.box (gl) 75 #[.int .i64 1,.string (sB nm),.string (sB x),.int .i64 0,.string ⟨#[]⟩,.slice none 0 0,.int .i64 0] :: .box (g) 68 #[.slice (some ⟨gf2,0,none⟩) (done.length+1+1) cap2] :: .row 85 4 (.slice (some ⟨gf2,0,none⟩) (done.length+1+1) cap2) (done.length+1+1) ((vs0 ++ [.string (sB f.name),.string (sB f.help),.int .i64 (f.type:Int),.slice A f.smps.length sc])++#[.string (sB nm),.string (sB x),.int .i64 0,.slice none 0 0].toList) :: .row 73 3 (.slice A f.smps.length sc) (f.smps.length) (scs)::L) (Ra.fact az vs0 done::Ra.fact ak scs f.smps::F)):=HK17.out.set_ 1 rfl 0 (.slice (some ⟨gf2,0,none⟩) (done.length+1+1) cap2)
      clear HK17
      generalize w4.setCell ⟨g,0,none⟩ (.slice (some ⟨gf2,0,none⟩) (done.length+1+1) cap2)=w5 at HK22 ⊢
      go_wp2
      go_ret
      rw[HRb.out]
      exact⟨rfl,⟨gf2,cap2,_,none,0,[],RdS.of_next (HK22.out.drop (List.Sublist.cons _ (List.Sublist.refl _))) HF.out⟩,⟨by simp;omega,by show nm.length≤64;omega,by show x.length≤200;omega,Nat.zero_le _,Nat.zero_le _,fun _=>rfl,fun h=>by cases h⟩⟩
end
section
open Go.RowKit
theorem Eh:kQ Tryz.prog 83 73 3 48:=wE Tryz.underlying83 (z := .agg #[.string ⟨#[]⟩,.slice none 0 0,.int .i64 0]) (by kernel_rfl) rfl (by omega)
theorem rW {w0 w:World} {X:List Nat} {L:List Itm} {F:List Fact} {g:Nat} {nm x:List UInt8} (h:ai w0 [] X w (.box g 68 #[.slice none 0 0]::L) F) (hn:nm.length≤20000) (hx:x.length≤20000):
 Calls Tryz.prog 14 #[.pointer (some ⟨g,0,none⟩),.agg #[.int .i64 1,.string (sB nm),.string (sB x),.int .i64 0,.string ⟨#[]⟩,.slice none 0 0,.int .i64 0]] w (kI (bk [] none (.help nm x)) w0 X L F g):=by
 obtain⟨R,hR⟩:∃ R,R=bk [] none (.help nm x):=⟨_,rfl⟩
 rw[←hR]
 have HR:=Lib.hid hR
 clear hR
 have HK:=Lib.hid ((h.alloc_at 75 #[.int .i64 1,.string (sB nm),.string (sB x),.int .i64 0,.string ⟨#[]⟩,.slice none 0 0,.int .i64 0] w.heap.size rfl))
 clear h
 go_enter Tryz.func14,Tryz.ntmps14
 have c0:(w.alloc (.cells #[.int .i64 1,.string (sB nm),.string (sB x),.int .i64 0,.string ⟨#[]⟩,.slice none 0 0,.int .i64 0] 75)).cell? ⟨w.heap.size,0,none⟩=some (.int .i64 1):=HK.out.cell 0 rfl 0
 have c1:(w.alloc (.cells #[.int .i64 1,.string (sB nm),.string (sB x),.int .i64 0,.string ⟨#[]⟩,.slice none 0 0,.int .i64 0] 75)).cell? ⟨w.heap.size,1,none⟩=some (.string (sB nm)):=HK.out.cell 0 rfl 1
 have c2:(w.alloc (.cells #[.int .i64 1,.string (sB nm),.string (sB x),.int .i64 0,.string ⟨#[]⟩,.slice none 0 0,.int .i64 0] 75)).cell? ⟨w.heap.size,2,none⟩=some (.string (sB x)):=HK.out.cell 0 rfl 2
 have c3:(w.alloc (.cells #[.int .i64 1,.string (sB nm),.string (sB x),.int .i64 0,.string ⟨#[]⟩,.slice none 0 0,.int .i64 0] 75)).cell? ⟨w.heap.size,3,none⟩=some (.int .i64 0):=HK.out.cell 0 rfl 3
 have c4:(w.alloc (.cells #[.int .i64 1,.string (sB nm),.string (sB x),.int .i64 0,.string ⟨#[]⟩,.slice none 0 0,.int .i64 0] 75)).cell? ⟨w.heap.size,4,none⟩=some (.string ⟨#[]⟩):=HK.out.cell 0 rfl 4
 have c5:(w.alloc (.cells #[.int .i64 1,.string (sB nm),.string (sB x),.int .i64 0,.string ⟨#[]⟩,.slice none 0 0,.int .i64 0] 75)).cell? ⟨w.heap.size,5,none⟩=some (.slice none 0 0):=HK.out.cell 0 rfl 5
 have c6:(w.alloc (.cells #[.int .i64 1,.string (sB nm),.string (sB x),.int .i64 0,.string ⟨#[]⟩,.slice none 0 0,.int .i64 0] 75)).cell? ⟨w.heap.size,6,none⟩=some (.int .i64 0):=HK.out.cell 0 rfl 6
 go_wp2_with fail
 generalize w.alloc (.cells #[.int .i64 1,.string (sB nm),.string (sB x),.int .i64 0,.string ⟨#[]⟩,.slice none 0 0,.int .i64 0] 75)=w1 at HK ⊢
 refine(vH (HK.out.drop (List.Sublist.cons _ (List.Sublist.refl _))) hn hx).mono ?_
 rintro e w2 hT
 cases hr:bk [] none (.help nm x) with
 | none=>
   rw[hr]at hT
   have HRb:=Lib.hid (HR.out.trans hr)
   obtain⟨rfl,hH⟩:=hT
   have HH:=Lib.hid hH
   clear hH hr
   go_wp2
   go_ret
   rw[HRb.out]
   exact⟨rfl,HH.out⟩
 | some p=>
   rw[hr]at hT
   have HRb:=Lib.hid (HR.out.trans hr)
   obtain⟨d,c⟩:=p
   obtain⟨rfl,hH,hF⟩:=hT
   have HH:=Lib.hid hH
   have HF:=Lib.hid hF
   clear hH hr hF
   go_wp2
   go_ret
   rw[HRb.out]
   exact⟨rfl,HH.out,HF.out⟩
theorem BQ {w0 w:World} {X:List Nat} {L:List Itm} {F:List Fact} {g:Nat} {nm x:List UInt8} {done:List ax} {f:ax} {gf cap:Nat} {vs0:List Value} {A:Option Addr} {sc:Nat} {scs:List Value} (h:RdS w0 X L F g done f gf cap vs0 A sc scs w) (hf:gM done f) (hn:nm.length≤20000) (hx:x.length≤20000):
 Calls Tryz.prog 14 #[.pointer (some ⟨g,0,none⟩),.agg #[.int .i64 1,.string (sB nm),.string (sB x),.int .i64 0,.string ⟨#[]⟩,.slice none 0 0,.int .i64 0]] w (kI (bk done (some f) (.help nm x)) w0 X L F g):=by
 obtain⟨R,hR⟩:∃ R,R=bk done (some f) (.help nm x):=⟨_,rfl⟩
 rw[←hR]
 have HR:=Lib.hid hR
 clear hR
 have HK:=Lib.hid (ai.alloc_at h 75 #[.int .i64 1,.string (sB nm),.string (sB x),.int .i64 0,.string ⟨#[]⟩,.slice none 0 0,.int .i64 0] w.heap.size rfl)
 have HFi:=Lib.hid hf
 clear h hf
 go_enter Tryz.func14,Tryz.ntmps14
 have c0:(w.alloc (.cells #[.int .i64 1,.string (sB nm),.string (sB x),.int .i64 0,.string ⟨#[]⟩,.slice none 0 0,.int .i64 0] 75)).cell? ⟨w.heap.size,0,none⟩=some (.int .i64 1):=HK.out.cell 0 rfl 0
 have c1:(w.alloc (.cells #[.int .i64 1,.string (sB nm),.string (sB x),.int .i64 0,.string ⟨#[]⟩,.slice none 0 0,.int .i64 0] 75)).cell? ⟨w.heap.size,1,none⟩=some (.string (sB nm)):=HK.out.cell 0 rfl 1
 have c2:(w.alloc (.cells #[.int .i64 1,.string (sB nm),.string (sB x),.int .i64 0,.string ⟨#[]⟩,.slice none 0 0,.int .i64 0] 75)).cell? ⟨w.heap.size,2,none⟩=some (.string (sB x)):=HK.out.cell 0 rfl 2
 have c3:(w.alloc (.cells #[.int .i64 1,.string (sB nm),.string (sB x),.int .i64 0,.string ⟨#[]⟩,.slice none 0 0,.int .i64 0] 75)).cell? ⟨w.heap.size,3,none⟩=some (.int .i64 0):=HK.out.cell 0 rfl 3
 have c4:(w.alloc (.cells #[.int .i64 1,.string (sB nm),.string (sB x),.int .i64 0,.string ⟨#[]⟩,.slice none 0 0,.int .i64 0] 75)).cell? ⟨w.heap.size,4,none⟩=some (.string ⟨#[]⟩):=HK.out.cell 0 rfl 4
 have c5:(w.alloc (.cells #[.int .i64 1,.string (sB nm),.string (sB x),.int .i64 0,.string ⟨#[]⟩,.slice none 0 0,.int .i64 0] 75)).cell? ⟨w.heap.size,5,none⟩=some (.slice none 0 0):=HK.out.cell 0 rfl 5
 have c6:(w.alloc (.cells #[.int .i64 1,.string (sB nm),.string (sB x),.int .i64 0,.string ⟨#[]⟩,.slice none 0 0,.int .i64 0] 75)).cell? ⟨w.heap.size,6,none⟩=some (.int .i64 0):=HK.out.cell 0 rfl 6
 go_wp2_with fail
 generalize w.alloc (.cells #[.int .i64 1,.string (sB nm),.string (sB x),.int .i64 0,.string ⟨#[]⟩,.slice none 0 0,.int .i64 0] 75)=w1 at HK ⊢
 refine(rQ (HK.out.drop (List.Sublist.cons _ (List.Sublist.refl _))) HFi.out hn hx).mono ?_
 rintro e w2 hT
 cases hr:bk done (some f) (.help nm x) with
 | none=>
   rw[hr]at hT
   have HRb:=Lib.hid (HR.out.trans hr)
   obtain⟨rfl,hH⟩:=hT
   have HH:=Lib.hid hH
   clear hH hr
   go_wp2
   go_ret
   rw[HRb.out]
   exact⟨rfl,HH.out⟩
 | some p=>
   rw[hr]at hT
   have HRb:=Lib.hid (HR.out.trans hr)
   obtain⟨d,c⟩:=p
   obtain⟨rfl,hH,hF⟩:=hT
   have HH:=Lib.hid hH
   have HF:=Lib.hid hF
   clear hH hr hF
   go_wp2
   go_ret
   rw[HRb.out]
   exact⟨rfl,HH.out,HF.out⟩
end
section
open Go.RowKit
theorem AG {vs0 cs:List Value} {m:Nat} (h:vs0.length=m*4) (j:Nat) (u:Value):(vs0++cs).set (m*4+j) u=vs0++cs.set j u:=by
 rw[List.set_append_right _ _ (by omega),h,Nat.add_sub_cancel_left]
theorem DI (done:List ax) (f:ax) (nm:List UInt8) (k:Nat):bk done (some f) (.kind nm k)=if f.type≠0∨f.name≠nm then none else some (done,{ f with type:=k }):=by simp[bk]
set_option maxHeartbeats 4000000 in
theorem rV {w0 w:World} {X:List Nat} {L:List Itm} {F:List Fact} {g k:Nat} {nm:List UInt8} (h:ai w0 [] X w (.box g 68 #[.slice none 0 0]::L) F):
 Calls Tryz.prog 14 #[.pointer (some ⟨g,0,none⟩),.agg #[.int .i64 2,.string (sB nm),.string ⟨#[]⟩,.int .i64 (k:Int),.string ⟨#[]⟩,.slice none 0 0,.int .i64 0]] w (kI (bk [] none (.kind nm k)) w0 X L F g):=by
 have HK0:=Lib.hid h
 clear h
 go_enter Tryz.func14,Tryz.ntmps14
 have HK1:Hid (ai w0 [] X (w.alloc (.cells #[.int .i64 2,.string (sB nm),.string ⟨#[]⟩,.int .i64 (k:Int),.string ⟨#[]⟩,.slice none 0 0,.int .i64 0] 75)) (.box (w.heap.size) 75 #[.int .i64 2,.string (sB nm),.string ⟨#[]⟩,.int .i64 (k:Int),.string ⟨#[]⟩,.slice none 0 0,.int .i64 0] :: .box (g) 68 #[.slice none 0 0]::L) (F)):=HK0.out.alloc_at 75 #[.int .i64 2,.string (sB nm),.string ⟨#[]⟩,.int .i64 (k:Int),.string ⟨#[]⟩,.slice none 0 0,.int .i64 0] (w.heap.size) (by simp)
 clear HK0
 have c_ln_0_2:(w.alloc (.cells #[.int .i64 2,.string (sB nm),.string ⟨#[]⟩,.int .i64 (k:Int),.string ⟨#[]⟩,.slice none 0 0,.int .i64 0] 75)).cell? ⟨w.heap.size,0,none⟩=some (.int .i64 2):=HK1.out.cell 0 rfl 0
 have c_ln_1_3:(w.alloc (.cells #[.int .i64 2,.string (sB nm),.string ⟨#[]⟩,.int .i64 (k:Int),.string ⟨#[]⟩,.slice none 0 0,.int .i64 0] 75)).cell? ⟨w.heap.size,1,none⟩=some (.string (sB nm)):=HK1.out.cell 0 rfl 1
 have c_ln_2_4:(w.alloc (.cells #[.int .i64 2,.string (sB nm),.string ⟨#[]⟩,.int .i64 (k:Int),.string ⟨#[]⟩,.slice none 0 0,.int .i64 0] 75)).cell? ⟨w.heap.size,2,none⟩=some (.string ⟨#[]⟩):=HK1.out.cell 0 rfl 2
 have c_ln_3_5:(w.alloc (.cells #[.int .i64 2,.string (sB nm),.string ⟨#[]⟩,.int .i64 (k:Int),.string ⟨#[]⟩,.slice none 0 0,.int .i64 0] 75)).cell? ⟨w.heap.size,3,none⟩=some (.int .i64 (k:Int)):=HK1.out.cell 0 rfl 3
 have c_ln_4_6:(w.alloc (.cells #[.int .i64 2,.string (sB nm),.string ⟨#[]⟩,.int .i64 (k:Int),.string ⟨#[]⟩,.slice none 0 0,.int .i64 0] 75)).cell? ⟨w.heap.size,4,none⟩=some (.string ⟨#[]⟩):=HK1.out.cell 0 rfl 4
 have c_ln_5_7:(w.alloc (.cells #[.int .i64 2,.string (sB nm),.string ⟨#[]⟩,.int .i64 (k:Int),.string ⟨#[]⟩,.slice none 0 0,.int .i64 0] 75)).cell? ⟨w.heap.size,5,none⟩=some (.slice none 0 0):=HK1.out.cell 0 rfl 5
 have c_ln_6_8:(w.alloc (.cells #[.int .i64 2,.string (sB nm),.string ⟨#[]⟩,.int .i64 (k:Int),.string ⟨#[]⟩,.slice none 0 0,.int .i64 0] 75)).cell? ⟨w.heap.size,6,none⟩=some (.int .i64 0):=HK1.out.cell 0 rfl 6
 go_wp2_with fail
 clear c_ln_0_2 c_ln_1_3 c_ln_2_4 c_ln_3_5 c_ln_4_6 c_ln_5_7 c_ln_6_8
 generalize w.alloc (.cells #[.int .i64 2,.string (sB nm),.string ⟨#[]⟩,.int .i64 (k:Int),.string ⟨#[]⟩,.slice none 0 0,.int .i64 0] 75)=w1 at HK1 ⊢
 generalize w.heap.size=gl at HK1 ⊢
 refine(mM g w1 (HK1.out.cell 1 rfl 0)).mono ?_
 rintro e w2 ⟨rfl,rfl⟩
 go_wp2_with fail
 refine wp_region_noPanic ?_
 refine wp_region_held_drew (S:=fun W'=>ai w0 [] X W' (.box (gl) 75 #[.int .i64 2,.string (sB nm),.string ⟨#[]⟩,.int .i64 (k:Int),.string ⟨#[]⟩,.slice none 0 0,.int .i64 0] :: .box (g) 68 #[.slice none 0 0]::L) (F)) (by kernel_rfl) HK1.out.drew (fun hHeld=>?_)
 refine tS 0 hHeld ?_
 refine tS 1 hHeld ?_
 refine tS 2 hHeld ?_
 refine tU 3 hHeld ?_
 refine tU 4 hHeld ?_
 refine tU 5 hHeld ?_
 refine tU 6 hHeld ?_
 refine tU 7 hHeld ?_
 refine tS 8 hHeld ?_
 refine tS 9 hHeld ?_
 refine tU 10 hHeld ?_
 refine tU 11 hHeld ?_
 refine tU 12 hHeld ?_
 refine tU 13 hHeld ?_
 refine tU 14 hHeld ?_
 refine tU 15 hHeld ?_
 refine tU 16 hHeld ?_
 refine tS 17 hHeld ?_
 refine wpAnyH_done (by kernel_rfl) ?_ _
 refine NoPanic.normal ?_
 have HKd:=Lib.hid hHeld
 clear hHeld
 go_wp2
 go_ret
 exact⟨rfl,HKd.out.drop (List.Sublist.cons _ (List.Sublist.cons _ (List.Sublist.refl _)))⟩
set_option maxHeartbeats 8000000 in
theorem BL {w0 w:World} {X:List Nat} {L:List Itm} {F:List Fact} {g k:Nat} {nm:List UInt8} {done:List ax} {f:ax} {gf cap:Nat} {vs0:List Value} {A:Option Addr} {sc:Nat} {scs:List Value} (h:RdS w0 X L F g done f gf cap vs0 A sc scs w) (hf:gM done f) (hk3:k≤3):
 Calls Tryz.prog 14 #[.pointer (some ⟨g,0,none⟩),.agg #[.int .i64 2,.string (sB nm),.string ⟨#[]⟩,.int .i64 (k:Int),.string ⟨#[]⟩,.slice none 0 0,.int .i64 0]] w (kI (bk done (some f) (.kind nm k)) w0 X L F g):=by
 obtain⟨R,hR⟩:∃ R,R=bk done (some f) (.kind nm k):=⟨_,rfl⟩
 rw[←hR]
 have HR:=Lib.hid (hR.trans (DI done f nm k))
 clear hR
 have HK0:Hid (ai w0 [] X w (.box (g) 68 #[.slice (some ⟨gf,0,none⟩) (done.length+1) cap] :: .row 85 4 (.slice (some ⟨gf,0,none⟩) (done.length+1) cap) (done.length+1) (vs0 ++ [.string (sB f.name),.string (sB f.help),.int .i64 (f.type:Int),.slice A f.smps.length sc]) :: .row 73 3 (.slice A f.smps.length sc) (f.smps.length) (scs)::L) (Ra.fact az vs0 done::Ra.fact ak scs f.smps::F)):=h
 have HV:=Lib.hid h.vs
 clear h
 have HF:=Lib.hid hf
 have hcnt:=hf.count
 clear hf
 go_enter Tryz.func14,Tryz.ntmps14
 have HK1:Hid (ai w0 [] X (w.alloc (.cells #[.int .i64 2,.string (sB nm),.string ⟨#[]⟩,.int .i64 (k:Int),.string ⟨#[]⟩,.slice none 0 0,.int .i64 0] 75)) (.box (w.heap.size) 75 #[.int .i64 2,.string (sB nm),.string ⟨#[]⟩,.int .i64 (k:Int),.string ⟨#[]⟩,.slice none 0 0,.int .i64 0] :: .box (g) 68 #[.slice (some ⟨gf,0,none⟩) (done.length+1) cap] :: .row 85 4 (.slice (some ⟨gf,0,none⟩) (done.length+1) cap) (done.length+1) (vs0 ++ [.string (sB f.name),.string (sB f.help),.int .i64 (f.type:Int),.slice A f.smps.length sc]) :: .row 73 3 (.slice A f.smps.length sc) (f.smps.length) (scs)::L) (Ra.fact az vs0 done::Ra.fact ak scs f.smps::F)):=HK0.out.alloc_at 75 #[.int .i64 2,.string (sB nm),.string ⟨#[]⟩,.int .i64 (k:Int),.string ⟨#[]⟩,.slice none 0 0,.int .i64 0] (w.heap.size) (by simp)
 clear HK0
 have c_ln_0_2:(w.alloc (.cells #[.int .i64 2,.string (sB nm),.string ⟨#[]⟩,.int .i64 (k:Int),.string ⟨#[]⟩,.slice none 0 0,.int .i64 0] 75)).cell? ⟨w.heap.size,0,none⟩=some (.int .i64 2):=HK1.out.cell 0 rfl 0
 have c_ln_1_3:(w.alloc (.cells #[.int .i64 2,.string (sB nm),.string ⟨#[]⟩,.int .i64 (k:Int),.string ⟨#[]⟩,.slice none 0 0,.int .i64 0] 75)).cell? ⟨w.heap.size,1,none⟩=some (.string (sB nm)):=HK1.out.cell 0 rfl 1
 have c_ln_2_4:(w.alloc (.cells #[.int .i64 2,.string (sB nm),.string ⟨#[]⟩,.int .i64 (k:Int),.string ⟨#[]⟩,.slice none 0 0,.int .i64 0] 75)).cell? ⟨w.heap.size,2,none⟩=some (.string ⟨#[]⟩):=HK1.out.cell 0 rfl 2
 have c_ln_3_5:(w.alloc (.cells #[.int .i64 2,.string (sB nm),.string ⟨#[]⟩,.int .i64 (k:Int),.string ⟨#[]⟩,.slice none 0 0,.int .i64 0] 75)).cell? ⟨w.heap.size,3,none⟩=some (.int .i64 (k:Int)):=HK1.out.cell 0 rfl 3
 have c_ln_4_6:(w.alloc (.cells #[.int .i64 2,.string (sB nm),.string ⟨#[]⟩,.int .i64 (k:Int),.string ⟨#[]⟩,.slice none 0 0,.int .i64 0] 75)).cell? ⟨w.heap.size,4,none⟩=some (.string ⟨#[]⟩):=HK1.out.cell 0 rfl 4
 have c_ln_5_7:(w.alloc (.cells #[.int .i64 2,.string (sB nm),.string ⟨#[]⟩,.int .i64 (k:Int),.string ⟨#[]⟩,.slice none 0 0,.int .i64 0] 75)).cell? ⟨w.heap.size,5,none⟩=some (.slice none 0 0):=HK1.out.cell 0 rfl 5
 have c_ln_6_8:(w.alloc (.cells #[.int .i64 2,.string (sB nm),.string ⟨#[]⟩,.int .i64 (k:Int),.string ⟨#[]⟩,.slice none 0 0,.int .i64 0] 75)).cell? ⟨w.heap.size,6,none⟩=some (.int .i64 0):=HK1.out.cell 0 rfl 6
 go_wp2_with fail
 clear c_ln_0_2 c_ln_1_3 c_ln_2_4 c_ln_3_5 c_ln_4_6 c_ln_5_7 c_ln_6_8
 generalize w.alloc (.cells #[.int .i64 2,.string (sB nm),.string ⟨#[]⟩,.int .i64 (k:Int),.string ⟨#[]⟩,.slice none 0 0,.int .i64 0] 75)=w1 at HK1 ⊢
 generalize w.heap.size=gl at HK1 ⊢
 refine(uP g gf done.length cap w1 (HK1.out.cell 1 rfl 0) (by omega)).mono ?_
 rintro e w2 ⟨rfl,m,rfl⟩
 have HK9:Hid (ai w0 [] X (w1.drewN m) (.box (gl) 75 #[.int .i64 2,.string (sB nm),.string ⟨#[]⟩,.int .i64 (k:Int),.string ⟨#[]⟩,.slice none 0 0,.int .i64 0] :: .box (g) 68 #[.slice (some ⟨gf,0,none⟩) (done.length+1) cap] :: .row 85 4 (.slice (some ⟨gf,0,none⟩) (done.length+1) cap) (done.length+1) (vs0 ++ [.string (sB f.name),.string (sB f.help),.int .i64 (f.type:Int),.slice A f.smps.length sc]) :: .row 73 3 (.slice A f.smps.length sc) (f.smps.length) (scs)::L) (Ra.fact az vs0 done::Ra.fact ak scs f.smps::F)):=HK1.out.drewN m
 clear HK1
 generalize w1.drewN m=w2 at HK9 ⊢
 go_wp2_with fail
 by_cases ht:f.type=0
 ·skip
  have b0:((f.type:Int) != 0)=false:=by rw[bne_eq_false_iff_eq];omega
  by_cases hn:f.name=nm
  ·skip
   have b1:(f.name != nm)=false:=by rw[bne_eq_false_iff_eq];exact hn
   have b2:(f.name == nm)=true:=by rw[beq_iff_eq];exact hn
   have HRb:=Lib.hid (show R=some (done,{ f with type:=k }) from by rw[HR.out,if_neg (fun h=>h.elim (fun h=>h ht) (fun h=>h hn))])
   have HT:=Lib.hid ht
   clear hn ht
   refine wp_region_noPanic ?_
   refine wp_region_held_drew (S:=fun W'=>ai w0 [] X W' (.box (gl) 75 #[.int .i64 2,.string (sB nm),.string ⟨#[]⟩,.int .i64 (k:Int),.string ⟨#[]⟩,.slice none 0 0,.int .i64 0] :: .box (g) 68 #[.slice (some ⟨gf,0,none⟩) (done.length+1) cap] :: .row 85 4 (.slice (some ⟨gf,0,none⟩) (done.length+1) cap) (done.length+1) (vs0 ++ [.string (sB f.name),.string (sB f.help),.int .i64 (f.type:Int),.slice A f.smps.length sc]) :: .row 73 3 (.slice A f.smps.length sc) (f.smps.length) (scs)::L) (Ra.fact az vs0 done::Ra.fact ak scs f.smps::F)) (by kernel_rfl) HK9.out.drew (fun hHeld=>?_)
   refine tS 0 hHeld ?_
   refine tS 1 hHeld ?_
   refine tS 2 hHeld ?_
   refine tS 3 hHeld ?_
   refine tS 4 hHeld ?_
   refine tS 5 hHeld ?_
   refine tS 6 hHeld ?_ (hy:=by(intro W hSW;(try dsimp only at hSW);have q2:=(RdS.row (show RdS w0 X L F g done f gf cap vs0 A sc scs W from(hSW.drop (List.Sublist.cons _ (List.Sublist.refl _))))).2.2.2.2.2.1;go_simp;try with_reducible rfl))
   refine tS 7 hHeld ?_
   refine tS 8 hHeld ?_
   refine tS 9 hHeld ?_
   refine tS 10 hHeld ?_
   refine tS 11 hHeld ?_
   refine tS 12 hHeld ?_
   refine tS 13 hHeld ?_ (hy:=by(intro W hSW;(try dsimp only at hSW);have q0:=(RdS.row (show RdS w0 X L F g done f gf cap vs0 A sc scs W from(hSW.drop (List.Sublist.cons _ (List.Sublist.refl _))))).2.2.2.1;go_simp;try with_reducible rfl))
   refine tS 14 hHeld ?_
   refine tS 15 hHeld ?_ (hy:=by(intro W hSW;(try dsimp only at hSW);have q0:W.cell? ⟨gl,0,none⟩=some (.int .i64 2):=hSW.cell 0 rfl 0;have q1:W.cell? ⟨gl,1,none⟩=some (.string (sB nm)):=hSW.cell 0 rfl 1;have q2:W.cell? ⟨gl,2,none⟩=some (.string ⟨#[]⟩):=hSW.cell 0 rfl 2;have q3:W.cell? ⟨gl,3,none⟩=some (.int .i64 (k:Int)):=hSW.cell 0 rfl 3;have q4:W.cell? ⟨gl,4,none⟩=some (.string ⟨#[]⟩):=hSW.cell 0 rfl 4;have q5:W.cell? ⟨gl,5,none⟩=some (.slice none 0 0):=hSW.cell 0 rfl 5;have q6:W.cell? ⟨gl,6,none⟩=some (.int .i64 0):=hSW.cell 0 rfl 6;go_simp;try with_reducible rfl))
   refine tS 16 hHeld ?_
   refine tS 17 hHeld ?_
   refine wpAnyH_done (by kernel_rfl) ?_ _
   refine NoPanic.normal ?_
   have HKd:=Lib.hid hHeld
   clear hHeld HK9
   generalize w2.drew=w3 at HKd ⊢
   have c_ln_0_10:w3.cell? ⟨gl,0,none⟩=some (.int .i64 2):=HKd.out.cell 0 rfl 0
   have c_ln_1_11:w3.cell? ⟨gl,1,none⟩=some (.string (sB nm)):=HKd.out.cell 0 rfl 1
   have c_ln_2_12:w3.cell? ⟨gl,2,none⟩=some (.string ⟨#[]⟩):=HKd.out.cell 0 rfl 2
   have c_ln_3_13:w3.cell? ⟨gl,3,none⟩=some (.int .i64 (k:Int)):=HKd.out.cell 0 rfl 3
   have c_ln_4_14:w3.cell? ⟨gl,4,none⟩=some (.string ⟨#[]⟩):=HKd.out.cell 0 rfl 4
   have c_ln_5_15:w3.cell? ⟨gl,5,none⟩=some (.slice none 0 0):=HKd.out.cell 0 rfl 5
   have c_ln_6_16:w3.cell? ⟨gl,6,none⟩=some (.int .i64 0):=HKd.out.cell 0 rfl 6
   obtain⟨r1,r2,r3,r4,r5,r6,r7,r8⟩:=RdS.row (show RdS w0 X L F g done f gf cap vs0 A sc scs w3 from HKd.out.drop (List.Sublist.cons _ (List.Sublist.refl _)))
   have r9:=r8 (done.length*4+2)
   clear r1 r2 r3 r4 r5 r7 r8
   go_wp2
   go_ret
   rw[HRb.out]
   clear c_ln_0_10 c_ln_1_11 c_ln_2_12 c_ln_3_13 c_ln_4_14 c_ln_5_15 c_ln_6_16
   have h1:=(HKd.out.drop (List.Sublist.cons _ (List.Sublist.refl _))).row_set 1 rfl (done.length*4+2) (.int .i64 (k:Int))
   simp only[List.set_cons_zero,List.set_cons_succ]at h1
   rw[AG HV.out]at h1
   exact⟨rfl,⟨gf,cap,vs0,A,sc,scs,h1⟩,⟨HF.out.count,HF.out.name,HF.out.help,hk3,HF.out.smps,fun _=>HF.out.zero HT.out,fun _ i a _ ha=>by rw[show({ f with type:=k }:ax).smps = [] from HF.out.zero HT.out]at ha;cases ha⟩⟩
  have b1:(f.name != nm)=true:=by rw[bne_iff_ne];exact hn
  have b2:(f.name == nm)=false:=by rw[beq_eq_false_iff_ne];exact hn
  refine wp_region_noPanic ?_
  refine wp_region_held_drew (S:=fun W'=>ai w0 [] X W' (.box (gl) 75 #[.int .i64 2,.string (sB nm),.string ⟨#[]⟩,.int .i64 (k:Int),.string ⟨#[]⟩,.slice none 0 0,.int .i64 0] :: .box (g) 68 #[.slice (some ⟨gf,0,none⟩) (done.length+1) cap] :: .row 85 4 (.slice (some ⟨gf,0,none⟩) (done.length+1) cap) (done.length+1) (vs0 ++ [.string (sB f.name),.string (sB f.help),.int .i64 (f.type:Int),.slice A f.smps.length sc]) :: .row 73 3 (.slice A f.smps.length sc) (f.smps.length) (scs)::L) (Ra.fact az vs0 done::Ra.fact ak scs f.smps::F)) (by kernel_rfl) HK9.out.drew (fun hHeld=>?_)
  refine tS 0 hHeld ?_
  refine tS 1 hHeld ?_
  refine tS 2 hHeld ?_
  refine tS 3 hHeld ?_
  refine tS 4 hHeld ?_
  refine tS 5 hHeld ?_
  refine tS 6 hHeld ?_ (hy:=by(intro W hSW;(try dsimp only at hSW);have q2:=(RdS.row (show RdS w0 X L F g done f gf cap vs0 A sc scs W from(hSW.drop (List.Sublist.cons _ (List.Sublist.refl _))))).2.2.2.2.2.1;go_simp;try with_reducible rfl))
  refine tS 7 hHeld ?_
  refine tS 8 hHeld ?_
  refine tS 9 hHeld ?_
  refine tS 10 hHeld ?_
  refine tS 11 hHeld ?_
  refine tS 12 hHeld ?_
  refine tS 13 hHeld ?_ (hy:=by(intro W hSW;(try dsimp only at hSW);have q0:=(RdS.row (show RdS w0 X L F g done f gf cap vs0 A sc scs W from(hSW.drop (List.Sublist.cons _ (List.Sublist.refl _))))).2.2.2.1;go_simp;try with_reducible rfl))
  refine tS 14 hHeld ?_
  refine tS 15 hHeld ?_ (hy:=by(intro W hSW;(try dsimp only at hSW);have q0:W.cell? ⟨gl,0,none⟩=some (.int .i64 2):=hSW.cell 0 rfl 0;have q1:W.cell? ⟨gl,1,none⟩=some (.string (sB nm)):=hSW.cell 0 rfl 1;have q2:W.cell? ⟨gl,2,none⟩=some (.string ⟨#[]⟩):=hSW.cell 0 rfl 2;have q3:W.cell? ⟨gl,3,none⟩=some (.int .i64 (k:Int)):=hSW.cell 0 rfl 3;have q4:W.cell? ⟨gl,4,none⟩=some (.string ⟨#[]⟩):=hSW.cell 0 rfl 4;have q5:W.cell? ⟨gl,5,none⟩=some (.slice none 0 0):=hSW.cell 0 rfl 5;have q6:W.cell? ⟨gl,6,none⟩=some (.int .i64 0):=hSW.cell 0 rfl 6;go_simp;try with_reducible rfl))
  refine tS 16 hHeld ?_
  refine tS 17 hHeld ?_
  refine wpAnyH_done (by kernel_rfl) ?_ _
  refine NoPanic.normal ?_
  have HRb:=Lib.hid (show R=none from by rw[HR.out,if_pos (.inr hn)])
  have HKd:=Lib.hid hHeld
  clear hHeld
  go_wp2
  go_ret
  rw[HRb.out]
  exact⟨rfl,(HKd.out.drop (List.Sublist.cons _ (List.Sublist.cons _ (List.Sublist.cons _ (List.Sublist.cons _ (List.Sublist.refl _)))))).forget (List.Sublist.cons _ (List.Sublist.cons _ (List.Sublist.refl _)))⟩
 have b0:((f.type:Int) != 0)=true:=by rw[bne_iff_ne];omega
 refine wp_region_noPanic ?_
 refine wp_region_held_drew (S:=fun W'=>ai w0 [] X W' (.box (gl) 75 #[.int .i64 2,.string (sB nm),.string ⟨#[]⟩,.int .i64 (k:Int),.string ⟨#[]⟩,.slice none 0 0,.int .i64 0] :: .box (g) 68 #[.slice (some ⟨gf,0,none⟩) (done.length+1) cap] :: .row 85 4 (.slice (some ⟨gf,0,none⟩) (done.length+1) cap) (done.length+1) (vs0 ++ [.string (sB f.name),.string (sB f.help),.int .i64 (f.type:Int),.slice A f.smps.length sc]) :: .row 73 3 (.slice A f.smps.length sc) (f.smps.length) (scs)::L) (Ra.fact az vs0 done::Ra.fact ak scs f.smps::F)) (by kernel_rfl) HK9.out.drew (fun hHeld=>?_)
 refine tS 0 hHeld ?_
 refine tS 1 hHeld ?_
 refine tS 2 hHeld ?_
 refine tS 3 hHeld ?_
 refine tS 4 hHeld ?_
 refine tS 5 hHeld ?_
 refine tS 6 hHeld ?_ (hy:=by(intro W hSW;(try dsimp only at hSW);have q2:=(RdS.row (show RdS w0 X L F g done f gf cap vs0 A sc scs W from(hSW.drop (List.Sublist.cons _ (List.Sublist.refl _))))).2.2.2.2.2.1;go_simp;try with_reducible rfl))
 refine tS 7 hHeld ?_
 refine tS 8 hHeld ?_
 refine tS 9 hHeld ?_
 refine tU 10 hHeld ?_
 refine tU 11 hHeld ?_
 refine tU 12 hHeld ?_
 refine tU 13 hHeld ?_
 refine tU 14 hHeld ?_
 refine tU 15 hHeld ?_
 refine tU 16 hHeld ?_
 refine tS 17 hHeld ?_
 refine wpAnyH_done (by kernel_rfl) ?_ _
 refine NoPanic.normal ?_
 have HRb:=Lib.hid (show R=none from by rw[HR.out,if_pos (.inl ht)])
 have HKd:=Lib.hid hHeld
 clear hHeld
 go_wp2
 go_ret
 rw[HRb.out]
 exact⟨rfl,(HKd.out.drop (List.Sublist.cons _ (List.Sublist.cons _ (List.Sublist.cons _ (List.Sublist.cons _ (List.Sublist.refl _)))))).forget (List.Sublist.cons _ (List.Sublist.cons _ (List.Sublist.refl _)))⟩
end
section
open Go.RowKit
theorem CJ (y:aF):bk [] none (.smp y)=none:=rfl
theorem DF (done:List ax) (f:ax) (y:aF):bk done (some f) (.smp y)=if f.type=0∨400≤f.smps.length then none else if aD y.labs=false∨bx f.name f.type f.smps y=false then none else some (done,{ f with smps:=f.smps ++ [y] }):=rfl
theorem xE {x:aF} {a:List aF} (h:cY a x=true):x.labs ≠ []:=by
 intro e
 unfold cY at h
 rw[e,List.getLast?_nil,decide_eq_false (by intro h;cases h),Bool.false_and]at h
 cases h
theorem uC {nm:List UInt8} {ss:List aF} {x:aF} (h:bx nm 3 ss x=true) (h0:ss.length%11=0):x.labs ≠ []:=by
 unfold bx at h
 rw[if_neg (by simp),h0,Nat.sub_zero,List.drop_length]at h
 unfold dF at h
 rw[if_pos (by simp)]at h
 simp only[Bool.and_eq_true]at h
 exact xE h.2
theorem gM.more {done:List ax} {f:ax} {y:aF} (h:gM done f) (ht:f.type≠0) (hl:¬ 400≤f.smps.length) (hfo:bx f.name f.type f.smps y=true):gM done { f with smps:=f.smps ++ [y] }:=
 ⟨h.count,h.name,h.help,h.type,by simp;omega,fun e=>absurd e ht,fun e i a hi ha=>by
  by_cases hlt:i<f.smps.length
  ·rw[List.getElem?_append_left hlt]at ha
   exact h.hist e i a hi ha
  ·rw[List.getElem?_append_right (by omega)]at ha
   have hi2:i=f.smps.length:=by
    cases hd:i-f.smps.length with
    | zero=>omega
    | succ m=>rw[hd]at ha;simp at ha
   rw[hi2,Nat.sub_self]at ha
   simp only[List.getElem?_cons_zero,Option.some.injEq]at ha
   subst ha
   have e3:f.type=3:=e
   rw[e3]at hfo
   exact uC hfo (by rw[←hi2];exact hi)⟩
theorem gM.firsts {done:List ax} {f:ax} (h:gM done f):f.type=3→9≤f.smps.length%11 → ∀ a,f.smps[f.smps.length-f.smps.length%11]?=some a→a.labs ≠ []:=fun e _ a ha=>h.hist e _ a (by omega) ha
theorem RdS.of_sample {w0 w:World} {X:List Nat} {L:List Itm} {F:List Fact} {g:Nat} {done:List ax} {f:ax} {gf cap:Nat} {vs0:List Value} {gs sc:Nat} {scs:List Value} {y:aF} {Al:Option Addr} {nl cl:Nat}
 (h:ai w0 [] X w (.box g 68 #[.slice (some ⟨gf,0,none⟩) (done.length+1) cap] :: .row 85 4 (.slice (some ⟨gf,0,none⟩) (done.length+1) cap) (done.length+1) (vs0 ++ [.string (sB f.name),.string (sB f.help),.int .i64 (f.type:Int),.slice (some ⟨gs,0,none⟩) (f.smps.length+1) sc]) :: .row 73 3 (.slice (some ⟨gs,0,none⟩) (f.smps.length+1) sc) (f.smps.length+1) (scs ++ [.string (sB y.name),.slice Al nl cl,.int .i64 y.val])::L)
  (Sl.fact aj Al nl cl y.labs::Ra.fact az vs0 done::Ra.fact ak scs f.smps::F)) (hi:lN y.val) (hn:y.name.length≤maxLen):RdS w0 X L F g done { f with smps:=f.smps ++ [y] } gf cap vs0 (some ⟨gs,0,none⟩) sc (scs ++ [.string (sB y.name),.slice Al nl cl,.int .i64 y.val]) w:=by
 have hs:=h.sl 0 rfl
 have hr:=h.ra 2 rfl
 have hy:ak.rep w _ [.string (sB y.name),.slice Al nl cl,.int .i64 y.val] y:=⟨Al,nl,cl,rfl,hs,hi,hn⟩
 have h3:=(h.know (Ra.fact ak _ (f.smps ++ [y])) (hr.snoc hy)).forget (List.Sublist.cons_cons _ (List.Sublist.cons _ (List.Sublist.cons_cons _ (List.Sublist.cons _ (List.Sublist.refl F)))))
 have hl:(f.smps ++ [y]).length=f.smps.length+1:=by simp
 unfold RdS
 simp only[hl]
 exact⟨h3.same,h3.size,h3.block,h3.given,h3.xok,h3.ents,h3.apart,fun z hz=>h3.facts z (by
  rcases List.mem_cons.1 hz with rfl | hz
  ·exact List.mem_cons_of_mem _ (List.mem_cons_self ..)
  ·rcases List.mem_cons.1 hz with rfl | hz
   ·exact List.mem_cons_self ..
   ·exact List.mem_cons_of_mem _ (List.mem_cons_of_mem _ hz))⟩
theorem ug {w0 w:World} {X:List Nat} {L:List Itm} {F:List Fact} {g:Nat} {y:aF} {Al:Option Addr} {nl cl:Nat} (h:ai w0 [] X w (.box g 68 #[.slice none 0 0]::L) F):
 Calls Tryz.prog 14 #[.pointer (some ⟨g,0,none⟩),.agg #[.int .i64 3,.string ⟨#[]⟩,.string ⟨#[]⟩,.int .i64 0,.string (sB y.name),.slice Al nl cl,.int .i64 y.val]] w (kI (bk [] none (.smp y)) w0 X L F g):=by
 rw[CJ]
 have HK0:=Lib.hid h
 clear h
 go_enter Tryz.func14,Tryz.ntmps14
 have HK1:Hid (ai w0 [] X (w.alloc (.cells #[.int .i64 3,.string ⟨#[]⟩,.string ⟨#[]⟩,.int .i64 0,.string (sB y.name),.slice Al nl cl,.int .i64 y.val] 75)) (.box (w.heap.size) 75 #[.int .i64 3,.string ⟨#[]⟩,.string ⟨#[]⟩,.int .i64 0,.string (sB y.name),.slice Al nl cl,.int .i64 y.val] :: .box (g) 68 #[.slice none 0 0]::L) (F)):=HK0.out.alloc_at 75 #[.int .i64 3,.string ⟨#[]⟩,.string ⟨#[]⟩,.int .i64 0,.string (sB y.name),.slice Al nl cl,.int .i64 y.val] (w.heap.size) (by simp)
 clear HK0
 have c_ln_0_2:(w.alloc (.cells #[.int .i64 3,.string ⟨#[]⟩,.string ⟨#[]⟩,.int .i64 0,.string (sB y.name),.slice Al nl cl,.int .i64 y.val] 75)).cell? ⟨w.heap.size,0,none⟩=some (.int .i64 3):=HK1.out.cell 0 rfl 0
 have c_ln_1_3:(w.alloc (.cells #[.int .i64 3,.string ⟨#[]⟩,.string ⟨#[]⟩,.int .i64 0,.string (sB y.name),.slice Al nl cl,.int .i64 y.val] 75)).cell? ⟨w.heap.size,1,none⟩=some (.string ⟨#[]⟩):=HK1.out.cell 0 rfl 1
 have c_ln_2_4:(w.alloc (.cells #[.int .i64 3,.string ⟨#[]⟩,.string ⟨#[]⟩,.int .i64 0,.string (sB y.name),.slice Al nl cl,.int .i64 y.val] 75)).cell? ⟨w.heap.size,2,none⟩=some (.string ⟨#[]⟩):=HK1.out.cell 0 rfl 2
 have c_ln_3_5:(w.alloc (.cells #[.int .i64 3,.string ⟨#[]⟩,.string ⟨#[]⟩,.int .i64 0,.string (sB y.name),.slice Al nl cl,.int .i64 y.val] 75)).cell? ⟨w.heap.size,3,none⟩=some (.int .i64 0):=HK1.out.cell 0 rfl 3
 have c_ln_4_6:(w.alloc (.cells #[.int .i64 3,.string ⟨#[]⟩,.string ⟨#[]⟩,.int .i64 0,.string (sB y.name),.slice Al nl cl,.int .i64 y.val] 75)).cell? ⟨w.heap.size,4,none⟩=some (.string (sB y.name)):=HK1.out.cell 0 rfl 4
 have c_ln_5_7:(w.alloc (.cells #[.int .i64 3,.string ⟨#[]⟩,.string ⟨#[]⟩,.int .i64 0,.string (sB y.name),.slice Al nl cl,.int .i64 y.val] 75)).cell? ⟨w.heap.size,5,none⟩=some (.slice Al nl cl):=HK1.out.cell 0 rfl 5
 have c_ln_6_8:(w.alloc (.cells #[.int .i64 3,.string ⟨#[]⟩,.string ⟨#[]⟩,.int .i64 0,.string (sB y.name),.slice Al nl cl,.int .i64 y.val] 75)).cell? ⟨w.heap.size,6,none⟩=some (.int .i64 y.val):=HK1.out.cell 0 rfl 6
 go_wp2_with fail
 clear c_ln_0_2 c_ln_1_3 c_ln_2_4 c_ln_3_5 c_ln_4_6 c_ln_5_7 c_ln_6_8
 generalize w.alloc (.cells #[.int .i64 3,.string ⟨#[]⟩,.string ⟨#[]⟩,.int .i64 0,.string (sB y.name),.slice Al nl cl,.int .i64 y.val] 75)=w1 at HK1 ⊢
 generalize w.heap.size=gl at HK1 ⊢
 refine(mM g w1 (HK1.out.cell 1 rfl 0)).mono ?_
 rintro e w2 ⟨rfl,rfl⟩
 go_wp2
 go_ret
 exact⟨rfl,HK1.out.drop (List.Sublist.cons _ (List.Sublist.cons _ (List.Sublist.refl _)))⟩
theorem yl {w0 W:World} {M X0:List Nat} {L:List Itm} {F:List Fact} (h:ai w0 M X0 W L F) (i:Nat) {e:TypeId} {size n g cap:Nat} {xs:List Value} (hi:L[i]?=some (.row e size (.slice (some ⟨g,0,none⟩) n cap) n xs)) (hn:0<n):
 (∀ (j:Nat) u,xs[j]?=some u→W.cell? ⟨g,j,none⟩=some u) ∧ ∀ j,W.frozen? ⟨g,j,none⟩=false:=by
 obtain⟨g',cap',he,h1,h2,h3,h4,h5⟩:=h.row_form i hi hn
 injection he with he1 he2 he3
 injection he1 with he1
 injection he1 with he1
 subst he1
 exact⟨h4,h5⟩
theorem rf {w0 w:World} {X:List Nat} {L:List Itm} {F:List Fact} {g:Nat} {done:List ax} {f:ax} {gf cap:Nat} {vs0:List Value} {A:Option Addr} {sc:Nat} {scs:List Value} (h:RdS w0 X L F g done f gf cap vs0 A sc scs w):Sl ak w X A f.smps.length sc f.smps:=by
 obtain⟨A',c',e1,h2⟩:=ai.done_row (s:=ak) h 2 rfl (ai.ra h 1 rfl) (by decide) (by simp)
 injection e1 with e1 e2 e3
 subst e1 e3
 exact(h2.sl 0 rfl).more (fun b _ hb=>List.mem_append_right _ hb)
set_option maxHeartbeats 8000000 in
theorem Dw {w0 w:World} {X:List Nat} {L:List Itm} {F:List Fact} {g:Nat} {y:aF} {Al:Option Addr} {nl cl:Nat} {done:List ax} {f:ax} {gf cap:Nat} {vs0:List Value} {A:Option Addr} {sc:Nat} {scs:List Value} (h:ai w0 [] X w (.box (g) 68 #[.slice (some ⟨gf,0,none⟩) (done.length+1) cap] :: .row 85 4 (.slice (some ⟨gf,0,none⟩) (done.length+1) cap) (done.length+1) (vs0 ++ [.string (sB f.name),.string (sB f.help),.int .i64 (f.type:Int),.slice A f.smps.length sc]) :: .row 73 3 (.slice A f.smps.length sc) (f.smps.length) (scs)::L) (Sl.fact aj Al nl cl y.labs::Ra.fact az vs0 done::Ra.fact ak scs f.smps::F)) (hf:gM done f) (hP:jT w0) (hi:lN y.val) (hn:y.name.length≤maxLen):
 Calls Tryz.prog 14 #[.pointer (some ⟨g,0,none⟩),.agg #[.int .i64 3,.string ⟨#[]⟩,.string ⟨#[]⟩,.int .i64 0,.string (sB y.name),.slice Al nl cl,.int .i64 y.val]] w (kI (bk done (some f) (.smp y)) w0 X L F g):=by
 obtain⟨R,hR⟩:∃ R,R=bk done (some f) (.smp y):=⟨_,rfl⟩
 rw[←hR]
 have HR:=Lib.hid (hR.trans (DF done f y))
 clear hR
 have HK0:Hid (ai w0 [] X w (.box (g) 68 #[.slice (some ⟨gf,0,none⟩) (done.length+1) cap] :: .row 85 4 (.slice (some ⟨gf,0,none⟩) (done.length+1) cap) (done.length+1) (vs0 ++ [.string (sB f.name),.string (sB f.help),.int .i64 (f.type:Int),.slice A f.smps.length sc]) :: .row 73 3 (.slice A f.smps.length sc) (f.smps.length) (scs)::L) (Sl.fact aj Al nl cl y.labs::Ra.fact az vs0 done::Ra.fact ak scs f.smps::F)):=h
 have HV:Hid (vs0.length=done.length*4):=(ai.ra h 1 rfl).length
 clear h
 have HF:=Lib.hid hf
 have hcnt:=hf.count
 have hsm:=hf.smps
 have HPB:=Lib.hid hP
 have HI:=Lib.hid hi
 have HNm:=Lib.hid hn
 clear hf hP hi hn
 go_enter Tryz.func14,Tryz.ntmps14
 have HK1:Hid (ai w0 [] X (w.alloc (.cells #[.int .i64 3,.string ⟨#[]⟩,.string ⟨#[]⟩,.int .i64 0,.string (sB y.name),.slice Al nl cl,.int .i64 y.val] 75)) (.box (w.heap.size) 75 #[.int .i64 3,.string ⟨#[]⟩,.string ⟨#[]⟩,.int .i64 0,.string (sB y.name),.slice Al nl cl,.int .i64 y.val] :: .box (g) 68 #[.slice (some ⟨gf,0,none⟩) (done.length+1) cap] :: .row 85 4 (.slice (some ⟨gf,0,none⟩) (done.length+1) cap) (done.length+1) (vs0 ++ [.string (sB f.name),.string (sB f.help),.int .i64 (f.type:Int),.slice A f.smps.length sc]) :: .row 73 3 (.slice A f.smps.length sc) (f.smps.length) (scs)::L) (Sl.fact aj Al nl cl y.labs::Ra.fact az vs0 done::Ra.fact ak scs f.smps::F)):=HK0.out.alloc_at 75 #[.int .i64 3,.string ⟨#[]⟩,.string ⟨#[]⟩,.int .i64 0,.string (sB y.name),.slice Al nl cl,.int .i64 y.val] (w.heap.size) (by simp)
 clear HK0
 have c_ln_0_2:(w.alloc (.cells #[.int .i64 3,.string ⟨#[]⟩,.string ⟨#[]⟩,.int .i64 0,.string (sB y.name),.slice Al nl cl,.int .i64 y.val] 75)).cell? ⟨w.heap.size,0,none⟩=some (.int .i64 3):=HK1.out.cell 0 rfl 0
 have c_ln_1_3:(w.alloc (.cells #[.int .i64 3,.string ⟨#[]⟩,.string ⟨#[]⟩,.int .i64 0,.string (sB y.name),.slice Al nl cl,.int .i64 y.val] 75)).cell? ⟨w.heap.size,1,none⟩=some (.string ⟨#[]⟩):=HK1.out.cell 0 rfl 1
 have c_ln_2_4:(w.alloc (.cells #[.int .i64 3,.string ⟨#[]⟩,.string ⟨#[]⟩,.int .i64 0,.string (sB y.name),.slice Al nl cl,.int .i64 y.val] 75)).cell? ⟨w.heap.size,2,none⟩=some (.string ⟨#[]⟩):=HK1.out.cell 0 rfl 2
 have c_ln_3_5:(w.alloc (.cells #[.int .i64 3,.string ⟨#[]⟩,.string ⟨#[]⟩,.int .i64 0,.string (sB y.name),.slice Al nl cl,.int .i64 y.val] 75)).cell? ⟨w.heap.size,3,none⟩=some (.int .i64 0):=HK1.out.cell 0 rfl 3
 have c_ln_4_6:(w.alloc (.cells #[.int .i64 3,.string ⟨#[]⟩,.string ⟨#[]⟩,.int .i64 0,.string (sB y.name),.slice Al nl cl,.int .i64 y.val] 75)).cell? ⟨w.heap.size,4,none⟩=some (.string (sB y.name)):=HK1.out.cell 0 rfl 4
 have c_ln_5_7:(w.alloc (.cells #[.int .i64 3,.string ⟨#[]⟩,.string ⟨#[]⟩,.int .i64 0,.string (sB y.name),.slice Al nl cl,.int .i64 y.val] 75)).cell? ⟨w.heap.size,5,none⟩=some (.slice Al nl cl):=HK1.out.cell 0 rfl 5
 have c_ln_6_8:(w.alloc (.cells #[.int .i64 3,.string ⟨#[]⟩,.string ⟨#[]⟩,.int .i64 0,.string (sB y.name),.slice Al nl cl,.int .i64 y.val] 75)).cell? ⟨w.heap.size,6,none⟩=some (.int .i64 y.val):=HK1.out.cell 0 rfl 6
 go_wp2_with fail
 clear c_ln_0_2 c_ln_1_3 c_ln_2_4 c_ln_3_5 c_ln_4_6 c_ln_5_7 c_ln_6_8
 generalize w.alloc (.cells #[.int .i64 3,.string ⟨#[]⟩,.string ⟨#[]⟩,.int .i64 0,.string (sB y.name),.slice Al nl cl,.int .i64 y.val] 75)=w1 at HK1 ⊢
 generalize w.heap.size=gl at HK1 ⊢
 refine(uP g gf done.length cap w1 (HK1.out.cell 1 rfl 0) (by omega)).mono ?_
 rintro e w2 ⟨rfl,m,rfl⟩
 have HK9:Hid (ai w0 [] X (w1.drewN m) (.box (gl) 75 #[.int .i64 3,.string ⟨#[]⟩,.string ⟨#[]⟩,.int .i64 0,.string (sB y.name),.slice Al nl cl,.int .i64 y.val] :: .box (g) 68 #[.slice (some ⟨gf,0,none⟩) (done.length+1) cap] :: .row 85 4 (.slice (some ⟨gf,0,none⟩) (done.length+1) cap) (done.length+1) (vs0 ++ [.string (sB f.name),.string (sB f.help),.int .i64 (f.type:Int),.slice A f.smps.length sc]) :: .row 73 3 (.slice A f.smps.length sc) (f.smps.length) (scs)::L) (Sl.fact aj Al nl cl y.labs::Ra.fact az vs0 done::Ra.fact ak scs f.smps::F)):=HK1.out.drewN m
 clear HK1
 generalize w1.drewN m=w2 at HK9 ⊢
 obtain⟨r1,r2,r3,r4,r5,r6,r7,r8⟩:=RdS.row (show RdS w0 X L F g done f gf cap vs0 A sc scs w2 from(HK9.out.drop (List.Sublist.cons _ (List.Sublist.refl _))).forget (List.Sublist.cons _ (List.Sublist.refl _)))
 have HS:Hid (ak=ak):=rfl
 obtain⟨n,hn⟩:∃ n,n=f.smps.length:=⟨_,rfl⟩
 have HN:=Lib.hid hn
 rw[←hn]at r7
 rw[←hn]at hsm
 clear hn r1 r2 r3 r4 r5 r8
 by_cases ht:f.type=0
 ·skip
  have b0:((f.type:Int) == 0)=true:=by rw[beq_iff_eq];omega
  have HRb:=Lib.hid (show R=none from by rw[HR.out,if_pos (.inl ht)])
  go_wp2
  go_ret
  rw[HRb.out]
  exact⟨rfl,(HK9.out.drop (List.Sublist.cons _ (List.Sublist.cons _ (List.Sublist.cons _ (List.Sublist.cons _ (List.Sublist.refl _)))))).forget (List.Sublist.cons _ (List.Sublist.cons _ (List.Sublist.cons _ (List.Sublist.refl _))))⟩
 have b0:((f.type:Int) == 0)=false:=by rw[beq_eq_false_iff_ne];omega
 by_cases h400:400≤n
 ·skip
  have b1:decide ((n:Int) ≥ 400)=true:=by simp;omega
  have HRb:=Lib.hid (show R=none from by rw[HR.out,if_pos (.inr (by rw[←HN.out];exact h400))])
  go_wp2
  go_ret
  rw[HRb.out]
  exact⟨rfl,(HK9.out.drop (List.Sublist.cons _ (List.Sublist.cons _ (List.Sublist.cons _ (List.Sublist.cons _ (List.Sublist.refl _)))))).forget (List.Sublist.cons _ (List.Sublist.cons _ (List.Sublist.cons _ (List.Sublist.refl _))))⟩
 have b1:decide ((n:Int) ≥ 400)=false:=by simp;omega
 have HR1:=Lib.hid (HR.out.trans (if_neg (fun h=>h.elim (fun h=>ht h) (fun h=>h400 (by rw[HN.out];exact h)))))
 clear HR
 go_wp2_with fail
 clear b0 b1 r6 r7
 cases hlab:aD y.labs with
 | false=>
   refine wp_region_noPanic ?_
   refine wp_region_held_drew (S:=fun W'=>ai w0 [] X W' (.box (gl) 75 #[.int .i64 3,.string ⟨#[]⟩,.string ⟨#[]⟩,.int .i64 0,.string (sB y.name),.slice Al nl cl,.int .i64 y.val] :: .box (g) 68 #[.slice (some ⟨gf,0,none⟩) (done.length+1) cap] :: .row 85 4 (.slice (some ⟨gf,0,none⟩) (done.length+1) cap) (done.length+1) (vs0 ++ [.string (sB f.name),.string (sB f.help),.int .i64 (f.type:Int),.slice A f.smps.length sc]) :: .row 73 3 (.slice A f.smps.length sc) (f.smps.length) (scs)::L) (Sl.fact aj Al nl cl y.labs::Ra.fact az vs0 done::Ra.fact ak scs f.smps::F)) (by kernel_rfl) HK9.out.drew (fun hHeld=>?_)
   refine tS 0 hHeld ?_
   refine tS 1 hHeld ?_
   refine tS 2 hHeld ?_ (hy:=by(intro W hSW;(try dsimp only at hSW);have q0:W.cell? ⟨gl,0,none⟩=some (.int .i64 3):=hSW.cell 0 rfl 0;have q1:W.cell? ⟨gl,1,none⟩=some (.string ⟨#[]⟩):=hSW.cell 0 rfl 1;have q2:W.cell? ⟨gl,2,none⟩=some (.string ⟨#[]⟩):=hSW.cell 0 rfl 2;have q3:W.cell? ⟨gl,3,none⟩=some (.int .i64 0):=hSW.cell 0 rfl 3;have q4:W.cell? ⟨gl,4,none⟩=some (.string (sB y.name)):=hSW.cell 0 rfl 4;have q5:W.cell? ⟨gl,5,none⟩=some (.slice Al nl cl):=hSW.cell 0 rfl 5;have q6:W.cell? ⟨gl,6,none⟩=some (.int .i64 y.val):=hSW.cell 0 rfl 6;go_simp;try with_reducible rfl))
   refine wpAnyH_ready (rs:=[3]) (by kernel_rfl) (by simp) ?_
   refine AllReadyH.cons rfl (fun K hK=>?_) AllReadyH.nil
   go_simp
   refine(iY Al nl cl _ y.labs _ (hHeld.sl 0 rfl) hHeld.xok').mono ?_
   rw[hlab]
   rintro e W ⟨rfl,hbW⟩
   refine hK.out _ _ (hHeld.on hbW) (fun hHeld=>?_)
   clear hK K
   try simp only[Act.put,sI,sZ,sS]
   refine tS 4 hHeld ?_
   refine tS 5 hHeld ?_
   refine tU 6 hHeld ?_
   refine tU 7 hHeld ?_
   refine tU 8 hHeld ?_
   refine tU 9 hHeld ?_
   refine tU 10 hHeld ?_
   refine tU 11 hHeld ?_
   refine tU 12 hHeld ?_
   refine tS 13 hHeld ?_
   refine wpAnyH_done (by kernel_rfl) ?_ _
   refine NoPanic.normal ?_
   have HKd:=Lib.hid hHeld
   clear hHeld HK9
   have HR:=HR1
   have HRb:=Lib.hid (show R=none from by rw[HR.out,if_pos (.inl hlab)])
   go_wp2
   go_ret
   rw[HRb.out]
   exact⟨rfl,(HKd.out.drop (List.Sublist.cons _ (List.Sublist.cons _ (List.Sublist.cons _ (List.Sublist.cons _ (List.Sublist.refl _)))))).forget (List.Sublist.cons _ (List.Sublist.cons _ (List.Sublist.cons _ (List.Sublist.refl _))))⟩
 | true=>
   cases hfol:bx f.name f.type f.smps y with
   | false=>
     refine wp_region_noPanic ?_
     refine wp_region_held_drew (S:=fun W'=>ai w0 [] X W' (.box (gl) 75 #[.int .i64 3,.string ⟨#[]⟩,.string ⟨#[]⟩,.int .i64 0,.string (sB y.name),.slice Al nl cl,.int .i64 y.val] :: .box (g) 68 #[.slice (some ⟨gf,0,none⟩) (done.length+1) cap] :: .row 85 4 (.slice (some ⟨gf,0,none⟩) (done.length+1) cap) (done.length+1) (vs0 ++ [.string (sB f.name),.string (sB f.help),.int .i64 (f.type:Int),.slice A f.smps.length sc]) :: .row 73 3 (.slice A f.smps.length sc) (f.smps.length) (scs)::L) (Sl.fact aj Al nl cl y.labs::Ra.fact az vs0 done::Ra.fact ak scs f.smps::F)) (by kernel_rfl) HK9.out.drew (fun hHeld=>?_)
     refine tS 0 hHeld ?_
     refine tS 1 hHeld ?_
     refine tS 2 hHeld ?_ (hy:=by(intro W hSW;(try dsimp only at hSW);have q0:W.cell? ⟨gl,0,none⟩=some (.int .i64 3):=hSW.cell 0 rfl 0;have q1:W.cell? ⟨gl,1,none⟩=some (.string ⟨#[]⟩):=hSW.cell 0 rfl 1;have q2:W.cell? ⟨gl,2,none⟩=some (.string ⟨#[]⟩):=hSW.cell 0 rfl 2;have q3:W.cell? ⟨gl,3,none⟩=some (.int .i64 0):=hSW.cell 0 rfl 3;have q4:W.cell? ⟨gl,4,none⟩=some (.string (sB y.name)):=hSW.cell 0 rfl 4;have q5:W.cell? ⟨gl,5,none⟩=some (.slice Al nl cl):=hSW.cell 0 rfl 5;have q6:W.cell? ⟨gl,6,none⟩=some (.int .i64 y.val):=hSW.cell 0 rfl 6;go_simp;try with_reducible rfl))
     refine wpAnyH_ready (rs:=[3]) (by kernel_rfl) (by simp) ?_
     refine AllReadyH.cons rfl (fun K hK=>?_) AllReadyH.nil
     go_simp
     refine(iY Al nl cl _ y.labs _ (hHeld.sl 0 rfl) hHeld.xok').mono ?_
     rw[hlab]
     rintro e W ⟨rfl,hbW⟩
     refine hK.out _ _ (hHeld.on hbW) (fun hHeld=>?_)
     clear hK K
     try simp only[Act.put,sI,sZ,sS]
     refine tS 4 hHeld ?_
     refine tS 5 hHeld ?_
     refine tS 6 hHeld ?_
     refine tS 7 hHeld ?_
     refine tS 8 hHeld ?_ (hy:=by(intro W hSW;(try dsimp only at hSW);obtain⟨-,-,-,q0,q1,q2,q3,-⟩:=RdS.row (show RdS w0 X L F g done f gf cap vs0 A sc scs W from(hSW.drop (List.Sublist.cons _ (List.Sublist.refl _))).forget (List.Sublist.cons _ (List.Sublist.refl _)));go_simp;try with_reducible rfl))
     refine tS 9 hHeld ?_
     refine tS 10 hHeld ?_ (hy:=by(intro W hSW;(try dsimp only at hSW);have q4:W.cell? ⟨gl,4,none⟩=some (.string (sB y.name)):=hSW.cell 0 rfl 4;have q5:W.cell? ⟨gl,5,none⟩=some (.slice Al nl cl):=hSW.cell 0 rfl 5;have q6:W.cell? ⟨gl,6,none⟩=some (.int .i64 y.val):=hSW.cell 0 rfl 6;go_simp;try with_reducible rfl))
     refine wpAnyH_ready (rs:=[11]) (by kernel_rfl) (by simp) ?_
     refine AllReadyH.cons rfl (fun K hK=>?_) AllReadyH.nil
     go_simp
     have hsl:=rf (show RdS w0 X L F g done f gf cap vs0 A sc scs _ from(hHeld.drop (List.Sublist.cons _ (List.Sublist.refl _))).forget (List.Sublist.cons _ (List.Sublist.refl _)))
     have hll:=hHeld.sl 0 rfl
     refine(tK A f.smps.length sc f.type X f.smps f.name f.help y Al nl cl _ hsl (hll.more (fun b _ hb=>List.mem_append_right _ hb)) (fun b hb=>hHeld.xok' b (List.mem_append_right _ hb)) (HPB.out.on hHeld.below) (by have:=HN.out;omega) (by have:=HF.out.name;omega) HF.out.firsts).mono ?_
     rw[hfol]
     rintro e W2 ⟨rfl,hbW2⟩
     refine hK.out _ _ (hHeld.on hbW2) (fun hHeld=>?_)
     clear hK K
     try simp only[Act.put,sI,sZ,sS]
     refine tS 12 hHeld ?_
     refine tS 13 hHeld ?_
     refine wpAnyH_done (by kernel_rfl) ?_ _
     refine NoPanic.normal ?_
     have HKd:=Lib.hid hHeld
     clear hHeld HK9
     have HR:=HR1
     have HRb:=Lib.hid (show R=none from by rw[HR.out,if_pos (.inr hfol)])
     go_wp2
     go_ret
     rw[HRb.out]
     exact⟨rfl,(HKd.out.drop (List.Sublist.cons _ (List.Sublist.cons _ (List.Sublist.cons _ (List.Sublist.cons _ (List.Sublist.refl _)))))).forget (List.Sublist.cons _ (List.Sublist.cons _ (List.Sublist.cons _ (List.Sublist.refl _))))⟩
   | true=>
     have HRb:=Lib.hid (show R=some (done,{ f with smps:=f.smps ++ [y] }) from by rw[HR1.out,if_neg (by rw[hlab,hfol];simp)])
     refine wp_region_noPanic ?_
     refine wp_region_held_drew (S:=fun W'=>ai w0 [] X W' (.box (gl) 75 #[.int .i64 3,.string ⟨#[]⟩,.string ⟨#[]⟩,.int .i64 0,.string (sB y.name),.slice Al nl cl,.int .i64 y.val] :: .box (g) 68 #[.slice (some ⟨gf,0,none⟩) (done.length+1) cap] :: .row 85 4 (.slice (some ⟨gf,0,none⟩) (done.length+1) cap) (done.length+1) (vs0 ++ [.string (sB f.name),.string (sB f.help),.int .i64 (f.type:Int),.slice A f.smps.length sc]) :: .row 73 3 (.slice A f.smps.length sc) (f.smps.length) (scs)::L) (Sl.fact aj Al nl cl y.labs::Ra.fact az vs0 done::Ra.fact ak scs f.smps::F)) (by kernel_rfl) HK9.out.drew (fun hHeld=>?_)
     refine tS 0 hHeld ?_
     refine tS 1 hHeld ?_
     refine tS 2 hHeld ?_ (hy:=by(intro W hSW;(try dsimp only at hSW);have q0:W.cell? ⟨gl,0,none⟩=some (.int .i64 3):=hSW.cell 0 rfl 0;have q1:W.cell? ⟨gl,1,none⟩=some (.string ⟨#[]⟩):=hSW.cell 0 rfl 1;have q2:W.cell? ⟨gl,2,none⟩=some (.string ⟨#[]⟩):=hSW.cell 0 rfl 2;have q3:W.cell? ⟨gl,3,none⟩=some (.int .i64 0):=hSW.cell 0 rfl 3;have q4:W.cell? ⟨gl,4,none⟩=some (.string (sB y.name)):=hSW.cell 0 rfl 4;have q5:W.cell? ⟨gl,5,none⟩=some (.slice Al nl cl):=hSW.cell 0 rfl 5;have q6:W.cell? ⟨gl,6,none⟩=some (.int .i64 y.val):=hSW.cell 0 rfl 6;go_simp;try with_reducible rfl))
     refine wpAnyH_ready (rs:=[3]) (by kernel_rfl) (by simp) ?_
     refine AllReadyH.cons rfl (fun K hK=>?_) AllReadyH.nil
     go_simp
     refine(iY Al nl cl _ y.labs _ (hHeld.sl 0 rfl) hHeld.xok').mono ?_
     rw[hlab]
     rintro e W ⟨rfl,hbW⟩
     refine hK.out _ _ (hHeld.on hbW) (fun hHeld=>?_)
     clear hK K
     try simp only[Act.put,sI,sZ,sS]
     refine tS 4 hHeld ?_
     refine tS 5 hHeld ?_
     refine tS 6 hHeld ?_
     refine tS 7 hHeld ?_
     refine tS 8 hHeld ?_ (hy:=by(intro W hSW;(try dsimp only at hSW);obtain⟨-,-,-,q0,q1,q2,q3,-⟩:=RdS.row (show RdS w0 X L F g done f gf cap vs0 A sc scs W from(hSW.drop (List.Sublist.cons _ (List.Sublist.refl _))).forget (List.Sublist.cons _ (List.Sublist.refl _)));go_simp;try with_reducible rfl))
     refine tS 9 hHeld ?_
     refine tS 10 hHeld ?_ (hy:=by(intro W hSW;(try dsimp only at hSW);have q4:W.cell? ⟨gl,4,none⟩=some (.string (sB y.name)):=hSW.cell 0 rfl 4;have q5:W.cell? ⟨gl,5,none⟩=some (.slice Al nl cl):=hSW.cell 0 rfl 5;have q6:W.cell? ⟨gl,6,none⟩=some (.int .i64 y.val):=hSW.cell 0 rfl 6;go_simp;try with_reducible rfl))
     refine wpAnyH_ready (rs:=[11]) (by kernel_rfl) (by simp) ?_
     refine AllReadyH.cons rfl (fun K hK=>?_) AllReadyH.nil
     go_simp
     have hsl:=rf (show RdS w0 X L F g done f gf cap vs0 A sc scs _ from(hHeld.drop (List.Sublist.cons _ (List.Sublist.refl _))).forget (List.Sublist.cons _ (List.Sublist.refl _)))
     have hll:=hHeld.sl 0 rfl
     refine(tK A f.smps.length sc f.type X f.smps f.name f.help y Al nl cl _ hsl (hll.more (fun b _ hb=>List.mem_append_right _ hb)) (fun b hb=>hHeld.xok' b (List.mem_append_right _ hb)) (HPB.out.on hHeld.below) (by have:=HN.out;omega) (by have:=HF.out.name;omega) HF.out.firsts).mono ?_
     rw[hfol]
     rintro e W2 ⟨rfl,hbW2⟩
     refine hK.out _ _ (hHeld.on hbW2) (fun hHeld=>?_)
     clear hK K
     try simp only[Act.put,sI,sZ,sS]
     refine tS 12 hHeld ?_
     refine tS 13 hHeld ?_
     refine wpAnyH_done (by kernel_rfl) ?_ _
     refine NoPanic.normal ?_
     have HKd:=Lib.hid hHeld
     clear hHeld HK9
     have hsm2:f.smps.length≤400:=by rw[←HN.out];exact hsm
     go_wp2_with fail
     refine wp_region_noPanic ?_
     refine wp_region_held_drew (S:=fun W'=>Blk W' (gl) 75 #[.int .i64 3,.string ⟨#[]⟩,.string ⟨#[]⟩,.int .i64 0,.string (sB y.name),.slice Al nl cl,.int .i64 y.val]) (by kernel_rfl) (HKd.out.blk 0 rfl).drew (fun hHeld=>?_)
     have HK10:Hid (ai w0 [] X W2.drew (.box (gl) 75 #[.int .i64 3,.string ⟨#[]⟩,.string ⟨#[]⟩,.int .i64 0,.string (sB y.name),.slice Al nl cl,.int .i64 y.val] :: .box (g) 68 #[.slice (some ⟨gf,0,none⟩) (done.length+1) cap] :: .row 85 4 (.slice (some ⟨gf,0,none⟩) (done.length+1) cap) (done.length+1) (vs0 ++ [.string (sB f.name),.string (sB f.help),.int .i64 (f.type:Int),.slice A f.smps.length sc]) :: .row 73 3 (.slice A f.smps.length sc) (f.smps.length) (scs)::L) (Sl.fact aj Al nl cl y.labs::Ra.fact az vs0 done::Ra.fact ak scs f.smps::F)):=HKd.out.drew
     clear HKd
     generalize W2.drew=wd at hHeld HK10 ⊢
     obtain⟨q1,q2⟩:=yl HK10.out 2 rfl (Nat.succ_pos _)
     have r7:wd.cell? ⟨gf,done.length*4+3,none⟩=some (.slice A f.smps.length sc):=q1 _ _ (by rw[List.getElem?_append_right (by rw[HV.out];omega),HV.out,Nat.add_sub_cancel_left];rfl)
     clear q1 q2
     have hglf:gf<wd.heap.size:=World.block_lt_of_cell? wd ⟨gf,done.length*4+3,none⟩ r7
     refine tS 0 hHeld ?_
     refine tS 1 hHeld ?_
     refine tS 2 hHeld ?_
     refine tS 3 hHeld ?_
     refine tS 5 hHeld ?_
     refine tS 6 hHeld ?_ (hy:=by(intro W hSW;(try dsimp only at hSW);have q0:W.cell? ⟨gl,0,none⟩=some (.int .i64 3):=hSW.cell 0;have q1:W.cell? ⟨gl,1,none⟩=some (.string ⟨#[]⟩):=hSW.cell 1;have q2:W.cell? ⟨gl,2,none⟩=some (.string ⟨#[]⟩):=hSW.cell 2;have q3:W.cell? ⟨gl,3,none⟩=some (.int .i64 0):=hSW.cell 3;have q4:W.cell? ⟨gl,4,none⟩=some (.string (sB y.name)):=hSW.cell 4;have q5:W.cell? ⟨gl,5,none⟩=some (.slice Al nl cl):=hSW.cell 5;have q6:W.cell? ⟨gl,6,none⟩=some (.int .i64 y.val):=hSW.cell 6;go_simp;try with_reducible rfl))
     refine mL (G:=?G) ?main ?key
     case main=>
      intro hkey
      refine wpAnyH_ready (rs:=[4,7]) (by kernel_rfl) (by simp) ?_
      refine AllReadyH.cons rfl (fun K hK=>?_) (AllReadyH.cons rfl (fun K hK=>?_) AllReadyH.nil)
      ·go_simp
       refine hK.out _ _ hHeld (fun hHeld=>?_)
       clear hK K
       try simp only[Act.put,sI,sZ,sS]
       refine wpAnyH_ready (rs:=[7]) (by kernel_rfl) (by simp) ?_
       refine AllReadyH.cons rfl (fun K hK=>?_) AllReadyH.nil
       go_simp
       refine hK.out _ _ (hHeld.alloc (.cells #[.string (sB y.name),.slice Al nl cl,.int .i64 y.val] 73)) (fun hHeld=>?_)
       clear hK K
       try simp only[Act.put,sI,sZ,sS]
       clear hHeld
       exact hkey.out
      ·go_simp
       refine hK.out _ _ (hHeld.alloc (.cells #[.string (sB y.name),.slice Al nl cl,.int .i64 y.val] 73)) (fun hHeld=>?_)
       clear hK K
       try simp only[Act.put,sI,sZ,sS]
       have c8:(wd.alloc (.cells #[.string (sB y.name),.slice Al nl cl,.int .i64 y.val] 73)).cell? ⟨gf,done.length*4+3,none⟩=some (.slice A f.smps.length sc):=(World.cell?_alloc_lt _ _ _ hglf).trans r7
       refine wpAnyH_ready (rs:=[4]) (by kernel_rfl) (by simp) ?_
       refine AllReadyH.cons rfl (fun K hK=>?_) AllReadyH.nil
       go_simp
       refine hK.out _ _ hHeld (fun hHeld=>?_)
       clear hK K
       try simp only[Act.put,sI,sZ,sS]
       clear hHeld
       exact hkey.out
     case key=>
      clear r7 hglf
      replace hHeld:=(hHeld.alloc (.cells #[.string (sB y.name),.slice Al nl cl,.int .i64 y.val] 73))
      refine wpAnyH_ready (rs:=[8]) (by kernel_rfl) (by simp) ?_
      refine AllReadyH.cons rfl (fun K hK=>?_) AllReadyH.nil
      refine dI HK10.out 3 rfl (.tmp 78) (.tmp 81) 83 rfl Eh rfl rfl rfl (cs:=#[.string (sB y.name),.slice Al nl cl,.int .i64 y.val]) rfl (by simp[Value.oneCell']) (by unfold maxLen;omega) (by omega) ?_
      intro v2 w4 hk4
      have HK11:Hid (ai w0 [] X w4 (.box (gl) 75 #[.int .i64 3,.string ⟨#[]⟩,.string ⟨#[]⟩,.int .i64 0,.string (sB y.name),.slice Al nl cl,.int .i64 y.val] :: .box (g) 68 #[.slice (some ⟨gf,0,none⟩) (done.length+1) cap] :: .row 85 4 (.slice (some ⟨gf,0,none⟩) (done.length+1) cap) (done.length+1) (vs0 ++ [.string (sB f.name),.string (sB f.help),.int .i64 (f.type:Int),.slice A f.smps.length sc]) :: .row 73 3 (v2) (f.smps.length+1) (scs++#[.string (sB y.name),.slice Al nl cl,.int .i64 y.val].toList)::L) (Sl.fact aj Al nl cl y.labs::Ra.fact az vs0 done::Ra.fact ak scs f.smps::F)):=hk4
      clear HK10
      clear hk4
      refine hK.out _ _ (HK11.out.blk 0 rfl) (fun hHeld=>?_)
      clear hK K
      try simp only[Act.put,sI,sZ,sS]
      refine tS 9 hHeld ?_
      refine tS 10 hHeld ?_
      obtain⟨gs2,cap2,rfl⟩:=pG HK11.out (i:=3) rfl (by omega)
      obtain⟨q1,q2⟩:=yl HK11.out 2 rfl (Nat.succ_pos _)
      have r7:w4.cell? ⟨gf,done.length*4+3,none⟩=some (.slice A f.smps.length sc):=q1 _ _ (by rw[List.getElem?_append_right (by rw[HV.out];omega),HV.out,Nat.add_sub_cancel_left];rfl)
      have r8:=q2 (done.length*4+3)
      clear q1 q2
      have hngf:¬ gl=gf:=fun e=>HK11.out.apart_ (i:=0) (j:=2) (by decide) rfl rfl gl rfl (by rw[e];rfl)
      refine wpAnyH_ready (rs:=[11]) (by kernel_rfl) (by simp) ?_
      refine AllReadyH.cons rfl (fun K hK=>?_) AllReadyH.nil
      go_simp
      refine hK.out _ _ (hHeld.far (p:=⟨gf,done.length*4+3,none⟩) hngf (.slice (some ⟨gs2,0,none⟩) (f.smps.length+1) cap2)) (fun hHeld=>?_)
      clear hK K
      try simp only[Act.put,sI,sZ,sS]
      refine wpAnyH_done (by kernel_rfl) ?_ _
      refine NoPanic.normal ?_
      clear hHeld r7 r8 hngf
      have h1:=(HK11.out.drop (List.Sublist.cons _ (List.Sublist.refl _))).row_set 1 rfl (done.length*4+3) (.slice (some ⟨gs2,0,none⟩) (f.smps.length+1) cap2)
      simp only[List.set_cons_zero,List.set_cons_succ]at h1
      rw[AG HV.out]at h1
      have H1:=Lib.hid h1
      clear h1 HK11
      go_wp2
      go_ret
      rw[HRb.out]
      exact⟨rfl,⟨gf,cap,vs0,_,cap2,_,RdS.of_sample H1.out HI.out HNm.out⟩,HF.out.more ht (by rw[←HN.out];exact h400) hfol⟩
end
section
open Go.Lib
def dm:List UInt8→Nat→Nat→Nat→Nat→Nat×Nat
 | [],lines,_,_,longest=>(lines,longest)
 | c::r,lines,fr,i,longest=>if c=10 then dm r (lines+1) (i+1) (i+1) (max longest (i+1-(i+1))) else dm r lines fr (i+1) (max longest (i+1-fr))
theorem nq:∀ (r:List UInt8) (lines fr i longest:Nat),lines≤(dm r lines fr i longest).1∧longest≤(dm r lines fr i longest).2
 | [],_,_,_,_=>⟨Nat.le_refl _,Nat.le_refl _⟩
 | c::r,lines,fr,i,longest=>by
   unfold dm
   split
   ·have:=nq r (lines+1) (i+1) (i+1) (max longest (i+1-(i+1)))
    omega
   ·have:=nq r lines fr (i+1) (max longest (i+1-fr))
    omega
theorem lJ:∀ (t r:List UInt8) (lines fr i longest:Nat),(∀ x ∈ t,x≠10)→fr≤i→i-fr≤longest → ∃ m,dm (t++r) lines fr i longest=dm r lines fr (i+t.length) m∧i+t.length-fr≤m
 | [],r,lines,fr,i,longest,_,_,h=>⟨longest,rfl,h⟩
 | c::t,r,lines,fr,i,longest,hn,hf,h=>by
   have hc:¬ c=10:=hn c (.head _)
   obtain⟨m,h1,h2⟩:=lJ t r lines fr (i+1) (max longest (i+1-fr)) (fun x hx=>hn x (.tail _ hx)) (by omega) (by omega)
   refine⟨m,?_,by rw[List.length_cons];omega⟩
   show(if c=10 then _ else dm (t++r) lines fr (i+1) (max longest (i+1-fr)))=_
   rw[if_neg hc,h1,List.length_cons,show i+1+t.length=i+(t.length+1) from by omega]
theorem pe (s:List UInt8):(∀ x ∈ (bq s).1,x≠10)∧(if(bq s).2.2 then s=(bq s).1++10::(bq s).2.1 else s=(bq s).1):=by
 unfold bq
 simp only
 constructor
 ·intro x hx
  have:=List.all_takeWhile (p:=(· != 10)) (l:=s)
  rw[List.all_eq_true]at this
  simpa using this x hx
 ·induction s with
  | nil=>simp
  | cons c r ih=>
    by_cases h:c=10
    ·subst h
     simp
    ·rw[List.takeWhile_cons_of_pos (by simpa using h),List.dropWhile_cons_of_pos (by simpa using h)]
     have e:decide ((10:UInt8) ∈ c::r)=decide ((10:UInt8) ∈ r):=by
      apply decide_eq_decide.2
      simp[Ne.symm h]
     rw[e]
     split
     ·rename_i hd
      rw[if_pos hd]at ih
      rw[List.cons_append,←ih]
     ·rename_i hd
      rw[if_neg hd]at ih
      rw[←ih]
def ES.good (u s:List UInt8) (lines longest:Nat):ES→Prop
 | .ok l=>cx l=u++s∧allM l=true∧vX l=true
 | .bad line col=>1≤line∧line≤lines∧col≤longest+1
theorem ua.fin {u:List UInt8} {done:List ax} {cur:Option ax} (h:ua u done cur) (hw:gX cur=true):cx (done++cur.toList)=u∧allM (done++cur.toList)=true∧vX (done++cur.toList)=true:=by
 have hall:∀ f ∈ done++cur.toList,ia f∧f.type≠0∧cK f=true:=by
  intro f hf
  rcases List.mem_append.1 hf with hf | hf
  ·exact h.dn f hf
  ·have e:cur=some f:=by simpa using hf
   subst e
   obtain⟨h1,h2,_⟩:=h.lst f rfl
   refine⟨h1,fun e=>?_,hw⟩
   have hw:cK f=true:=hw
   unfold cK at hw
   rw[h2 e]at hw
   simp at hw
 refine⟨?_,?_,?_⟩
 ·rw[←h.text]
  cases cur with
  | none=>simp[zC]
  | some f=>
    have:=(hall f (by simp)).2.1
    simp[zC,this,cx]
 ·unfold allM
  rw[decide_eq_true h.many,h.asc,Bool.true_and,Bool.and_true,List.all_eq_true]
  exact fun f hf=>Bk (hall f hf).1 (hall f hf).2.1 (hall f hf).2.2
 ·unfold vX
  rw[decide_eq_true h.many,h.asc,Bool.true_and,Bool.and_true,List.all_eq_true]
  exact fun f hf=>yX (hall f hf).1 (hall f hf).2.1 (hall f hf).2.2
theorem mP:∀ (f:Nat) (s u:List UInt8) (n:Nat) (done:List ax) (cur:Option ax) (i longest:Nat),s.length<f→ua u done cur →
 (dy f s n done cur).good u s (dm s (n+1) i i longest).1 (dm s (n+1) i i longest).2
 | 0,_,_,_,_,_,_,_,h,_=>absurd h (by omega)
 | f+1,[],u,n,done,cur,i,longest,hf,h=>by
   unfold dy
   simp only
   split
   ·rename_i hw
    have:=h.fin hw
    exact⟨by simpa using this.1,this.2⟩
   ·exact⟨by omega,Nat.le_refl _,Nat.zero_le _⟩
 | f+1,c::r,u,n,done,cur,i,longest,hf,h=>by
   generalize hs:c::r=s at hf ⊢
   obtain⟨hc1,hc2⟩:=pe s
   have hge:=nq s (n+1) i i longest
   have hline:(bq s).1.length≤(dm s (n+1) i i longest).2:=by
    have key:∀ r',s=(bq s).1++r'→(bq s).1.length≤(dm s (n+1) i i longest).2:=fun r' e=>by
     obtain⟨m,h1,h2⟩:=lJ (bq s).1 r' (n+1) i i longest hc1 (Nat.le_refl _) (by omega)
     rw[←e]at h1
     rw[h1]
     have:=(nq r' (n+1) i (i+(bq s).1.length) m).2
     omega
    split at hc2
    ·exact key _ hc2
    ·exact key [] (by simpa using hc2)
   have hrd:=vK hc1 (bq s).2.2
   have e0:dy (f+1) s n done cur=match jb (bq s).1 (bq s).2.2 with
    | .bad c=>.bad (n+1) c
    | .ok l _=>match bk done cur l with
      | none=>.bad (n+1) 0
      | some (d,c)=>dy f (bq s).2.1 (n+1) d (some c):=by subst hs;rfl
   rw[e0]
   cases hr:jb (bq s).1 (bq s).2.2 with
   | bad c=>
     rw[hr]at hrd
     have hrd:1≤c∧c≤(bq s).1.length+1:=hrd
     exact⟨by omega,hge.1,by omega⟩
   | ok l j=>
     rw[hr]at hrd
     obtain⟨h1,h2,h3⟩:=hrd
     rw[h3,if_pos rfl]at hc2
     simp only
     cases ht:bk done cur l with
     | none=>exact⟨by omega,hge.1,Nat.zero_le _⟩
     | some dc=>
       obtain⟨d,c'⟩:=dc
       simp only
       have hinv:=h.take h2 ht
       rw[h1]at hinv
       obtain⟨m,g1,g2⟩:=lJ (bq s).1 (10::(bq s).2.1) (n+1) i i longest hc1 (Nat.le_refl _) (by omega)
       rw[←hc2]at g1
       have g3:dm s (n+1) i i longest=dm (bq s).2.1 (n+1+1) (i+(bq s).1.length+1) (i+(bq s).1.length+1) (max m (i+(bq s).1.length+1-(i+(bq s).1.length+1))):=by
        rw[g1]
        show(if(10:UInt8)=10 then _ else _)=_
        rw[if_pos rfl]
       have hlen:(bq s).2.1.length<f:=by
        have:=congrArg List.length hc2
        rw[List.length_append,List.length_cons]at this
        omega
       have ih:=mP f (bq s).2.1 _ (n+1) d (some c') (i+(bq s).1.length+1) (max m (i+(bq s).1.length+1-(i+(bq s).1.length+1))) hlen hinv
       rw[g3]
       have e:u++((bq s).1 ++ [10])++(bq s).2.1=u++s:=by
        conv=>rhs;rw[hc2]
        simp
       revert ih
       generalize dy f (bq s).2.1 (n+1) d (some c')=R
       intro ih
       cases R with
       | ok l'=>exact⟨ih.1.trans e,ih.2⟩
       | bad line col=>exact ih
theorem pI (s:List UInt8):(jS s).good [] s (dm s 1 0 0 0).1 (dm s 1 0 0 0).2:=
 mP (s.length+1) s [] 0 [] none 0 0 (Nat.lt_succ_self _) ⟨rfl,by simp,rfl,by simp,fun _=>rfl,fun f e=>by cases e⟩
end
section
open Go.RowKit
def PSt (done:List ax) (cur:Option ax) (w0:World) (X:List Nat) (L:List Itm) (F:List Fact) (g:Nat) (w:World):Prop:=match cur with
 | none=>done = []∧ai w0 [] X w (.box g 68 #[.slice none 0 0]::L) F
 | some f=>(∃ gf cap vs0 A sc scs,RdS w0 X L F g done f gf cap vs0 A sc scs w)∧gM done f
def ER (Fs:List Fact) (done:List ax) (cur:Option ax) (w0:World) (X:List Nat) (L:List Itm) (F:List Fact) (g:Nat) (w:World):Prop:=match cur with
 | none=>done = []∧ai w0 [] X w (.box g 68 #[.slice none 0 0]::L) (Fs++F)
 | some f=>(∃ gf cap vs0 A sc scs,ai w0 [] X w (.box g 68 #[.slice (some ⟨gf,0,none⟩) (done.length+1) cap] :: .row 85 4 (.slice (some ⟨gf,0,none⟩) (done.length+1) cap) (done.length+1) (vs0 ++ [.string (sB f.name),.string (sB f.help),.int .i64 (f.type:Int),.slice A f.smps.length sc]) :: .row 73 3 (.slice A f.smps.length sc) f.smps.length scs::L) (Fs++(Ra.fact az vs0 done::Ra.fact ak scs f.smps::F)))∧gM done f
theorem PSt.drewN {done:List ax} {cur:Option ax} {w0 w:World} {X:List Nat} {L:List Itm} {F:List Fact} {g:Nat} (h:PSt done cur w0 X L F g w) (n:Nat):PSt done cur w0 X L F g (w.drewN n):=by
 cases cur with
 | none=>exact⟨h.1,h.2.drewN n⟩
 | some f=>
   obtain⟨⟨gf,cap,vs0,A,sc,scs,h1⟩,h2⟩:=h
   exact⟨⟨gf,cap,vs0,A,sc,scs,h1.drewN n⟩,h2⟩
theorem PSt.of_take {done:List ax} {cur:Option ax} {ln:PLn} {w0 w:World} {X:List Nat} {L:List Itm} {F:List Fact} {g:Nat} {e:Ending} (h:kI (bk done cur ln) w0 X L F g e w):
 (bk done cur ln=none∧e = .returned (.bool false)∧ai w0 [] X w L F)∨(∃ d c,bk done cur ln=some (d,c)∧e = .returned (.bool true)∧PSt d (some c) w0 X L F g w):=by
 cases hr:bk done cur ln with
 | none=>rw[hr]at h;exact .inl ⟨rfl,h.1,h.2⟩
 | some p=>
   rw[hr]at h
   obtain⟨d,c⟩:=p
   exact .inr ⟨d,c,rfl,h.1,h.2.1,h.2.2⟩
def kOk:PLn→Prop
 | .kind _ k=>k≤3
 | _=>True
theorem EI {done:List ax} {cur:Option ax} {ln:PLn} {v:Value} {Fs:List Fact} {w0 w:World} {X:List Nat} {L:List Itm} {F:List Fact} {g:Nat} (hl:LnP ln v Fs) (hk:kOk ln) (hP:jT w0) (h:ER Fs done cur w0 X L F g w):
 Calls Tryz.prog 14 #[.pointer (some ⟨g,0,none⟩),v] w (kI (bk done cur ln) w0 X L F g):=by
 cases ln with
 | help nm x=>
   obtain⟨rfl,rfl,h1,h2⟩:=hl
   cases cur with
   | none=>obtain⟨rfl,h⟩:=h;exact rW h h1 h2
   | some f=>obtain⟨⟨gf,cap,vs0,A,sc,scs,h3⟩,h4⟩:=h;exact BQ h3 h4 h1 h2
 | kind nm k=>
   obtain⟨rfl,rfl,h1⟩:=hl
   cases cur with
   | none=>obtain⟨rfl,h⟩:=h;exact rV h
   | some f=>obtain⟨⟨gf,cap,vs0,A,sc,scs,h3⟩,h4⟩:=h;exact BL h3 h4 hk
 | smp x=>
   obtain⟨A,n,c,rfl,rfl,h1,h2⟩:=hl
   cases cur with
   | none=>obtain⟨rfl,h⟩:=h;exact ug (h.forget (List.sublist_append_right _ F))
   | some f=>obtain⟨⟨gf,cap,vs0,A,sc,scs,h3⟩,h4⟩:=h;exact Dw h3 h4 hP h1 (by unfold maxLen;omega)
theorem Br {done:List ax} {cur:Option ax} {w0 w:World} {X:List Nat} {L:List Itm} {F:List Fact} {g:Nat} (h:PSt done cur w0 X L F g w):
 Calls Tryz.prog 15 #[.pointer (some ⟨g,0,none⟩)] w fun e w'=>e = .returned (.bool (gX cur)) ∧ ∃ n,w'=w.drewN n:=by
 cases cur with
 | none=>
   refine(sF h.2).mono ?_
   rintro e w' ⟨rfl,rfl⟩
   exact⟨rfl,0,rfl⟩
 | some f=>
   obtain⟨⟨gf,cap,vs0,A,sc,scs,h1⟩,h2⟩:=h
   exact AT h1 h2
def LG (r:Rd PLn) (done:List ax) (cur:Option ax) (w0:World) (X:List Nat) (L:List Itm) (F:List Fact) (g:Nat) (e:Ending) (w':World):Prop:=match r with
 | .ok ln _ => ∃ v Fs,LnP ln v Fs∧e = .returned (.tuple #[v,.int .i64 0])∧ER Fs done cur w0 X L F g w'
 | .bad c=>e = .returned (.tuple #[.agg lp,.int .i64 (c:Int)])∧PSt done cur w0 X L F g w'
theorem Di {done:List ax} {cur:Option ax} {w0 w:World} {X:List Nat} {L:List Itm} {F:List Fact} {g:Nat} {s:ByteArray} (b:Bool) (h:PSt done cur w0 X L F g w) (hs:s.size≤20000):
 Calls Tryz.prog 13 #[.string s,.bool b] w (LG (jb s.data.toList b) done cur w0 X L F g):=by
 cases cur with
 | none=>
   refine(Ea b h.2 hs).mono ?_
   intro e w' hp
   cases hr:jb s.data.toList b with
   | bad c=>rw[hr]at hp;exact⟨hp.1,h.1,hp.2⟩
   | ok ln i=>rw[hr]at hp;obtain⟨v,Fs,h1,h2,h3⟩:=hp;exact⟨v,Fs,h1,h2,h.1,h3⟩
 | some f=>
   obtain⟨⟨gf,cap,vs0,A,sc,scs,h1⟩,h2⟩:=h
   refine(Ea b h1 hs).mono ?_
   intro e w' hp
   cases hr:jb s.data.toList b with
   | bad c=>rw[hr]at hp;exact⟨hp.1,⟨gf,cap,vs0,A,sc,scs,hp.2⟩,h2⟩
   | ok ln i=>rw[hr]at hp;obtain⟨v,Fs,h3,h4,h5⟩:=hp;exact⟨v,Fs,h3,h4,⟨gf,cap,vs0,A,sc,scs,h5⟩,h2⟩
theorem ER.alloc {Fs:List Fact} {done:List ax} {cur:Option ax} {w0 w:World} {X:List Nat} {L:List Itm} {F:List Fact} {g:Nat} (h:ER Fs done cur w0 X L F g w) (o:Obj):ER Fs done cur w0 X L F g (w.alloc o):=by
 cases cur with
 | none=>exact⟨h.1,h.2.alloc_off o⟩
 | some f=>
   obtain⟨⟨gf,cap,vs0,A,sc,scs,h1⟩,h2⟩:=h
   exact⟨⟨gf,cap,vs0,A,sc,scs,h1.alloc_off o⟩,h2⟩
theorem PSt.rest {done:List ax} {cur:Option ax} {w0 w:World} {X:List Nat} {L:List Itm} {F:List Fact} {g:Nat} (h:PSt done cur w0 X L F g w):ai w0 [] X w L F:=by
 cases cur with
 | none=>exact h.2.drop (List.Sublist.cons _ (List.Sublist.refl _))
 | some f=>
   obtain⟨⟨gf,cap,vs0,A,sc,scs,h1⟩,h2⟩:=h
   exact(ai.drop h1 (List.Sublist.cons _ (List.Sublist.cons _ (List.Sublist.cons _ (List.Sublist.refl _))))).forget (List.Sublist.cons _ (List.Sublist.cons _ (List.Sublist.refl _)))
theorem PSt.all {done:List ax} {cur:Option ax} {w0 w:World} {X:List Nat} {L:List Itm} {F:List Fact} {g:Nat} (h:PSt done cur w0 X L F g w):
 ∃ A n c,w.cell? ⟨g,0,none⟩=some (.slice A n c)∧ai w0 [] X w L (Sl.fact az A n c (done++cur.toList)::F):=by
 cases cur with
 | none=>
   obtain⟨rfl,h⟩:=h
   exact⟨none,0,0,h.cell 0 rfl 0,(h.drop (List.Sublist.cons _ (List.Sublist.refl _))).know (Sl.fact az none 0 0 []) Sl.nil_⟩
 | some f=>
   obtain⟨⟨gf,cap,vs0,A,sc,scs,h⟩,hf⟩:=h
   obtain⟨A',c',e1,h2⟩:=ai.done_row (s:=ak) h 2 rfl (ai.ra h 1 rfl) (by decide) (by simp)
   injection e1 with e1 e2 e3
   subst e1 e3
   have hs:=h2.sl 0 rfl
   have hd:=h2.ra 1 rfl
   have hr:az.rep w _ [.string (sB f.name),.string (sB f.help),.int .i64 (f.type:Int),.slice A f.smps.length sc] f:=⟨A,f.smps.length,sc,rfl,hs,hf.type,by have:=hf.name;unfold maxLen;omega,by have:=hf.help;unfold maxLen;omega⟩
   have h3:=h2.know (Ra.fact az _ (done ++ [f])) (hd.snoc hr)
   obtain⟨A2,c2,e4,h4⟩:=h3.done_row (s:=az) 1 rfl (h3.ra 0 rfl) (by decide) (by simp)
   injection e4 with e4 e5 e6
   subst e4 e6
   exact⟨some ⟨gf,0,none⟩,done.length+1,cap,ai.cell h 0 rfl 0,(h4.drop (List.Sublist.cons _ (List.Sublist.refl _))).forget (List.Sublist.cons_cons _ (List.Sublist.cons _ (List.Sublist.cons _ (List.Sublist.cons _ (List.Sublist.cons _ (List.Sublist.refl _))))))⟩
end
section
open Go.RowKit
def IS:Value→Nat
 | .string s=>s.size
 | _=>0
def Ks (r:ES) (w0:World) (X:List Nat) (e:Ending) (w':World):Prop:=match r with
 | .ok l => ∃ A n c,e = .returned (.tuple #[.slice A n c,.agg #[.int .i64 0,.int .i64 0],.int .i64 0])∧Sl az w' X A n c l∧Below w0.heap.size w0 w'
 | .bad a b=>e = .returned (.tuple #[.slice none 0 0,.agg #[.int .i64 (a:Int),.int .i64 (b:Int)],.int .i64 11])∧Below w0.heap.size w0 w'
theorem ku {W:World} {gf:Nat} {x0 x1 y z:Value} (h:Blk W gf 25 #[x0,x1]) (tmps:Array Value) (ht:tmps[3]?.getD undef = .pointer (some ⟨gf,0,none⟩)) (h2:tmps[2]?.getD undef=y) (h4:tmps[4]?.getD undef=z):(results Tryz.f5 tmps).run Tryz.prog W = .ok (.tuple #[y,.agg #[x0,x1],z]) W:=by
 have c0:W.cell? ⟨gf,0,none⟩=some x0:=h.cell 0
 have c1:W.cell? ⟨gf,1,none⟩=some x1:=h.cell 1
 simp[results,Tryz.results5,go_sem,ht,h2,h4,c0,c1]
theorem sN:∀ (s:List UInt8),(∀ x ∈ s,x≠10)→s.dropWhile (· != 10) = []
 | [],h=>rfl
 | x::l,h=>by
   rw[List.dropWhile_cons_of_pos (by simpa using h x (List.mem_cons_self ..))]
   exact sN l (fun y hy=>h y (List.mem_cons_of_mem _ hy))
theorem Ja (s:List UInt8):(bq s).1.length+(bq s).2.1.length≤s.length∧(s ≠ []→(bq s).2.1.length<s.length):=by
 have h:=(pe s).2
 split at h
 ·have:=congrArg List.length h
  simp only[List.length_append,List.length_cons]at this
  exact⟨by omega,fun _=>by omega⟩
 ·rename_i hb
  have h2:(bq s).2.1 = []:=by
   have hn:∀ x ∈ s,x≠10:=fun x hx=>by
    have:=(pe s).1 x
    rw[←h]at this
    exact this hx
   show(s.dropWhile (· != 10)).drop 1 = []
   have:s.dropWhile (· != 10) = []:=sN s hn
   rw[this];rfl
  rw[h2,←h]
  refine⟨by simp,fun hne=>?_⟩
  cases s with
  | nil=>exact absurd rfl hne
  | cons x l=>simp
theorem uv (f n:Nat) (s:List UInt8) (hs:s ≠ []) (done:List ax) (cur:Option ax):dy (f+1) s n done cur=match jb (bq s).1 (bq s).2.2 with
 | .bad c=>.bad (n+1) c
 | .ok l _=>match bk done cur l with
   | none=>.bad (n+1) 0
   | some (d,c)=>dy f (bq s).2.1 (n+1) d (some c):=by
 cases s with
 | nil=>exact absurd rfl hs
 | cons x l=>rfl
theorem BF (s:ByteArray):sB s.data.toList=s:=by obtain⟨⟨l⟩⟩:=s;rfl
theorem AX (l:List UInt8):(sB l).size=l.length:=by show l.toArray.size=_;simp
theorem Ae (l:List UInt8):(sB l).data.toList=l:=by simp[sB]
set_option maxHeartbeats 8000000 in
theorem vq (s:ByteArray) (X:List Nat) (w:World) (hs:s.size≤20000) (hX:XOk X w) (hP:jT w):
 Calls Tryz.prog 5 #[.string s] w (Ks (jS s.data.toList) w X):=by
 have HS:=Lib.hid (show s.data.toList.length=s.size from by simp)
 obtain⟨R,hR⟩:∃ R,R=jS s.data.toList:=⟨_,rfl⟩
 rw[←hR]
 have HR0:=Lib.hid (show R=dy (s.size+1) s.data.toList 0 [] none from by rw[hR];unfold jS;rw[HS.out])
 clear hR
 have HP:=Lib.hid hP
 have HK0:=Lib.hid (((ai.start w hX).alloc_at 25 #[.int .i64 0,.int .i64 0] w.heap.size rfl).alloc_at 68 #[.slice none 0 0] (w.heap.size+1) (by simp))
 clear hP hX
 go_enter Tryz.func5,Tryz.ntmps5
 go_wp2_with fail
 generalize (w.alloc (.cells #[.int .i64 0,.int .i64 0] 25)).alloc (.cells #[.slice none 0 0] 68)=w1 at HK0 ⊢
 generalize w.heap.size+1=g at HK0 ⊢
 have HG:Hid (w.heap.size≤w.heap.size):=Nat.le_refl _
 obtain⟨gf,hgf⟩:∃ gf,gf=w.heap.size:=⟨_,rfl⟩
 have HGF:=Lib.hid hgf
 have hK1:=HK0.out
 rw[←hgf]at hK1 ⊢
 clear HK0 HG
 have HPS:Hid (PSt [] none w X [.box gf 25 #[.int .i64 0,.int .i64 0]] [] g w1):=⟨rfl,hK1⟩
 clear hK1 hgf
 go_loopw [0,6] (fun sv nv wr => ∃ (u:ByteArray) (n f:Nat) (done:List ax) (cur:Option ax),sv = .string u∧nv = .int .i64 (n:Int)∧u.size<f∧n+u.size≤20000∧Hid (PSt done cur w X [.box gf 25 #[.int .i64 0,.int .i64 0]] [] g wr)∧Hid (R=dy f u.data.toList n done cur)) (fun sv _ _=>IS sv)
 case atStart=>exact⟨s,0,s.size+1,[],none,rfl,rfl,by omega,by omega,HPS,HR0⟩
 case round=>
  clear HPS HR0 HS
  obtain⟨u,n,f,done,cur,rfl,rfl,hf,hn,HK,HR⟩:=hrel
  have HU:=Lib.hid (show u.data.toList.length=u.size from by simp)
  obtain⟨f,rfl⟩:∃ f',f=f'+1:=⟨f-1,by omega⟩
  by_cases hz:u.size=0
  ·have hu0:u=⟨#[]⟩:=by
    have h1:=List.eq_nil_of_length_eq_zero (HU.out.trans hz)
    rw[←BF u,h1]
   subst hu0
   have b0:decide ((0:Int)<((⟨#[]⟩:ByteArray).size:Int))=false:=rfl
   have HR1:=Lib.hid (show R=(if gX cur then .ok (done++cur.toList) else .bad (n+1) 0) from by
    rw[HR.out,List.eq_nil_of_length_eq_zero (HU.out.trans hz)];rfl)
   clear HR hz
   go_wp2_with fail
   refine(Br HK.out).mono ?_
   cases hw:gX cur with
   | false=>
     rintro e w2 ⟨rfl,m,rfl⟩
     have HRb:=Lib.hid (show R = .bad (n+1) 0 from by rw[HR1.out,hw];rfl)
     have HH:=Lib.hid ((HK.out.drewN m).rest)
     clear HK HR1 hw
     generalize wr.drewN m=w2 at HH ⊢
     have c0:w2.cell? ⟨gf,0,none⟩=some (.int .i64 0):=HH.out.cell 0 rfl 0
     have c1:w2.cell? ⟨gf,1,none⟩=some (.int .i64 0):=HH.out.cell 0 rfl 1
     have d0:w2.frozen? ⟨gf,0,none⟩=false:=HH.out.frozen 0 rfl 0
     have d1:w2.frozen? ⟨gf,1,none⟩=false:=HH.out.frozen 0 rfl 1
     have hw:IntKind.i64.wrap ((n:Int)+1)=((n+1:Nat):Int):=by rw[IntWalk.i64_in _ (by omega)];omega
     go_wp2
     have H2:=Lib.hid ((HH.out.set_ 0 rfl 0 (.int .i64 ((n+1:Nat):Int))).set_ 0 rfl 1 (.int .i64 0))
     clear HH
     refine bodyPost_ret (ku (H2.out.blk 0 rfl) _ rfl rfl rfl) rfl ?_
     rw[HRb.out]
     exact⟨rfl,H2.out.below⟩
   | true=>
     rintro e w2 ⟨rfl,m,rfl⟩
     have HRb:=Lib.hid (show R = .ok (done++cur.toList) from by rw[HR1.out,hw];rfl)
     obtain⟨A,k,c,e0,hH⟩:=(HK.out.drewN m).all
     have HH:=Lib.hid hH
     clear HK HR1 hw hH
     generalize wr.drewN m=w2 at HH e0 ⊢
     have c0:w2.cell? ⟨gf,0,none⟩=some (.int .i64 0):=HH.out.cell 0 rfl 0
     have c1:w2.cell? ⟨gf,1,none⟩=some (.int .i64 0):=HH.out.cell 0 rfl 1
     have d0:w2.frozen? ⟨gf,0,none⟩=false:=HH.out.frozen 0 rfl 0
     have d1:w2.frozen? ⟨gf,1,none⟩=false:=HH.out.frozen 0 rfl 1
     go_wp2
     have H2:=Lib.hid ((HH.out.set_ 0 rfl 0 (.int .i64 0)).set_ 0 rfl 1 (.int .i64 0))
     clear HH
     refine bodyPost_ret (ku (H2.out.blk 0 rfl) _ rfl rfl rfl) rfl ?_
     rw[HRb.out]
     exact⟨A,k,c,rfl,(H2.out.sl 0 rfl).more (fun b _ hb=>List.mem_append_right _ hb),H2.out.below⟩
  have b0:decide ((0:Int)<(u.size:Int))=true:=by simp;omega
  have hw1:IntKind.i64.wrap ((n:Int)+1)=((n+1:Nat):Int):=by rw[IntWalk.i64_in _ (by omega)];omega
  have hne:u.data.toList ≠ []:=fun e=>by have:=HU.out;rw[e]at this;simp at this;omega
  have HR1:=Lib.hid (HR.out.trans (uv f n _ hne done cur))
  obtain⟨q1,q2⟩:=Ja u.data.toList
  have q3:=q2 hne
  rw[HU.out]at q1 q3
  clear HR q2 hne
  go_wp2_with fail
  refine(Lx u (by omega) _).mono ?_
  rintro e w2 ⟨⟨m,rfl⟩,rfl⟩
  have HK2:=Lib.hid (HK.out.drewN m)
  clear HK
  generalize wr.drewN m=w2 at HK2 ⊢
  have HNo:=Lib.hid (pe u.data.toList).1
  obtain⟨t,ht⟩:∃ t,t=(bq u.data.toList).1:=⟨_,rfl⟩
  obtain⟨r,hr⟩:∃ r,r=(bq u.data.toList).2.1:=⟨_,rfl⟩
  obtain⟨b,hb⟩:∃ b,b=(bq u.data.toList).2.2:=⟨_,rfl⟩
  have hR1:=HR1.out
  have hNo:=HNo.out
  rw[←ht,←hb,←hr]at hR1
  rw[←ht]at q1 hNo
  rw[←hr]at q1 q3
  rw[←ht,←hr,←hb]
  have HR2:=Lib.hid hR1
  have HNo2:=Lib.hid hNo
  clear HR1 HNo hR1 hNo ht hr hb
  go_wp2_with fail
  have HT:Hid ((sB t).data.toList=t):=Ae t
  refine(Di b HK2.out (by rw[AX];omega)).mono ?_
  rw[HT.out]
  intro e w3 hQ
  have hsat:=vK HNo2.out b
  cases hr:jb t b with
  | bad c=>
    rw[hr]at hQ hsat
    obtain⟨rfl,hP3⟩:=hQ
    have HRb:=Lib.hid (show R = .bad (n+1) c from by rw[HR2.out,hr])
    have HH:=Lib.hid (hP3.rest)
    have hc0:0<c∧c≤20002:=by
     have:1≤c∧c≤t.length+1:=hsat
     omega
    have b1:decide ((0:Int)<(c:Int))=true:=by simp;omega
    clear HR2 hsat hr HK2 HNo2 hP3 HT
    have c0:w3.cell? ⟨gf,0,none⟩=some (.int .i64 0):=HH.out.cell 0 rfl 0
    have c1:w3.cell? ⟨gf,1,none⟩=some (.int .i64 0):=HH.out.cell 0 rfl 1
    have d0:w3.frozen? ⟨gf,0,none⟩=false:=HH.out.frozen 0 rfl 0
    have d1:w3.frozen? ⟨gf,1,none⟩=false:=HH.out.frozen 0 rfl 1
    have hlt:gf<w3.heap.size:=HH.out.lt 0 rfl
    unfold lp
    go_wp2
    have H2:=Lib.hid (((HH.out.set_ 0 rfl 0 (.int .i64 ((n+1:Nat):Int))).set_ 0 rfl 1 (.int .i64 (c:Int))).alloc_off (.cells lp 75))
    clear HH
    refine bodyPost_ret (ku (H2.out.blk 0 rfl) _ rfl rfl rfl) rfl ?_
    rw[HRb.out]
    exact⟨rfl,H2.out.below⟩
  | ok ln i=>
    rw[hr]at hQ hsat
    obtain⟨v,Fs,hL,rfl,hP3⟩:=hQ
    have HR3:=Lib.hid (show R=(match bk done cur ln with
     | none=>.bad (n+1) 0
     | some (d,c)=>dy f r (n+1) d (some c)) from by rw[HR2.out,hr])
    have hk:kOk ln:=by
     have:lnT ln=t∧IW ln∧b=true:=hsat
     cases ln with
     | kind nm k=>exact this.2.1.2.2
     | _=>trivial
    have HL:=Lib.hid hL
    have HP3:=Lib.hid hP3
    obtain⟨n0,s1,s2,n3,s4,As,ns,cs,n6,rfl⟩:=hL.agg
    clear HR2 hsat hr HK2 HNo2 HT hP3 hL
    go_wp2_with fail
    refine(EI HL.out hk (HP.out) (HP3.out.alloc _)).mono ?_
    intro e w4 hT
    rcases PSt.of_take hT with⟨ht,rfl,hH⟩ | ⟨d,c,ht,rfl,hPn⟩
    ·have HRb:=Lib.hid (show R = .bad (n+1) 0 from by rw[HR3.out,ht])
     have HH:=Lib.hid hH
     clear HR3 hT ht hH HP3 HL
     have c0:w4.cell? ⟨gf,0,none⟩=some (.int .i64 0):=HH.out.cell 0 rfl 0
     have c1:w4.cell? ⟨gf,1,none⟩=some (.int .i64 0):=HH.out.cell 0 rfl 1
     have d0:w4.frozen? ⟨gf,0,none⟩=false:=HH.out.frozen 0 rfl 0
     have d1:w4.frozen? ⟨gf,1,none⟩=false:=HH.out.frozen 0 rfl 1
     go_wp2
     have H2:=Lib.hid ((HH.out.set_ 0 rfl 0 (.int .i64 ((n+1:Nat):Int))).set_ 0 rfl 1 (.int .i64 0))
     clear HH
     refine bodyPost_ret (ku (H2.out.blk 0 rfl) _ rfl rfl rfl) rfl ?_
     rw[HRb.out]
     exact⟨rfl,H2.out.below⟩
    ·have HRn:=Lib.hid (show R=dy f (sB r).data.toList (n+1) d (some c) from by rw[HR3.out,ht,Ae])
     have HPn:=Lib.hid hPn
     clear HR3 hT ht hPn HP3 HL
     have hsz:(sB r).size=r.length:=AX r
     go_wp2
     exact⟨⟨sB r,n+1,f,d,some c,rfl,rfl,by omega,by omega,HPn,HRn⟩,by show(sB r).size<u.size;omega⟩
end
section
open Go.RowKit
set_option maxHeartbeats 4000000 in
theorem JN (j n:Nat) (h:jE j n=true) (w:World):Calls Tryz.prog 112 #[.int .u8 (n:Int),.bool (decide (j=0))] w fun e w'=>e = .returned (.bool true)∧w=w':=by
 have h':(97≤n∧n≤122)∨(65≤n∧n≤90)∨n=95∨(j≠0∧48≤n∧n≤57):=by
  unfold jE iP kX at h
  simp only[Bool.or_eq_true,Bool.and_eq_true,decide_eq_true_eq]at h
  omega
 clear h
 rcases h' with⟨h1,h2⟩ | ⟨h1,h2⟩ | rfl | ⟨h0,h1,h2⟩
 ·have b1:decide ((97:Int)≤(n:Int))=true:=by simp;omega
  have b2:decide ((n:Int)≤122)=true:=by simp;omega
  go_enter Tryz.func112,Tryz.ntmps112
  go_wp2
  go_ret
  exact⟨rfl,rfl⟩
 ·have b1:decide ((97:Int)≤(n:Int))=false:=by simp;omega
  have b2:decide ((65:Int)≤(n:Int))=true:=by simp;omega
  have b3:decide ((n:Int)≤90)=true:=by simp;omega
  go_enter Tryz.func112,Tryz.ntmps112
  go_wp2
  go_ret
  exact⟨rfl,rfl⟩
 ·go_enter Tryz.func112,Tryz.ntmps112
  go_wp2
  go_ret
  exact⟨rfl,rfl⟩
 ·have b1:decide ((97:Int)≤(n:Int))=false:=by simp;omega
  have b2:decide ((65:Int)≤(n:Int))=false:=by simp;omega
  have b3:decide ((n:Int)=95)=false:=by simp;omega
  have b4:((n:Int) == 95)=false:=by rw[beq_eq_false_iff_ne];omega
  have b5:decide ((48:Int)≤(n:Int))=true:=by simp;omega
  have b6:decide ((n:Int)≤57)=true:=by simp;omega
  rw[decide_eq_false h0]
  go_enter Tryz.func112,Tryz.ntmps112
  go_wp2
  go_ret
  exact⟨rfl,rfl⟩
set_option maxHeartbeats 4000000 in
theorem sG (s:ByteArray) (h:bp s.data.toList=true) (w:World):Calls Tryz.prog 61 #[.string s] w fun e w'=>e = .returned (.bool true)∧w=w':=by
 have HL:=Lib.hid (show s.data.toList.length=s.size from by simp)
 have hs:=eR h
 rw[HL.out]at hs
 have HG:=Lib.hid (show ∀ (j:Nat) (x:UInt8),s.data.toList[j]?=some x→kL j x=true from by
  have hne:s.data.toList ≠ []:=by intro e;rw[e]at h;cases h
  unfold bp at h
  rw[Bool.and_eq_true]at h
  exact(lG hne).1 h.2)
 have h1:1≤s.size:=by
  rw[←HL.out]
  cases hc:s.data.toList with
  | nil=>rw[hc]at h;cases h
  | cons a r=>simp
 clear h
 go_enter Tryz.func61,Tryz.ntmps61
 go_wp2
 go_loopw [3] (fun i wr => ∃ k:Nat,k≤s.size∧i = .int .i64 k∧w=wr) (fun i _=>s.size-(intOf i).toNat)
 case atStart=>exact⟨0,Nat.zero_le _,rfl,rfl⟩
 case round=>
  obtain⟨k,hk,rfl,rfl⟩:=hrel
  by_cases hlt:k<s.size
  ·have hlt':k<s.data.toList.length:=by simpa using hlt
   have he:s[k]=s.data.toList[k]:=by simp[ByteArray.getElem_eq_getElem_data]
   have hx:=List.getElem?_eq_getElem hlt'
   generalize s.data.toList[k]=x at he hx
   have HG1:=Lib.hid (HG.out k x hx)
   clear hx
   obtain⟨z,hz⟩:∃ z:Bool,z=decide (k=0):=⟨_,rfl⟩
   have hkz:((k:Int) == 0)=z:=by rw[hz];by_cases h0:k=0<;>simp[h0]
   have hkd:decide ((k:Int)=0)=z:=by rw[hz];by_cases h0:k=0<;>simp[h0]
   have HZ:=Lib.hid hz
   clear hz
   go_wp2_with fail
   have hS:=JN k x.toNat HG1.out
   rw[←HZ.out]at hS
   refine(hS _).mono ?_
   rintro e W ⟨rfl,rfl⟩
   clear hkz hkd
   go_wp2
   exact⟨⟨k+1,by omega,by simp,trivial⟩,by simp[intOf];omega⟩
  ·obtain rfl:k=s.size:=by omega
   have b1:decide ((0:Int)<(s.size:Int))=true:=by simp;omega
   have b2:decide ((s.size:Int)≤64)=true:=by simp;omega
   have b3:decide (0<s.size)=true:=by simp;omega
   go_wp2
   go_ret
   exact⟨rfl,rfl⟩
theorem BJ {l:List aE} {k:Nat} {x:aE} (h:l[k]?=some x):jf (l.take (k+1))=jf (l.take k)+(if x.name=leN then 1 else 0):=by
 unfold jf
 rw[List.take_add_one,h,List.filter_append,List.length_append]
 congr 1
 by_cases he:x.name=leN<;>simp[he]
theorem GO (l:List aE):jf l≤l.length:=List.length_filter_le _ _
set_option maxHeartbeats 4000000 in
theorem Jr (A:Option Addr) (n c:Nat) (X:List Nat) (l:List aE) (w:World) (hl:Sl aj w X A n c l):
 Calls Tryz.prog 114 #[.slice A n c] w fun e w'=>e = .returned (.int .i64 (jf l:Int))∧w=w':=by
 have HL:=Lib.hid hl
 have HN:=Lib.hid hl.len
 have hn1:n≤9223372036854775807:=by have h1:=hl.max;have h2:=hl.le;simp only[maxLen]at h1;omega
 have HM:Hid (∀ k,jf (l.take k)≤k):=fun k=>Nat.le_trans (GO _) (by rw[List.length_take];omega)
 clear hl
 go_enter Tryz.func114,Tryz.ntmps114
 go_wp2
 go_loopw [4,3] (fun i m wr => ∃ k m1:Nat,k≤n∧i = .int .i64 k∧m = .int .i64 m1∧Hid (m1=jf (l.take k))∧w=wr) (fun i _ _=>n-(intOf i).toNat)
 case atStart=>exact⟨0,0,Nat.zero_le _,rfl,rfl,Lib.hid rfl,rfl⟩
 case round=>
  obtain⟨k,m1,hk,rfl,rfl,HI,rfl⟩:=hrel
  have hm1:m1≤k:=by have:=HM.out k;have:=HI.out;omega
  by_cases hlt:k<n
  ·obtain⟨ad,x,rfl,hx,hb,d0,d1,-,-⟩:=bG HL.out hlt
   have HX:=Lib.hid hx
   have HT:=Lib.hid (BJ hx)
   clear hx
   have i1:(0:Int)≤(k:Int):=by omega
   have i2:(k:Int)<(n:Int):=by omega
   have hbq:=ou x.name leN
   by_cases he:x.name=leN
   ·rw[decide_eq_true he]at hbq
    have hbq2:(x.name == [108,101])=true:=hbq
    have HS:=Lib.hid (show m1+1=jf (l.take (k+1)) from by rw[HT.out,if_pos he,HI.out])
    clear he
    go_wp2
    exact⟨⟨k+1,m1+1,by omega,by simp,by simp,HS,trivial⟩,by simp[intOf];omega⟩
   ·rw[decide_eq_false he]at hbq
    have hbq2:(x.name == [108,101])=false:=hbq
    have HS:=Lib.hid (show m1=jf (l.take (k+1)) from by rw[HT.out,if_neg he,HI.out];rfl)
    clear he
    go_wp2
    exact⟨⟨k+1,m1,by omega,by simp,by simp,HS,trivial⟩,by simp[intOf];omega⟩
  ·obtain rfl:k=n:=by omega
   have HF:=Lib.hid (show m1=jf l from by rw[HI.out,HN.out,List.take_length])
   go_wp2
   go_ret
   rw[HF.out]
   exact⟨rfl,rfl⟩
set_option maxHeartbeats 4000000 in
theorem Mg (k:Nat) (h:k<9) (w:World):Calls Tryz.prog 115 #[.int .i64 (k:Int)] w fun e w'=>e = .returned (.string (sB (bnd k)))∧Below w.heap.size w w':=by
 have hB:∀ c t s,Below w.heap.size w (w.alloc (.cells c t s)):=fun c t s=>(Below.refl _ w).alloc (Nat.le_refl _) _
 match k,h with
 | 0,_=>
   go_enter Tryz.func115,Tryz.ntmps115
   go_wp2
   go_ret
   exact⟨rfl,hB _ _ _⟩
 | 1,_=>
   go_enter Tryz.func115,Tryz.ntmps115
   go_wp2
   go_ret
   exact⟨rfl,hB _ _ _⟩
 | 2,_=>
   go_enter Tryz.func115,Tryz.ntmps115
   go_wp2
   go_ret
   exact⟨rfl,hB _ _ _⟩
 | 3,_=>
   go_enter Tryz.func115,Tryz.ntmps115
   go_wp2
   go_ret
   exact⟨rfl,hB _ _ _⟩
 | 4,_=>
   go_enter Tryz.func115,Tryz.ntmps115
   go_wp2
   go_ret
   exact⟨rfl,hB _ _ _⟩
 | 5,_=>
   go_enter Tryz.func115,Tryz.ntmps115
   go_wp2
   go_ret
   exact⟨rfl,hB _ _ _⟩
 | 6,_=>
   go_enter Tryz.func115,Tryz.ntmps115
   go_wp2
   go_ret
   exact⟨rfl,hB _ _ _⟩
 | 7,_=>
   go_enter Tryz.func115,Tryz.ntmps115
   go_wp2
   go_ret
   exact⟨rfl,hB _ _ _⟩
 | 8,_=>
   go_enter Tryz.func115,Tryz.ntmps115
   go_wp2
   go_ret
   exact⟨rfl,hB _ _ _⟩
end
section
open Go.RowKit
set_option maxHeartbeats 4000000 in
theorem qh (A B:Option Addr) (n c c2:Nat) (X:List Nat) (l:List aE) (w:World) (hl:Sl aj w X A n c l) (hl2:Sl aj w X B n c2 l) (hX:XOk X w):
 Calls Tryz.prog 116 #[.slice A n c,.slice B n c2] w fun e w'=>e = .returned (.bool true)∧Below w.heap.size w w':=by
 have hn1:n≤9223372036854775807:=by have h1:=hl.max;have h2:=hl.le;simp only[maxLen]at h1;omega
 have hnc:n≤c:=hl.le
 have hnc2:n≤c2:=hl2.le
 have HK0:=Lib.hid (((ai.start w hX).know0 (Sl.fact aj B n c2 l) hl2).know (Sl.fact aj A n c l) hl)
 clear hl hl2 hX
 go_enter Tryz.func116,Tryz.ntmps116
 go_wp2
 go_loopw [5] (fun i wr => ∃ k:Nat,k≤n∧i = .int .i64 k∧Hid (ai w [] X wr [] [Sl.fact aj A n c l,Sl.fact aj B n c2 l])) (fun i _=>n-(intOf i).toNat)
 case atStart=>exact⟨0,Nat.zero_le _,rfl,HK0⟩
 case round=>
  clear HK0
  obtain⟨k,hk,rfl,HK⟩:=hrel
  by_cases hlt:k<n
  ·obtain⟨ad,x,hA,hx,-,-,-,-,-⟩:=bG (HK.out.sl 0 rfl) hlt
   obtain⟨ae,y,hB,hy,-,-,-,-,-⟩:=bG (HK.out.sl 1 rfl) hlt
   obtain rfl:x=y:=by rw[hx]at hy;exact Option.some.inj hy
   subst hA hB
   have HX:=Lib.hid hx
   have i1:(0:Int)≤(k:Int):=by omega
   have i2:(k:Int)<(n:Int):=by omega
   clear hx hy
   go_wp2_with fail
   refine wp_region_noPanic ?_
   refine wp_region_held_drew (S:=fun W'=>ai w [] X W' [] [Sl.fact aj (some ad) n c l,Sl.fact aj (some ae) n c2 l]) (by kernel_rfl) HK.out.drew (fun hHeld=>?_)
   refine tS 0 hHeld ?_
   refine tS 1 hHeld ?_
   refine tS 2 hHeld ?_
   refine aa 3 (v:=(.agg #[.string (sB x.name),.string (sB x.val)])) rfl (by kernel_rfl) (by kernel_rfl) (by kernel_rfl) rfl (fun _ _ _ h=>h) (Or.inl ⟨by rfl,?y3u4⟩) hHeld ?r3u4
   case y3u4=>(intro W hSW;(try dsimp only at hSW);obtain⟨adz,z,hAz,hz,-,q0,q1,-,-⟩:=bG (hSW.sl 0 rfl) (show k<n by omega);injection hAz with hAz;subst hAz;obtain rfl:z=x:=(by rw[HX.out]at hz;exact(Option.some.inj hz).symm);go_simp)
   simp only[Act.put,sI,sZ,sS]
   refine tS 4 hHeld ?_
   refine tS 5 hHeld ?_
   refine tS 6 hHeld ?_
   refine aa 7 (v:=(.agg #[.string (sB x.name),.string (sB x.val)])) rfl (by kernel_rfl) (by kernel_rfl) (by kernel_rfl) rfl (fun _ _ _ h=>h) (Or.inl ⟨by rfl,?y7u8⟩) hHeld ?r7u8
   case y7u8=>(intro W hSW;(try dsimp only at hSW);obtain⟨adz,z,hAz,hz,-,q0,q1,-,-⟩:=bG (hSW.sl 1 rfl) (show k<n by omega);injection hAz with hAz;subst hAz;obtain rfl:z=x:=(by rw[HX.out]at hz;exact(Option.some.inj hz).symm);go_simp)
   simp only[Act.put,sI,sZ,sS]
   refine tS 8 hHeld ?_
   refine wpAnyH_done (by kernel_rfl) ?_ _
   refine NoPanic.normal ?_
   have HK2:=Lib.hid hHeld
   clear hHeld HK
   go_wp2
   exact⟨⟨k+1,by omega,by simp,HK2⟩,by simp[intOf];omega⟩
  ·obtain rfl:n=k:=by omega
   go_wp2
   go_ret
   exact⟨rfl,HK.out.below⟩
set_option maxHeartbeats 4000000 in
theorem eG (A:Option Addr) (n c:Nat) (X:List Nat) (l:List aE) (w:World) (hl:Sl aj w X A n c l) (h:aD l=true) (hX:XOk X w):
 Calls Tryz.prog 113 #[.slice A n c] w fun e w'=>e = .returned (.bool true)∧Below w.heap.size w w':=by
 have h8:n≤8:=by rw[hl.len];exact(eZ h).1
 have hn1:n≤9223372036854775807:=by omega
 have hnc:n≤c:=hl.le
 have HO:=Lib.hid (show ∀ (j:Nat) (x:aE),l[j]?=some x→okL (l.take j) x=true from by
  unfold aD at h
  rw[Bool.and_eq_true]at h
  intro j x hx
  have:=(iH l []).1 h.2 j x hx
  rwa [List.nil_append]at this)
 have HK0:=Lib.hid ((ai.start w hX).know0 (Sl.fact aj A n c l) hl)
 clear hl hX h
 go_enter Tryz.func113,Tryz.ntmps113
 go_wp2
 go_loopw [3] (fun i wr => ∃ k:Nat,k≤n∧i = .int .i64 k∧Hid (ai w [] X wr [] [Sl.fact aj A n c l])) (fun i _=>n-(intOf i).toNat)
 case atStart=>exact⟨0,Nat.zero_le _,rfl,HK0⟩
 case round=>
  clear HK0
  obtain⟨k,hk,rfl,HK⟩:=hrel
  by_cases hlt:k<n
  ·obtain⟨ad,x,hA,hx,-,d0,d1,-,-⟩:=bG (HK.out.sl 0 rfl) hlt
   subst hA
   have HX:=Lib.hid hx
   have hok:=HO.out k x hx
   unfold okL at hok
   simp only[Bool.and_eq_true,decide_eq_true_eq,Bool.not_eq_true']at hok
   have HNm:=Lib.hid hok.1.1
   have hv:=hok.1.2
   have HH:=Lib.hid (show ∀ (j:Nat) (y:aE),j<k→l[j]?=some y→(y.name == x.name)=false from fun j y hj hy=>by
    rw[ou,decide_eq_false]
    intro he
    have:=od (l:=l.take k) (nm:=x.name) (k:=j) (x:=y) (by rw[List.getElem?_take_of_lt hj];exact hy) he
    rw[hok.2]at this
    cases this)
   have i1:(0:Int)≤(k:Int):=by omega
   have i2:(k:Int)<(n:Int):=by omega
   have b1:decide ((200:Int)<(x.val.length:Int))=false:=by simp;omega
   clear hx hok
   go_wp2_with fail
   refine(sG (sB x.name) HNm.out _).mono ?_
   rintro e W ⟨rfl,rfl⟩
   go_wp2
   clear d0 d1 b1
   go_loopw [4] (fun i2 wr => ∃ j:Nat,j≤k∧i2 = .int .i64 j∧Hid (ai w [] X wr [] [Sl.fact aj (some ad) n c l])) (fun i2 _=>k-(intOf i2).toNat)
   case atStart=>exact⟨0,Nat.zero_le _,rfl,HK⟩
   case round=>
    clear HK
    obtain⟨j,hj,rfl,HK⟩:=hrel
    by_cases hjlt:j<k
    ·obtain⟨ae,y,hA,hy,-,-,-,-,-⟩:=bG (HK.out.sl 0 rfl) (show j<n by omega)
     clear hA
     have HY:=Lib.hid hy
     have hq:=HH.out j y hjlt hy
     have j1:(0:Int)≤(j:Int):=by omega
     have j2:(j:Int)<(n:Int):=by omega
     clear hy
     go_wp2_with fail
     refine wp_region_noPanic ?_
     refine wp_region_held_drew (S:=fun W'=>ai w [] X W' [] [Sl.fact aj (some ad) n c l]) (by kernel_rfl) HK.out.drew (fun hHeld=>?_)
     refine tS 0 hHeld ?_
     refine tS 1 hHeld ?_
     refine tS 2 hHeld ?_
     refine tS 3 hHeld ?_
     refine aa 4 (v:=(.string (sB y.name))) rfl (by kernel_rfl) (by kernel_rfl) (by kernel_rfl) rfl (fun _ _ _ h=>h) (Or.inl ⟨by rfl,?y4u14⟩) hHeld ?r4u14
     case y4u14=>(intro W hSW;(try dsimp only at hSW);obtain⟨adz,z,hAz,hz,-,q0,q1,-,-⟩:=bG (hSW.sl 0 rfl) (show j<n by omega);injection hAz with hAz;subst hAz;obtain rfl:z=y:=(by rw[HY.out]at hz;exact(Option.some.inj hz).symm);go_simp)
     simp only[Act.put,sI,sZ,sS]
     refine tS 5 hHeld ?_
     refine tS 6 hHeld ?_
     refine tS 7 hHeld ?_
     refine tS 8 hHeld ?_
     refine aa 9 (v:=(.string (sB x.name))) rfl (by kernel_rfl) (by kernel_rfl) (by kernel_rfl) rfl (fun _ _ _ h=>h) (Or.inl ⟨by rfl,?y9u19⟩) hHeld ?r9u19
     case y9u19=>(intro W hSW;(try dsimp only at hSW);obtain⟨adz,z,hAz,hz,-,q0,q1,-,-⟩:=bG (hSW.sl 0 rfl) (show k<n by omega);injection hAz with hAz;subst hAz;obtain rfl:z=x:=(by rw[HX.out]at hz;exact(Option.some.inj hz).symm);go_simp)
     simp only[Act.put,sI,sZ,sS]
     refine tS 10 hHeld ?_
     refine wpAnyH_done (by kernel_rfl) ?_ _
     refine NoPanic.normal ?_
     have HK2:=Lib.hid hHeld
     clear hHeld HK
     go_wp2
     exact⟨⟨j+1,by omega,by simp,HK2⟩,by simp[intOf];omega⟩
    ·obtain rfl:k=j:=by omega
     go_wp2
     exact⟨⟨k+1,by omega,by simp,HK⟩,by simp[intOf];omega⟩
  ·obtain rfl:n=k:=by omega
   have b1:decide ((n:Int)≤8)=true:=by simp;omega
   go_wp2
   go_ret
   exact⟨rfl,HK.out.below⟩
set_option maxHeartbeats 4000000 in
theorem Bu (A:Option Addr) (n c:Nat) (X:List Nat) (f:ax) (w:World) (hl:Sl ak w X A n c f.smps) (hw:cK f=true):
 Calls Tryz.prog 62 #[.agg #[.string (sB f.name),.string (sB f.help),.int .i64 (f.type:Int),.slice A n c]] w fun e w'=>e = .returned (.bool true)∧Below w.heap.size w w':=by
 have hn:=hl.len
 unfold cK at hw
 simp only[Bool.and_eq_true,decide_eq_true_eq,Bool.or_eq_true]at hw
 rw[←hn]at hw
 have hB:∀ c t s,Below w.heap.size w (w.alloc (.cells c t s)):=fun c t s=>(Below.refl _ w).alloc (Nat.le_refl _) _
 obtain⟨h1,h2⟩:=hw
 have b1:decide ((0:Int)<(n:Int))=true:=by simp;omega
 have b1':decide (0<n)=true:=by simp;omega
 clear hn hl
 generalize f.type=ty at h2 ⊢
 by_cases h3:ty=3
 ·subst h3
  have hm:n%11=0:=by omega
  have b3:Int.tmod (n:Int) 11=0:=by rw[Int.tmod_eq_emod_of_nonneg (by omega)];omega
  have b4:(Int.tmod (n:Int) 11 == 0)=true:=by rw[b3];rfl
  have b5:IntKind.i64.wrap (Int.tmod (n:Int) 11)=0:=by rw[b3];rfl
  clear hm h2
  go_enter Tryz.func62,Tryz.ntmps62
  go_wp2
  go_ret
  exact⟨rfl,hB _ _ _⟩
 ·have b4:((ty:Int) == 3)=false:=by rw[beq_eq_false_iff_ne];omega
  have b5:((ty:Int) != 3)=true:=by rw[bne_iff_ne];omega
  have b6:decide ((ty:Int)=3)=false:=by simp;omega
  clear h2
  go_enter Tryz.func62,Tryz.ntmps62
  go_wp2
  go_ret
  exact⟨rfl,hB _ _ _⟩
end
end Go.Proofs.YtmpiinhnabmjcaaGreatDoor
