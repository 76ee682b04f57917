/- Lemmas and contracts that the proof of TopSegments uses, part 13 of 14: each is a theorem for every input that its premises allow. -/
import Derived.Lib.SliceRun
import Derived.ArgAppend
import Derived.Lib.LaidTab
import Derived.JoinedOf
import Derived.RowKit
import Derived.RowKitTokens
import Derived.LaidLaws
import Derived.LaidHandle
import Derived.Stop.Joined
import Derived.Test.YtpokkciheejeiaaGreatDoorRows
import Derived.Test.YtpokkciheejeiaaGreatDoorTie
import Derived.Test.YtpokkciheejeiaaGreatDoorCards
import Derived.Test.YtpokkciheejeiaaGreatDoorTsL
set_option linter.unusedVariables false
set_option linter.unusedSimpArgs false
set_option maxRecDepth 100000
namespace Go.Proofs.YtpokkciheejeiaaGreatDoor
section
open Go.RowKit Go.Shelf
theorem zX (s:ByteArray) (c:Nat) (w:World) (a:s.size=1) (b:c≤20):Calls Tryz.prog 55 #[.string s,.int .i64 (c:Int)] w fun e w'=>e = .returned (.string ⟨(Lib.repeatL s.data.toList c).toArray⟩)∧Below w.heap.size w w':=
 Any.strings_Repeat Tryz.lays105 Tryz.extra105 s c w (by omega) (by rw[a];omega)
def jv (n:Nat):ByteArray:=(⟨#[115,110,97,112,46]⟩:ByteArray)++⟨(Lib.repeatL [48] (10-(Lib.itoa (n:Int)).length)).toArray⟩++⟨(Lib.itoa (n:Int)).toArray⟩
theorem vJ (n:Nat) (g:n≤99999999) (w:World) (f:aX w):
 Calls Tryz.prog 135 #[.int .i64 (n:Int)] w fun e w'=>e = .returned (.string (jv n))∧Below w.heap.size w w':=by
 have hlen:(⟨(Lib.itoa (n:Int)).toArray⟩:ByteArray).size≤8:=by
  show(Lib.itoa (n:Int)).toArray.size≤8
  rw[List.size_toArray]
  unfold Lib.itoa
  rw[if_neg (by omega),Lib.decDigits_length]
  exact Da _ (by omega)
 have hL:(Lib.itoa (n:Int)).length=(⟨(Lib.itoa (n:Int)).toArray⟩:ByteArray).size:=by
  show _=(Lib.itoa (n:Int)).toArray.size
  rw[List.size_toArray]
 have c:=Lib.hid (qh n g w f)
 have hS:jv n=(⟨#[115,110,97,112,46]⟩:ByteArray)++⟨(Lib.repeatL [48] (10-(⟨(Lib.itoa (n:Int)).toArray⟩:ByteArray).size)).toArray⟩++⟨(Lib.itoa (n:Int)).toArray⟩:=by unfold jv;rw[hL]
 rw[hS]
 clear hS hL
 generalize (⟨(Lib.itoa (n:Int)).toArray⟩:ByteArray)=t at hlen c ⊢
 have j:wrap64 (10-(t.size:Int))=((10-t.size:Nat):Int):=by unfold wrap64;omega
 have hR:(⟨(Lib.repeatL [48] (10-t.size)).toArray⟩:ByteArray).size=10-t.size:=by
  show(Lib.repeatL [48] (10-t.size)).toArray.size=_
  rw[List.size_toArray,Lib.repeatL_length]
  simp
 have a:=fun w=>Lib.hid (zX ⟨#[48]⟩ (10-t.size) w rfl (by omega))
 simp only[show((10-t.size:Nat):Int)=10-(t.size:Int) from by omega]at a
 generalize (⟨(Lib.repeatL [48] (10-t.size)).toArray⟩:ByteArray)=r at hR a ⊢
 have i:¬ (n:Int)<0:=by omega
 have k:¬ (4294967296:Int)<(n:Int):=by omega
 go_enter Tryz.func135,Tryz.ntmps135
 go_wp2_with fail
 refine c.out.mono ?_
 rintro e l ⟨rfl,d⟩
 go_wp2_with fail
 refine(a _).out.mono ?_
 rintro e p ⟨rfl,b⟩
 have m:¬ (9223372036854775807<5+r.size):=by omega
 have o:¬ (9223372036854775807<5+r.size+t.size):=by omega
 go_wp2
 go_ret
 exact⟨rfl,(((hstart (X:=[]) (fun _ h=>by cases h)).on d).on b).below⟩
end
section
open Go.RowKit
theorem pV {P:Program} (w:World) (t e ty:TypeId) (z:Value) (k:P.underlying t=some (.slice e)) (i:∀ w,(zeroValue e).run P w = .ok z w) (b o n c:Nat) (zs:List Value) (d:(Builtin.zeroCells z.cells n).toList=zs) (hn:0<n) (g:∀ v ∈ zs,v.oneCell'=true)
 (f:∀ j,j<zs.length→(w.cell? ⟨b,o+j,none⟩).isSome=true) (h:∀ j,j<zs.length→w.frozen? ⟨b,o+j,none⟩=false):
 (Builtin.clear_ #[t] ty #[.slice (some ⟨b,o,none⟩) n c]).run P w = .ok (.tuple #[]) (w.setCells b o zs):=by
 have a:=run_storeCells_cells (P:=P) b o zs 0 w (by simpa using f) (by simpa using h) g
 simp only[Nat.add_zero]at a
 obtain⟨m,rfl⟩:∃ m,n=m+1:=⟨n-1,by omega⟩
 simp[Builtin.clear_,run_underlying k,i,d,a]
def iT (a b:ByteArray) (x:Fil):Bool:=decide (x.nm=a) || decide (x.nm=b)
theorem BQ (x y:ByteArray):(x.toList == y.toList)=decide (x=y):=by
 rw[Bool.eq_iff_iff,beq_iff_eq,decide_eq_true_eq]
 exact⟨fL,fun h=>by rw[h]⟩
theorem vk (x:Fil) (A:Option Addr) (n h:Nat) (B:Option Addr) (m d f c:Nat) (a b:ByteArray) (w:World) (j:w.cell? ⟨f,0,none⟩=some (.string a)) (k:w.cell? ⟨c,0,none⟩=some (.string b)) (p:f<w.heap.size) (o:c<w.heap.size):
 Calls Tryz.prog 206 #[.agg (lM x A n h B m d).toArray,.pointer (some ⟨f,0,none⟩),.pointer (some ⟨c,0,none⟩)] w fun e w'=>e = .returned (.bool (iT a b x))∧Below w.heap.size w w':=by
 have i:¬ f=w.heap.size:=by omega
 have l:¬ c=w.heap.size:=by omega
 have g:=BQ x.nm a
 have q:=BQ x.nm b
 unfold iT
 simp only[lM]
 cases ha:decide (x.nm=a) with
 | true=>
   rw[ha]at g
   go_enter Tryz.func206,Tryz.ntmps206
   go_wp2
   go_ret
   exact⟨rfl,(Below.refl _ _).alloc (Nat.le_refl _) _⟩
 | false=>
   rw[ha]at g
   go_enter Tryz.func206,Tryz.ntmps206
   go_wp2
   go_ret
   exact⟨rfl,(Below.refl _ _).alloc (Nat.le_refl _) _⟩
theorem AK (fs:List Fil) (a b:ByteArray) (i:Nat) (x:Fil) (B:fs[i]?=some x) (F:iT a b x=true) (hpre:∀ (j:Nat) d,j<i→fs[j]?=some d→iT a b d=false) (A:Option Addr) (n C q l:Nat) (X:List Nat) (w:World) (hX:XOk X w) (t:Sl az w X A n C fs) (hn:n≤64) (L:w.cell? ⟨q,0,none⟩=some (.string a)) (M:w.cell? ⟨l,0,none⟩=some (.string b)) (z:q<w.heap.size) (u:l<w.heap.size):
 Calls Tryz.prog 105 #[.slice A n C,.func (.func 206) #[] #[.pointer (some ⟨q,0,none⟩),.pointer (some ⟨l,0,none⟩)]] w fun e w'=>e = .returned (.int .i64 (i:Int))∧Below w.heap.size w w':=by
 have S:=Lib.hid t
 have U:=Lib.hid t.len
 have N:=Lib.hid L
 have s:=Lib.hid M
 have R:i<n:=by have:=(List.getElem?_eq_some_iff.1 B).1;have:=t.len;omega
 have D:=Lib.hid B
 clear t L M B
 go_enter Tryz.func105,Tryz.ntmps105
 go_wp2
 go_loopw [8,5] (fun v _ wr => ∃ (k:Nat),k≤i∧v = .int .i64 k∧HH w [] X wr [] [Sl.fact az A n C fs]) (fun v _ _=>n-(intOf v).toNat)
 case atStart=>exact⟨0,Nat.zero_le _,rfl,(hstart hX).ksl0 S.out⟩
 case round=>
  obtain⟨k,V,rfl,K⟩:=hrel
  obtain⟨y,hy⟩:∃ y,fs[k]?=some y:=⟨_,List.getElem?_eq_getElem (by have:=U.out;omega)⟩
  obtain⟨ad,r,rfl,H,G,⟨J,I,m,O,P,p,rfl,E,o,Q⟩,f⟩:=(K.sl 0 rfl).at' hy
  have W:(0:Int)≤(k:Int):=by omega
  have Y:(k:Int)<(n:Int):=by omega
  have g:iT a b y=decide (k=i):=by
   by_cases c:k=i
   ·subst c
    rw[D.out]at hy
    injection hy with hy
    rw[←hy,F,decide_eq_true rfl]
   ·rw[hpre k y (by omega) hy,decide_eq_false c]
  clear H G E o hy
  by_cases c:k=i
  ·rw[decide_eq_true c]at g
   subst c
   clear F hpre
   go_wp2_with (first | (refine bu f ?_) | (go_at_call 206;refine(vk y J I m O P p q l a b _ ((K.below.cell z).trans N.out) ((K.below.cell u).trans s.out) (Nat.lt_of_lt_of_le z K.out.size) (Nat.lt_of_lt_of_le u K.out.size)).mono ?_;rw[g];rintro e T ⟨rfl,h⟩;have K:=K.on h;clear h f))
   go_ret
   exact⟨rfl,K.below⟩
  ·rw[decide_eq_false c]at g
   clear F hpre
   go_wp2_with (first | (refine bu f ?_) | (go_at_call 206;refine(vk y J I m O P p q l a b _ ((K.below.cell z).trans N.out) ((K.below.cell u).trans s.out) (Nat.lt_of_lt_of_le z K.out.size) (Nat.lt_of_lt_of_le u K.out.size)).mono ?_;rw[g];rintro e T ⟨rfl,h⟩;have K:=K.on h;clear h f))
   go_roundw
   case rel=>exact⟨k+1,by omega,by go_num,K⟩
   case measure=>simp[intOf];omega
def fq (a b:ByteArray) (fs:List Fil):List Fil:=fs.filter (fun d => !iT a b d)
theorem tF {fs:List Fil} {k:Nat} {x:Fil} (a b:ByteArray) (h:fs[k]?=some x):fq a b (fs.take (k+1))=if iT a b x=true then fq a b (fs.take k) else fq a b (fs.take k) ++ [x]:=by
 obtain⟨c,rfl⟩:=List.getElem?_eq_some_iff.1 h
 unfold fq
 rw[List.take_succ_eq_append_getElem c,List.filter_append]
 cases hd:iT a b fs[k]<;>simp[hd]
theorem DJ {h W:World} {M X:List Nat} {L:List Itm} {F:List Fact} {e:TypeId} {size n m g cap:Nat} {xs:List Value} (K:HH h M X W (.row e size (.slice (some ⟨g,0,none⟩) n cap) n xs::L) F) (j:m≤n):HH h M X W (.row e size (.slice (some ⟨g,0,none⟩) m cap) m (xs.take (m*size))::L) F:=by
 obtain⟨q,⟨o,_⟩ | ⟨g',cap',cur,p,i,f,r,l,h9,c⟩⟩:=K.row 0 rfl
 ·cases o
 ·injection p with a k d
  injection a with a
  injection a with a
  subst a d
  have b:m*size≤n*size:=Nat.mul_le_mul_right _ j
  refine K.out.turn 0 (x' := .row e size (.slice (some ⟨g,0,none⟩) m cap) m (xs.take (m*size))) rfl (Nat.le_refl _) ⟨rfl,rfl,rfl⟩ (fun _ _ _=>rfl) ⟨by rw[List.length_take];omega,.inr ⟨g,cap,cur,rfl,i,f,by omega,l,h9,?_⟩⟩ (fun g' e'=>⟨.inl e',by injection e' with e';subst e';exact Blk.lt (t:=e) f⟩)
  rw[←c,List.take_take,Nat.min_eq_left b]
end
section
open Go.RowKit
theorem HH.rml {c W:World} {M X:List Nat} {L:List Itm} {F:List Fact} {g:Nat} {t:TypeId} {cs:Array Value} (K:HH c M X W L F) (a:Itm.box g t cs ∈ L):g<W.heap.size:=by
 obtain⟨i,b⟩:=List.getElem?_of_mem a
 exact K.out.lt i b
theorem vU {a b:ByteArray}:∀ (l:List Fil),(∀ d ∈ l,iT a b d=false)→fq a b l=l:=fun l h=>by
 unfold fq
 exact List.filter_eq_self.2 fun d c=>by rw[h d c];rfl
theorem yE (n:Nat):(Builtin.zeroCells (#[.string ⟨#[]⟩,.slice none 0 0,.slice none 0 0]:Array Value) n).toList.length=n*3 ∧ ∀ v ∈ (Builtin.zeroCells (#[.string ⟨#[]⟩,.slice none 0 0,.slice none 0 0]:Array Value) n).toList,v.oneCell'=true:=by
 unfold Builtin.zeroCells
 refine⟨by simp,fun v a=>?_⟩
 simp only[Array.toList_map,List.mem_map]at a
 obtain⟨i,-,rfl⟩:=a
 rcases(show i%3=0∨i%3=1∨i%3=2 from by omega) with h | h | h
 all_goals
  show(#[Value.string ⟨#[]⟩,.slice none 0 0,.slice none 0 0][i%3]!).oneCell'=true
  rw[h]
  rfl
theorem FH (w:World):(zeroValue 110).run Tryz.prog w = .ok (.agg #[.string ⟨#[]⟩,.slice none 0 0,.slice none 0 0]) w:=by kernel_rfl
set_option maxHeartbeats 3000000 in
theorem Eu (fs:List Fil) (a b:ByteArray) (B:Nat) (x0:Fil) (z:fs[B]?=some x0) (I:iT a b x0=true) (hpre:∀ (j:Nat) d,j<B→fs[j]?=some d→iT a b d=false) (Z g2:Nat) (t1 t2:TypeId) (w0 w:World) (X:List Nat) (L:List Itm) (F:List Fact) (v:Value) (vs:List Value)
 (K:HH w0 [] X w (.row 110 3 v fs.length vs::L) (Ra.fact az vs fs::F)) (hn:fs.length≤64) (M:Itm.box Z t1 #[.string a] ∈ L) (S:Itm.box g2 t2 #[.string b] ∈ L):
 Calls Tryz.prog 205 #[v,.func (.func 206) #[] #[.pointer (some ⟨Z,0,none⟩),.pointer (some ⟨g2,0,none⟩)]] w fun e w' => ∃ v' vs',e = .returned v'∧HH w0 [] X w' (.row 110 3 v' (fq a b fs).length vs'::L) (Ra.fact az vs' (fq a b fs)::F):=by
 have ae:=(List.getElem?_eq_some_iff.1 z).1
 have al:=Lib.hid z
 have ad:Hid (fq a b (fs.take (B+1))=fs.take B):=Lib.hid (by
  rw[tF a b z,if_pos I]
  refine vU _ fun d hd=>?_
  obtain⟨j,hj,rfl⟩:=List.mem_iff_getElem.1 hd
  rw[List.length_take]at hj
  rw[List.getElem_take]
  exact hpre j _ (by omega) (List.getElem?_eq_getElem (by omega)))
 obtain⟨A,cap,rfl,-⟩:=aE (K.row 0 rfl)
 obtain⟨g,rfl⟩:∃ g,A=some ⟨g,0,none⟩:=by
  rcases(K.row 0 rfl).2 with⟨h,_⟩ | ⟨g,cap',cur,h,_⟩
  ·injection h with M S h3;omega
  ·injection h with M;exact⟨g,M⟩
 have HN:=Lib.hid (rfl:fs.length=fs.length)
 obtain⟨n,O⟩:∃ n,n=fs.length:=⟨_,rfl⟩
 rw[←O]at K hn ae ⊢
 have G:=Lib.hid O
 have E:=al.out
 clear z HN
 obtain⟨A3,ap,e3,KS⟩:=K.out.done_row (s:=az) 0 rfl (K.ra 0 rfl) (by decide) (by simp)
 injection e3 with e3 e4 e5
 subst e3 e5
 clear e4 O
 go_enter Tryz.func205,Tryz.ntmps205
 go_wp2_with fail
 refine(AK fs a b B x0 E I hpre _ n cap Z g2 _ w KS.xok' (KS.sl 0 rfl) hn (K.rm (List.mem_cons_of_mem _ M) 0) (K.rm (List.mem_cons_of_mem _ S) 0) (K.rml (List.mem_cons_of_mem _ M)) (K.rml (List.mem_cons_of_mem _ S))).mono ?_
 rintro e w1 ⟨rfl,D⟩
 have K:=K.on D
 clear D KS hpre I E
 have i1:((B:Int) == -1)=false:=by simp
 go_wp2
 clear i1
 go_loopw [5,6] (fun p q wr => ∃ (i j:Nat) (t:List Fil) (c:List Value),i<j∧j≤n∧p = .int .i64 i∧q = .int .i64 j∧Hid (t.length=n∧t.take i=fq a b (fs.take j)∧t.drop j=fs.drop j) ∧
  HH w0 [] X wr (.row 110 3 (.slice (some ⟨g,0,none⟩) n cap) n c::L) (Ra.fact az c t::F)) (fun _ q _=>n-(intOf q).toNat)
 case atStart=>exact⟨B,B+1,fs,vs,by omega,by omega,rfl,by go_num,Lib.hid ⟨G.out.symm,ad.out.symm,rfl⟩,K⟩
 case round=>
  obtain⟨i,j,t,c,ar,aw,rfl,rfl,l,K⟩:=hrel
  have i1:(0:Int)≤(j:Int):=by omega
  have i3:(0:Int)≤(i:Int):=by omega
  have i4:(i:Int)<(n:Int) ∨ ¬ (i:Int)<(n:Int):=by omega
  by_cases ao:j<n
  ·obtain⟨x,hx⟩:∃ x,fs[j]?=some x:=⟨_,List.getElem?_eq_getElem (by have:=G.out;omega)⟩
   have H:t[j]?=some x:=by
    have h:=l.out.2.2
    have h3:(t.drop j)[0]?=(fs.drop j)[0]?:=by rw[h]
    rw[List.getElem?_drop,List.getElem?_drop]at h3
    simpa using h3.trans hx
   obtain⟨r,C,ag⟩:=rowAt (K.ra 0 rfl) (e:=110) (g:=g) (n:=n) (cap:=cap) H
   have K:=K.kn (f:=az.fact r x) C
   obtain⟨A1,n1,Q,A2,n2,U,rfl,-⟩:=C
   have i2:(j:Int)<(n:Int):=by omega
   have i5:(i:Int)<(n:Int):=by omega
   have V:=Lib.hid (tF a b hx)
   have ba:=Lib.hid H
   clear hx H i4
   go_upto_region 8 with(first | refine bu (ag _ (K.row 0 rfl)) ?_ | (refine K.lw fun W K=>?_;refine K.sr 0 rfl fun W K=>?_))
   go_wp2_with (first | refine K.ld 0 rfl ?_)
   refine(vk x A1 n1 Q A2 n2 U Z g2 a b _ (K.rm (List.mem_cons_of_mem _ (List.mem_cons_of_mem _ M)) 0) (K.rm (List.mem_cons_of_mem _ (List.mem_cons_of_mem _ S)) 0) (K.rml (List.mem_cons_of_mem _ (List.mem_cons_of_mem _ M))) (K.rml (List.mem_cons_of_mem _ (List.mem_cons_of_mem _ S)))).mono ?_
   cases hdl:iT a b x with
   | true=>
     rintro e w2 ⟨rfl,D⟩
     have K:=K.on D
     clear D
     go_wp2
     go_roundw
     case rel=>
      refine⟨i,j+1,t,c,by omega,by omega,rfl,by go_num,Lib.hid ⟨l.out.1,?_,?_⟩,K.tl.ft⟩
      ·rw[V.out,if_pos hdl];exact l.out.2.1
      ·rw[←List.drop_drop,l.out.2.2,List.drop_drop]
     case measure=>simp[intOf];omega
   | false=>
     rintro e w2 ⟨rfl,D⟩
     have K:=K.on D
     clear D
     have ab:c.length=n*3:=by have J:=(K.ra 1 rfl).length;rw[l.out.1]at J;exact J
     go_wp2_with (first | refine K.ld 0 rfl ?_ | refine K.rs (k:=i*3) (cells:=(lM x A1 n1 Q A2 n2 U).toArray) 1 rfl (by show i*3+3≤c.length;omega) fun W K=>?_)
     go_roundw
     case rel=>
      obtain⟨y,hy⟩:∃ y,t[i]?=some y:=⟨_,List.getElem?_eq_getElem (by have:=l.out.1;omega)⟩
      have u:=aF.put (s:=az) (K.ra 1 rfl) hy (K.fa 0 rfl)
      have Y:=(List.getElem?_eq_some_iff.1 hy).1
      refine⟨i+1,j+1,t.set i x,_,by omega,by omega,by go_num,by go_num,Lib.hid ⟨by rw[List.length_set];exact l.out.1,?_,?_⟩,((K.kra u).tl.out.forget (List.Sublist.cons_cons _ (List.Sublist.cons _ (List.Sublist.cons _ (List.Sublist.refl _))))).hh⟩
      ·rw[V.out,if_neg (by rw[hdl];simp),←l.out.2.1,List.take_succ_eq_append_getElem (by rw[List.length_set];exact Y),List.take_set_of_le (Nat.le_refl _)]
       simp
      ·rw[List.drop_set_of_lt (by omega),←List.drop_drop,l.out.2.2,List.drop_drop]
     case measure=>simp[intOf];omega
  ·obtain rfl:j=n:=by omega
   have hcap:j≤cap:=by
    rcases(K.row 0 rfl).2 with⟨h,_⟩ | ⟨g',cap',cur,h,-,-,J,-⟩
    ·cases h
    ·injection h with h6 h7 h8;omega
   have hcap2:cap≤maxLen:=by
    rcases(K.row 0 rfl).2 with⟨h,_⟩ | ⟨g',cap',cur,h,-,-,-,J,-⟩
    ·cases h
    ·injection h with h6 h7 h8;omega
   unfold maxLen at hcap2
   have i2:¬ (j:Int)<(j:Int):=by omega
   have i5:(i:Int)≤(j:Int):=by omega
   have i6:¬ cap=i:=by omega
   obtain⟨N,T⟩:=yE (j-i)
   have ab:c.length=j*3:=by have J:=(K.ra 0 rfl).length;rw[l.out.1]at J;exact J
   have o:t.take i=fq a b fs:=by
    rw[l.out.2.1,List.take_of_length_le (by have:=G.out;omega)]
   have Y:(fq a b fs).length=i:=by rw[←o,List.length_take,l.out.1];omega
   have ac:=fun ty=>pV (P:=Tryz.prog) wr 28 110 ty (.agg #[.string ⟨#[]⟩,.slice none 0 0,.slice none 0 0]) Tryz.underlying28 FH g (i*3) (j-i) (cap-i) _ rfl (by omega) T (fun k hk=>by
    have am:i*3+k<c.length:=by rw[show((Value.agg #[.string ⟨#[]⟩,.slice none 0 0,.slice none 0 0]).cells)=(#[.string ⟨#[]⟩,.slice none 0 0,.slice none 0 0]:Array Value) from rfl,N]at hk;omega
    rw[K.rowc 0 rfl (List.getElem?_eq_getElem am)]
    rfl) (fun k hk=>K.rowf 0 rfl _)
   have R:=(K.out.row_sets 0 rfl (i*3) (Builtin.zeroCells (#[.string ⟨#[]⟩,.slice none 0 0,.slice none 0 0]:Array Value) (j-i)).toList (by rw[N];omega)).hh
   have R:=DJ R (m:=i) (by omega)
   have e1:(dP c (i*3) (Builtin.zeroCells (#[.string ⟨#[]⟩,.slice none 0 0,.slice none 0 0]:Array Value) (j-i)).toList).take (i*3)=c.take (i*az.size):=by
    have e2:(c.take (i*3)).length=i*3:=by rw[List.length_take];omega
    show _=c.take (i*3)
    unfold dP
    rw[List.append_assoc,List.take_append_of_le_length (by omega),List.take_of_length_le (by omega)]
   clear N T
   go_wp2_with (simp only[ac])
   go_ret
   rw[e1]at R
   have u:=(R.ra 0 rfl).take i
   rw[o]at u
   have K3:=((R.kra u).out.forget (List.Sublist.cons_cons _ (List.Sublist.cons _ (List.Sublist.refl _)))).hh
   exact⟨_,rfl,_,K3⟩
end
section
open Go.RowKit
theorem mA {nm:ByteArray} (h:fnB nm=true):nm.size≤maxLen:=by
 unfold fnB at h
 unfold maxLen
 simp at h
 omega
theorem xZ (d:Dk) (nm:ByteArray) (A:Option Addr) (n f:Nat) (X:List Nat) (w:World) (hX:XOk X w) (h:Sl az w X A n f d.fs) (a:eO d) (c:fnB nm=true) (i:findD d.fs nm = -1):
 Calls Tryz.prog 13 #[.agg #[.slice A n f,.int .i64 d.room,.int .i64 (-1),.bool false],.string nm] w fun e w'=>e = .returned (.tuple #[.slice none 0 0,.int .i64 14])∧Below w.heap.size w w':=by
 have hn:=h.len
 have j:n≤64:=by have:=a.1;omega
 have k:=Lib.hid i
 have g:=mA c
 clear i hn
 go_enter Tryz.func13,Tryz.ntmps13
 go_wp2_with fail
 refine(hstart hX).cl fun W K=>?_
 have K:=(K.ksl0 h).one (s:=fh) (x:=nm) ⟨rfl,g⟩
 clear h
 refine(gC d A n f [nm] _ 1 1 _ W K.xok (K.sl 1 rfl) (K.sl 0 rfl) (by omega) (by simp[c]) a).mono ?_
 rintro e l ⟨rfl,b⟩
 have K:=(K.on b).ft
 clear b
 have c0:=K.r 0 rfl
 go_wp2_with fail
 refine(gE d.fs d.room nm A n f _ _ K.xok (K.sl 0 rfl) (by omega)).mono ?_
 rw[k.out]
 rintro e m ⟨rfl,b⟩
 have K:=K.on b
 clear b c0
 go_wp2
 go_ret2
 exact⟨rfl,K.below⟩
set_option maxHeartbeats 2000000 in
theorem ur (a b:ByteArray) (y q t:Nat) (Q G E:TypeId) (fs:List Fil) (k:Nat) (x:Fil) (C:fs[k]?=some x) (ab:x.nm=a) (z:Nat) (I:Fil) (H:fs[z]?=some I) (D:iT a b I=true) (hpre:∀ (j:Nat) d,j<z→fs[j]?=some d→iT a b d=false) (hn:fs.length≤64) (u:Srt Fil.nm (fq a b fs)) (N:b.size≤maxLen):
 nI 204 #[.pointer (some ⟨y,0,none⟩),.pointer (some ⟨q,0,none⟩),.pointer (some ⟨t,0,none⟩)] [.box y Q #[.int .i64 (k:Int)],.box q G #[.string a],.box t E #[.string b]] [] fs (eY Fil.nm ⟨b,x.su,x.lo⟩ (fq a b fs)):=by
 intro U w X L F v vs K hL hF
 have m0:Itm.box y Q #[.int .i64 (k:Int)] ∈ L:=hL _ (by simp)
 have m1:Itm.box q G #[.string a] ∈ L:=hL _ (by simp)
 have T:Itm.box t E #[.string b] ∈ L:=hL _ (by simp)
 have hk:=(List.getElem?_eq_some_iff.1 C).1
 have ac:(fq a b fs).length≤fs.length:=List.length_filter_le _ _
 show Calls _ _ #[v,.pointer (some ⟨y,0,none⟩),.pointer (some ⟨q,0,none⟩),.pointer (some ⟨t,0,none⟩)] _ _
 obtain⟨A,cap,rfl,-⟩:=aE (K.row 0 rfl)
 obtain⟨g,rfl⟩:∃ g,A=some ⟨g,0,none⟩:=by
  rcases(K.row 0 rfl).2 with⟨h,_⟩ | ⟨g,cap',cur,h,_⟩
  ·injection h with R h2 N;omega
  ·injection h with R;exact⟨g,R⟩
 obtain⟨r,o,s⟩:=rowAt (K.ra 0 rfl) (e:=110) (g:=g) (n:=fs.length) (cap:=cap) C
 obtain⟨O,V,m,M,Y,p,rfl,P,S,f3⟩:=o
 have K:=(K.kn (f:=Sl.fact au M Y p x.lo) S).kn (f:=Sl.fact au O V m x.su) P
 have c0:=K.rm (List.mem_cons_of_mem _ m0) 0
 have i1:(0:Int)≤(k:Int):=by omega
 have J:(k:Int)<(fs.length:Int):=by omega
 obtain⟨n,i⟩:∃ n,n=fs.length:=⟨_,rfl⟩
 rw[←i]at K s J
 have l:=Lib.hid i
 clear P S C i
 go_enter Tryz.func204,Tryz.ntmps204
 go_upto_region 2 with(first | refine bu (s _ (K.row 0 rfl)) ?_ | (refine K.lw fun W K=>?_;refine K.sr 0 rfl fun W K=>?_))
 have K:=(K.mv 1 rfl).up 2 rfl
 have e:=l.out
 subst e
 clear c0 J l
 go_wp2_with fail
 refine(Eu fs a b z I H D hpre q t G E U _ X _ _ _ vs K hn (List.mem_cons_of_mem _ m1) (List.mem_cons_of_mem _ T)).mono ?_
 rintro e w2 ⟨v',vs',rfl,K⟩
 have Z:=K.rm (List.mem_cons_of_mem _ (List.mem_cons_of_mem _ T)) 0
 have c1:=K.c 1 rfl
 go_upto_region 4 with(fail)
 refine K.cw fun W K=>?_
 clear c1 Z
 go_wp2_with (first | refine K.ld 1 rfl ?_)
 refine(sJ ⟨b,x.su,x.lo⟩ O V m M Y p (fq a b fs) U _ X _ _ v' _ vs' K (by omega) u (K.sl 1 rfl) (K.sl 2 rfl) N).mono ?_
 rintro e w3 ⟨v3,B,rfl,K⟩
 go_wp2
 go_ret
 rw[jH]
 exact⟨v3,B,rfl,((K.drop (List.Sublist.cons_cons _ (List.sublist_cons_self _ _))).out.forget (List.Sublist.cons_cons _ (List.Sublist.cons _ (List.Sublist.cons _ (List.Sublist.cons _ (List.Sublist.refl _)))))).hh⟩
def Ek (a b:ByteArray) (x:Fil) (fs:List Fil):List Fil:=eY Fil.nm ⟨b,x.su,x.lo⟩ (fq a b fs)
theorem xy {fs:List Fil} {a b:ByteArray} {k:Nat} {x:Fil} (m:fs[k]?=some x) (i:iT a b x=true):∃ (e:Nat) (f:Fil),fs[e]?=some f∧iT a b f=true ∧ ∀ (j:Nat) d,j<e→fs[j]?=some d→iT a b d=false:=by
 induction k using Nat.strongRecOn generalizing x with
 | ind k ih=>
   by_cases h:∃ j d,j<k∧fs[j]?=some d∧iT a b d=true
   ·obtain⟨j,d,o,g,n⟩:=h
    exact ih j o g n
   ·refine⟨k,x,m,i,fun j d l c=>?_⟩
    cases hb:iT a b d with
    | false=>rfl
    | true=>exact absurd ⟨j,d,l,c,hb⟩ h
set_option maxHeartbeats 2000000 in
theorem vM (d:Dk) (x:Fil) (i:Nat) (b:ByteArray) (A:Option Addr) (n h:Nat) (X:List Nat) (w:World) (hX:XOk X w) (m:Sl az w X A n h d.fs) (g:eO d) (l:d.fs[i]?=some x) (t:findD d.fs x.nm=(i:Int)) (p:fnB b=true) (o:Srt Fil.nm (fq x.nm b d.fs)):
 Calls Tryz.prog 134 #[.agg #[.slice A n h,.int .i64 d.room,.int .i64 (-1),.bool false],.string x.nm,.string b] w (iA (Ek x.nm b x d.fs) d.room X w):=by
 have k:=g.2.2.2.1 x (List.mem_of_getElem? l)
 have u:n≤64:=by have:=g.1;have:=m.len;omega
 have O:i<n:=by have:=(List.getElem?_eq_some_iff.1 l).1;have:=m.len;omega
 obtain⟨D,E,v,C,z⟩:=xy (a:=x.nm) (b:=b) l (by unfold iT;simp)
 have G:=Lib.hid t
 have j:=fun(H J F:Nat) (t0 t1 t2:TypeId)=>Lib.hid (ur x.nm b H J F t0 t1 t2 d.fs i x l rfl D E v C z g.1 o (mA p))
 have N:=Lib.hid m.len
 have P:=mA k
 have Q:=mA p
 have L:¬ (i:Int) = -1:=by omega
 clear t v C z l
 go_enter Tryz.func134,Tryz.ntmps134
 go_wp2_with fail
 refine(hstart hX).cl fun W K=>?_
 have K:=(K.ksl0 m).many (n:=2) (s:=fh) (xs:=[x.nm,b]) (aM.2 ⟨rfl,by simp only[List.mem_cons,List.not_mem_nil,or_false];rintro y (rfl | rfl)<;>assumption⟩) rfl (by omega)
 clear m
 refine(gC d A n h [x.nm,b] _ 2 2 _ W K.xok (K.sl 1 rfl) (K.sl 0 rfl) (by omega) (by simp[k,p]) g).mono ?_
 rintro e M ⟨rfl,f⟩
 have K:=(K.on f).ft
 clear f
 have I:=K.r 2 rfl
 go_wp2_with (first | refine K.ld 3 rfl ?_)
 refine(gE d.fs d.room x.nm A n h _ _ K.xok (K.sl 0 rfl) (by omega)).mono ?_
 rw[G.out]
 rintro e q ⟨rfl,f⟩
 have K:=K.on f
 clear f I
 go_upto_region 5 with(fail)
 refine K.cw fun W K=>?_
 have c0:=K.r 0 rfl
 go_wp2_with (first | refine K.ld 4 rfl ?_)
 have hact:=((j q.heap.size (w.heap.size+1) (w.heap.size+1+1) 3 9 9).out).more (L2:=[.box q.heap.size 3 #[.int .i64 (i:Int)],.box (w.heap.size+1+1+1) 30 #[.slice none 0 0,.int .i64 0,.int .i64 0,.bool false],.box (w.heap.size+1+1) 9 #[.string b],.box (w.heap.size+1) 9 #[.string x.nm],.box w.heap.size 30 #[.slice A n h,.int .i64 d.room,.int .i64 (-1),.bool false]]) (F2:=[]) (by simp) (by simp)
 refine(ko 204 #[.pointer (some ⟨q.heap.size,0,none⟩),.pointer (some ⟨w.heap.size+1,0,none⟩),.pointer (some ⟨w.heap.size+1+1,0,none⟩)] _ [] d.fs (Ek x.nm b x d.fs) d.room A n h w _ X K (by omega) hact Tryz.call204).mono ?_
 rintro e R ⟨B,c,rfl,K⟩
 clear c0
 go_wp2_with (refine K.lw fun W K=>?_;refine K.sr 1 rfl fun W K=>?_)
 exact K.rc2 1 rfl rfl ⟨_,_,rfl,K.slb 0 rfl,K.below⟩
end
section
open Go.RowKit
def aS (l:List Int):List UInt8:=l.flatMap (fun n=>ay n.toNat)
def okN (l:List Int):Prop := ∀ x ∈ l,0≤x∧x≤9223372036854775807
theorem AQ {l:List Int} {k:Nat} {x:Int} (h:l[k]?=some x):aS (l.take (k+1))=aS (l.take k)++ay x.toNat:=by
 obtain⟨a,rfl⟩:=List.getElem?_eq_some_iff.1 h
 unfold aS
 rw[List.take_succ_eq_append_getElem a,List.flatMap_append]
 simp
theorem aK:∀ (l:List Int),okN l→(aS l).length≤10*l.length
 | [],_=>by simp[aS]
 | x::l,h=>by
   have c:=h x (by simp)
   have a:=aK l (fun y hy=>h y (by simp[hy]))
   have b:=bB x.toNat (by omega)
   unfold aS at a ⊢
   rw[List.flatMap_cons,List.length_append,List.length_cons]
   omega
theorem HH.rds {d W:World} {M X:List Nat} {L:List Itm} {F:List Fact} {g:Nat} {t:TypeId} {cs:Array Value} (K:HH d M X W L F) (i:Nat) (a:L[i]?=some (.box g t cs)) (k m:Nat) (vs:List Value) (c:(cs.toList.drop k).take vs.length=vs:=by rfl) (hm:vs.length=m:=by rfl):Reads W W.heap.size 1 (some ⟨g,k,none⟩) m vs:=
 ⟨by omega,fun _=>⟨_,rfl,K.out.lt i a,fun j u b=>by
  rw[add_plain]
  have:=K.sub i a k vs c j u b
  rwa [add_plain]at this⟩⟩
set_option maxHeartbeats 1000000 in
theorem dI (l:List Int) (p:okN l) (S:Option Addr) (m H:Nat) (bs:List UInt8) (A:Option Addr) (n c:Nat) (X:List Nat) (w:World) (hX:XOk X w) (b:Sl au w X A n c bs) (h:Reads w w.heap.size 1 S m (l.map (Value.int .i64 ·))) (z:bs.length+10*l.length≤800000):
 Calls Tryz.prog 247 #[.slice A n c,.slice S m H] w fun e w' => ∃ B nb cb,e = .returned (.slice B nb cb)∧Sl au w' X B nb cb (bs++aS l)∧Below w.heap.size w w':=by
 have o:m=l.length:=by have:=h.1;simpa using this.symm
 have g:=Lib.hid o
 have C:=Lib.hid h
 clear o h
 have r:m≤80000:=by have:=g.out;omega
 go_enter Tryz.func247,Tryz.ntmps247
 go_upto_region 1 with(fail)
 refine(hstart hX).cw fun W K=>?_
 have K:=K.ksl0 b
 clear b
 go_wp2
 go_loopw [0,9] (fun v i wr => ∃ (k nb:Nat) (B:Option Addr) (cb:Nat),k≤m∧i = .int .i64 k∧v = .slice B nb cb∧HH w [] X wr [] [Sl.fact au B nb cb (bs++aS (l.take k))]) (fun _ i _=>m-(intOf i).toNat)
 case atStart=>exact⟨0,n,A,c,Nat.zero_le _,rfl,rfl,by simpa [aS] using K⟩
 case round=>
  obtain⟨k,nb,B,cb,N,rfl,rfl,K⟩:=hrel
  by_cases F:k<m
  ·obtain⟨x,f⟩:∃ x,l[k]?=some x:=⟨_,List.getElem?_eq_getElem (by have:=g.out;omega)⟩
   have L:=p x (List.mem_of_getElem? f)
   have I:=Lib.hid (AQ f)
   have M:nb≤800000:=by
    have t:=(K.sl 0 rfl).len
    have E:=aK (l.take k) (fun y hy=>p y (List.mem_of_mem_take hy))
    rw[List.length_append]at t
    rw[List.length_take]at E
    have:=g.out
    omega
   obtain⟨ad,rfl,d,j⟩:=C.out.2 (by omega)
   have D:=(K.below.cell (by rw[aO];exact d)).trans (j k (.int .i64 x) (by rw[List.getElem?_map,f];rfl))
   have O:(0:Int)≤(k:Int):=by omega
   have u:(k:Int)<(m:Int):=by omega
   have q:IntKind.u64.wrap x=x:=IntWalk.u64_in _ (by omega)
   clear f j
   go_wp2_with fail
   refine(fI K.xok (K.sl 0 rfl) x (by omega) (by omega) (by omega)).mono ?_
   rintro e P ⟨J,G,rfl,a,b⟩
   rw[List.append_assoc,←I.out]at a
   have K:=(K.on b).ksl a
   clear b a D q
   go_wp2
   go_roundw
   case rel=>exact⟨k+1,_,J,G,by omega,by go_num,rfl,(K.out.forget (List.Sublist.cons_cons _ (List.Sublist.cons _ List.Sublist.slnil))).hh⟩
   case measure=>simp[intOf];omega
  ·have u:¬ (k:Int)<(m:Int):=by omega
   have s:l.take k=l:=List.take_of_length_le (by have:=g.out;omega)
   rw[s]at K
   go_wp2
   go_ret
   exact⟨B,nb,cb,rfl,K.slb 0 rfl,K.below⟩
end
section
open Go.RowKit
def iC (p:Int×Int):List UInt8:=aS [p.1,p.2]
def h9 (h:Nat→Int):List Int:=[h 0,h 1,h 2,h 3,h 4,h 5,h 6,h 7,h 8]
def fy (c:Cmp):List UInt8:=cx c.nm.data.toList++aS [c.role,c.mode]++(if c.role=1 then aS [c.wd,c.sl,(c.cells.length:Int)]++c.cells.flatMap iC else [])++(if c.role=1∨c.role=3 then aS (h9 c.h)++aS [c.hs] else []) ++
 (if c.role=2∨c.role=3 then aS [c.room,c.has] else [])++aS [c.ct 0,c.ct 1,c.ct 2]
theorem mg:∀ (cs:List (Int×Int)) (k:Nat) (o b:Int),cs[k]?=some (o,b)→(ax cs)[k*2]?=some (.int .i64 o)∧(ax cs)[k*2+1]?=some (.int .i64 b)
 | [],k,o,b,h=>by simp at h
 | e::l,0,o,b,h=>by
   simp only[List.getElem?_cons_zero,Option.some.injEq]at h
   subst h
   exact⟨rfl,rfl⟩
 | e::l,k+1,o,b,h=>by
   obtain⟨c,a⟩:=mg l k o b (by simpa using h)
   rw[aR,Nat.succ_mul]
   exact⟨c,a⟩
theorem aa.at_ {w:World} {X:List Nat} {A:Option Addr} {n:Nat} {cs:List (Int×Int)} (h:aa w X A n cs) {k:Nat} {o b:Int} (c:cs[k]?=some (o,b)):∃ ad,A=some ad∧ad.block<w.heap.size∧ad.block ∉ X∧At w (ad.add (k*2)) [.int .i64 o,.int .i64 b]:=by
 have i:=(List.getElem?_eq_some_iff.1 c).1
 have hn:0<n:=by have:=h.1;omega
 obtain⟨ad,rfl,e,d⟩:=h.2.1.2 hn
 obtain⟨g,f⟩:=mg cs k o b c
 refine⟨ad,rfl,e,h.2.2 hn ad rfl,fun j v a=>?_⟩
 rw[cN]
 match j with
 | 0=>exact d _ _ (by simp only[List.getElem?_cons_zero,Option.some.injEq]at a;subst a;exact g)
 | 1=>exact d _ _ (by simp only[List.getElem?_cons_succ,List.getElem?_cons_zero,Option.some.injEq]at a;subst a;exact f)
 | j+2=>simp at a
theorem aH {x:Int} {l:List Int} (a:0≤x) (b:x≤9223372036854775807) (h:okN l):okN (x::l):=fun y hy=>by
 rcases List.mem_cons.1 hy with rfl | hy
 ·exact⟨a,b⟩
 ·exact h y hy
theorem bY:okN []:=fun y hy=>by cases hy
theorem Bk {p:Int×Int} (h:bM p=false):(0≤p.1∧p.1≤1099511627776)∧(0≤p.2∧p.2≤1099511627776):=by
 unfold bM at h
 simp only[Bool.or_eq_false_iff,Bool.not_eq_false']at h
 have b:aY p.1=true:=h.1
 have a:aY p.2=true:=h.2
 unfold aY at b a
 exact⟨of_decide_eq_true b,of_decide_eq_true a⟩
theorem rW {p:Int×Int} (h:bM p=false):okN [p.1,p.2]:=by
 obtain⟨⟨a,b⟩,c,d⟩:=Bk h
 exact aH (by omega) (by omega) (aH (by omega) (by omega) bY)
theorem jr:∀ (l:List (Int×Int)),(∀ e ∈ l,bM e=false)→(l.flatMap iC).length≤20*l.length
 | [],_=>by simp
 | p::l,h=>by
   have b:=aK _ (rW (h p (by simp)))
   have c:=jr l (fun e a=>h e (by simp[a]))
   simp only[List.length_cons,List.length_nil]at b
   have d:(iC p).length=(aS [p.1,p.2]).length:=rfl
   rw[List.flatMap_cons,List.length_append,List.length_cons]
   omega
theorem za {l:List (Int×Int)} {k:Nat} {p:Int×Int} (h:l[k]?=some p):(l.take (k+1)).flatMap iC=(l.take k).flatMap iC++aS [p.1,p.2]:=by
 obtain⟨a,rfl⟩:=List.getElem?_eq_some_iff.1 h
 rw[List.take_succ_eq_append_getElem a,List.flatMap_append]
 simp[iC]
theorem mJ {s:ByteArray} (h:s.size≤24):(cx s.data.toList).length≤34:=by
 have b:=bB s.data.toList.length (by have:s.data.toList.length=s.size:=Array.length_toList;omega)
 have a:s.data.toList.length=s.size:=Array.length_toList
 unfold cx
 rw[List.length_append]
 omega
def qH (bs:List UInt8) (X:List Nat) (w:World) (e:Ending) (w':World):Prop := ∃ B nb cb,e = .returned (.slice B nb cb)∧Sl au w' X B nb cb bs∧Below w.heap.size w w'
set_option maxHeartbeats 4000000 in
theorem AM (nm:ByteArray) (mode wd sl:Int) (cells:List (Int×Int)) (h:Nat→Int) (j room has:Int) (d:Nat→Int) (J:dr ⟨nm,1,mode,wd,sl,cells,h,j,room,has,d⟩) (t:Option Addr) (g L:Nat) (bs:List UInt8) (A:Option Addr) (n c:Nat) (X:List Nat) (w:World) (hX:XOk X w) (b:Sl au w X A n c bs) (S:aa w X t g cells) (ag:bs.length≤300000):
 Calls Tryz.prog 248 #[.slice A n c,.agg (aL ⟨nm,1,mode,wd,sl,cells,h,j,room,has,d⟩ t g L).toArray] w (qH (bs++fy ⟨nm,1,mode,wd,sl,cells,h,j,room,has,d⟩) X w):=by
 obtain⟨⟨R,U⟩,⟨D,G,C⟩,s⟩:=J
 simp only at R U D G C s
 unfold aY at D G C
 have D:=of_decide_eq_true D
 have G:=of_decide_eq_true G
 have C:=of_decide_eq_true C
 have z0:=mJ U
 have okF:okN [d 0,d 1,d 2]:=aH (by omega) (by omega) (aH (by omega) (by omega) (aH (by omega) (by omega) bY))
 have z7:=aK _ okF
 have ae:n≤300000:=by have:=b.len;omega
 obtain⟨-,g1,g2,g3,g4,-,-⟩:True∧0≤mode∧mode≤2∧cj wd sl cells=true∧bw h j=true∧room=0∧has=0:=by
  rcases s with s | s | s
  ·exact⟨trivial,s.2⟩
  ·omega
  ·omega
 obtain⟨⟨r1,r2,r3,r4,r5,r6⟩,I⟩:=dH.1 g3
 have z3:=jr cells I
 have okB:okN [wd,sl,(cells.length:Int)]:=aH (by omega) (by omega) (aH (by omega) (by omega) (aH (by omega) (by omega) bY))
 have z2:=aK _ okB
 have z:okN [1,mode]:=aH (by omega) (by omega) (aH (by omega) (by omega) bY)
 have z1:=aK _ z
 obtain⟨l,f2,f3⟩:=nj g4
 have H:okN (h9 h):=by
  intro x p
  simp only[h9,List.mem_cons,List.not_mem_nil,or_false]at p
  rcases p with rfl | rfl | rfl | rfl | rfl | rfl | rfl | rfl | rfl
  all_goals first | (have:=l 0 (by omega);omega) | (have:=l 1 (by omega);omega) | (have:=l 2 (by omega);omega) | (have:=l 3 (by omega);omega) | (have:=l 4 (by omega);omega) | (have:=l 5 (by omega);omega) | (have:=l 6 (by omega);omega) | (have:=l 7 (by omega);omega) | (have:=l 8 (by omega);omega)
 have z4:=aK _ H
 have u:okN [j]:=aH (by omega) (by omega) bY
 have z5:=aK _ u
 simp only[h9,List.length_cons,List.length_nil]at z1 z7 z2 z4 z5
 have O:=Lib.hid (show bs++fy ⟨nm,1,mode,wd,sl,cells,h,j,room,has,d⟩=bs++cx nm.data.toList++aS [1,mode]++aS [wd,sl,(cells.length:Int)]++cells.flatMap iC++aS (h9 h)++aS [j]++aS [d 0,d 1,d 2] from by simp[fy])
 clear s D G C R
 generalize fy ⟨nm,1,mode,wd,sl,cells,h,j,room,has,d⟩=E at O ⊢
 simp only[aL]
 go_enter Tryz.func248,Tryz.ntmps248
 go_upto_region 1 with(fail)
 refine(hstart hX).cw fun W K=>?_
 have K:=(K.k0 (f:=aa.fact t g cells) S).ksl0 b
 clear b S
 have c0:=K.r 0 rfl
 go_wp2_with fail
 refine(kG K.xok (K.sl 0 rfl) nm (by omega) (by omega)).mono ?_
 rintro e w1 ⟨B1,k1,rfl,a,b⟩
 have K:=(K.on b).ft.ksl a
 clear b a c0
 have c0:=K.r 0 rfl
 go_wp2_with fail
 refine K.cl fun W K=>?_
 refine(dI [1,mode] z _ 2 _ (bs++cx nm.data.toList) _ _ _ _ _ K.xok (K.sl 0 rfl) (K.rds 0 rfl 0 2 _) (by simp only[List.length_append,h9,List.length_cons,List.length_nil];omega)).mono ?_
 rintro e w2 ⟨B2,n2,k2,rfl,a,b⟩
 have K:=((K.on b).ft.ksl a).tl
 clear b a
 clear c0
 have c0:=K.r 0 rfl
 have F:=(K.fa 1 rfl).1
 go_upto_region 4 with(fail)
 have m:=Lib.hid F
 clear F
 go_wp2_with fail
 refine K.cl fun W K=>?_
 rw[show(g:Int)=(cells.length:Int) from by rw[m.out]]at K
 refine(dI [wd,sl,(cells.length:Int)] okB _ 3 _ (bs++cx nm.data.toList++aS [1,mode]) _ _ _ _ _ K.xok (K.sl 0 rfl) (K.rds 0 rfl 0 3 _) (by simp only[List.length_append,h9,List.length_cons,List.length_nil];omega)).mono ?_
 rintro e w3 ⟨B3,n3,k3,rfl,a,b⟩
 have K:=((K.on b).ft.ksl a).tl
 clear b a
 clear c0
 have c0:=K.r 0 rfl
 go_upto_region 5 with(fail)
 go_wp2
 clear c0
 generalize hP:bs++cx nm.data.toList++aS [1,mode]++aS [wd,sl,(cells.length:Int)]=P at K
 have Q:g≤16:=by have:=m.out;omega
 have ab:P.length≤300200:=by rw[←hP];simp only[List.length_append];omega
 have HP:=Lib.hid hP
 clear hP
 go_loopw [0,38] (fun v i wr => ∃ (k nb:Nat) (B:Option Addr) (cb:Nat),k≤g∧i = .int .i64 k∧v = .slice B nb cb∧HH w [] X wr [.box w.heap.size 95 #[.string nm,.int .i64 1,.int .i64 mode,.int .i64 wd,.int .i64 sl,.slice t g L,.int .i64 (h 0),.int .i64 (h 1),.int .i64 (h 2),.int .i64 (h 3),.int .i64 (h 4),.int .i64 (h 5),.int .i64 (h 6),.int .i64 (h 7),.int .i64 (h 8),.int .i64 j,.int .i64 room,.int .i64 has,.int .i64 (d 0),.int .i64 (d 1),.int .i64 (d 2)]] [Sl.fact au B nb cb (P++(cells.take k).flatMap iC),aa.fact t g cells]) (fun _ i _=>g-(intOf i).toNat)
 case atStart=>exact⟨0,n3,B3,k3,Nat.zero_le _,rfl,rfl,by simpa using K⟩
 case round=>
  obtain⟨k,nb,B,cb,hk,rfl,rfl,K⟩:=hrel
  by_cases ac:k<g
  ·obtain⟨⟨o,q⟩,p⟩:∃ x,cells[k]?=some x:=⟨_,List.getElem?_eq_getElem (by have:=m.out;omega)⟩
   have hw:=I _ (List.mem_of_getElem? p)
   have HX:=Lib.hid (za p)
   have V:(P++(cells.take k).flatMap iC).length≤301000:=by
    have h2:=jr (cells.take k) (fun y hy=>I y (List.mem_of_mem_take hy))
    rw[List.length_take]at h2
    rw[List.length_append]
    omega
   obtain⟨ad,rfl,N,T,M⟩:=(K.fa 1 rfl).at_ p
   have K:=K.kn (f:=At.fact (ad.add (k*2)) _) ⟨by rw[aO];exact N,by rw[aO];exact T,M⟩
   have i1:(0:Int)≤(k:Int):=by omega
   have Z:(k:Int)<(g:Int):=by omega
   clear p N T M
   go_upto_region 8 with(first | refine bu (K.at' 0 rfl) ?_ | (refine K.lw fun W K=>?_;refine K.sr 0 rfl fun W K=>?_))
   have K:=K.ft
   have c0:=K.r 0 rfl
   go_wp2_with fail
   refine K.cl fun W K=>?_
   refine(dI [o,q] (rW hw) _ 2 _ _ _ _ _ _ _ K.xok (K.sl 0 rfl) (K.rds 0 rfl 0 2 _) (by simp only[List.length_cons,List.length_nil];omega)).mono ?_
   rintro e w4 ⟨Y,n4,k4,rfl,a,b⟩
   rw[List.append_assoc,←HX.out]at a
   have K:=((K.on b).ft.ksl a).tl.tl
   clear b a c0
   go_wp2
   go_roundw
   case rel=>exact⟨k+1,n4,Y,k4,by omega,by go_num,rfl,K⟩
   case measure=>simp[intOf];omega
  ·have Z:¬ (k:Int)<(g:Int):=by omega
   have e1:cells.take k=cells:=List.take_of_length_le (by have:=m.out;omega)
   rw[e1,←HP.out]at K
   have c0:=K.r 0 rfl
   go_upto_region 11 with(fail)
   go_wp2_with fail
   refine(dI (h9 h) H _ 9 _ (bs++cx nm.data.toList++aS [1,mode]++aS [wd,sl,(cells.length:Int)]++cells.flatMap iC) _ _ _ _ _ K.xok (K.sl 0 rfl) (K.rds 0 rfl 6 9 _) (by simp only[List.length_append,h9,List.length_cons,List.length_nil];omega)).mono ?_
   rintro e w5 ⟨B5,n5,k5,rfl,a,b⟩
   have K:=((K.on b).ft.ksl a)
   clear b a
   clear c0
   have c0:=K.r 0 rfl
   go_wp2_with fail
   refine K.cl fun W K=>?_
   refine(dI [j] u _ 1 _ (bs++cx nm.data.toList++aS [1,mode]++aS [wd,sl,(cells.length:Int)]++cells.flatMap iC++aS (h9 h)) _ _ _ _ _ K.xok (K.sl 0 rfl) (K.rds 0 rfl 0 1 _) (by simp only[List.length_append,h9,List.length_cons,List.length_nil];omega)).mono ?_
   rintro e w6 ⟨B6,n6,k6,rfl,a,b⟩
   have K:=((K.on b).ft.ksl a).tl
   clear b a
   clear c0
   have c0:=K.r 0 rfl
   go_upto_region 15 with(fail)
   go_wp2_with fail
   refine(dI [d 0,d 1,d 2] okF _ 3 _ (bs++cx nm.data.toList++aS [1,mode]++aS [wd,sl,(cells.length:Int)]++cells.flatMap iC++aS (h9 h)++aS [j]) _ _ _ _ _ K.xok (K.sl 0 rfl) (K.rds 0 rfl 18 3 _) (by simp only[List.length_append,h9,List.length_cons,List.length_nil];omega)).mono ?_
   rintro e w8 ⟨B8,n8,k8,rfl,a,b⟩
   have K:=((K.on b).ft.ksl a)
   clear b a
   go_wp2
   go_ret
   rw[O.out]
   exact⟨B8,n8,k8,rfl,K.slb 0 rfl,K.below⟩
set_option maxHeartbeats 4000000 in
theorem As (nm:ByteArray) (mode wd sl:Int) (cells:List (Int×Int)) (h:Nat→Int) (l room has:Int) (d:Nat→Int) (p:dr ⟨nm,2,mode,wd,sl,cells,h,l,room,has,d⟩) (o:Option Addr) (q H:Nat) (bs:List UInt8) (A:Option Addr) (n c:Nat) (X:List Nat) (w:World) (hX:XOk X w) (b:Sl au w X A n c bs) (s:aa w X o q cells) (C:bs.length≤300000):
 Calls Tryz.prog 248 #[.slice A n c,.agg (aL ⟨nm,2,mode,wd,sl,cells,h,l,room,has,d⟩ o q H).toArray] w (qH (bs++fy ⟨nm,2,mode,wd,sl,cells,h,l,room,has,d⟩) X w):=by
 obtain⟨⟨v,t⟩,⟨i,j,k⟩,g⟩:=p
 simp only at v t i j k g
 unfold aY at i j k
 have i:=of_decide_eq_true i
 have j:=of_decide_eq_true j
 have k:=of_decide_eq_true k
 have M:=mJ t
 have okF:okN [d 0,d 1,d 2]:=aH (by omega) (by omega) (aH (by omega) (by omega) (aH (by omega) (by omega) bY))
 have G:=aK _ okF
 have I:n≤300000:=by have:=b.len;omega
 obtain⟨-,U,y,x⟩:True∧0≤mode∧mode≤100∧eF room has=true:=by
  rcases g with g | g | g
  ·omega
  ·have:=g.2.1
   exact⟨trivial,by omega,by omega,g.2.2.2.2.2.2.2⟩
  ·omega
 have m:okN [2,mode]:=aH (by omega) (by omega) (aH (by omega) (by omega) bY)
 have z:=aK _ m
 have R:=of_decide_eq_true (show decide (0≤room∧room≤2147483647∧0≤has∧has≤room)=true from x)
 have okE:okN [room,has]:=aH (by omega) (by omega) (aH (by omega) (by omega) bY)
 have B:=aK _ okE
 simp only[h9,List.length_cons,List.length_nil]at z G B
 have u:=Lib.hid (show bs++fy ⟨nm,2,mode,wd,sl,cells,h,l,room,has,d⟩=bs++cx nm.data.toList++aS [2,mode]++aS [room,has]++aS [d 0,d 1,d 2] from by simp[fy])
 clear g i j k v
 generalize fy ⟨nm,2,mode,wd,sl,cells,h,l,room,has,d⟩=E at u ⊢
 simp only[aL]
 go_enter Tryz.func248,Tryz.ntmps248
 go_upto_region 1 with(fail)
 refine(hstart hX).cw fun W K=>?_
 have K:=(K.k0 (f:=aa.fact o q cells) s).ksl0 b
 clear b s
 have c0:=K.r 0 rfl
 go_wp2_with fail
 refine(kG K.xok (K.sl 0 rfl) nm (by omega) (by omega)).mono ?_
 rintro e S ⟨O,Z,rfl,a,b⟩
 have K:=(K.on b).ft.ksl a
 clear b a c0
 have c0:=K.r 0 rfl
 go_wp2_with fail
 refine K.cl fun W K=>?_
 refine(dI [2,mode] m _ 2 _ (bs++cx nm.data.toList) _ _ _ _ _ K.xok (K.sl 0 rfl) (K.rds 0 rfl 0 2 _) (by simp only[List.length_append,h9,List.length_cons,List.length_nil];omega)).mono ?_
 rintro e Q ⟨B2,V,P,rfl,a,b⟩
 have K:=((K.on b).ft.ksl a).tl
 clear b a
 clear c0
 have c0:=K.r 0 rfl
 go_upto_region 14 with(fail)
 go_wp2_with fail
 refine K.cl fun W K=>?_
 refine(dI [room,has] okE _ 2 _ (bs++cx nm.data.toList++aS [2,mode]) _ _ _ _ _ K.xok (K.sl 0 rfl) (K.rds 0 rfl 0 2 _) (by simp only[List.length_append,h9,List.length_cons,List.length_nil];omega)).mono ?_
 rintro e w7 ⟨T,N,Y,rfl,a,b⟩
 have K:=((K.on b).ft.ksl a).tl
 clear b a
 clear c0
 have c0:=K.r 0 rfl
 go_upto_region 15 with(fail)
 go_wp2_with fail
 refine(dI [d 0,d 1,d 2] okF _ 3 _ (bs++cx nm.data.toList++aS [2,mode]++aS [room,has]) _ _ _ _ _ K.xok (K.sl 0 rfl) (K.rds 0 rfl 18 3 _) (by simp only[List.length_append,h9,List.length_cons,List.length_nil];omega)).mono ?_
 rintro e L ⟨J,F,D,rfl,a,b⟩
 have K:=((K.on b).ft.ksl a)
 clear b a
 go_wp2
 go_ret
 rw[u.out]
 exact⟨J,F,D,rfl,K.slb 0 rfl,K.below⟩
set_option maxHeartbeats 4000000 in
theorem BN (nm:ByteArray) (mode wd sl:Int) (cells:List (Int×Int)) (h:Nat→Int) (g room has:Int) (d:Nat→Int) (u:dr ⟨nm,3,mode,wd,sl,cells,h,g,room,has,d⟩) (s:Option Addr) (t F:Nat) (bs:List UInt8) (A:Option Addr) (n c:Nat) (X:List Nat) (w:World) (hX:XOk X w) (b:Sl au w X A n c bs) (B:aa w X s t cells) (L:bs.length≤300000):
 Calls Tryz.prog 248 #[.slice A n c,.agg (aL ⟨nm,3,mode,wd,sl,cells,h,g,room,has,d⟩ s t F).toArray] w (qH (bs++fy ⟨nm,3,mode,wd,sl,cells,h,g,room,has,d⟩) X w):=by
 obtain⟨⟨z,C⟩,⟨o,p,m⟩,i⟩:=u
 simp only at z C o p m i
 unfold aY at o p m
 have o:=of_decide_eq_true o
 have p:=of_decide_eq_true p
 have m:=of_decide_eq_true m
 have z0:=mJ C
 have okF:okN [d 0,d 1,d 2]:=aH (by omega) (by omega) (aH (by omega) (by omega) (aH (by omega) (by omega) bY))
 have O:=aK _ okF
 have G:n≤300000:=by have:=b.len;omega
 obtain⟨-,Z,g2,Q,I⟩:True∧0≤mode∧mode≤2147483647∧bw h g=true∧eF room has=true:=by
  rcases i with i | i | i
  ·omega
  ·omega
  ·exact⟨trivial,i.2.1,i.2.2.1,i.2.2.2.2.2.2.1,i.2.2.2.2.2.2.2⟩
 have l:okN [3,mode]:=aH (by omega) (by omega) (aH (by omega) (by omega) bY)
 have D:=aK _ l
 obtain⟨j,f2,f3⟩:=nj Q
 have q:okN (h9 h):=by
  intro x v
  simp only[h9,List.mem_cons,List.not_mem_nil,or_false]at v
  rcases v with rfl | rfl | rfl | rfl | rfl | rfl | rfl | rfl | rfl
  all_goals first | (have:=j 0 (by omega);omega) | (have:=j 1 (by omega);omega) | (have:=j 2 (by omega);omega) | (have:=j 3 (by omega);omega) | (have:=j 4 (by omega);omega) | (have:=j 5 (by omega);omega) | (have:=j 6 (by omega);omega) | (have:=j 7 (by omega);omega) | (have:=j 8 (by omega);omega)
 have H:=aK _ q
 have k:okN [g]:=aH (by omega) (by omega) bY
 have M:=aK _ k
 have b1:=of_decide_eq_true (show decide (0≤room∧room≤2147483647∧0≤has∧has≤room)=true from I)
 have okE:okN [room,has]:=aH (by omega) (by omega) (aH (by omega) (by omega) bY)
 have J:=aK _ okE
 simp only[h9,List.length_cons,List.length_nil]at D O H M J
 have y:=Lib.hid (show bs++fy ⟨nm,3,mode,wd,sl,cells,h,g,room,has,d⟩=bs++cx nm.data.toList++aS [3,mode]++aS (h9 h)++aS [g]++aS [room,has]++aS [d 0,d 1,d 2] from by simp[fy])
 clear i o p m z
 generalize fy ⟨nm,3,mode,wd,sl,cells,h,g,room,has,d⟩=E at y ⊢
 simp only[aL]
 go_enter Tryz.func248,Tryz.ntmps248
 go_upto_region 1 with(fail)
 refine(hstart hX).cw fun W K=>?_
 have K:=(K.k0 (f:=aa.fact s t cells) B).ksl0 b
 clear b B
 have c0:=K.r 0 rfl
 go_wp2_with fail
 refine(kG K.xok (K.sl 0 rfl) nm (by omega) (by omega)).mono ?_
 rintro e w1 ⟨B1,k1,rfl,a,b⟩
 have K:=(K.on b).ft.ksl a
 clear b a c0
 have c0:=K.r 0 rfl
 go_wp2_with fail
 refine K.cl fun W K=>?_
 refine(dI [3,mode] l _ 2 _ (bs++cx nm.data.toList) _ _ _ _ _ K.xok (K.sl 0 rfl) (K.rds 0 rfl 0 2 _) (by simp only[List.length_append,h9,List.length_cons,List.length_nil];omega)).mono ?_
 rintro e Y ⟨B2,n2,V,rfl,a,b⟩
 have K:=((K.on b).ft.ksl a).tl
 clear b a
 clear c0
 have c0:=K.r 0 rfl
 go_upto_region 11 with(fail)
 go_wp2_with fail
 refine(dI (h9 h) q _ 9 _ (bs++cx nm.data.toList++aS [3,mode]) _ _ _ _ _ K.xok (K.sl 0 rfl) (K.rds 0 rfl 6 9 _) (by simp only[List.length_append,h9,List.length_cons,List.length_nil];omega)).mono ?_
 rintro e w5 ⟨T,n5,k5,rfl,a,b⟩
 have K:=((K.on b).ft.ksl a)
 clear b a
 clear c0
 have c0:=K.r 0 rfl
 go_wp2_with fail
 refine K.cl fun W K=>?_
 refine(dI [g] k _ 1 _ (bs++cx nm.data.toList++aS [3,mode]++aS (h9 h)) _ _ _ _ _ K.xok (K.sl 0 rfl) (K.rds 0 rfl 0 1 _) (by simp only[List.length_append,h9,List.length_cons,List.length_nil];omega)).mono ?_
 rintro e U ⟨B6,n6,k6,rfl,a,b⟩
 have K:=((K.on b).ft.ksl a).tl
 clear b a
 clear c0
 have c0:=K.r 0 rfl
 go_upto_region 14 with(fail)
 go_wp2_with fail
 refine K.cl fun W K=>?_
 refine(dI [room,has] okE _ 2 _ (bs++cx nm.data.toList++aS [3,mode]++aS (h9 h)++aS [g]) _ _ _ _ _ K.xok (K.sl 0 rfl) (K.rds 0 rfl 0 2 _) (by simp only[List.length_append,h9,List.length_cons,List.length_nil];omega)).mono ?_
 rintro e w7 ⟨B7,n7,k7,rfl,a,b⟩
 have K:=((K.on b).ft.ksl a).tl
 clear b a
 clear c0
 have c0:=K.r 0 rfl
 go_upto_region 15 with(fail)
 go_wp2_with fail
 refine(dI [d 0,d 1,d 2] okF _ 3 _ (bs++cx nm.data.toList++aS [3,mode]++aS (h9 h)++aS [g]++aS [room,has]) _ _ _ _ _ K.xok (K.sl 0 rfl) (K.rds 0 rfl 18 3 _) (by simp only[List.length_append,h9,List.length_cons,List.length_nil];omega)).mono ?_
 rintro e S ⟨R,P,N,rfl,a,b⟩
 have K:=((K.on b).ft.ksl a)
 clear b a
 go_wp2
 go_ret
 rw[y.out]
 exact⟨R,P,N,rfl,K.slb 0 rfl,K.below⟩
theorem Bo (c:Cmp) (a:dr c) (d:Option Addr) (f g:Nat) (bs:List UInt8) (A:Option Addr) (n k:Nat) (X:List Nat) (w:World) (hX:XOk X w) (j:Sl au w X A n k bs) (i:aa w X d f c.cells) (b:bs.length≤300000):
 Calls Tryz.prog 248 #[.slice A n k,.agg (aL c d f g).toArray] w (qH (bs++fy c) X w):=by
 obtain⟨nm,role,mode,wd,sl,cells,h,l,room,has,m⟩:=c
 rcases a.2.2 with e | e | e
 ·obtain rfl:role=1:=e.1
  exact AM nm mode wd sl cells h l room has m a d f g bs A n k X w hX j i b
 ·obtain rfl:role=2:=e.1
  exact As nm mode wd sl cells h l room has m a d f g bs A n k X w hX j i b
 ·obtain rfl:role=3:=e.1
  exact BN nm mode wd sl cells h l room has m a d f g bs A n k X w hX j i b
end
section
open Go.RowKit
def stE (s:St):List UInt8:=aS [(s.cs.length:Int)]++s.cs.flatMap fy++aS [s.q,s.a]
theorem qg {c:Cmp} (h:dr c):(fy c).length≤230+20*c.cells.length∧c.cells.length≤16:=by
 obtain⟨nm,role,mode,wd,sl,cells,i,m,room,has,d⟩:=c
 obtain⟨⟨B,u⟩,⟨j,k,l⟩,v⟩:=h
 simp only at B u j k l v
 unfold aY at j k l
 have j:=of_decide_eq_true j
 have k:=of_decide_eq_true k
 have l:=of_decide_eq_true l
 have C:=mJ u
 have q:=aK [d 0,d 1,d 2] (aH (by omega) (by omega) (aH (by omega) (by omega) (aH (by omega) (by omega) bY)))
 have hC:bw i m=true→okN (h9 i)∧okN [m]:=fun b=>by
  obtain⟨a,F,E⟩:=nj b
  refine⟨?_,aH (by omega) (by omega) bY⟩
  intro x t
  simp only[h9,List.mem_cons,List.not_mem_nil,or_false]at t
  rcases t with rfl | rfl | rfl | rfl | rfl | rfl | rfl | rfl | rfl
  all_goals first | (have:=a 0 (by omega);omega) | (have:=a 1 (by omega);omega) | (have:=a 2 (by omega);omega) | (have:=a 3 (by omega);omega) | (have:=a 4 (by omega);omega) | (have:=a 5 (by omega);omega) | (have:=a 6 (by omega);omega) | (have:=a 7 (by omega);omega) | (have:=a 8 (by omega);omega)
 have hE:eF room has=true→okN [room,has]:=fun g=>by
  have I:=of_decide_eq_true (show decide (0≤room∧room≤2147483647∧0≤has∧has≤room)=true from g)
  exact aH (by omega) (by omega) (aH (by omega) (by omega) bY)
 have y:(h9 i).length=9:=rfl
 rcases v with⟨rfl,w,n,p,b,-⟩ | ⟨rfl,w,-,-,rfl,-,-,n⟩ | ⟨rfl,w,n,-,-,rfl,b,p⟩
 ·obtain⟨⟨J,G,H,M,K,D⟩,A⟩:=dH.1 p
  have L:=jr cells A
  have z:=aK [wd,sl,(cells.length:Int)] (aH (by omega) (by omega) (aH (by omega) (by omega) (aH (by omega) (by omega) bY)))
  have f:=aK [1,mode] (aH (by omega) (by omega) (aH (by omega) (by omega) bY))
  have s:=aK _ (hC b).1
  have r:=aK _ (hC b).2
  simp only[h9,List.length_cons,List.length_nil]at f z s r q
  have e:fy ⟨nm,1,mode,wd,sl,cells,i,m,room,has,d⟩=cx nm.data.toList++aS [1,mode]++(aS [wd,sl,(cells.length:Int)]++cells.flatMap iC)++(aS (h9 i)++aS [m])++aS [d 0,d 1,d 2]:=by simp[fy]
  rw[e]
  simp only[List.length_append,h9]
  refine⟨by omega,by omega⟩
 ·have f:=aK [2,mode] (aH (by omega) (by omega) (aH (by omega) (by omega) bY))
  have o:=aK _ (hE n)
  simp only[List.length_cons,List.length_nil]at f o q
  simp[fy]
  omega
 ·have f:=aK [3,mode] (aH (by omega) (by omega) (aH (by omega) (by omega) bY))
  have s:=aK _ (hC b).1
  have r:=aK _ (hC b).2
  have o:=aK _ (hE p)
  simp only[List.length_cons,List.length_nil]at f r o q
  simp[fy]
  omega
theorem BL {c:Cmp} (h:dr c):(fy c).length≤600:=by have:=qg h;omega
theorem jc:∀ (l:List Cmp),(∀ c ∈ l,dr c)→(l.flatMap fy).length≤600*l.length
 | [],_=>by simp
 | c::l,h=>by
   have d:=BL (h c (by simp))
   have b:=jc l (fun e a=>h e (by simp[a]))
   rw[List.flatMap_cons,List.length_append,List.length_cons]
   omega
theorem xG {l:List Cmp} {k:Nat} {c:Cmp} (h:l[k]?=some c):(l.take (k+1)).flatMap fy=(l.take k).flatMap fy++fy c:=by
 obtain⟨a,rfl⟩:=List.getElem?_eq_some_iff.1 h
 rw[List.take_succ_eq_append_getElem a,List.flatMap_append]
 simp
set_option maxHeartbeats 2000000 in
theorem vv (s:St) (h:cF s) (A:Option Addr) (n g:Nat) (X:List Nat) (w:World) (hX:XOk X w) (u:Sl aB w X A n g s.cs):
 Calls Tryz.prog 197 #[.agg #[.slice A n g,.int .i64 s.q,.int .i64 s.a]] w fun e w' => ∃ B nb cb,e = .returned (.tuple #[.slice B nb cb,.int .i64 0])∧Sl au w' X B nb cb (stE s)∧Below w.heap.size w w':=by
 obtain⟨cs,q,a⟩:=s
 have z:=Lib.hid h
 obtain⟨J,o2,U,o4,Y,p,N⟩:=h
 simp only at J o2 U o4 Y p N u
 have t:=Lib.hid u.len
 have d:okN [(cs.length:Int)]:=aH (by omega) (by omega) bY
 have okB:okN [q,a]:=aH (by omega) (by omega) (aH (by omega) (by omega) bY)
 have L:=aK _ d
 have z2:=aK _ okB
 have z3:=jc cs p
 simp only[List.length_cons,List.length_nil]at L z2
 go_enter Tryz.func197,Tryz.ntmps197
 go_upto_region 1 with(fail)
 refine(hstart hX).cw fun W K=>?_
 have K:=K.ksl0 u
 clear u
 go_wp2_with (first | refine K.ld 0 rfl ?_)
 refine(eE ⟨cs,q,a⟩ A n g _ _ K.xok (K.sl 0 rfl) z.out).mono ?_
 rintro e w1 ⟨rfl,c⟩
 have K:=K.on c
 clear c
 have c0:=K.r 0 rfl
 go_wp2_with fail
 refine K.cl fun W K=>?_
 rw[show(n:Int)=(cs.length:Int) from by rw[t.out]]at K
 refine(dI [(cs.length:Int)] d _ 1 _ [] _ _ _ _ _ K.xok Sl.nil_ (K.rds 0 rfl 0 1 _) (by simp)).mono ?_
 rintro e w2 ⟨B2,n2,M,rfl,b,c⟩
 rw[List.nil_append]at b
 have K:=((K.on c).ksl b).tl
 clear c b c0
 have c0:=K.r 0 rfl
 go_upto_region 4 with(fail)
 go_wp2
 clear c0
 have D:n≤12:=by have:=t.out;omega
 go_loopw [4,18] (fun v i wr => ∃ (k nb:Nat) (B:Option Addr) (cb:Nat),k≤n∧i = .int .i64 k∧v = .slice B nb cb∧HH w [] X wr [.box w.heap.size 37 #[.slice A n g,.int .i64 q,.int .i64 a]] [Sl.fact au B nb cb (aS [(cs.length:Int)]++(cs.take k).flatMap fy),Sl.fact aB A n g cs]) (fun _ i _=>n-(intOf i).toNat)
 case atStart=>exact⟨0,n2,B2,M,Nat.zero_le _,rfl,rfl,by simpa using K⟩
 case round=>
  obtain⟨k,nb,B,cb,hk,rfl,rfl,K⟩:=hrel
  by_cases P:k<n
  ·obtain⟨x,o⟩:∃ x,cs[k]?=some x:=⟨_,List.getElem?_eq_getElem (by have:=t.out;omega)⟩
   have m:=p x (List.mem_of_getElem? o)
   have HX:=Lib.hid (xG o)
   have F:(aS [(cs.length:Int)]++(cs.take k).flatMap fy).length≤7300:=by
    have O:=jc (cs.take k) (fun y hy=>p y (List.mem_of_mem_take hy))
    rw[List.length_take]at O
    rw[List.length_append]
    omega
   obtain⟨ad,rr,rfl,K,⟨E,C,S,rfl,l,Q⟩⟩:=K.elem 1 rfl (j:=k) (x:=x) o
   have K:=K.kn (f:=aa.fact E C x.cells) l
   have i1:(0:Int)≤(k:Int):=by omega
   have I:(k:Int)<(n:Int):=by omega
   clear o l
   go_upto_region 7 with(first | refine bu (K.at' 1 rfl) ?_ | (refine K.lw fun W K=>?_;refine K.sr 0 rfl fun W K=>?_))
   go_wp2_with (first | refine K.ld 0 rfl ?_)
   refine K.cl fun W K=>?_
   refine(Bo x m E C S _ _ _ _ _ _ K.xok (K.sl 2 rfl) (K.fa 0 rfl) (by omega)).mono ?_
   rintro e w4 ⟨H,R,Z,rfl,b,c⟩
   rw[List.append_assoc,←HX.out]at b
   have K:=((K.on c).ft.ft.ft.ksl b).tl
   clear c b
   go_wp2
   go_roundw
   case rel=>exact⟨k+1,R,H,Z,by omega,by go_num,rfl,K⟩
   case measure=>simp[intOf];omega
  ·have I:¬ (k:Int)<(n:Int):=by omega
   have e1:cs.take k=cs:=List.take_of_length_le (by have:=t.out;omega)
   rw[e1]at K
   have c0:=K.r 0 rfl
   go_wp2_with fail
   refine K.cl fun W K=>?_
   refine(dI [q,a] okB _ 2 _ _ _ _ _ _ _ K.xok (K.sl 0 rfl) (K.rds 0 rfl 0 2 _) (by simp only[List.length_append,List.length_cons,List.length_nil];omega)).mono ?_
   rintro e w5 ⟨G,V,T,rfl,b,c⟩
   have K:=(K.on c).ksl b
   clear c b c0
   go_wp2
   go_ret2
   exact⟨G,V,T,rfl,K.slb 0 rfl,K.below⟩
theorem AL (n:Nat):0<(ay n).length:=by
 rw[jf]
 unfold kR
 split<;>simp
theorem Du (s:St):0<(stE s).length:=by
 have h:=AL s.a.toNat
 unfold stE aS
 simp only[List.flatMap_cons,List.flatMap_nil,List.append_nil,List.length_append]
 omega
def jB (s:St):List UInt8:=hO ef ([102,98,115,49]++stE s)
theorem rR {s:St} (h:cF s):(stE s).length≤7300:=by
 obtain⟨g,k,i,j,e,b,l⟩:=h
 have d:=aK [(s.cs.length:Int)] (aH (by omega) (by omega) bY)
 have c:=aK [s.q,s.a] (aH (by omega) (by omega) (aH (by omega) (by omega) bY))
 have f:=jc s.cs b
 simp only[List.length_cons,List.length_nil]at d c
 unfold stE
 rw[List.length_append,List.length_append]
 omega
set_option maxHeartbeats 1000000 in
theorem vK (s:St) (k:cF s) (A:Option Addr) (n C:Nat) (X:List Nat) (w:World) (hX:XOk X w) (O:Sl aB w X A n C s.cs):
 Calls Tryz.prog 129 #[.agg #[.slice A n C,.int .i64 s.q,.int .i64 s.a]] w fun e w' => ∃ B nb cb,e = .returned (.tuple #[.slice B nb cb,.int .i64 0])∧Sl au w' X B nb cb (jB s)∧Below w.heap.size w w':=by
 have hl:=rR k
 go_enter Tryz.func129,Tryz.ntmps129
 go_upto_region 1 with(fail)
 refine(hstart hX).cw fun W K=>?_
 have K:=K.ksl0 O
 clear O
 go_wp2_with (first | refine K.ld 0 rfl ?_)
 refine(vv s k A n C _ _ K.xok (K.sl 0 rfl)).mono ?_
 rintro e w1 ⟨B1,n1,k1,rfl,c,d⟩
 have K:=(K.on d).ksl c
 clear d c
 go_wp2_with fail
 refine(oq _).mono ?_
 rintro e N ⟨rfl,d⟩
 have K:=K.on d
 clear d
 have kc:=Lib.run_convert_bytes_const (P:=Tryz.prog) N 50 5 #[.int .u8 102,.int .u8 98,.int .u8 115,.int .u8 49] 4 4 Tryz.underlying50 Tryz.underlying5
 have K:=(K.out.marked #[.int .u8 102,.int .u8 98,.int .u8 115,.int .u8 49] 5 (4,5) [102,98,115,49] rfl (by unfold maxLen;simp)).hh
 have f:=Lib.hid (K.sl 1 rfl).len
 have t:0<n1:=by have:=f.out;have:=Du s;omega
 have M:n1≤7300:=by have:=f.out;omega
 obtain⟨ad,rfl,a1,J⟩:=(K.sl 1 rfl).bytes.2 t
 have K:=K
 obtain⟨S,G,E,y,D⟩:=info_parts Tryz.infoU8
 have m:(byteCells (stE s)).length=n1*1:=by unfold byteCells;rw[List.length_map,←f.out,Nat.mul_one]
 obtain⟨U,I,Y,Q⟩:=(K.sl 0 rfl).bytes.2 (by decide)
 have z:=Lib.hid J
 have r:=Lib.hid Q
 have p:=Lib.hid I
 have F:=Lib.hid m
 clear a1 J Y Q I m
 go_wp2_with (at_builtin;go_must (refine wpList_append_grows _ rfl _ _ 50 rfl 5 S _ 1 1 Tryz.underlying50 G E y D rfl (by decide) (some ⟨N.heap.size,0,none⟩) 4 4 (byteCells [102,98,115,49]) rfl (fun e=>by cases e) rfl (fun b eb j u H=>r.out j u H |> fun h=>by injection (p.out.symm.trans eb) with Z;exact Z ▸ h) ad n1 k1 (byteCells (stE s)) rfl F.out (fun j u H=>z.out j u H) (fun u L=>by unfold byteCells at L;obtain⟨x,-,rfl⟩:=List.mem_map.1 L;rfl) (by omega) (by unfold maxLen;omega) (by omega) fun v' W' o g=>?_))
 have l:Below _ _ W':=Below.mk g.os g.tape g.output g.size (fun b d=>g.block b d (by simp))
 obtain⟨R,c5,rfl,c⟩:=Sl.of_made (s:=au) (xs:=[102,98,115,49]++stE s) o K.xok (aF.append (dO [102,98,115,49]) (dO (stE s))) (by decide)
 have K:=(K.on l).ksl c
 clear l c o g
 refine(vm ef (fun i h=>tI (by omega)) R _ c5 _ ([102,98,115,49]++stE s) W' (K.sl 0 rfl).bytes (Nat.le_refl _) (by omega)).mono ?_
 rintro e w6 ⟨v,rfl,o,d⟩
 obtain⟨T,V,rfl,c⟩:=Sl.of_made (s:=au) (xs:=jB s) o K.xok (dO _) (by decide)
 have K:=(K.on d).ksl c
 clear d c o
 go_wp2
 go_ret2
 exact⟨T,_,V,rfl,K.slb 0 rfl,K.below⟩
end
section
open Go.RowKit
def vH (n:Nat):List UInt8:=Lib.repeatL [48] (10-(Lib.itoa (n:Int)).length)++Lib.itoa (n:Int)
theorem zw {n:Nat} (h:n≤99999999):(vH n).length=10:=by
 have a:=Da n h
 unfold vH
 rw[List.length_append,Lib.repeatL_length,mE,Lib.decDigits_length]
 simp
 omega
theorem Cg {n:Nat}:(∀ c ∈ vH n,48≤c.toNat∧c.toNat≤57)∧ga 0 (vH n)=n:=by
 obtain⟨d,b⟩:=pe n
 unfold vH
 rw[mE,lF]
 refine⟨fun c a=>?_,b⟩
 rcases List.mem_append.1 a with a | a
 ·rw[rC _ c a];decide
 ·exact d c a
theorem ow (n:Nat):(jv n).data.toList = [115,110,97,112,46]++vH n:=by
 unfold jv vH
 simp[ByteArray.data_append]
theorem vA {n:Nat} (h:n≤99999999):(jv n).size=15:=by
 show(jv n).data.size=15
 rw[←Array.length_toList,ow,List.length_append,zw h]
 rfl
theorem Bn {n:Nat} (h:n≤99999999):fnB (jv n)=true:=by
 have d:=(Cg (n:=n)).1
 unfold fnB
 rw[vA h,ByteArray.toList_eq,ow,Bool.and_eq_true]
 refine⟨by decide,List.all_eq_true.2 fun c b=>?_⟩
 rcases List.mem_append.1 b with a | a
 ·simp only[List.mem_cons,List.not_mem_nil,or_false]at a
  rcases a with rfl | rfl | rfl | rfl | rfl<;>decide
 ·have:=d c a
  unfold qx
  exact decide_eq_true (by omega)
abbrev iK:ByteArray:=⟨#[116,109,112]⟩
theorem CL (n:Nat):ltB (aA n) iK=true:=by
 unfold ltB
 rw[ByteArray.toList_eq,ByteArray.toList_eq,fJ]
 rfl
theorem oC:fnB iK=true:=by
 unfold fnB
 rw[ByteArray.toList_eq]
 rfl
theorem rN {fs:List Fil} {room:Int} {nm:ByteArray} {a b:List UInt8} (h:eO ⟨fs,room⟩) (p:∀ d ∈ fs,ltB d.nm nm=true) (hn:fs.length<64) (l:fnB nm=true) (n:(aI fs:Int)+a.length+b.length≤room):eO ⟨fs ++ [⟨nm,a,b⟩],room⟩:=by
 obtain⟨k,j,g,i,e,o⟩:=h
 simp only at k j g i e o
 refine⟨by simp;omega,j,g,fun f c=>?_,?_,?_⟩
 ·simp only[List.mem_append,List.mem_singleton]at c
  rcases c with c | rfl
  ·exact i f c
  ·exact l
 ·refine List.pairwise_append.2 ⟨e,List.pairwise_singleton _ _,fun x m y hy=>?_⟩
  rw[List.mem_singleton]at hy
  subst hy
  exact p x m
 ·simp only
  rw[kC,dZ]
  unfold Fil.all
  rw[List.length_append]
  simp only[aI,List.map_nil,List.sum_nil]
  simp only[aI]at n
  omega
theorem oa (fs:List Fil) (x:Fil):(fs ++ [x])[fs.length]?=some x:=by simp
theorem ue (fs:List Fil) (x y:Fil):(fs ++ [x]).set fs.length y=fs ++ [y]:=by simp
theorem nw {fs:List Fil} {room:Int} {x:Fil} (h:eO ⟨fs ++ [x],room⟩):findD (fs ++ [x]) x.nm=(fs.length:Int):=qO h.2.2.2.2.1 (oa fs x)
theorem Bt {fs:List Fil} (b:∀ d ∈ fs,ltB d.nm iK=true):findD fs iK = -1:=by
 unfold findD
 rw[jF (fun d a e=>by have:=jj (b d a);exact this e),if_neg (by omega)]
theorem va (fs:List Fil) (nm:ByteArray):aI (fs ++ [⟨nm,[],[]⟩])=aI fs:=by
 rw[kC,dZ]
 simp[Fil.all,aI]
theorem Cn {fs:List Fil} (a b:ByteArray) (h:Srt Fil.nm fs):Srt Fil.nm (fq a b fs):=List.Pairwise.filter _ h
def Bv (nm:ByteArray) (bs:List UInt8) (fs:List Fil):List Fil:=Ek iK nm ⟨iK,bs,[]⟩ (fs ++ [⟨iK,bs,[]⟩])
end
section
open Go.RowKit
set_option maxHeartbeats 4000000 in
theorem EF (fs:List Fil) (room:Int) (s:St) (q:Nat) (O:s.q=q) (u:q≤99999999) (j:cF s) (g:eO ⟨fs,room⟩) (p:∀ d ∈ fs,ltB d.nm iK=true) (i:fs.length<64) (Q:(aI fs:Int)+(jB s).length≤room)
 (A:Option Addr) (n o:Nat) (C:Option Addr) (k z:Nat) (X:List Nat) (w:World) (hX:XOk X w) (L:Sl az w X A n o fs) (m:Sl aB w X C k z s.cs) (T:aX w):
 Calls Tryz.prog 66 #[.agg #[.slice A n o,.int .i64 room,.int .i64 (-1),.bool false],.agg #[.slice C k z,.int .i64 s.q,.int .i64 s.a]] w (iA (Bv (jv q) (jB s) fs) room X w):=by
 obtain⟨cs,sq,sa⟩:=s
 simp only at O m ⊢
 subst O
 have E:=Lib.hid L.len
 have hn:n<64:=by have:=E.out;omega
 have l:=Lib.hid g
 have H:aI fs≤65536:=by have h1:=g.2.2.1;have Y:=g.2.2.2.2.2;simp only at h1 Y;omega
 have hroom:0≤room∧room≤65536:=⟨g.2.1,g.2.2.1⟩
 have R:Hid (rR j=rR j):=Lib.hid rfl
 generalize t:jB ⟨cs,(q:Int),sa⟩=bs at Q ⊢
 have I:=Lib.hid t
 have ad:bs.length≤65536:=by omega
 have N:=Lib.hid (rN (a:=[]) (b:=[]) g p i oC (by simp only[List.length_nil];omega))
 have P:=Lib.hid (rN (a:=[]) (b:=bs) g p i oC (by simp only[List.length_nil,List.nil_append];omega))
 have B:=Lib.hid (rN (a:=bs) (b:=[]) g p i oC (by simp only[List.length_nil,List.nil_append];omega))
 have y:=Lib.hid (Bt p)
 have M:Hid (eY Fil.nm ⟨iK,[],[]⟩ fs=fs ++ [⟨iK,[],[]⟩]):=Lib.hid (by
  have:=zF (pre:=fs) (post:=[]) (nm:=iK) p (fun d Z=>by cases Z)
  simpa [fA] using this)
 have v:=Lib.hid j
 clear g t j R
 go_enter Tryz.func66,Tryz.ntmps66
 go_upto_region 1 with(fail)
 refine(hstart hX).cw fun W K=>?_
 have K:=(K.ksl0 m).ksl0 L
 clear m L
 go_wp2_with (first | refine K.ld 2 rfl ?_)
 refine(eT ⟨fs,room⟩ A n o _ _ K.xok (K.sl 0 rfl) l.out).mono ?_
 rintro e w1 ⟨rfl,f⟩
 have K:=K.on f
 clear f
 go_wp2_with (first | refine bu (K.at_ 1 rfl) ?_)
 refine(eE ⟨cs,(q:Int),sa⟩ C k z _ _ K.xok (K.sl 1 rfl) v.out).mono ?_
 rintro e w2 ⟨rfl,f⟩
 have K:=K.on f
 clear f
 have D:=K.r 2 rfl
 go_upto_region 5 with(fail)
 clear D
 go_wp2_with (first | refine K.ld 1 rfl ?_)
 refine(vK ⟨cs,(q:Int),sa⟩ v.out C k z _ _ K.xok (K.sl 1 rfl)).mono ?_
 rw[I.out]
 rintro e w3 ⟨B3,F,c3,rfl,c,f⟩
 have K:=(K.on f).ksl c
 have x:=Lib.hid c.len
 have ac:F≤65536:=by have:=x.out;omega
 clear f c
 go_upto_region 8 with(fail)
 refine K.rg fun W K=>?_
 refine tL 0 (fun _ h=>h.at_ 2 rfl) K ?_ (hy:=fun w G=>aD G)
 refine tK 2 K ?_
 refine tL 3 (fun _ h=>h.r 2 rfl) K ?_
 refine tK 4 K ?_
 refine tC 1 fun K' hK=>?_
 go_simp
 refine(fV fs A n o room _ _ K.xok (K.sl 1 rfl) (by omega) H).mono ?_
 rintro e w4 ⟨rfl,f⟩
 have K:=K.on f
 refine hK.out _ _ K fun _=>?_
 clear hK K' f
 try simp only[Act.put,aq,aj,ai]
 refine tK 5 K ?_
 refine tK 6 K ?_
 refine tE ?_
 go_wp2_with (first | refine K.ld 2 rfl ?_)
 refine(xZ ⟨fs,room⟩ iK A n o _ _ K.xok (K.sl 1 rfl) l.out oC y.out).mono ?_
 rintro e w5 ⟨rfl,f⟩
 have K:=K.on f
 clear f
 have D:=K.r 2 rfl
 have i1:¬ room<(aI fs:Int)+(F:Int):=by have:=x.out;omega
 have S:¬ (64:Int)<(n:Int)+1:=by omega
 go_upto_region 20 with(fail)
 clear D i1 S
 go_wp2_with (first | refine K.ld 2 rfl ?_)
 refine(pI ⟨fs,room⟩ iK A n o _ _ K.xok (K.sl 1 rfl) l.out oC y.out hn).mono ?_
 simp only[M.out]
 rintro e w6 ⟨B6,c6,rfl,c,f⟩
 have K:=(K.on f).ksl c
 clear f c
 go_upto_region 23 with(refine K.lw fun W K=>?_;refine K.sr 2 rfl fun W K=>?_)
 go_wp2_with (first | refine K.ld 2 rfl ?_)
 refine(pH ⟨fs ++ [⟨iK,[],[]⟩],room⟩ ⟨iK,[],[]⟩ fs.length bs B3 F c3 B6 (n+1) c6 _ _ K.xok (K.sl 0 rfl) (K.sl 1 rfl) N.out (oa _ _) (nw N.out) (by simp only[va];exact Q)).mono ?_
 simp only[ue,List.nil_append]
 rintro e w7 ⟨B7,c7,rfl,c,f⟩
 have K:=(K.on f).ksl c
 clear f c
 go_upto_region 26 with(refine K.lw fun W K=>?_;refine K.sr 2 rfl fun W K=>?_)
 go_wp2_with (first | refine K.ld 2 rfl ?_)
 refine(tW ⟨fs ++ [⟨iK,[],bs⟩],room⟩ ⟨iK,[],bs⟩ fs.length B7 (n+1) c7 _ _ K.xok (K.sl 0 rfl) P.out (oa _ _) (nw P.out)).mono ?_
 simp only[ue,List.nil_append]
 rintro e w8 ⟨B8,c8,rfl,c,f⟩
 have K:=(K.on f).ksl c
 clear f c
 go_upto_region 29 with(refine K.lw fun W K=>?_;refine K.sr 2 rfl fun W K=>?_)
 refine K.rgt (fun V h=>h.tl) fun W K=>?_
 refine tL 0 (fun _ h=>h.at_ 1 rfl) K.tl ?_ (hy:=fun w G=>aD G)
 refine tK 1 K.tl ?_
 refine tL 2 (fun _ h=>h.r 0 rfl) K.tl ?_
 refine tC 3 fun K' hK=>?_
 go_simp
 refine(vJ q u _ (T.on K.below)).mono ?_
 rintro e w9 ⟨rfl,f⟩
 have K:=K.on f
 refine hK.out _ _ K.tl fun _=>?_
 clear hK K' f
 try simp only[Act.put,aq,aj,ai]
 refine tC 4 fun K' hK=>?_
 go_simp
 refine(vM ⟨fs ++ [⟨iK,bs,[]⟩],room⟩ ⟨iK,bs,[]⟩ fs.length (jv q) B8 (n+1) c8 _ _ K.xok (K.sl 0 rfl) B.out (oa _ _) (nw B.out) (Bn u) (Cn _ _ B.out.2.2.2.2.1)).mono ?_
 rintro e ab ⟨B9,c9,rfl,c,f⟩
 have J:=K.on f
 have K:=J.ksl c
 refine hK.out _ _ J.tl fun _=>?_
 clear hK K' f c J
 try simp only[Act.put,aq,aj,ai]
 refine tK 5 K.tl.ft ?_
 refine tK 6 K.tl.ft ?_
 refine tSt 7 K 0 rfl (fun U h=>h.tl.ft) fun U K=>?_
 refine tK 8 K.tl.ft ?_
 refine tE ?_
 go_wp2
 exact K.rc2 0 rfl rfl ⟨B9,c9,rfl,K.slb 0 rfl,K.below⟩
end
section
open Go.RowKit
theorem CN {α β γ δ ε ζ:Type} {G:α→β→γ→δ→ε→ζ→Prop} {T:Prop} (b:Hid (∀ x y z u v a,G x y z u v a)→T) (key:∀ x y z u v a,G x y z u v a):T:=b key
set_option maxHeartbeats 4000000 in
theorem vD (fs:List Fil) (room:Int) (ps:List Prt) (t:St) (h:eC fs room ps [] t) (E:∀ p ∈ ps,(p.al:Int)≤p.s.size) (b f:Int) (z:dM b f=true) (A:Option Addr) (n l:Nat) (S:Option Addr) (m u:Nat) (N:Option Addr) (nn o:Nat) (C:Option Addr) (k r:Nat) (v:Int) (F:0≤v∧v≤t.q) (y:cF t)
 (X:List Nat) (w:World) (hX:XOk X w) (i:Sl az w X A n l fs) (d:Sl bC w X S m u (ps.map aC)) (j:Sl af w X N nn o (ah ps).ns) (H:nn≤1000) (g:Sl aB w X C k r t.cs) (D:aX w)(x:m=0):
 Calls Tryz.prog 65 #[.agg (jnA A n l room b f S m u (ah ps).q (ah ps).a N nn o C k r t.q t.a v 0 false).toArray] w (fP fs room b f (ps.map aC) (ah ps) t t.q 0 X w):=by
 have G:=fun(w:World) (X:List Nat) (hX:XOk X w) (i:Sl az w X A n l fs) (d:Sl bC w X S m u (ps.map aC)) (j:Sl af w X N nn o (ah ps).ns) (g:Sl aB w X C k r t.cs) (D:aX w)=>Lib.hid (gW fs room ps t h E b f z A n l S m u N nn o C k r v F false y X w hX i d j H g D)
 subst x
 simp only[jnA]at G ⊢
 go_enter Tryz.func65,Tryz.ntmps65
 go_upto_region 1 with(fail)
 refine(hstart hX).cw fun W K=>?_
 have K:=(((K.ksl0 g).ksl0 j).ksl0 d).ksl0 i
 clear g j d i
 go_wp2_with (first | refine K.ld 1 rfl ?_)
 refine(G _ _ K.xok (K.sl 0 rfl) (K.sl 1 rfl) (K.sl 2 rfl) (K.sl 3 rfl) (D.on K.below)).out.mono ?_
 rintro e J ⟨rfl,I⟩
 have K:=K.on I
 clear I G
 have B:=K.c 1 rfl
 go_upto_region 11 with(fail)
 refine K.cw fun W K=>?_
 clear B
 have B:=K.c 1 rfl
 go_upto_region 12 with(fail)
 refine K.cw fun W K=>?_
 clear B
 go_wp2_with (first | refine K.ld 1 rfl ?_ | (refine K.sr 0 rfl fun W K=>?_))
 exact K.rc2 0 rfl rfl ⟨A,n,l,S,0,u,N,nn,o,C,k,r,rfl,K.slb 0 rfl,K.slb 1 rfl,K.slb 2 rfl,K.slb 3 rfl,K.below⟩
set_option maxHeartbeats 4000000 in
theorem qQ (r:List Sgi) (x:Sgi) (d:Nat) (fs:List Fil) (room:Int) (ps:List Prt) (t:St) (h:eC fs room ps [] t) (O:∀ p ∈ ps,(p.al:Int)≤p.s.size) (b g:Int) (I:dM b g=true) (A:Option Addr) (n y:Nat) (S:Option Addr) (D:Nat) (N:Option Addr) (nn z:Nat) (C:Option Addr) (k B:Nat) (E:Int) (P:0≤E∧E≤t.q) (F:cF t)
 (X:List Nat) (w:World) (hX:XOk X w) (l:Sl az w X A n y fs) (f:Sl bC w X S (d+1) D (ps.map aC)) (m:Sl af w X N nn z (ah ps).ns) (R:nn≤1000) (i:Sl aB w X C k B t.cs) (L:aX w) (o:ps.map aC=r ++ [x]) (H:x.sd=true):
 Calls Tryz.prog 65 #[.agg (jnA A n y room b g S (d+1) D (ah ps).q (ah ps).a N nn z C k B t.q t.a E 0 false).toArray] w (fP fs room b g (ps.map aC) (ah ps) t t.q 0 X w):=by
 have v:=Lib.hid o
 clear o
 have U:(d+1)≤64:=by
  have G:=f.len
  have M:=(dS fs h.nm).1
  have V:=h.dk.1
  rw[h.rows]at M
  simp only[List.length_map]at G M V
  simp only[List.length_nil]at M
  omega
 have Q:=fun(w:World) (X:List Nat) (hX:XOk X w) (l:Sl az w X A n y fs) (f:Sl bC w X S (d+1) D (ps.map aC)) (m:Sl af w X N nn z (ah ps).ns) (i:Sl aB w X C k B t.cs) (L:aX w)=>Lib.hid (gW fs room ps t h O b g I A n y S (d+1) D N nn z C k B E P false F X w hX l f m R i L)
 simp only[jnA]at Q ⊢
 go_enter Tryz.func65,Tryz.ntmps65
 go_upto_region 1 with(fail)
 refine(hstart hX).cw fun W K=>?_
 have K:=(((K.ksl0 i).ksl0 m).ksl0 f).ksl0 l
 clear i m f l
 go_wp2_with (first | refine K.ld 1 rfl ?_)
 refine(Q _ _ K.xok (K.sl 0 rfl) (K.sl 1 rfl) (K.sl 2 rfl) (K.sl 3 rfl) (L.on K.below)).out.mono ?_
 rintro e Y ⟨rfl,T⟩
 have K:=K.on T
 clear T Q
 have J:=K.c 1 rfl
 have u:d=r.length:=by
  have G:=(K.sl 1 rfl).len
  rw[v.out,List.length_append,List.length_singleton]at G
  omega
 obtain⟨ad,rr,rfl,K,⟨rfl,-⟩⟩:=K.elem 1 rfl (j:=d) (x:=x) (by rw[v.out,u];simp)
 simp only[cI,H]at K
 have Z:=Lib.hid u
 clear u
 have i3:(0:Int)≤(d:Int):=by omega
 have i4:(d:Int)<(d:Int)+1:=by omega
 have i5:=uE d (by omega)
 have i6:wrap64 ((d:Int)+1-1)=(d:Int):=by unfold wrap64;omega
 have s6:Y.cell? ⟨(ad.add (d*7)).block,(ad.add (d*7)).off+6,none⟩=some (.bool true):=K.at' 0 rfl 6 _ rfl
 go_upto_region 11 with(fail)
 refine K.cw fun W K=>?_
 clear J s6
 have J:=K.c 1 rfl
 go_upto_region 12 with(fail)
 refine K.cw fun W K=>?_
 clear J
 go_wp2_with (first | refine K.ld 1 rfl ?_ | (refine K.sr 0 rfl fun W K=>?_))
 exact K.rc2 0 rfl rfl ⟨A,n,y,some ad,d+1,D,N,nn,z,C,k,B,rfl,K.slb 1 rfl,K.slb 2 rfl,K.slb 3 rfl,K.slb 4 rfl,K.below⟩
set_option maxHeartbeats 4000000 in
theorem vO (H:List Sgi) (x:Sgi) (i:Nat) (fs:List Fil) (room:Int) (ps:List Prt) (t:St) (h:eC fs room ps [] t) (ag:∀ p ∈ ps,(p.al:Int)≤p.s.size) (b z:Int) (ab:dM b z=true) (A:Option Addr) (n B:Nat) (S:Option Addr) (Q:Nat) (N:Option Addr) (nn O:Nat) (C:Option Addr) (k P:Nat) (su:Int) (am:0≤su∧su≤t.q) (ac:cF t)
 (X:List Nat) (w:World) (hX:XOk X w) (D:Sl az w X A n B fs) (y:Sl bC w X S (i+1) Q (ps.map aC)) (E:Sl af w X N nn O (ah ps).ns) (ao:nn≤1000) (F:Sl aB w X C k P t.cs) (Y:aX w) (J:ps.map aC=H ++ [x]) (ae:x.sd=false) (hx:1≤x.num∧x.num≤99999999) (hrun:fo room [.sy (aA x.num.toNat)] fs):
 Calls Tryz.prog 65 #[.agg (jnA A n B room b z S (i+1) Q (ah ps).q (ah ps).a N nn O C k P t.q t.a su 0 false).toArray] w (fP (cU [.sy (aA x.num.toNat)] fs) room b z (ps.map aC) (ah ps) t t.q 0 X w):=by
 have R:=Lib.hid J
 clear J
 have ap:(i+1)≤64:=by
  have h1:=y.len
  have Z:=(dS fs h.nm).1
  have h3:=h.dk.1
  rw[h.rows]at Z
  simp only[List.length_map]at h1 Z h3
  simp only[List.length_nil]at Z
  omega
 have HM:=fun(w:World) (X:List Nat) (hX:XOk X w) (D:Sl az w X A n B fs) (y:Sl bC w X S (i+1) Q (ps.map aC)) (E:Sl af w X N nn O (ah ps).ns) (F:Sl aB w X C k P t.cs) (Y:aX w)=>Lib.hid (gW fs room ps t h ag b z ab A n B S (i+1) Q N nn O C k P su am false ac X w hX D y E ao F Y)
 have l:=Lib.hid hrun
 clear hrun
 simp only[jnA]at HM ⊢
 go_enter Tryz.func65,Tryz.ntmps65
 go_upto_region 1 with(fail)
 refine(hstart hX).cw fun W K=>?_
 have K:=(((K.ksl0 F).ksl0 E).ksl0 y).ksl0 D
 clear F E y D
 go_wp2_with (first | refine K.ld 1 rfl ?_)
 refine(HM _ _ K.xok (K.sl 0 rfl) (K.sl 1 rfl) (K.sl 2 rfl) (K.sl 3 rfl) (Y.on K.below)).out.mono ?_
 rintro e w1 ⟨rfl,d⟩
 have K:=K.on d
 clear d HM
 have c1:=K.c 1 rfl
 have L:i=H.length:=by
  have h1:=(K.sl 1 rfl).len
  rw[R.out,List.length_append,List.length_singleton]at h1
  omega
 obtain⟨ad,rr,rfl,K,⟨rfl,-⟩⟩:=K.elem 1 rfl (j:=i) (x:=x) (by rw[R.out,L];simp)
 simp only[cI,ae]at K
 have ar:=Lib.hid L
 clear L
 have i3:(0:Int)≤(i:Int):=by omega
 have i4:(i:Int)<(i:Int)+1:=by omega
 have i5:=uE i (by omega)
 have i6:wrap64 ((i:Int)+1-1)=(i:Int):=by unfold wrap64;omega
 have s6:w1.cell? ⟨(ad.add (i*7)).block,(ad.add (i*7)).off+6,none⟩=some (.bool false):=K.at' 0 rfl 6 _ rfl
 go_upto_region 6 with(fail)
 clear c1 s6
 refine CN (α:=Nat) (β:=World) (γ:=Option Addr) (δ:=Nat) (ε:=Nat) (ζ:=Nat) (G:=?G) ?main ?key
 case main=>
  intro key
  refine K.rg fun W K=>?_
  refine tK 0 K ?_
  refine tL 1 (fun _ h=>h.sub 1 rfl 0 [.slice A n B,.int .i64 room,.int .i64 (-1),.bool false]) K ?_ (hy:=fun w hw=>aD hw)
  refine tK 2 K ?_
  refine tL 3 (fun _ h=>h.r 1 rfl) K ?_
  refine tK 4 K ?_
  refine tK 5 K ?_
  refine tK 6 K ?_
  refine tK 7 K ?_
  refine tL 8 (T:=fun W=>W.cell? (ad.add (i*7))=some (.int .i64 x.num)) (fun V h=>by have Z:V.cell? ((ad.add (i*7)).add 0)=some (.int .i64 x.num):=h.at' 0 rfl 0 _ rfl;rwa [cN,Nat.add_zero]at Z) K ?_
  refine tC2 9 16 (fun K' hK=>?_) (fun K' hK=>?_)
  ·go_simp
   refine(iS x.num hx.1 hx.2 _ (Y.on K.below)).mono ?_
   rintro e w2 ⟨rfl,d⟩
   have K:=K.on d
   clear d
   refine hK.out _ _ K fun _=>?_
   clear hK K'
   try simp only[Act.put,aq,aj,ai]
   refine tC2 10 16 (fun K' hK=>?_) (fun K' hK=>?_)
   ·go_simp
    refine(nV (aA x.num.toNat) _ _ K.xok).mono ?_
    rintro e m ⟨v,rfl,⟨gf,rfl,I⟩,d⟩
    have K:=(K.on d).kn (f:=dh.fact [.func (.func 148) #[] #[.pointer (some ⟨gf,0,none⟩)]] (.sy (aA x.num.toNat))) ⟨_,rfl,gf,rfl,I⟩
    clear d I
    refine hK.out _ _ K.ft fun _=>?_
    clear hK K'
    try simp only[Act.put,aq,aj,ai]
    refine tC2 11 16 (fun K' hK=>?_) (fun K' hK=>?_)
    ·go_simp
     have K:=K.to (W':=(m).alloc (.cells #[.func (.func 148) #[] #[.pointer (some ⟨gf,0,none⟩)]] 144))
     refine hK.out _ _ K.tl.ft fun _=>?_
     clear hK K'
     try simp only[Act.put,aq,aj,ai]
     refine tC2 12 16 (fun K' hK=>?_) (fun K' hK=>?_)
     ·go_simp
      have K:=K.one (s:=dh) (x := .sy (aA x.num.toNat)) (K.tl.fa 0 rfl)
      refine(kW [.sy (aA x.num.toNat)] fs room _ 1 1 A n B _ _ K.xok (K.sl 3 rfl) (K.sl 0 rfl) l.out (by omega)).mono ?_
      rintro e M ⟨o,u,rfl,g,d⟩
      have K:=(K.on d).ksl g
      clear d g
      refine hK.out _ _ K.ft.ft.ft fun _=>?_
      clear hK K'
      try simp only[Act.put,aq,aj,ai]
      refine tK 13 K.ft.ft.ft ?_
      refine tK 14 K.ft.ft.ft ?_
      refine tK 15 K.ft.ft.ft ?_
      refine tC 16 fun K' hK=>?_
      go_simp
      have K:=K.to (W':=(M).alloc (.cells #[.slice none 0 0,.int .i64 0,.int .i64 0,.bool false] 30))
      refine hK.out _ _ K.tl.ft.ft.ft fun _=>?_
      clear hK K'
      try simp only[Act.put,aq,aj,ai]
      refine tSt 17 K 0 rfl (fun U h=>h.tl.ft.ft.ft) fun U K=>?_
      refine tK 18 K.tl.ft.ft.ft ?_
      refine tE ?_
      have K:=K.ft.ft.ft.ksl (K.sl 0 rfl)
      generalize m.heap.size=bs at K ⊢
      generalize M.heap.size=p at K ⊢
      revert K
      exact key.out p U o u gf bs
     ·go_simp
      have K:=K.to (W':=((m).alloc (.cells #[.func (.func 148) #[] #[.pointer (some ⟨gf,0,none⟩)]] 144)).alloc (.cells #[.slice none 0 0,.int .i64 0,.int .i64 0,.bool false] 30))
      refine hK.out _ _ K.tl.tl.ft fun _=>?_
      clear hK K'
      try simp only[Act.put,aq,aj,ai]
      refine tC 12 fun K' hK=>?_
      go_simp
      have K:=K.mv 1 rfl
      have K:=K.one (s:=dh) (x := .sy (aA x.num.toNat)) (K.tl.fa 0 rfl)
      refine(kW [.sy (aA x.num.toNat)] fs room _ 1 1 A n B _ _ K.xok (K.sl 3 rfl) (K.sl 0 rfl) l.out (by omega)).mono ?_
      rintro e M ⟨o,u,rfl,g,d⟩
      have K:=(K.on d).ksl g
      clear d g
      refine hK.out _ _ K.tl.ft.ft.ft fun _=>?_
      clear hK K'
      try simp only[Act.put,aq,aj,ai]
      refine tK 13 K.tl.ft.ft.ft ?_
      refine tK 14 K.tl.ft.ft.ft ?_
      refine tK 15 K.tl.ft.ft.ft ?_
      refine tSt 17 K 0 rfl (fun U h=>h.tl.ft.ft.ft) fun U K=>?_
      refine tK 18 K.tl.ft.ft.ft ?_
      refine tE ?_
      have K:=K.ft.ft.ft.ksl (K.sl 0 rfl)
      generalize m.heap.size+1=p at K ⊢
      generalize m.heap.size=bs at K ⊢
      revert K
      exact key.out p U o u gf bs
    ·go_simp
     have K:=K.to (W':=(m).alloc (.cells #[.slice none 0 0,.int .i64 0,.int .i64 0,.bool false] 30))
     refine hK.out _ _ K.tl.ft fun _=>?_
     clear hK K'
     try simp only[Act.put,aq,aj,ai]
     refine tC 11 fun K' hK=>?_
     go_simp
     have K:=K.to (W':=((m).alloc (.cells #[.slice none 0 0,.int .i64 0,.int .i64 0,.bool false] 30)).alloc (.cells #[.func (.func 148) #[] #[.pointer (some ⟨gf,0,none⟩)]] 144))
     refine hK.out _ _ K.tl.tl.ft fun _=>?_
     clear hK K'
     try simp only[Act.put,aq,aj,ai]
     refine tC 12 fun K' hK=>?_
     go_simp
     have K:=K.one (s:=dh) (x := .sy (aA x.num.toNat)) (K.tl.fa 0 rfl)
     refine(kW [.sy (aA x.num.toNat)] fs room _ 1 1 A n B _ _ K.xok (K.sl 3 rfl) (K.sl 0 rfl) l.out (by omega)).mono ?_
     rintro e M ⟨o,u,rfl,g,d⟩
     have K:=(K.on d).ksl g
     clear d g
     refine hK.out _ _ K.tl.ft.ft.ft fun _=>?_
     clear hK K'
     try simp only[Act.put,aq,aj,ai]
     refine tK 13 K.tl.ft.ft.ft ?_
     refine tK 14 K.tl.ft.ft.ft ?_
     refine tK 15 K.tl.ft.ft.ft ?_
     refine tSt 17 K 0 rfl (fun U h=>h.tl.ft.ft.ft) fun U K=>?_
     refine tK 18 K.tl.ft.ft.ft ?_
     refine tE ?_
     have K:=K.ft.ft.ft.ksl (K.sl 0 rfl)
     generalize m.heap.size+1=bs at K ⊢
     generalize m.heap.size=p at K ⊢
     revert K
     exact key.out p U o u gf bs
   ·go_simp
    have K:=K.to (W':=(w2).alloc (.cells #[.slice none 0 0,.int .i64 0,.int .i64 0,.bool false] 30))
    refine hK.out _ _ K.tl fun _=>?_
    clear hK K'
    try simp only[Act.put,aq,aj,ai]
    refine tC 10 fun K' hK=>?_
    go_simp
    refine(nV (aA x.num.toNat) _ _ K.xok).mono ?_
    rintro e m ⟨v,rfl,⟨gf,rfl,I⟩,d⟩
    have K:=(K.on d).kn (f:=dh.fact [.func (.func 148) #[] #[.pointer (some ⟨gf,0,none⟩)]] (.sy (aA x.num.toNat))) ⟨_,rfl,gf,rfl,I⟩
    clear d I
    refine hK.out _ _ K.tl.ft fun _=>?_
    clear hK K'
    try simp only[Act.put,aq,aj,ai]
    refine tC 11 fun K' hK=>?_
    go_simp
    have K:=K.to (W':=(m).alloc (.cells #[.func (.func 148) #[] #[.pointer (some ⟨gf,0,none⟩)]] 144))
    refine hK.out _ _ K.tl.tl.ft fun _=>?_
    clear hK K'
    try simp only[Act.put,aq,aj,ai]
    refine tC 12 fun K' hK=>?_
    go_simp
    have K:=K.one (s:=dh) (x := .sy (aA x.num.toNat)) (K.tl.fa 0 rfl)
    refine(kW [.sy (aA x.num.toNat)] fs room _ 1 1 A n B _ _ K.xok (K.sl 3 rfl) (K.sl 0 rfl) l.out (by omega)).mono ?_
    rintro e M ⟨o,u,rfl,g,d⟩
    have K:=(K.on d).ksl g
    clear d g
    refine hK.out _ _ K.tl.ft.ft.ft fun _=>?_
    clear hK K'
    try simp only[Act.put,aq,aj,ai]
    refine tK 13 K.tl.ft.ft.ft ?_
    refine tK 14 K.tl.ft.ft.ft ?_
    refine tK 15 K.tl.ft.ft.ft ?_
    refine tSt 17 K 0 rfl (fun U h=>h.tl.ft.ft.ft) fun U K=>?_
    refine tK 18 K.tl.ft.ft.ft ?_
    refine tE ?_
    have K:=K.ft.ft.ft.ksl (K.sl 0 rfl)
    generalize m.heap.size=bs at K ⊢
    generalize w2.heap.size=p at K ⊢
    revert K
    exact key.out p U o u gf bs
  ·go_simp
   have K:=K.to (W':=(W).alloc (.cells #[.slice none 0 0,.int .i64 0,.int .i64 0,.bool false] 30))
   refine hK.out _ _ K.tl fun _=>?_
   clear hK K'
   try simp only[Act.put,aq,aj,ai]
   refine tC 9 fun K' hK=>?_
   go_simp
   refine(iS x.num hx.1 hx.2 _ (Y.on K.below)).mono ?_
   rintro e w2 ⟨rfl,d⟩
   have K:=K.on d
   clear d
   refine hK.out _ _ K.tl fun _=>?_
   clear hK K'
   try simp only[Act.put,aq,aj,ai]
   refine tC 10 fun K' hK=>?_
   go_simp
   refine(nV (aA x.num.toNat) _ _ K.xok).mono ?_
   rintro e m ⟨v,rfl,⟨gf,rfl,I⟩,d⟩
   have K:=(K.on d).kn (f:=dh.fact [.func (.func 148) #[] #[.pointer (some ⟨gf,0,none⟩)]] (.sy (aA x.num.toNat))) ⟨_,rfl,gf,rfl,I⟩
   clear d I
   refine hK.out _ _ K.tl.ft fun _=>?_
   clear hK K'
   try simp only[Act.put,aq,aj,ai]
   refine tC 11 fun K' hK=>?_
   go_simp
   have K:=K.to (W':=(m).alloc (.cells #[.func (.func 148) #[] #[.pointer (some ⟨gf,0,none⟩)]] 144))
   refine hK.out _ _ K.tl.tl.ft fun _=>?_
   clear hK K'
   try simp only[Act.put,aq,aj,ai]
   refine tC 12 fun K' hK=>?_
   go_simp
   have K:=K.one (s:=dh) (x := .sy (aA x.num.toNat)) (K.tl.fa 0 rfl)
   refine(kW [.sy (aA x.num.toNat)] fs room _ 1 1 A n B _ _ K.xok (K.sl 3 rfl) (K.sl 0 rfl) l.out (by omega)).mono ?_
   rintro e M ⟨o,u,rfl,g,d⟩
   have K:=(K.on d).ksl g
   clear d g
   refine hK.out _ _ K.tl.ft.ft.ft fun _=>?_
   clear hK K'
   try simp only[Act.put,aq,aj,ai]
   refine tK 13 K.tl.ft.ft.ft ?_
   refine tK 14 K.tl.ft.ft.ft ?_
   refine tK 15 K.tl.ft.ft.ft ?_
   refine tSt 17 K 0 rfl (fun U h=>h.tl.ft.ft.ft) fun U K=>?_
   refine tK 18 K.tl.ft.ft.ft ?_
   refine tE ?_
   have K:=K.ft.ft.ft.ksl (K.sl 0 rfl)
   generalize m.heap.size=bs at K ⊢
   generalize W.heap.size=p at K ⊢
   revert K
   exact key.out p U o u gf bs
 case key=>
  intro p U o u gf bs K
  go_upto_region 10 with(fail)
  go_upto_region 11 with(first | refine K.ld 0 rfl ?_ | refine K.ss (new:=(jnA o (cU [.sy (aA x.num.toNat)] fs).length u room b z (some ad) (i+1) Q (ah ps).q (ah ps).a N nn O C k P t.q t.a su 0 false).toArray) 2 rfl fun W K=>?_)
  have K:=K.tl
  have c1:=K.c 1 rfl
  go_upto_region 12 with(fail)
  refine K.cw fun W K=>?_
  clear c1
  go_wp2_with (first | refine K.ld 1 rfl ?_ | (refine K.sr 0 rfl fun W K=>?_))
  exact K.rc2 0 rfl rfl ⟨o,_,u,some ad,i+1,Q,N,nn,O,C,k,P,rfl,K.slb 0 rfl,K.slb 3 rfl,K.slb 4 rfl,K.slb 5 rfl,K.below⟩
end
section
open Go.RowKit
theorem Bw {room:Int} {k:Nat} {fs:List Fil} {gs:List Sg} {t:St} {s:Int} (h:JI room k fs gs t s) (b d:Int) (r:dM b d=true) (A:Option Addr) (n E:Nat) (S:Option Addr) (m I:Nat) (N:Option Addr) (nn G:Nat) (C:Option Addr) (kk H:Nat)
 (X:List Nat) (w:World) (hX:XOk X w) (z:Sl az w X A n E fs) (f:Sl bC w X S m I ((aQ 0 gs).map aC)) (j:Sl af w X N nn G (ah (aQ 0 gs)).ns) (v:Sl aB w X C kk H t.cs) (L:aX w):
 Calls Tryz.prog 65 #[.agg (jnA A n E room b d S m I (ah (aQ 0 gs)).q (ah (aQ 0 gs)).a N nn G C kk H t.q t.a s 0 false).toArray] w fun e w' => ∃ fs',(JI room k fs' gs t t.q∧aI fs'=aI fs∧fs'.length=fs.length)∧fP fs' room b d ((aQ 0 gs).map aC) (ah (aQ 0 gs)) t t.q 0 X w e w':=by
 have i:=h.ok
 have u:=h.look
 have x:=h.al
 have B:nn≤1000:=by have:=h.ns;rw[j.len];omega
 obtain⟨z1,z2,z3,z4,z5,z7,z6⟩:=h.sizes
 have y:0≤s∧s≤t.q:=⟨h.2.2.2.1,h.2.2.2.2.1⟩
 have K:=i.2.1
 have F:JI room k fs gs t t.q:=⟨h.1,h.2.1,h.2.2.1,K,Int.le_refl _,h.2.2.2.2.2⟩
 rcases List.eq_nil_or_concat gs with rfl | ⟨l,g,rfl⟩
 ·obtain rfl:m=0:=f.len
  exact(vD fs room _ t u x b d r A n E S 0 I N nn G C kk H s y i X w hX z f j B v L rfl).mono fun e w' D=>⟨fs,⟨F,rfl,rfl⟩,D⟩
 ·rw[List.concat_eq_append]at *
  obtain⟨j1,M,j3,Y,Z,j6,j7,j8,j9,J,W,R,P⟩:=h.last
  have hlen:(l ++ [g]).length=l.length+1:=by simp
  obtain rfl:m=l.length+1:=by rw[f.len,List.length_map,iR,hlen]
  have o:(aQ 0 (l ++ [g])).map aC=(aQ 0 l).map aC ++ [aC (g.pr (l.length+1))]:=by rw[eo,List.map_append,Nat.zero_add];rfl
  cases hd:g.sd with
  | true=>
    exact(qQ _ _ l.length fs room _ t u x b d r A n E S I N nn G C kk H s y i X w hX z f j B v L o (J.trans hd)).mono fun e w' D=>⟨fs,⟨F,rfl,rfl⟩,D⟩
  | false=>
    have p:(aC (g.pr (l.length+1))).num.toNat=l.length+1:=by rw[M];omega
    obtain⟨U,V,T,O,Q⟩:=xh h.1.fa h.1.dk (by omega)
    have hrun:fo room [.sy (aA (aC (g.pr (l.length+1))).num.toNat)] fs:=by rw[p];exact U
    refine(vO _ _ l.length fs room _ t u x b d r A n E S I N nn G C kk H s y i X w hX z f j B v L o (J.trans hd) (by rw[M];omega) hrun).mono fun e w' D=>?_
    rw[p]at D
    exact⟨_,⟨⟨⟨V,h.1.goes,h.1.sg,h.1.c,T⟩,h.2.1,h.2.2.1,K,Int.le_refl _,h.2.2.2.2.2⟩,O,Q⟩,D⟩
set_option maxHeartbeats 2000000 in
theorem Fk {room:Int} {k:Nat} {fs:List Fil} {gs:List Sg} {t:St} {l:Int} (h:JI room k fs gs t l) (b i:Int) (x:dM b i=true) (A:Option Addr) (n j:Nat) (S:Option Addr) (m v:Nat) (N:Option Addr) (nn s:Nat) (C:Option Addr) (kk u:Nat)
 (X:List Nat) (w:World) (hX:XOk X w) (g:Sl az w X A n j fs) (d:Sl bC w X S m v ((aQ 0 gs).map aC)) (c:Sl af w X N nn s (ah (aQ 0 gs)).ns) (f:Sl aB w X C kk u t.cs) (y:aX w):
 Calls Tryz.prog 64 #[.agg (jnA A n j room b i S m v (ah (aQ 0 gs)).q (ah (aQ 0 gs)).a N nn s C kk u t.q t.a l 0 false).toArray] w fun e w'=>e = .returned (.int .i64 0)∧Below w.heap.size w w':=by
 have z:nn≤1000:=by have:=h.ns;rw[c.len];omega
 have o:0≤l∧l≤t.q:=⟨h.2.2.2.1,h.2.2.2.2.1⟩
 have D:=fun(w:World) (X:List Nat) (hX:XOk X w) (g:Sl az w X A n j fs) (d:Sl bC w X S m v ((aQ 0 gs).map aC)) (c:Sl af w X N nn s (ah (aQ 0 gs)).ns) (f:Sl aB w X C kk u t.cs) (y:aX w)=>Lib.hid (pQ fs room (aQ 0 gs) t h.look h.al b i x A n j S m v N nn s C kk u l o false h.ok X w hX g d c z f y)
 have B:=Lib.hid h.1.dk
 clear h o
 simp only[jnA]at D ⊢
 go_enter Tryz.func64,Tryz.ntmps64
 go_upto_region 1 with(fail)
 refine(hstart hX).cw fun W K=>?_
 have K:=(((K.ksl0 f).ksl0 c).ksl0 d).ksl0 g
 clear f c d g
 have c0:=K.r 0 rfl
 go_wp2_with (first | refine bu (K.sub 0 rfl 0 [.slice A n j,.int .i64 room,.int .i64 (-1),.bool false]) ?_)
 refine(eT ⟨fs,room⟩ A n j _ _ K.xok (K.sl 0 rfl) B.out).mono ?_
 rintro e E ⟨rfl,p⟩
 have K:=K.on p
 clear p c0
 have c0:=K.r 0 rfl
 go_upto_region 3 with(fail)
 clear c0
 go_wp2_with (first | refine K.ld 0 rfl ?_)
 refine(D _ _ K.xok (K.sl 0 rfl) (K.sl 1 rfl) (K.sl 2 rfl) (K.sl 3 rfl) (y.on K.below)).out.mono ?_
 rintro e F ⟨rfl,p⟩
 have K:=K.on p
 go_wp2
 go_ret
 exact⟨rfl,K.below⟩
end
section
open Go.RowKit
def CD (room:Int) (k:Nat) (gs:List Sg) (b age:Int) (t:St) (X:List Nat) (w:World) (e:Ending) (w':World):Prop:=
 ∃ fs,JI room k fs gs t t.q ∧ ∃ A n cp S m mc N nn cn C kk ck,e = .returned (.tuple #[.agg (jnA A n cp room b age S m mc (ah (aQ 0 gs)).q (ah (aQ 0 gs)).a N nn cn C kk ck t.q t.a t.q t.q false).toArray,.int .i64 0]) ∧
   Sl az w' X A n cp (Bv (jv t.q.toNat) (jB t) fs)∧Sl bC w' X S m mc ((aQ 0 gs).map aC)∧Sl af w' X N nn cn (ah (aQ 0 gs)).ns∧Sl aB w' X C kk ck t.cs∧Below w.heap.size w w'
set_option maxHeartbeats 4000000 in
theorem uN {room:Int} {k:Nat} {fs:List Fil} {gs:List Sg} {t:St} {su:Int} (h:JI room k fs gs t su) (b j:Int) (F:dM b j=true) (hu:(aI fs:Int)+(jB t).length≤room) (A:Option Addr) (n y:Nat) (S:Option Addr) (m D:Nat) (N:Option Addr) (nn z:Nat) (C:Option Addr) (kk B:Nat)
 (X:List Nat) (w:World) (hX:XOk X w) (g:Sl az w X A n y fs) (i:Sl bC w X S m D ((aQ 0 gs).map aC)) (l:Sl af w X N nn z (ah (aQ 0 gs)).ns) (o:Sl aB w X C kk B t.cs) (x:aX w):
 Calls Tryz.prog 21 #[.agg (jnA A n y room b j S m D (ah (aQ 0 gs)).q (ah (aQ 0 gs)).a N nn z C kk B t.q t.a su 0 false).toArray] w (CD room k gs b j t X w):=by
 have Q:=fun(w:World) (X:List Nat) (hX:XOk X w) (g:Sl az w X A n y fs) (i:Sl bC w X S m D ((aQ 0 gs).map aC)) (l:Sl af w X N nn z (ah (aQ 0 gs)).ns) (o:Sl aB w X C kk B t.cs) (x:aX w)=>Lib.hid (Fk h b j F A n y S m D N nn z C kk B X w hX g i l o x)
 have Z:=fun(w:World) (X:List Nat) (hX:XOk X w) (g:Sl az w X A n y fs) (i:Sl bC w X S m D ((aQ 0 gs).map aC)) (l:Sl af w X N nn z (ah (aQ 0 gs)).ns) (o:Sl aB w X C kk B t.cs) (x:aX w)=>Lib.hid (Bw h b j F A n y S m D N nn z C kk B X w hX g i l o x)
 have ab:=Lib.hid h.ok
 have hq:t.q≤40:=by have:=h.2.1;have:=h.2.2.1;omega
 have ac:=h.ok.2.1
 clear h
 simp only[jnA]at Q Z ⊢
 go_enter Tryz.func21,Tryz.ntmps21
 go_upto_region 1 with(fail)
 refine(hstart hX).cw fun W K=>?_
 have K:=(((K.ksl0 o).ksl0 l).ksl0 i).ksl0 g
 clear o l i g
 go_wp2_with (first | refine K.ld 1 rfl ?_)
 refine(Q _ _ K.xok (K.sl 0 rfl) (K.sl 1 rfl) (K.sl 2 rfl) (K.sl 3 rfl) (x.on K.below)).out.mono ?_
 rintro e w1 ⟨rfl,v⟩
 have K:=K.on v
 clear v Q
 go_wp2_with (first | refine K.ld 1 rfl ?_)
 refine(Z _ _ K.xok (K.sl 0 rfl) (K.sl 1 rfl) (K.sl 2 rfl) (K.sl 3 rfl) (x.on K.below)).out.mono ?_
 rintro e w2 ⟨p,⟨f,G,U⟩,A2,n2,E,S2,m2,J,N2,I,L,O,u,s,rfl,Y,P,h3,h4,v⟩
 have K:=((((K.on v).ksl h4).ksl h3).ksl P).ksl Y
 clear v Y P h3 h4 Z
 have V:=Lib.hid f
 have R:=Lib.hid f.1.dk
 have hall:Hid (∀ d ∈ p,ltB d.nm iK=true):=Lib.hid (fun d hd=>by
  obtain⟨m,-,-,e⟩:=f.files.nm d hd
  rw[e]
  exact CL m)
 have hlen:p.length<64:=by have Y:=f.sizes.2.2.2.2.2.2;have P:=f.sizes;omega
 rw[←G]at hu
 clear f G U
 go_upto_region 5 with(refine K.lw fun W K=>?_;refine K.sr 0 rfl fun W K=>?_)
 have c0:=K.r 0 rfl
 go_upto_region 7 with(fail)
 clear c0
 go_wp2_with (first | refine bu (K.sub 0 rfl 0 [.slice A2 n2 E,.int .i64 room,.int .i64 (-1),.bool false]) ?_ | refine bu (K.sub 0 rfl 10 [.slice O u s,.int .i64 t.q,.int .i64 t.a]) ?_)
 refine(EF p room t t.q.toNat (by omega) (by omega) ab.out R.out hall.out hlen hu A2 n2 E O u s _ _ K.xok (K.sl 0 rfl) (K.sl 3 rfl) (x.on K.below)).mono ?_
 rintro e w3 ⟨B3,c3,rfl,M,v⟩
 have K:=(K.on v).ksl M
 clear v M
 generalize H:Bv (jv t.q.toNat) (jB t) p=fs3 at K ⊢
 have T:=Lib.hid H
 clear H
 go_upto_region 8 with(refine K.lw fun W K=>?_;refine K.sr 0 rfl fun W K=>?_)
 go_upto_region 13 with(fail)
 go_upto_region 14 with(first | refine K.ld 0 rfl ?_ | refine K.ss (new:=(jnA B3 fs3.length c3 room b j S2 m2 J (ah (aQ 0 gs)).q (ah (aQ 0 gs)).a N2 I L O u s t.q t.a t.q 0 false).toArray) 1 rfl fun W K=>?_)
 have K:=K.tl
 have c0:=K.c 0 rfl
 go_upto_region 15 with(fail)
 refine K.cw fun W K=>?_
 clear c0
 go_wp2_with (first | refine K.ld 0 rfl ?_ | (refine K.sr 1 rfl fun W K=>?_))
 exact K.rc2 1 rfl rfl ⟨p,V.out,B3,_,c3,S2,m2,J,N2,I,L,O,u,s,rfl,by rw[T.out];exact K.slb 0 rfl,K.slb 2 rfl,K.slb 3 rfl,K.slb 4 rfl,K.below⟩
end
section
open Go.RowKit
def pX (ps:List Prt) (k:Nat):List Evt:=(ps.take k).flatMap (fun p=>p.s.evs)
theorem DP {ps:List Prt} {k:Nat} {p:Prt} (h:ps[k]?=some p):pX ps (k+1)=pX ps k++p.s.evs:=by
 obtain⟨a,rfl⟩:=List.getElem?_eq_some_iff.1 h
 unfold pX
 rw[List.take_succ_eq_append_getElem a,List.flatMap_append]
 simp
theorem zS (ps:List Prt):pX ps ps.length=ps.flatMap (fun p=>p.s.evs):=by unfold pX;rw[List.take_length]
theorem ua:∀ (gs:List Sg) (n:Nat),(aQ n gs).flatMap (fun p=>p.s.evs)=bg gs
 | [],_=>rfl
 | g::gs,n=>by
   have:=ua gs (n+1)
   simp only[aQ,List.flatMap_cons,bg]at this ⊢
   rw[this]
   rfl
theorem Dt (ps:List Prt) (k:Nat):(pX ps k).length≤(ps.flatMap (fun p=>p.s.evs)).length:=by
 have:ps.flatMap (fun p=>p.s.evs)=pX ps k++(ps.drop k).flatMap (fun p=>p.s.evs):=by
  unfold pX
  rw[←List.flatMap_append,List.take_append_drop]
 rw[this,List.length_append]
 omega
set_option maxHeartbeats 4000000 in
theorem yT {room:Int} {k:Nat} {fs:List Fil} {gs:List Sg} {t:St} {y:Int} (h:JI room k fs gs t y) (b g:Int) (ab:dM b g=true) (A:Option Addr) (n u:Nat) (S:Option Addr) (m M:Nat) (N:Option Addr) (nn G:Nat) (C:Option Addr) (kk L:Nat)
 (X:List Nat) (w:World) (hX:XOk X w) (d:Sl az w X A n u fs) (f:Sl bC w X S m M ((aQ 0 gs).map aC)) (c:Sl af w X N nn G (ah (aQ 0 gs)).ns) (l:Sl aB w X C kk L t.cs) (V:aX w):
 Calls Tryz.prog 22 #[.agg (jnA A n u room b g S m M (ah (aQ 0 gs)).q (ah (aQ 0 gs)).a N nn G C kk L t.q t.a y 0 false).toArray] w fun e w' => ∃ B nb cb,e = .returned (.slice B nb cb)∧Sl fc w' X B nb cb (bg gs)∧Below w.heap.size w w':=by
 have I:=h.ok
 have F:=h.look
 have Q:=h.al
 have ae:nn≤1000:=by have:=h.ns;rw[c.len];omega
 have H:Hid ((bg gs).length≤40):=Lib.hid h.sizes.2.2.2.1
 have R:0≤y∧y≤t.q:=⟨h.2.2.2.1,h.2.2.2.2.1⟩
 have z:=Lib.hid (ua gs 0)
 have HM:=fun(w:World) (X:List Nat) (hX:XOk X w) (d:Sl az w X A n u fs) (f:Sl bC w X S m M ((aQ 0 gs).map aC)) (c:Sl af w X N nn G (ah (aQ 0 gs)).ns) (l:Sl aB w X C kk L t.cs) (V:aX w)=>Lib.hid (pQ fs room (aQ 0 gs) t F Q b g ab A n u S m M N nn G C kk L y R false I X w hX d f c ae l V)
 clear h I Q R
 generalize Z:aQ 0 gs=ps at *
 clear Z
 simp only[jnA]at HM ⊢
 go_enter Tryz.func22,Tryz.ntmps22
 go_upto_region 1 with(fail)
 refine(hstart hX).cw fun W K=>?_
 have K:=(((K.ksl0 l).ksl0 c).ksl0 f).ksl0 d
 clear l c f d
 go_wp2_with (first | refine K.ld 0 rfl ?_)
 refine(HM _ _ K.xok (K.sl 0 rfl) (K.sl 1 rfl) (K.sl 2 rfl) (K.sl 3 rfl) (V.on K.below)).out.mono ?_
 rintro e w1 ⟨rfl,J⟩
 have K:=K.on J
 clear J HM
 go_upto_region 4 with(fail)
 go_wp2_with (first | refine bu (K.sub 0 rfl 0 [.slice A n u,.int .i64 room,.int .i64 (-1),.bool false]) ?_)
 refine(uG fs room ps [] t F A n u _ _ K.xok (K.sl 0 rfl) (V.on K.below)).mono ?_
 rintro e w2 ⟨B,o,bc,O,on,oc,C2,k2,Y,rfl,h1,h2,h3,ar,J⟩
 have K:=(((K.on J).ft.ft.ft.ft.ksl h1).nrow (e:=44) (size:=7) (n:=0) (v := .slice none 0 0) (xs:=[]) (Below.refl _ _) ⟨rfl,.inl ⟨rfl,rfl⟩⟩).kra (s:=fc) (vs:=[]) (xs:=[]) rfl
 have HL:=Lib.hid h1.len
 clear J h1 h2 h3
 have ao:=fun(W:World)=>pq (P:=Tryz.prog) (ty:=77) (i:=0) (off:=0) (cs:=#[.slice B o bc,.slice O on oc,.int .i64 0,.slice C2 k2 Y,.int .i64 t.q,.int .i64 t.a,.bool true]) (v := .slice B o bc) (by kernel_rfl) rfl W
 go_wp2
 clear ao
 go_loopw [3,14] (fun v i wr => ∃ (k r cr:Nat) (vt:Option Addr) (vs:List Value),k≤o∧i = .int .i64 k∧v = .slice vt r cr∧Hid (r=(pX ps k).length) ∧
  HH w [] X wr [.row 44 7 (.slice vt r cr) r vs,.box w.heap.size 39 (jnA A n u room b g S m M (ah ps).q (ah ps).a N nn G C kk L t.q t.a y 0 false).toArray] [Ra.fact fc vs (pX ps k),Sl.fact fB B o bc ps]) (fun _ i _=>o-(intOf i).toNat)
 case atStart=>exact⟨0,0,0,none,[],Nat.zero_le _,rfl,rfl,Lib.hid rfl,K⟩
 case round=>
  obtain⟨k,r,cr,vt,vs,hk,rfl,rfl,HE,K⟩:=hrel
  by_cases ap:k<o
  ·obtain⟨p,hx⟩:∃ x,ps[k]?=some x:=⟨_,List.getElem?_eq_getElem (by have:=HL.out;omega)⟩
   have HX:=Lib.hid (DP hx)
   have HB:=Lib.hid (Dt ps (k+1))
   obtain⟨ad,rr,rfl,K,⟨E,en,ec,An,n3,c3,rfl,he,-⟩⟩:=K.elem 1 rfl (j:=k) (x:=p) hx
   have K:=K.ksl he
   have T:=Lib.hid he.len
   have ag:r+en≤100000:=by
    have h4:=HB.out
    rw[HX.out,List.length_append,z.out]at h4
    have:=HE.out
    have:=T.out
    have:=H.out
    omega
   have i1:(0:Int)≤(k:Int):=by omega
   have i2:(k:Int)<(o:Int):=by omega
   clear hx he
   go_upto_region 7 with(first | refine bu (K.at' 1 rfl) ?_ | (refine K.lw fun W K=>?_;refine K.sr 0 rfl fun W K=>?_))
   have c0:=K.r 0 rfl
   go_wp2_with (at_builtin;refine K.apS 64 1 rfl (K.sl 0 rfl) ag fun v' vs' U K=>?_)
   obtain⟨am,ac,rfl,-⟩:=aE (K.row 1 rfl)
   go_roundw
   case rel=>
    have D:=(K.ra 3 rfl).append (K.ra 0 rfl)
    rw[←HX.out]at D
    have K:=(K.kra D).tl
    refine⟨k+1,r+en,ac,am,vs++vs',by omega,by go_num,rfl,by rw[HX.out,List.length_append,←HE.out,←T.out];exact Lib.hid rfl,?_⟩
    exact(K.out.forget (List.Sublist.cons_cons _ (List.Sublist.cons _ (List.Sublist.cons _ (List.Sublist.cons _ (List.Sublist.cons _ (List.Sublist.refl _))))))).hh
   case measure=>simp[intOf];omega
  ·have i2:¬ (k:Int)<(o:Int):=by omega
   obtain rfl:k=ps.length:=by have:=HL.out;omega
   rw[zS,z.out]at K
   go_wp2
   go_ret
   obtain⟨B3,c3,e3,KS⟩:=K.out.done_row (s:=fc) 0 rfl (K.ra 0 rfl) (by decide) (by simp)
   injection e3 with e4 e5 e6
   subst e4 e6
   exact⟨_,_,_,rfl,(KS.hh).slb 0 rfl,KS.below⟩
end
section
open Go.RowKit
theorem DW {room:Int} (h:189≤room∧room≤65536):JI room 0 [] [] ⟨[],0,0⟩ 0:=
 ⟨⟨⟨[],rfl,trivial⟩,rfl,rfl,rfl,jy (by omega)⟩,by simp,by simp,by simp,by simp,by simp;omega⟩
abbrev st0:St:=⟨[],0,0⟩
abbrev we1:Evt:=⟨st0.q+1,3,1,⟨#[98]⟩,1,0,0⟩
def st1:St:=dR st0 we1
abbrev we2:Evt:=⟨st1.q+1,9,4,⟨#[98]⟩,1,0,0⟩
def st2:St:=dR st1 we2
theorem Fh:cS st0 we1=0:=by kernel_rfl
theorem FB:st1.q=1:=by kernel_rfl
theorem EZ:cS st1 we2=0:=by kernel_rfl
theorem Fw:st2.q=2:=by kernel_rfl
theorem CV:st2.cs.length=1∧(st2.cs.map (fun c=>c.cells.length)) = [4]:=⟨by kernel_rfl,by kernel_rfl⟩
theorem yI:(jB st2).length≤350:=by
 have b:cF st2:=by
  have n:=kj dD Fh
  have g:st1=bJ st0 we1:=by unfold st1 dR;rw[if_pos Fh]
  have h:cF st1:=g ▸ n
  have l:=kj h EZ
  have p:st2=bJ st1 we2:=by unfold st2 dR;rw[if_pos EZ]
  exact p ▸ l
 obtain⟨t,s,x,u,r,i,w⟩:=b
 obtain⟨o,f⟩:=CV
 have k:=aK [(st2.cs.length:Int)] (aH (by omega) (by omega) bY)
 have j:=aK [st2.q,st2.a] (aH (by omega) (by omega) (aH (by omega) (by omega) bY))
 simp only[List.length_cons,List.length_nil]at k j
 obtain⟨c,d⟩:∃ c,st2.cs = [c]:=by
  match st2.cs,o with
  | [c],_=>exact⟨c,rfl⟩
 rw[d]at f
 have m:c.cells.length=4:=by simpa using f
 have v:=(qg (i c (by rw[d];simp))).1
 unfold jB
 rw[mb,List.length_append]
 unfold stE
 rw[List.length_append,List.length_append]
 have e:(st2.cs.flatMap fy)=fy c:=by rw[d];simp
 rw[e]
 simp only[List.length_cons,List.length_nil]
 omega
def JQ2 (room:Int) (k:Nat) (ev:List Evt) (nl:Nat) (b age:Int) (t:St) (er:Int) (X:List Nat) (w:World) (e:Ending) (w':World):Prop:=
 ∃ fs gs su,JI room k fs gs t su∧bg gs=ev∧gs.length=nl∧fP fs room b age ((aQ 0 gs).map aC) (ah (aQ 0 gs)) t su er X w e w'
theorem JQ2.of {room:Int} {k:Nat} {fs:List Fil} {gs:List Sg} {sg:List Sgi} {c:Cx} {ev:List Evt} {nl:Nat} {b a:Int} {t:St} {d g:Int} {X:List Nat} {w:World} {e:Ending} {w':World} (h:WI [] room fs sg c gs t) (p:t.q≤k) (i:k≤40) (o:0≤d) (l:d≤t.q) (n:189*((k:Int)+1)≤room) (f:bg gs=ev) (hn:gs.length=nl)
 (m:fP fs room b a sg c t d g X w e w'):JQ2 room k ev nl b a t g X w e w':=by
 have j:=h.sg
 have r:=h.c
 subst j r
 exact⟨fs,gs,d,⟨h,p,i,o,l,n⟩,f,hn,m⟩
set_option maxHeartbeats 1000000 in
theorem ru {room:Int} {k:Nat} {fs:List Fil} {l:List Sg} {g:Sg} {t:St} {E:Int} (h:JI room k fs (l ++ [g]) t E) (hk:k<40) (aw:189*((k:Int)+2)≤room) (b i:Int) (H:dM b i=true) (A:Option Addr) (n V:Nat) (S:Option Addr) (m mc:Nat) (N:Option Addr) (nn W:Nat) (C:Option Addr) (kk ck:Nat)
 (X:List Nat) (w:World) (hX:XOk X w) (K:Sl az w X A n V fs) (z:Sl bC w X S m mc ((aQ 0 (l ++ [g])).map aC)) (D:Sl af w X N nn W (ah (aQ 0 (l ++ [g]))).ns) (T:Sl aB w X C kk ck t.cs) (hp:aX w)
 (eq ea v:Int) (d:ByteArray) (ex s u:Int) (R:d.size≤maxLen) (y:cS t ⟨t.q+1,ea,v,d,ex,s,u⟩=0) (J:i<ea-g.ba):
 Calls Tryz.prog 10 #[.agg (jnA A n V room b i S m mc (ah (aQ 0 (l ++ [g]))).q (ah (aQ 0 (l ++ [g]))).a N nn W C kk ck t.q t.a E 0 false).toArray,.agg #[.int .i64 eq,.int .i64 ea,.int .i64 v,.string d,.int .i64 ex,.int .i64 s,.int .i64 u]] w
  (JQ2 room (k+1) (bg (l ++ [g]) ++ [⟨t.q+1,ea,v,d,ex,s,u⟩]) (l.length+2) b i (dR t ⟨t.q+1,ea,v,d,ex,s,u⟩) 0 X w):=by
 have f:=h.ok
 have I:=h.look
 have M:=h.al
 have Q:nn≤1000:=by have:=h.ns;rw[D.len];omega
 obtain⟨z1,z2,z3,z4,z5,z7,z6⟩:=h.sizes
 obtain⟨i1,i2,i3,i4,i5,i6⟩:=h
 have O:0≤E∧E≤t.q:=⟨i4,i5⟩
 unfold dR
 rw[if_pos y]
 obtain⟨m1,m2,m3,-⟩:=fM y
 obtain⟨-,-,-,-,ka,kb,-,-⟩:=cK m1
 have P:0≤ea∧ea≤1099511627776:=⟨ka,kb⟩
 have am:=(iG t ⟨t.q+1,ea,v,d,ex,s,u⟩).1
 simp only at am
 have ao:=fG f y
 have ar:=rL ao
 obtain⟨j1,j2,j3,j4,j5,j6,j7,j8,j9,U,ae,ac,ab⟩:=JI.last ⟨i1,i2,i3,i4,i5,i6⟩
 have hlen:(l ++ [g]).length=l.length+1:=by simp
 obtain rfl:m=l.length+1:=by rw[z.len,List.length_map,iR,hlen]
 have p:(aQ 0 (l ++ [g])).map aC=(aQ 0 l).map aC ++ [aC (g.pr (l.length+1))]:=by rw[eo,List.map_append,Nat.zero_add];rfl
 have L:(1≤(aC (g.pr (l.length+1))).num∧(aC (g.pr (l.length+1))).num≤99999999)∧True∧(aC (g.pr (l.length+1))).fi<(aC (g.pr (l.length+1))).la∧(0≤(aC (g.pr (l.length+1))).sz∧(aC (g.pr (l.length+1))).sz≤1000000)∧(0≤(aC (g.pr (l.length+1))).fr∧(aC (g.pr (l.length+1))).fr≤1099511627776):=⟨by rw[j2];omega,trivial,j5,j8,j9⟩
 have bb:=mL (n:=l.length+1+1) (by omega) f
 have B:fs.length<64:=by omega
 cases hd:g.sd with
 | true=>
   have hall:∀ x ∈ l ++ [g],x.sd=true:=fun x j=>by
    rcases List.mem_append.1 j with j | j
    ·exact j1 x j
    ·rw[List.mem_singleton]at j;rw[j];exact hd
   obtain⟨Z,F,w3,w4⟩:=i1.beg mu hall (by omega) B y (by rw[hlen];omega)
   rw[hlen]at Z F
   rw[p]at F
   refine(nD _ _ l.length fs room _ t I M b i H A n V S mc N nn W C kk ck E O f X w hX K z D Q T hp eq ea v d ex s u R y p L P j2 (U.trans hd) B _ _ (jA f (by omega) (by omega)) (by omega) rfl (by omega) Z (by omega)).mono fun e w' Y=>?_
   exact JQ2.of F (by omega) (by omega) i4 (by omega) (by omega) (by rw[cO]) (by simp) Y
 | false=>
   have o:ah (aQ 0 (l ++ [g]))=g.c:=by rw[eM,hd];rfl
   have ag:iN (aC (g.pr (l.length+1))) (ah (aQ 0 (l ++ [g]))) b i ⟨t.q+1,ea,v,d,ex,s,u⟩=true:=by
    have ad:(aC (g.pr (l.length+1))).fr=g.ba:=by rw[gY]
    unfold iN
    rw[U,hd,if_neg (by simp)]
    split
    ·rfl
    ·split
     ·rfl
     ·rw[ad];exact decide_eq_true J
   have ap:=mq (n:=g.evs.length) (by omega) f
   rw[←ac,←ab]at ap
   obtain⟨Z,F,w3,w4⟩:=i1.sealW hd (by omega) (by omega)
   have hall:∀ x ∈ l ++ [{ g with sd:=true }],x.sd=true:=fun x j=>by
    rcases List.mem_append.1 j with j | j
    ·exact j1 x j
    ·rw[List.mem_singleton]at j;rw[j]
   have r:(l ++ [{ g with sd:=true }]).length=l.length+1:=by simp
   obtain⟨v1,v2,v3,v4⟩:=F.beg mu hall (by omega) (by omega) y (by rw[r];omega)
   rw[r]at v1 v2
   rw[←mO]at v2
   have hrun:=iD _ _ _ _ Z v1
   have G:=oX (n:=g.evs.length) ae
   rw[←o]at G
   refine(nA _ _ l.length fs room _ t I M b i H A n V S mc N nn W C kk ck E O f X w hX K z D Q T hp eq ea v d ex s u R y p L P j2 ag _ j6 (by omega) _ G (by rw[o];omega) B _ _ (jA f (by omega) (by omega)) (by omega) rfl (by omega) (by rw[o];exact hrun) (by rw[o];omega)).mono fun e w' Y=>?_
   rw[o]at Y
   exact JQ2.of v2 (by omega) (by omega) (by omega) (by omega) (by omega) (by rw[cO,cO,cO]) (by simp) Y
end
section
open Go.RowKit
set_option maxHeartbeats 4000000 in
theorem xC (w:World) (t:aX w):Calls Tryz.prog 6 #[] w fun e w'=>e = .returned (.bool true)∧Below w.heap.size w w':=by
 have hX:XOk [] w:=fun b f=>(by cases f)
 have k:dM 64 2=true:=by kernel_rfl
 have z:(⟨#[98]⟩:ByteArray).size≤maxLen:=by unfold maxLen;decide
 go_enter Tryz.func6,Tryz.ntmps6
 go_upto_region 1 with(fail)
 refine(hstart hX).cw fun W K=>?_
 go_wp2_with fail
 refine(qc 900 64 2 (by omega) k _ _ K.xok (t.on K.below)).mono ?_
 rintro e w1 ⟨A1,n1,H,S1,m1,O,N1,Q,I,C1,k1,L,rfl,h,c,i,m,f⟩
 have K:=((((K.on f).ksl m).ksl i).ksl c).ksl h
 clear f h c i m
 go_upto_region 2 with(refine K.lw fun W K=>?_;refine K.sr 0 rfl fun W K=>?_)
 go_wp2_with (first | refine K.ld 0 rfl ?_)
 refine(mS (DW (room:=900) (by omega)) (by omega) (by omega) 64 2 k A1 n1 H S1 m1 O N1 Q I C1 k1 L _ _ K.xok (K.sl 0 rfl) (K.sl 1 rfl) (K.sl 2 rfl) (K.sl 3 rfl) (t.on K.below) 0 3 1 ⟨#[98]⟩ 1 0 0 z).mono ?_
 rw[show cS ⟨[],0,0⟩ ⟨(⟨[],0,0⟩:St).q+1,3,1,⟨#[98]⟩,1,0,0⟩=0 from Fh,if_pos rfl]
 rw[show dR ⟨[],0,0⟩ ⟨(⟨[],0,0⟩:St).q+1,3,1,⟨#[98]⟩,1,0,0⟩=st1 from rfl]
 rintro e w2 ⟨ab,y,ar,a,d,A2,n2,J,S2,m2,N,N2,M,R,C2,k2,G,rfl,h,c,i,m,f⟩
 have K:=(((((K.on f).ft.ft.ft.ft).ksl m).ksl i).ksl c).ksl h
 clear f h c i m
 obtain⟨g,rfl,P⟩:∃ g,y = [] ++ [g]∧g.ba=0:=by
  have h:=a.sizes.2.1
  have c:=a.1.goes
  rw[d]at h
  match y,d,h,c with
  | [g],_,_,c=>
    obtain⟨u,g1,-⟩:=c
    exact⟨g,rfl,g1.2.1⟩
  | [],d,_,_=>simp[bg]at d
 go_upto_region 3 with(refine K.lw fun W K=>?_;refine K.sr 0 rfl fun W K=>?_)
 go_wp2_with (first | refine K.ld 0 rfl ?_)
 refine(ru (l:=[]) (g:=g) a (by omega) (by omega) 64 2 k A2 n2 J S2 m2 N N2 M R C2 k2 G _ _ K.xok (K.sl 0 rfl) (K.sl 1 rfl) (K.sl 2 rfl) (K.sl 3 rfl) (t.on K.below) 0 9 4 ⟨#[98]⟩ 1 0 0 z EZ (by omega)).mono ?_
 rw[d,show dR st1 ⟨st1.q+1,9,4,⟨#[98]⟩,1,0,0⟩=st2 from rfl]
 clear a d P
 rintro e w3 ⟨F,n,ap,a,d,p,V,T,v,S3,S,E,X,D,C,U,Y,A,rfl,h,c,i,m,f⟩
 have K:=(((((K.on f).ft.ft.ft.ft).ksl m).ksl i).ksl c).ksl h
 clear f h c i m
 have Z:(aI F:Int)+(jB st2).length≤900:=by
  have i:(bg n).length=2:=by rw[d];rfl
  have m:n.length=2:=p
  have h:=lP n F 0 _ _ a.files a.1.goes dD (by omega) (by omega)
  have c:=yI
  omega
 go_upto_region 4 with(refine K.lw fun W K=>?_;refine K.sr 0 rfl fun W K=>?_)
 go_wp2_with (first | refine K.ld 0 rfl ?_)
 refine(yT a 64 2 k V T v S3 S E X D C U Y A _ _ K.xok (K.sl 0 rfl) (K.sl 1 rfl) (K.sl 2 rfl) (K.sl 3 rfl) (t.on K.below)).mono ?_
 rw[d]
 rintro e w4 ⟨B,nb,cb,rfl,o,f⟩
 have K:=(K.on f).ksl o
 obtain rfl:nb=2:=o.len
 clear f o
 go_wp2_with (first | refine K.ld 0 rfl ?_)
 refine(uN a 64 2 k Z V T v S3 S E X D C U Y A _ _ K.xok (K.sl 1 rfl) (K.sl 2 rfl) (K.sl 3 rfl) (K.sl 4 rfl) (t.on K.below)).mono ?_
 rintro e w5 ⟨ae,s,A5,n5,ac,S5,m5,ag,N5,ao,am,C5,k5,al,rfl,h,c,i,m,f⟩
 obtain rfl:m5=2:=by rw[c.len,List.length_map,iR,p];rfl
 have K:=K.on f
 clear f h c i m s Z a
 rw[Fw]
 go_upto_region 6 with(refine K.lw fun W K=>?_;refine K.sr 0 rfl fun W K=>?_)
 obtain⟨ad,rr,rfl,K,⟨rfl,-⟩⟩:=K.elem 0 rfl (j:=1) (x:=we2) rfl
 have c0:=K.r 0 rfl
 have s0:W.cell? ⟨ad.block,ad.off+7,none⟩=some (.int .i64 2):=by
  have c:W.cell? ((ad.add 7).add 0)=some (.int .i64 (st1.q+1)):=K.at' 0 rfl 0 _ rfl
  rw[FB]at c
  rw[cN,Nat.add_zero]at c
  exact c
 go_wp2
 go_ret
 exact⟨rfl,K.below⟩
end
section
open Go.ChangeShapes Go.WideShapes Go.ChangeAt Go.RowKit Go.Deep
section
variable {H:Type} {enc:TypeId×Value→H}
theorem sL {w:World} {base:Nat} {fuel:Nat} {cs:List Value} {x:DataW H×List MemPlace} (h:DataW.trod enc Tryz.prog w base (fun _=>true) true fuel 23 cs=some x):
 ∃ (b:Int) (g:Int),cs = [.int .i64 b,.int .i64 g]∧(Lit.int .i64 b).wf=true∧(Lit.int .i64 g).wf=true:=by
 obtain⟨xs,n,m,_,e,c,hall⟩:=DataW.trod_struct Tryz.underlying23 h
 rw[show Tryz.prog.cellsOf 23=2 from by kernel_rfl]at e
 match cs,e with
 | [c0,c1],_=>
   have a:xs.length=2:=c
   match xs,a with
   | [x0,x1],_=>
     have i:DataW.trod enc Tryz.prog w base (fun _=>true) true n 3 [c0]=some x0:=by
      have h:DataW.trod enc Tryz.prog w base (fun _=>true) true n 3 ((([c0,c1]:List Value).drop 0).take (Tryz.prog.cellsOf 3))=([x0,x1])[0]?:=hall 0 _ rfl
      rw[show Tryz.prog.cellsOf 3=1 from by kernel_rfl]at h
      exact h
     have k:DataW.trod enc Tryz.prog w base (fun _=>true) true n 2 [c1]=some x1:=by
      have h:DataW.trod enc Tryz.prog w base (fun _=>true) true n 2 ((([c0,c1]:List Value).drop 1).take (Tryz.prog.cellsOf 2))=([x0,x1])[1]?:=hall 1 _ rfl
      rw[show Tryz.prog.cellsOf 2=1 from by kernel_rfl]at h
      exact h
     obtain⟨b,f,_,l⟩:=DataW.trod_int Tryz.underlying3 i
     obtain⟨g,d,_,j⟩:=DataW.trod_int Tryz.underlying2 k
     simp only[List.cons.injEq,and_true]at f d
     subst f d
     exact⟨b,g,rfl,l,j⟩
theorem uk {w:World} {base:Nat} {r:Reach} {v:Value} {d:DataW H} {p:List MemPlace} (hval:Value.okWide Tryz.prog w r base 23 v) (h:DataW.Trod enc Tryz.prog w 0 (fun _=>true) true 23 v d p):
 ∃ (b:Int) (g:Int),v = .agg #[.int .i64 b,.int .i64 g]∧(Lit.int .i64 b).wf=true∧(Lit.int .i64 g).wf=true:=by
 obtain⟨cs,rfl,f⟩:=okWide_struct Tryz.underlying23 hval
 obtain⟨fuel,e⟩:=h
 obtain⟨b,g,c,i⟩:=sL e
 refine⟨b,g,?_,i⟩
 have a:cs.toList = [.int .i64 b,.int .i64 g]:=c
 rw[←Array.toArray_toList (xs:=cs),a]
end
section
variable {H:Type} {enc:TypeId×Value→H}
theorem wY {α:Type} (s:Sh α) {t e:TypeId} {w:World} {A:Option Addr} {n c:Nat} {d:DataW H} {p:List MemPlace} (P:Tryz.prog.underlying t=some (.slice e)) (hC:Tryz.prog.cellsOf e=s.size) (y:0<s.size)
 (z:∀ {fuel cs x},DataW.trod enc Tryz.prog w 0 (fun _=>true) true fuel e cs=some x → ∃ a,s.rep w [] cs a) (h:DataW.Trod enc Tryz.prog w 0 (fun _=>true) true t (.slice A n c) d p):∃ xs,Sl s w [] A n c xs:=by
 obtain⟨fuel,I⟩:=h
 rcases DataW.trod_slice P I with⟨g,_⟩ | ⟨ad,len,cap,elems,rest,m,rfl,g,_,_,L,v,hlen,b,_,_⟩
 ·simp[Value.cells]at g
  obtain⟨rfl,rfl,rfl⟩:=g
  exact⟨[],Sl.nil_⟩
 ·simp[Value.cells]at g
  obtain⟨rfl,rfl,rfl⟩:=g
  rw[hC]at b
  have key:∀ k,k≤n → ∃ (xs:List α) (vs:List Value),xs.length=k∧vs.length=k*s.size∧aF s w [] vs xs ∧ ∀ (j:Nat) u,vs[j]?=some u→w.cell? (ad.add j)=some u:=by
   intro k
   induction k with
   | zero=>exact fun _=>⟨[],[],rfl,by simp,rfl,by simp⟩
   | succ k ih=>
     intro Q
     obtain⟨xs,vs,r,C,l,i⟩:=ih (by omega)
     have E:=b k (by omega)
     rw[List.getElem?_eq_getElem (by omega),Option.bind_eq_some_iff]at E
     obtain⟨cs,J,G⟩:=E
     obtain⟨a,F⟩:=z G
     obtain⟨_,M,o⟩:=World.cells?_some J
     have B:=s.len F
     refine⟨xs ++ [a],vs++cs,by simp[r],by rw[List.length_append,C,B,Nat.succ_mul],l.append (aF.single F),fun j u f=>?_⟩
     by_cases N:j<vs.length
     ·rw[List.getElem?_append_left N]at f
      exact i j u f
     ·rw[List.getElem?_append_right (by omega)]at f
      have q:j-vs.length<s.size:=by have:=(List.getElem?_eq_some_iff.1 f).1;omega
      have D:=o (j-vs.length) q
      rw[cN,show k*s.size+(j-vs.length)=j from by omega]at D
      rw[D]
      simpa using f
  obtain⟨xs,vs,r,C,l,i⟩:=key n (Nat.le_refl _)
  refine⟨xs,r.symm,L,v,fun h=>(by cases h),vs,⟨C,fun O=>⟨ad,rfl,?_,i⟩⟩,fun _ _ _ v=>(by cases v),l⟩
  have R:0<n*s.size:=Nat.mul_pos O y
  have K:=World.block_lt_of_cell? w _ (i 0 _ (List.getElem?_eq_getElem (by omega)))
  rwa [aO]at K
theorem BF {w:World} {A:Option Addr} {n c:Nat} {d:DataW H} {p:List MemPlace} (h:DataW.Trod enc Tryz.prog w 0 (fun _=>true) true 24 (.slice A n c) d p):∃ xs,Sl fc w [] A n c xs:=
 wY fc Tryz.underlying24 (by kernel_rfl) (by decide) (fun h=>by
  obtain⟨q,a,k,f,x,y,z,rfl,i,g,j,m,e,b,l⟩:=vj h
  exact⟨⟨q,a,k,f,x,y,z⟩,rfl,i,g,j,m,e,b,l⟩) h
end
end
end Go.Proofs.YtpokkciheejeiaaGreatDoor
section
namespace Go.Proofs.YtpokkciheejeiaaGreatDoor.topSegmentsDone
open Go.ChangeShapes Go.WideShapes Go.ChangeAt Go.RowKit
section
variable {H:Type} {enc:TypeId×Value→H}
theorem bools_open {w:World} {A:Option Addr} {n c:Nat} {d:DataW H} {p:List MemPlace} (h:DataW.Trod enc Tryz.prog w 0 (fun _=>true) true 25 (.slice A n c) d p):∃ xs,Sl ox w [] A n c xs:=
 wY ox Tryz.underlying25 (by kernel_rfl) (by decide) (fun h=>by
  obtain⟨b,a,-⟩:=DataW.trod_bool Tryz.underlying4 h
  exact⟨b,a,trivial⟩) h
end
theorem laid_PowOk {W:World} (h:laidMetH Tryz.prog Rows.topSegmentsRow.laid W):aX W:=by
 have a:=h.filter (fun x=>x.1 == "internal/strconv.uint64pow10")
 rw[show(Rows.topSegmentsRow.laid.filter fun x=>x.1 == "internal/strconv.uint64pow10") = [("internal/strconv.uint64pow10",Lib.tabData .u64 Lib.pow10Tab)] from by rfl]at a
 rw[MakeChecks.laidMetH_plain _ _ _ (by rfl)]at a
 exact Lib.tabIs_of_head (g:=0) (by kernel_rfl) (show(Tryz.prog.globals[0]?).map (·.type)=some 307 by kernel_rfl) Tryz.underlying307 Tryz.underlying253 (by kernel_rfl) (by kernel_rfl) a
theorem lifted (os:Os) (started:os.Started) (H:Type) (enc:TypeId×Value→H):
 ReturnsInHanded {} Tryz.checked os 3 .any (fun w args=>(Rows.topSegmentsSpec.pre enc Tryz.prog Tryz.f3 [] false w args∧laidMetH Tryz.prog Rows.topSegmentsRow.laid w)∧sizedMet enc Tryz.prog Tryz.f3 (OpenSpec.ofChange Rows.topSegmentsSpec) false w args)
  (Rows.topSegmentsSpec.post enc Tryz.prog Tryz.f3 false true false false):=by
 refine returnsInHanded_of_change_and (C:=Tryz.checked) (X:=fun w _=>laidMetH Tryz.prog Rows.topSegmentsRow.laid w) (fun _ _ _ hh h=>h.of_heap hh) Ep started (by kernel_rfl) Tryz.func3
  (ChangeSpec.witness_at (enc:=enc) (C:=Tryz.checked) (os:=os) (X:=fun w _=>laidMetH Tryz.prog Rows.topSegmentsRow.laid w) false (kK os) #[.agg #[.int .i64 0,.int .i64 0],.slice none 0 0,.slice none 0 0] 8 rfl (by kernel_rfl) (by kernel_rfl) (by kernel_rfl) (by kernel_rfl) (by kernel_rfl) (Bf os _)) ?_
 intro W base args ds gs before a hW _ _ hL _
 have hval:∀ (j:Nat) t v,Tryz.f3.params[j]?=some t→args[j]?=some v→Value.okWide Tryz.prog W .any base t v:=a
 have l:=hW
 obtain⟨p,q,f,hV,rfl,P,B⟩:=hW
 have hA:DataW.TrodAll enc Tryz.prog W 0 (fun _=>true) true Tryz.f3.params.toList args.toList ds p:=f
 rw[Tryz.params3]at hA hval
 obtain⟨x,E,d0,G,Z,Y,hargs,rfl,rfl,z,F⟩:=trodAll_cons hA
 obtain⟨y,D,d1,L,p1,q1,rfl,rfl,rfl,r,N⟩:=trodAll_cons F
 obtain⟨o,Q,V,U,p2,q2,rfl,rfl,rfl,u,K⟩:=trodAll_cons N
 obtain⟨rfl,rfl,rfl⟩:=trodAll_nil K
 obtain rfl:args=#[x,y,o]:=by cases args;simp_all
 obtain⟨rfl,rfl⟩:=trodVars_none hV
 have k0:=z
 have k:=lQ k0
 have A:=r
 have m:=lQ A
 have s:=u
 have n:=lQ s
 obtain⟨J,M,rfl,-,-⟩:=uk (hval 0 23 x rfl rfl) z
 obtain⟨O,b,d,rfl⟩:=okWide_slice Tryz.underlying24 (hval 1 24 y rfl rfl)
 obtain⟨i,R⟩:=BF r
 obtain⟨I,c,cap2,rfl⟩:=okWide_slice Tryz.underlying25 (hval 2 25 o rfl rfl)
 obtain⟨g,T⟩:=bools_open u
 clear f a
 refine(pS xC J M O b d i I c cap2 g W R T (laid_PowOk hL)).mono fun e W' ⟨S,bel⟩=>?_
 subst S
 exact⟨_,rfl,_,_,_,[],_,[],l,trodAll_mk1 (shut_bool Tryz.underlying4 _),(trodAll_cons_mk (Below.trod lE (by kernel_rfl) (of_decide_eq_true (by kernel_rfl)) k0 bel k) (trodAll_cons_mk (Below.trod lE (by kernel_rfl) (of_decide_eq_true (by kernel_rfl)) A bel m) (trodAll_cons_mk (Below.trod lE (by kernel_rfl) (of_decide_eq_true (by kernel_rfl)) s bel n) trodAll_mk0))),rfl,bel.frame _,fun h=>by cases h⟩
end Go.Proofs.YtpokkciheejeiaaGreatDoor.topSegmentsDone
end
