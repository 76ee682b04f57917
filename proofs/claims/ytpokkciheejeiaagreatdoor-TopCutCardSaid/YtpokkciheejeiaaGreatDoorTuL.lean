/- Lemmas and contracts that the proof of TopCut uses, part 12 of 16: each is a theorem for every input that its premises allow. -/
import Derived.Test.YtpokkciheejeiaaGreatDoorTuK
set_option linter.unusedVariables false
set_option linter.unusedSimpArgs false
set_option maxRecDepth 100000
namespace Go.Proofs.YtpokkciheejeiaaGreatDoor
section
open Go.RowKit Go.Shelf
attribute [local go_sem] Oper.semAt_some
abbrev vg (v:Value) (n:Nat) (vs:List Value):Itm := .row 144 1 v n vs
def kg (v:Value) (st:Stq):Fact:=⟨fun w X=>gx.rep w X [v] st,fun h k=>gx.keep h k,fun h k=>gx.more h k⟩
def MqI (w:World) (X:List Nat) (g:Nat) (L:List Itm) (xs:List Stq) (W:World):Prop := ∃ v n vs,Hid (n=xs.length)∧HH w [] X W (vg v n vs :: .box g 80 #[v]::L) []∧aC gx W (Exs (vg v n vs :: .box g 80 #[v]::L)++X) vs xs
theorem MqI.own {w:World} {X:List Nat} {g B:Nat} {L:List Itm} {α:Type} (f:List α→List Stq) (hB:w.heap.size≤B):OwnFrom B (fun pre W=>MqI w X g L (f pre) W):=fun s W W' row c a b=>by
 obtain⟨v,n,vs,d,K,h⟩:=c
 exact⟨v,n,vs,d,K.kept0 a hB b,kO a (fun r e=>(b r e).2) h⟩
theorem HH.round {c W:World} {M X:List Nat} {L:List Itm} {vs:List Value} {xs:List Stq} (K:HH c M X W L []) (h:aC gx W (Exs L++X) vs xs):HH W (Exs L) (Exs L++X) W L [Ra.fact gx vs xs]:=
 K.again.kra (h.more (by
  intro b _ a
  rcases List.mem_append.1 a with h | h
  ·exact List.mem_append_left _ h
  ·exact h))
theorem rP {w W W':World} {X:List Nat} {L L':List Itm} {F:List Fact} {vs:List Value} {xs:List Stq} (K:HH w [] X W L []) (K':HH W (Exs L) (Exs L++X) W' L' (Ra.fact gx vs xs::F)):HH w [] X W' L' []∧aC gx W' (Exs L'++X) vs xs:=by
 refine⟨(K.after K').out.forget (List.nil_sublist _),(K'.ra 0 rfl).more ?_⟩
 intro b _ a
 rcases List.mem_append.1 a with h | h
 ·exact List.mem_append_left _ h
 ·exact List.mem_append_right _ (List.mem_append_right _ h)
theorem MqI.round {w W W':World} {X:List Nat} {L L2:List Itm} {F:List Fact} {g n:Nat} {v:Value} {vs:List Value} {xs:List Stq} (K:HH w [] X W L []) (K':HH W (Exs L) (Exs L++X) W' (vg v n vs :: .box g 80 #[v]::L2) (Ra.fact gx vs xs::F)) (a:n=xs.length):MqI w X g L2 xs W':=
 ⟨v,n,vs,a,(rP K K').1,(rP K K').2⟩
def Itm.ty:Itm→TypeId
 | .box _ t _=>t
 | .row e _ _ _ _=>e
theorem FI {W:World} {x:Itm} (h:x.ok W) {g:Nat} (a:x.blk=some g):∃ cs,Blk W g x.ty cs:=by
 cases x with
 | box g' t cs=>
   injection a with a
   subst a
   exact⟨cs,h⟩
 | row e size v n xs=>exact tu h a
theorem HH.notinX {f W:World} {X:List Nat} {L:List Itm} {F:List Fact} (K:HH f [] X W L F) {b:Nat} {t:TypeId} {cs:Array Value} (c:Blk W b t cs) (j:f.heap.size≤b) (i:L.all (fun x=>decide (x.ty≠t))=true):b ∉ Exs L++(Exs L++X):=by
 have d:b ∉ Exs L:=fun h=>by
  obtain⟨x,g,e⟩:=bh.1 h
  obtain⟨cs',a⟩:=FI (K.out.ents x g).1 e
  have k:=of_decide_eq_true (List.all_eq_true.1 i x g)
  unfold Blk at c a
  rw[c]at a
  injection a with a
  injection a with _ a _
  exact k a.symm
 intro h
 rcases List.mem_append.1 h with h | h
 ·exact d h
 ·rcases List.mem_append.1 h with h | h
  ·exact d h
  ·have:=K.out.xok b h
   omega
theorem uJ {α β:Type} (l:List α) (f:Nat→β) (g:α→β) (h:∀ j x,l[l.length-1-j]?=some x→f j=g x):eO f l.length=l.reverse.map g:=by
 refine List.ext_getElem? fun k=>?_
 by_cases c:k<l.length
 ·have a:l[l.length-1-k]?=some (l[l.length-1-k]'(by omega)):=List.getElem?_eq_getElem _
  have b:=h k _ a
  simp[eO,c,b]
 ·rw[List.getElem?_eq_none (by rw[ic];omega),List.getElem?_eq_none (by simp;omega)]
theorem uA {α β:Type} (f:Nat→α) (g:α→β) (k:Nat):(eO f k).map g=eO (fun j=>g (f j)) k:=by simp[eO]
theorem Fl (os:List ByteArray):(eO (nmF os os.length) os.length).map (fun x=>Stq.rm x.2)=os.reverse.map Stq.rm:=by
 rw[uA]
 exact uJ os _ Stq.rm fun j x h=>by unfold nmF;rw[h];rfl
theorem FX (ps:List Prt) (d:∀ p ∈ ps,(1≤p.s.num∧p.s.num≤99999999)∧0≤p.s.size) {A:Option Addr} {n c:Nat} {X:List Nat} {w:World} (h:Sl dP w X A n c ps):
 ∃ qs:List PV,qs.length=ps.length∧(∀ (j:Nat) p,ps[j]?=some p → ∃ q,qs[j]?=some q∧q.num=p.s.num.toNat∧q.size=p.s.size.toNat∧q.al=p.al)∧PAt qs A w.heap.size w:=by
 have f:∀ (j:Nat) p,ps[j]?=some p → ∃ q:PV,(q.num=p.s.num.toNat∧q.size=p.s.size.toNat∧q.al=p.al) ∧ ∃ ad,A=some ad∧ad.block<w.heap.size∧At w (ad.add (j*11)) q.cells.toList:=by
  intro j p b
  obtain⟨ad,r,o,x,-,⟨E,y,l,t,nn,u,rfl,-⟩,g⟩:=h.at' b
  have i:=d p (List.mem_of_getElem? b)
  have m:((p.s.num.toNat:Nat):Int)=p.s.num:=Int.toNat_of_nonneg (by omega)
  have v:((p.s.size.toNat:Nat):Int)=p.s.size:=Int.toNat_of_nonneg i.2
  refine⟨⟨p.s.num.toNat,by omega,p.s.bq,p.s.ba,none,0,0,E,y,l,p.s.c.q,p.s.c.a,t,nn,u,p.st,p.s.size.toNat,p.al⟩,⟨rfl,rfl,rfl⟩,ad,o,x,?_⟩
  unfold PV.cells
  simp only[m,v]
  exact g
 refine⟨List.ofFn fun j:Fin ps.length=>(f j.1 ps[j.1] (List.getElem?_eq_getElem j.2)).choose,by simp,fun j p k=>?_,fun j q z=>?_⟩
 ·obtain⟨b,rfl⟩:=List.getElem?_eq_some_iff.1 k
  exact⟨_,by simp only[List.getElem?_ofFn,b,dite_true],(f j ps[j] (List.getElem?_eq_getElem b)).choose_spec.1⟩
 ·obtain⟨b,rfl⟩:=List.getElem?_eq_some_iff.1 z
  have e:j<ps.length:=by simpa using b
  simp only[List.getElem_ofFn]
  exact(f j ps[j] (List.getElem?_eq_getElem e)).choose_spec.2
def ctS (q:PV):List Stq:=if q.size<q.al then [.ct (az q.num) q.size] else []
def ctP (p:Prt):List Stq:=if p.s.size.toNat<p.al then [.ct (az p.s.num.toNat) p.s.size.toNat] else []
theorem FD (ps:List Prt) (a:List PV) (d:PV) (i:a.length=ps.length) (h:∀ (j:Nat) p,ps[j]?=some p → ∃ q,a[j]?=some q∧q.num=p.s.num.toNat∧q.size=p.s.size.toNat∧q.al=p.al):(eO (pvF a d ps.length) ps.length).flatMap (fun x=>ctS x.2)=ps.reverse.flatMap ctP:=by
 rw[List.flatMap_def,List.flatMap_def,uA]
 congr 1
 refine uJ ps _ ctP fun j x g=>?_
 obtain⟨q,b,e,c,f⟩:=h _ _ g
 unfold pvF ctS ctP
 simp only[b,Option.getD_some,e,c,f]
theorem Ga (pre:List (Nat×PV)):(pre.flatMap (fun x=>ctS x.2)).length≤pre.length:=by
 induction pre with
 | nil=>simp
 | cons x l ih=>
   rw[List.flatMap_cons,List.length_append,List.length_cons]
   have:(ctS x.2).length≤1:=by unfold ctS;split<;>simp
   omega
theorem tG {β:Type} {B D:Nat} {o:Obj} (h:D<B):OwnFrom B (fun(_:β) W=>W.heap[D]?=some o):=fun s W W' row a b c=>
 (b.block D (Array.getElem?_eq_some_iff.1 a).1 (fun e=>by have:=(c D e.symm).1;omega)).trans a
theorem Ai (nm:ByteArray) (X:List Nat) (w:World) (hX:XOk X w):Calls Tryz.prog 82 #[.string nm] w fun e w' => ∃ v,e = .returned v∧rW w' X v (.sy nm)∧Below w.heap.size w w':=by
 go_enter Tryz.func82,Tryz.ntmps82
 go_wp2
 refine(hstart hX).bp fun W K=>?_
 go_ret
 exact⟨_,rfl,⟨_,rfl,K.boxc⟩,K.below⟩
theorem vN {w W:World} {X:List Nat} {S:Option Addr} {n c D a:Nat} {vs:List Value} {L:List Itm} {xs:List Stq} (K:HH w [] X W (vg (.slice S n c) n vs::L) []) (b:aC gx W (Exs (vg (.slice S n c) n vs::L)++X) vs xs) (s:w.heap.size≤D) (v:w.heap.size≤a) (d:D≠a) (p:W.heap[D]?=some (.deferred (some []))) (q:W.heap[a]?=some (.deferred (some []))):
 ((W.putObj a (.deferred none)).heap[D]?=some (.deferred (some [])))∧Sl gx ((W.putObj a (.deferred none)).putObj D (.deferred none)) X S n c xs∧Below w.heap.size w ((W.putObj a (.deferred none)).putObj D (.deferred none)):=by
 have k:(W.putObj a (.deferred none)).heap[D]?=some (.deferred (some [])):=(World.putObj_heap_other d).trans p
 have j:=grownBy_putObj' W a (.deferred none)
 have f:=grownBy_putObj' (W.putObj a (.deferred none)) D (.deferred none)
 have i:∀ r,some a=some r→w.heap.size≤r ∧ ∃ o:Obj,W.heap[r]?=some o∧o.isCells=false:=fun r e=>by cases e;exact⟨v,_,q,rfl⟩
 have h:∀ r,some D=some r→w.heap.size≤r ∧ ∃ o:Obj,(W.putObj a (.deferred none)).heap[r]?=some o∧o.isCells=false:=fun r e=>by cases e;exact⟨s,_,k,rfl⟩
 have t:=(K.kept0 j (Nat.le_refl _) i).kept0 f (Nat.le_refl _) h
 have u:=kO f (fun r e=>(h r e).2) (kO j (fun r e=>(i r e).2) b)
 obtain⟨A,c',e,g⟩:=t.don u (by decide)
 injection e with m x l
 subst m l
 exact⟨k,g.slb 0 rfl,g.below⟩
def jC (ps:List Prt):List Stq:=match ps.getLast? with
 | some p=>if p.st=4 then [] else [.sy (az p.s.num.toNat)]
 | none => []
def dK (ps:List Prt) (os:List ByteArray):List Stq:=os.reverse.map .rm++ps.reverse.flatMap ctP++jC ps
theorem yq (l:List Prt):(l.flatMap ctP).length≤l.length:=by
 induction l with
 | nil=>simp
 | cons x l ih=>
   rw[List.flatMap_cons,List.length_append,List.length_cons]
   have:(ctP x).length≤1:=by unfold ctP;split<;>simp
   omega
theorem zc {G:Prop} (A0:Nat→Nat×PV→Act) (k:∀ A,A=A0→G):G:=k A0 rfl
set_option maxHeartbeats 8000000 in
theorem vV (v2 v3 v4 v5 v6:Value) (ps:List Prt) (os:List ByteArray) (cp:ps.length≤64) (br:os.length≤64) (hnum:∀ p ∈ ps,(1≤p.s.num∧p.s.num≤99999999)∧0≤p.s.size) (B:Option Addr) (bn bc:Nat) (O:Option Addr) (on y:Nat) (X:List Nat) (w:World) (hX:XOk X w) (h1:Sl dP w X B bn bc ps) (h2:Sl dx w X O on y os) (hp:aV w):
 Calls Tryz.prog 30 #[.agg #[.slice B bn bc,.slice O on y,v2,v3,v4,v5,v6]] w fun e w' => ∃ S n c,e = .returned (.slice S n c)∧Sl gx w' X S n c (dK ps os)∧Below w.heap.size w w':=by
 have ab:=Lib.hid h2.len
 have HO:=Lib.hid h2
 have HB:=Lib.hid h1
 clear h1 h2
 refine(callsIn_wide (n:=5)).1 ?_
 refine callsIn_of_wp_marks Tryz.func30 rfl trivial ?_ rfl
 simp only[Tryz.ntmps30,List.size_toArray,List.length_cons,List.length_nil,Nat.reduceAdd,Nat.reduceSub,Array.replicate_succ,Array.replicate_zero,List.push_toArray,List.append_toArray,List.nil_append,List.cons_append]
 gi_wp2_with fail
 refine⟨trivial,?_⟩
 refine(callsIn_wide.2 (wj O on y _)).mono ?_
 rintro e w3 ⟨rfl,rfl⟩
 gi_wp2_with fail
 refine(hstart hX).cwi fun W K=>?_
 have ag:=K.out.lt 0 rfl
 have K:=(K.mv 1 rfl).nrow (e:=144) (size:=1) (n:=0) (v := .slice none 0 0) (xs:=[]) (Below.refl _ _) ⟨rfl,.inl ⟨rfl,rfl⟩⟩
 have hc:=K.r 2 rfl 0
 have hr:∀ (j:Nat) nm,os[j]?=some nm → ∃ ad,O=some ad∧ad.block<w.heap.size∧W.cell? (ad.add j)=some (.string nm):=fun j nm hj=>by
  obtain⟨ad,r,P,o,-,C,e4⟩:=HO.out.at_ hj
  obtain⟨rfl,-⟩:=C
  refine⟨ad,P,o,(K.below.cell (p:=ad.add j) (by rw[aF];exact o)).trans ?_⟩
  have:=e4 0 _ rfl
  simpa [dx,jb] using this
 refine wpIn_rangeFunc_ownF rfl (by omega) (gf:=144) (lb:=#[.pointer (some ⟨w.heap.size+2,0,none⟩)]) rfl trivial (enters_of Tryz.func144 (by kernel_rfl) rfl)
  (uB Fence.wide 4 trivial rfl (by omega) (w.heap.size+2) w.heap.size O on y os (by have:=ab.out;omega) W ag (by omega) hc ab.out.symm hr) yx (yd (by omega) ag) (Below.refl _ _) (fun _=>rfl)
  (fun pre W=>MqI w X (w.heap.size+1) [.box (w.heap.size+2) 32 #[.slice O on y],.box w.heap.size 77 #[.slice B bn bc,.slice O on y,v2,v3,v4,v5,v6]] (pre.map (fun x=>Stq.rm x.2)) W)
  (fun _ _ _=>False)
  (MqI.own _ (by omega))
  (fun _ _ _ _ _ hs _ _=>hs)
  ⟨_,0,_,rfl,K,rfl⟩
  ?a1 ?assign ?body ?done ?stop
 case assign=>
  intro l x W K hK
  unfold Ea
  gi_wp2
  exact hK
 case stop=>rintro D c pre W _ _ h _;exact h.elim
 case body=>
  rintro l pre x W ⟨v,n,vs,N,K,a⟩ G
  have i:=K
  have K:=K.round a
  have ar:=Lib.hid G
  clear G a
  gi_wp2_with fail
  refine K.rgli 5 5 (fun V h=>h.tl.ft) fun U K=>?_
  refine tL 0 (fun _ h=>h.r 0 rfl) K.tl.ft ?_
  refine tK 1 K.tl.ft ?_
  refine tC 2 fun K' hK=>?_
  go_simp
  refine(zu x.2 _ _ K.xok).mono ?_
  rintro e w2 ⟨u,rfl,hv,t⟩
  have K:=(K.on t).kn (f:=kg u (.rm x.2)) ⟨u,rfl,hv⟩
  obtain⟨x1,rfl,-⟩:=hv
  refine hK.out _ _ K.tl.ft.ft fun _=>?_
  clear hK K' t
  try simp only[Act.put,an,ai,aj]
  refine tC 3 fun K' hK=>?_
  go_simp
  have K:=K.to (W':=w2.alloc (.cells #[.func (.func 145) #[] #[.pointer (some ⟨x1,0,none⟩)]] 144))
  refine hK.out _ _ K.tl.tl.ft.ft fun _=>?_
  clear hK K'
  try simp only[Act.put,an,ai,aj]
  refine tA 4 K 8 0 rfl (by have:=ar.out;have:=ab.out;have:=N.out;simp at this;omega) (fun v' U h=>h.tl.ft.ft) (fun v' U K=>?_)
  try simp only[Act.put,an]
  obtain⟨S',k,rfl,-⟩:=aK (K.row 0 rfl)
  have c0:=K.c 1 rfl
  refine tZ fun K' hK=>?_
  go_simp
  refine hK.out _ _ ?_
  clear hK K' c0
  try simp only[Act.put]
  have a:=(K.ra 1 rfl).append (.single (K.fa (f:=kg _ (.rm x.2)) 0 rfl))
  have K:=(K.kra a).to (W':=U.setCell ⟨w.heap.size+1,0,none⟩ (.slice S' (n+1) k))
  refine eK.normal ?_
  refine⟨i.others K,i.kpB K ((K.r 2 rfl 0).trans (i.r 2 rfl 0).symm),?_⟩
  have:=MqI.round i K (by have:=N.out;simp at this ⊢;exact this)
  dsimp only
  rw[List.map_append]
  exact this
 case done=>
  rintro D ys W hD rfl hI hK
  obtain⟨R,hR⟩:∃ R:List Stq,Hid (R=os.reverse.map Stq.rm):=⟨_,rfl⟩
  have hRl:=Lib.hid (show R.length≤64 from by rw[hR.out];simpa using br)
  have hI:MqI w X (w.heap.size+1) [.box (w.heap.size+2) 32 #[.slice O on y],.box w.heap.size 77 #[.slice B bn bc,.slice O on y,v2,v3,v4,v5,v6]] R W:=by
   rw[hR.out,←Fl,←ab.out]
   exact hI
  have ch:D<W.heap.size:=(Array.getElem?_eq_some_iff.1 hK).1
  obtain⟨v,n,vs,N,K,a⟩:=hI
  have f0:=K.r 3 rfl 0
  gi_wp2_with fail
  clear f0
  refine⟨trivial,?_⟩
  refine(callsIn_wide.2 (wK B bn bc _)).mono ?_
  rintro e w4 ⟨rfl,rfl⟩
  gi_wp2_with fail
  obtain⟨qs,bv,bz,cc⟩:=FX ps hnum HB.out
  have d:PV:=⟨1,by omega,0,0,none,0,0,none,0,0,0,0,none,0,0,0,0,0⟩
  have K1:=(K.kra a).to (W':=W.alloc (.cells #[.slice B bn bc] 75))
  have K1:=((K1.mv 1 rfl).mv 2 rfl).mv 1 rfl
  have bi:=K1.ra 0 rfl
  have K1:=K1.ft
  have cr:=K.out.size
  have b:=Lib.hid HB.out.len
  have bo:PAt qs B w.heap.size (W.alloc (.cells #[.slice B bn bc] 75)):=fun j q hq=>by
   obtain⟨ad,P,o,C⟩:=cc j q hq
   exact⟨ad,P,o,C.below K1.below (by rw[aF];exact o)⟩
  have HK:=Lib.hid hK
  clear hK a
  refine zc ?A0 ?main0
  case main0=>
  intro A hA
  refine wpIn_rangeFunc_ownH rfl (by omega) (gf:=146) (lb:=#[.pointer (some ⟨W.heap.size,0,none⟩)]) rfl trivial (enters_of Tryz.func146 (by kernel_rfl) rfl)
   (uQ Fence.wide 4 trivial rfl (by omega) W.heap.size w.heap.size B bn bc qs d (by have:=b.out;omega) (W.alloc (.cells #[.slice B bn bc] 75)) (by simp) (by rw[World.size_alloc];omega) (K1.r 2 rfl 0) (by have:=b.out;omega) bo) yx (yd (by rw[World.size_alloc];omega) (by simp)) (Below.refl _ _) (fun _=>rfl)
   (fun pre W'=>MqI w X (w.heap.size+1) [.box W.heap.size 75 #[.slice B bn bc],.box (w.heap.size+2) 32 #[.slice O on y],.box w.heap.size 77 #[.slice B bn bc,.slice O on y,v2,v3,v4,v5,v6]] (R++pre.flatMap (fun x=>ctS x.2)) W'∧W'.heap[D]?=some (.deferred (some [])))
   (fun _ _ _=>False)
   (OwnFrom.and (MqI.own _ (by rw[World.size_alloc];omega)) (tG (by rw[World.size_alloc];omega)))
   (fun _ _ _ _ _ hs _ _=>hs)
   ⟨⟨v,n,vs,Lib.hid (by have:=N.out;simpa using this),K1,by simpa using bi⟩,(Below.heap_alloc _ _ _ ch).trans HK.out⟩
   (fun x a' W' => ∃ z:Nat,a'=A z x∧Blk W' z 132 x.2.cells∧w.heap.size≤z)
   (fun x a' s A B row hs hg hr=>by obtain⟨z,e,h,h2⟩:=hs;exact⟨z,e,(grownBy_keeps_cells hg (fun r e=>(hr r e).2) h rfl).trans h,h2⟩)
   ?assign ?body ?done ?stop
  case assign=>
   intro l pre x W' K hI ce
   have HI:=Lib.hid hI
   obtain⟨⟨vi,ni,cm,cv,Ki,cw⟩,I⟩:=hI
   have ag:=Ki.out.size
   have bq:=Ki.out.lt 2 rfl
   unfold Ej PV.cells
   gi_wp2
   have ae:=Blk.new W' 132 x.2.cells
   have bj:KeepsFrom (W.alloc (.cells #[.slice B bn bc] 75)).heap.size W' (W'.alloc (.cells x.2.cells 132)):=(KeepsOthers.alloc _ _).from _
   have bm:KpB w.heap.size W.heap.size W' (W'.alloc (.cells x.2.cells 132)):=⟨(Below.refl _ _).alloc (by omega) _,World.cell?_alloc_lt _ _ _ bq⟩
   have be:=(MqI.own (X:=X) (w:=w) (g:=w.heap.size+1) (L:=[.box W.heap.size 75 #[.slice B bn bc],.box (w.heap.size+2) 32 #[.slice O on y],.box w.heap.size 77 #[.slice B bn bc,.slice O on y,v2,v3,v4,v5,v6]]) (fun pre:List (Nat×PV)=>R++pre.flatMap (fun x=>ctS x.2)) (Nat.le_refl _)).alloc (.cells x.2.cells 132) HI.out.1
   have bp:(W'.alloc (.cells x.2.cells 132)).heap[D]?=some (.deferred (some [])):=(Below.heap_alloc _ _ _ (Array.getElem?_eq_some_iff.1 I).1).trans I
   generalize W'.alloc (.cells x.2.cells 132)=W4 at ae bj bm be bp ⊢
   generalize cz:W'.heap.size=z at ae ⊢
   refine ce _ _ bj bm ⟨be,bp⟩ ⟨z,?_,ae,by omega⟩
   rw[hA]
  case stop=>rintro D c pre W _ _ h _;exact h.elim
  case body=>
   rintro l pre x a' W' hl cs ⟨⟨v,n,vs,N,K,a⟩,I⟩ ⟨z,rfl,hg,bt⟩ G
   have bb:=Lib.hid I
   clear I
   rw[hA]
   dsimp only
   have i:=K
   have K:=(K.round a).kn (f:=Dv z x.2.cells) ⟨hg.lt,K.notinX hg bt (by kernel_rfl),fun j=>hg.cell j⟩
   have d9:W'.cell? ⟨z,9,none⟩=some (.int .i64 (x.2.size:Int)):=hg.cell 9
   have ca:W'.cell? ⟨z,10,none⟩=some (.int .i64 (x.2.al:Int)):=hg.cell 10
   have ar:=Lib.hid G
   have M:=Lib.hid a
   clear G a hg
   by_cases Q:x.2.size<x.2.al
   ·have i1:(x.2.size:Int)<(x.2.al:Int):=by omega
    have ao:=Lib.hid Q
    clear Q
    gi_wp2_with fail
    clear d9 ca i1
    refine K.rgli 11 11 (fun V h=>h.tl) fun U K=>?_
    refine tL 0 (fun _ h=>h.r 0 rfl) K.tl ?_
    refine tK 1 K.tl ?_
    refine tK 2 K.tl ?_
    refine tL 3 (T:=fun V=>V.cell? ⟨z,0,none⟩=some (.int .i64 (x.2.num:Int))) (fun _ h=>(h.fa 0 rfl).2.2 0) K.tl ?_
    refine tK 5 K.tl ?_
    refine tK 6 K.tl ?_
    refine tL 7 (T:=fun V=>V.cell? ⟨z,9,none⟩=some (.int .i64 (x.2.size:Int))) (fun _ h=>(h.fa 0 rfl).2.2 9) K.tl ?_
    refine tC 4 fun K' hK=>?_
    go_simp
    refine(dS x.2.num x.2.hnum.1 x.2.hnum.2 _ (hp.on (i.after K).below)).mono ?_
    rintro e w2 ⟨rfl,t⟩
    have K:=K.on t
    refine hK.out _ _ K.tl fun _=>?_
    clear hK K' t
    try simp only[Act.put,an,ai,aj]
    refine tC 8 fun K' hK=>?_
    go_simp
    refine(Fv (az x.2.num) x.2.size _ _ K.xok).mono ?_
    rintro e w3 ⟨u,rfl,hv,t⟩
    have K:=(K.on t).kn (f:=kg u (.ct (az x.2.num) x.2.size)) ⟨u,rfl,hv⟩
    obtain⟨x1,x2,rfl,-⟩:=hv
    refine hK.out _ _ K.tl.ft fun _=>?_
    clear hK K' t
    try simp only[Act.put,an,ai,aj]
    refine tC 9 fun K' hK=>?_
    go_simp
    have K:=K.to (W':=w3.alloc (.cells #[.func (.func 147) #[] #[.pointer (some ⟨x1,0,none⟩),.pointer (some ⟨x2,0,none⟩)]] 144))
    refine hK.out _ _ K.tl.tl.ft fun _=>?_
    clear hK K'
    try simp only[Act.put,an,ai,aj]
    refine tA 10 K 8 0 rfl (by have h1:=N.out;have h2:=Ga pre;have h3:=ar.out;have h4:=hRl.out;have h5:=b.out;rw[List.length_append]at h1;omega) (fun v' U h=>h.tl.ft) (fun v' U K=>?_)
    try simp only[Act.put,an]
    obtain⟨S',k,rfl,-⟩:=aK (K.row 0 rfl)
    have c0:=K.c 1 rfl
    refine tZ fun K' hK=>?_
    go_simp
    refine hK.out _ _ ?_
    clear hK K' c0
    try simp only[Act.put]
    have a:=(K.ra 2 rfl).append (.single (K.fa (f:=kg _ (.ct (az x.2.num) x.2.size)) 0 rfl))
    have K:=(K.kra a).to (W':=U.setCell ⟨w.heap.size+1,0,none⟩ (.slice S' (n+1) k))
    refine eK.normal ?_
    refine⟨(i.others K).from _,i.kpB K ((K.r 2 rfl 0).trans (i.r 2 rfl 0).symm),?_,(i.others K).same _ _ bb.out rfl⟩
    have:=MqI.round i K (by have:=N.out;rw[List.length_append,←this];rfl)
    rw[List.flatMap_append,List.flatMap_singleton,←List.append_assoc,show ctS x.2 = [.ct (az x.2.num) x.2.size] from if_pos ao.out]
    exact this
   ·have i1:¬ (x.2.size:Int)<(x.2.al:Int):=by omega
    have ao:=Lib.hid Q
    clear Q
    gi_wp2_with fail
    refine⟨KeepsFrom.refl _ _,⟨Below.refl _ _,rfl⟩,?_,bb.out⟩
    rw[List.flatMap_append,List.flatMap_singleton,show ctS x.2 = [] from if_neg ao.out,List.append_nil]
    exact⟨v,n,vs,N,i,M.out⟩
  case done=>
   rintro D2 ys W2 cb rfl hI bd
   rw[World.size_alloc]at cb
   have bs:MqI w X (w.heap.size+1) [.box W.heap.size 75 #[.slice B bn bc],.box (w.heap.size+2) 32 #[.slice O on y],.box w.heap.size 77 #[.slice B bn bc,.slice O on y,v2,v3,v4,v5,v6]] (R++ps.reverse.flatMap ctP) W2:=by
    rw[←FD ps qs d bv bz,←b.out]
    exact hI.1
   have ah:=Lib.hid hI.2
   have J:=Lib.hid bd
   clear hI bd
   obtain⟨v,n,vs,N,K,a⟩:=bs
   obtain⟨S,c,rfl,-⟩:=aK (K.row 0 rfl)
   have f0:=K.r 4 rfl 0
   have f1:=K.r 1 rfl 0
   have M:=Lib.hid a
   clear a
   have am:D≠D2:=by omega
   have ap:w.heap.size≤D:=by omega
   have H:w.heap.size≤D2:=by omega
   cases hps:ps.getLast? with
   | none=>
     obtain rfl:bn=0:=by
      have:=b.out
      rw[List.getLast?_eq_none_iff.1 hps]at this
      exact this
     obtain⟨P,o,C⟩:=vN K M.out ap H am ah.out J.out
     gi_wp2_with fail
     refine⟨by simp,.inl ⟨_,_,rfl,run_takeDeferred J.out,?_⟩⟩
     refine⟨by simp,.inl ⟨_,_,rfl,run_takeDeferred P,?_⟩⟩
     refine⟨.slice S n c,?_,S,n,c,rfl,?_,C⟩
     ·simp[results,Tryz.results30,go_sem]
     ·rw[show dK ps os=R++ps.reverse.flatMap ctP from by unfold dK jC;rw[hps,hR.out,List.append_nil]]
      exact o
   | some p=>
     obtain⟨m,F⟩:∃ m,bn=m+1:=⟨bn-1,by
      have:=b.out
      cases hq:ps with
      | nil=>rw[hq]at hps;cases hps
      | cons _ _=>rw[hq,List.length_cons]at this;omega⟩
     have ba:ps[m]?=some p:=by
      rw[List.getLast?_eq_getElem?,←b.out,F]at hps
      simpa using hps
     obtain⟨ad,r,ci,o,C,⟨E,en,ec,An,nn,cn,rfl,-⟩,aw⟩:=HB.out.at' ba
     have cl:=(hnum p (List.mem_of_getElem? ba)).1
     have K:=K.k0 (f:=At.fact (ad.add (m*dP.size)) (ql p E en ec An nn cn)) ⟨by rw[aF];exact o,by rw[aF];exact C,aw⟩
     subst ci
     have co:=Lib.hid F
     have ck:bn≤64:=by have:=b.out;omega
     have i1:(0:Int)<(bn:Int):=by omega
     have i2:wrap64 ((bn:Int)-1)=(m:Int):=by unfold wrap64;omega
     have Z:IntKind.i64.wrap ((bn:Int)-1)=(m:Int):=(IntWalk.i64_in _ (by omega)).trans (by omega)
     have i3:m<bn:=by omega
     have i4:(0:Int)≤(m:Int):=by omega
     have i5:(m:Int)<(bn:Int):=by omega
     have d8:W2.cell? ⟨(ad.add (m*11)).block,(ad.add (m*11)).off+8,none⟩=some (.int .i64 p.st):=(K.fa 0 rfl).2.2 8 _ rfl
     have bk:=Lib.hid aw
     have cf:Hid (p.s.num=((p.s.num.toNat:Nat):Int)):=(Int.toNat_of_nonneg (by omega)).symm
     clear F ba aw
     by_cases h4:p.st=4
     ·rw[h4]at d8
      obtain⟨P,o,C⟩:=vN K.ft M.out ap H am ah.out J.out
      have bx:=Lib.hid h4
      clear h4
      gi_wp2_with fail
      refine⟨by simp,.inl ⟨_,_,rfl,run_takeDeferred J.out,?_⟩⟩
      refine⟨by simp,.inl ⟨_,_,rfl,run_takeDeferred P,?_⟩⟩
      refine⟨.slice S n c,?_,S,n,c,rfl,?_,C⟩
      ·simp[results,Tryz.results30,go_sem]
      ·rw[show dK ps os=R++ps.reverse.flatMap ctP from by unfold dK jC;rw[hps];simp only[bx.out,if_true];rw[hR.out,List.append_nil]]
       exact o
     ·gi_wp2_with fail
      clear f0 f1 d8
      refine wpIn_wide.2 ?_
      have Y:=Lib.hid (And.intro Z (And.intro i3 (And.intro i4 i5)))
      have cd:=Lib.hid h4
      clear h4 i1 i2 Z i3 i4 i5
      have i:=K.ft
      have K:=K.ft.round M.out
      have K:=K.k0 (f:=At.fact (ad.add (m*dP.size)) (ql p E en ec An nn cn)) ⟨by rw[aF];exact Nat.lt_of_lt_of_le o i.out.size,by
       rw[aF]
       intro F
       rcases List.mem_append.1 F with F | F
       ·rcases(i.old F).1 with F | F
        ·omega
        ·cases F
       ·exact C F,bk.out.below i.below (by rw[aF];exact o)⟩
      refine K.rgl 13 13 (fun V h=>h.tl) fun U K=>?_
      refine tL 0 (fun _ h=>h.r 0 rfl) K.tl ?_
      refine tK 1 K.tl ?_
      refine tL 2 (fun _ h=>h.r 3 rfl) K.tl ?_
      refine tK 3 K.tl ?_
      have Z:=Y.out.1
      refine tK 4 K.tl ?_
      clear Z
      have i3:=Y.out.2.1
      have i4:=Y.out.2.2.1
      have i5:=Y.out.2.2.2
      refine tK 5 K.tl ?_
      clear i3 i4 i5
      refine tK 6 K.tl ?_
      refine tK 7 K.tl ?_
      obtain⟨nu,bl⟩:∃ nu,p.s.num.toNat=nu:=⟨_,rfl⟩
      refine tL 8 (T:=fun V=>V.cell? (ad.add (m*11))=some (.int .i64 (nu:Int))) (fun _ h=>by rw[←bl,←cf.out];exact(h.fa 0 rfl).2.2 0 _ rfl) K.tl ?_
      refine tC 9 fun K' hK=>?_
      go_simp
      refine(dS nu (by omega) (by omega) _ (hp.on (i.after K).below)).mono ?_
      rintro e w2 ⟨rfl,t⟩
      have K:=K.on t
      refine hK.out _ _ K.tl fun _=>?_
      clear hK K' t
      try simp only[Act.put,an,ai,aj]
      refine tC 10 fun K' hK=>?_
      go_simp
      refine(Ai (az nu) _ _ K.xok).mono ?_
      rintro e w3 ⟨u,rfl,hv,t⟩
      have K:=(K.on t).kn (f:=kg u (.sy (az nu))) ⟨u,rfl,hv⟩
      obtain⟨x1,rfl,-⟩:=hv
      refine hK.out _ _ K.tl.ft fun _=>?_
      clear hK K' t
      try simp only[Act.put,an,ai,aj]
      refine tC 11 fun K' hK=>?_
      go_simp
      have K:=K.to (W':=w3.alloc (.cells #[.func (.func 148) #[] #[.pointer (some ⟨x1,0,none⟩)]] 144))
      refine hK.out _ _ K.tl.tl.ft fun _=>?_
      clear hK K'
      try simp only[Act.put,an,ai,aj]
      refine tA 12 K 8 0 rfl (by have h1:=N.out;have h2:=yq ps.reverse;have h4:=hRl.out;rw[List.length_append]at h1;rw[List.length_reverse]at h2;omega) (fun v' U h=>h.tl.ft) (fun v' U K=>?_)
      try simp only[Act.put,an]
      obtain⟨S',k,rfl,-⟩:=aK (K.row 0 rfl)
      have c0:=K.c 1 rfl
      refine tZ fun K' hK=>?_
      go_simp
      refine hK.out _ _ ?_
      clear hK K' c0
      try simp only[Act.put]
      have a:=(K.ra 2 rfl).append (.single (K.fa (f:=kg _ (.sy (az nu))) 0 rfl))
      have K:=(K.kra a).to (W':=U.setCell ⟨w.heap.size+1,0,none⟩ (.slice S' (n+1) k))
      have ko:=i.others K
      obtain⟨K9,ac⟩:=rP i K
      have k2:=ko.same _ _ J.out rfl
      obtain⟨P,o,C⟩:=vN K9 ac ap H am (ko.same _ _ ah.out rfl) k2
      have f1:=K9.r 1 rfl 0
      generalize U.setCell ⟨w.heap.size+1,0,none⟩ (.slice S' (n+1) k)=W5 at P o C f1 k2 ⊢
      clear K K9 ac a ko
      gi_wp2_with fail
      refine⟨by simp,.inl ⟨_,_,rfl,run_takeDeferred k2,?_⟩⟩
      refine⟨by simp,.inl ⟨_,_,rfl,run_takeDeferred P,?_⟩⟩
      refine⟨.slice S' (n+1) k,?_,S',n+1,k,rfl,?_,C⟩
      ·simp[results,Tryz.results30,go_sem]
      ·rw[show dK ps os=R++ps.reverse.flatMap ctP ++ [.sy (az nu)] from by unfold dK jC;rw[hps];simp only[cd.out,if_false,bl];rw[hR.out]]
       exact o
end
end Go.Proofs.YtpokkciheejeiaaGreatDoor
