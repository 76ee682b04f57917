/- Lemmas and contracts that the proof of TopSegments uses, part 8 of 14: each is a theorem for every input that its premises allow. -/
import Derived.IntWalk
import Derived.Lib.SlBytesConst
import Derived.StillTailTactics
import Derived.Deep.RegionHeld3
import Derived.Deep.DeepCutAuto
import Derived.Deep.LoopGhost
import Derived.Test.YtpokkciheejeiaaGreatDoorTsG
set_option linter.unusedVariables false
set_option linter.unusedSimpArgs false
set_option maxRecDepth 100000
namespace Go.Proofs.YtpokkciheejeiaaGreatDoor
section
open Go.RowKit
def pZ (Q:Exit→Act→World→Prop) (E:Act→World→Prop):Exit→Act→World→Prop
 | .normal,a,w=>E a w
 | e,a,w=>Q e a w
section
variable {P:Program} {md:Region.Mode} {ops:Array Oper} {Q:Exit→Act→World→Prop}
theorem uq {E K:Act→World→Prop} {i:Nat} {a:Act} {w:World} (h:wpOp P ops (pZ Q E) i K a w):wpOp P ops Q i K a w:=by
 unfold wpOp at *
 split
 ·rename_i hn;simpa [hn] using h
 ·rename_i o j
  simp only[j]at h
  split
  ·rename_i g
   simp only[g,if_true]at h
   refine h.imp (fun h=>?_) (fun h=>⟨h.1,h.2⟩)
   unfold Oper.wp at *
   generalize (execOp a.eval o).run P w=r at *
   cases r with
   | ok n w'=>
     cases n<;>simp only[Oper.upon]at h ⊢
     case value u=>exact h
     case skip=>exact h
     case defer d=>exact h
     case enter f args=>
      refine Calls.mono h fun e w'' b=>?_
      cases e with
      | returned u=>exact b
      | panicked c=>exact b
      | outgrown=>exact b
     case row row args=>exact h
   | halt x w'=>
     cases x<;>simp only[Oper.upon]at h ⊢
     case panic u=>exact h
  ·rename_i g
   simp only[g]at h
   exact h
def uA (md:Region.Mode) (ops:Array Oper):Bool:=(List.range ops.size).all fun j=>match ops[j]? with | some o=>o.after.all (fun e => !Region.binds md e || decide (e.on<j)) | none=>true
def mR (md:Region.Mode) (ops:Array Oper):Nat→Nat→Nat→Bool
 | 0,k,j=>match ops[k]? with | some o=>o.after.toList.any (fun e=>Region.binds md e&&decide (e.on=j)) | none=>false
 | d+1,k,j=>match ops[k]? with | some o=>o.after.toList.any (fun e=>Region.binds md e&&(decide (e.on=j) || mR md ops d e.on j)) | none=>false
def Ak (md:Region.Mode) (ops:Array Oper) (k:Nat):Bool:=decide (k<ops.size)&&(List.range ops.size).all fun j=>decide (j=k) || mR md ops 3 k j
def Cl (md:Region.Mode) (ops:Array Oper) (listed:Array Bool):Prop := ∀ (i:Nat) (o:Oper),ops[i]?=some o→listed.getD i false=true → ∀ e ∈ o.after,Region.binds md e=true→listed.getD e.on false=true
theorem mh {listed:Array Bool} (f:Cl md ops listed) (j:Nat):∀ (d k:Nat) (o:Oper),ops[k]?=some o→(∀ e ∈ o.after,Region.binds md e=true→listed.getD e.on false=true)→mR md ops d k j=true→listed.getD j false=true
 | 0,k,o,ho,h,hw=>by
   unfold mR at hw
   rw[ho]at hw
   simp only[List.any_eq_true,Bool.and_eq_true,decide_eq_true_eq,Array.mem_toList_iff]at hw
   obtain⟨e,b,c,rfl⟩:=hw
   exact h e b c
 | d+1,k,o,ho,h,hw=>by
   unfold mR at hw
   rw[ho]at hw
   simp only[List.any_eq_true,Bool.and_eq_true,Bool.or_eq_true,decide_eq_true_eq,Array.mem_toList_iff]at hw
   obtain⟨e,b,c,rfl | a⟩:=hw
   ·exact h e b c
   ·cases hm:ops[e.on]? with
    | none=>
      cases d<;>(unfold mR at a;rw[hm]at a;cases a)
    | some o'=>exact mh f j d e.on o' hm (f e.on o' hm (h e b c)) a
theorem oG (p:uA md ops=true) (listed:Array Bool):∀ j,j<ops.size→listed.getD j true=false → ∃ i,i ∈ Region.ready md ops listed:=by
 intro j
 induction j using Nat.strongRecOn with
 | ind j ih=>
   intro l d
   obtain⟨o,a⟩:∃ o,ops[j]?=some o:=⟨_,Array.getElem?_eq_getElem l⟩
   by_cases hall:∀ e ∈ o.after,Region.binds md e=true→listed.getD e.on false=true
   ·exact⟨j,mem_ready.2 ⟨d,o,a,hall⟩⟩
   ·have n:∃ e,e ∈ o.after∧Region.binds md e=true∧listed.getD e.on false=false:=by
     refine Classical.byContradiction fun k=>hall fun e c f=>?_
     cases g:listed.getD e.on false with
     | true=>rfl
     | false=>exact absurd ⟨e,c,f,g⟩ k
    obtain⟨e,c,f,g⟩:=n
    have h:=List.all_eq_true.1 p j (List.mem_range.2 l)
    rw[a]at h
    have m:=Array.all_eq_true_iff_forall_mem.1 h e c
    simp[f]at m
    by_cases b:e.on<listed.size
    ·exact ih e.on m (by omega) (by simpa [b] using g)
    ·have:listed.size≤e.on:=by omega
     have q:j<listed.size:=by
      refine Classical.byContradiction fun k=>?_
      rw[Array.getD_eq_getD_getElem?,Array.getElem?_eq_none (by omega)]at d
      cases d
     omega
theorem vq {k:Nat} (I:uA md ops=true) (r:Ak md ops k=true):
 ∀ (fuel:Nat) (listed:Array Bool) (a:Act) (w:World),listed.getD k true=false→Cl md ops listed→wpAny P md ops (pZ Q fun a w=>wpOp P ops Q k (fun a' w'=>Q .normal a' w') a w) fuel (listed.setIfInBounds k true) a w→wpAny P md ops Q (fuel+1) listed a w:=by
 unfold Ak at r
 rw[Bool.and_eq_true,decide_eq_true_eq]at r
 obtain⟨u,r⟩:=r
 have hall:∀ listed:Array Bool,Cl md ops listed→k ∈ Region.ready md ops listed→Region.ready md ops (listed.setIfInBounds k true) = []:=by
  intro listed b A
  refine List.eq_nil_iff_forall_not_mem.2 fun j y=>?_
  obtain⟨n,oj,C,_⟩:=mem_ready.1 y
  obtain⟨s,o,g,z⟩:=mem_ready.1 A
  have B:j<ops.size:=(Array.getElem?_eq_some_iff.1 C).1
  have q:k<listed.size:=by
   refine Classical.byContradiction fun L=>?_
   rw[Array.getD_eq_getD_getElem?,Array.getElem?_eq_none (by omega)]at s
   cases s
  by_cases l:j=k
  ·subst l
   simp[q]at n
  ·have G:=List.all_eq_true.1 r j (List.mem_range.2 B)
   simp only[l,decide_false,Bool.false_or]at G
   have p:=mh b j 3 k o g z G
   rw[getD_set_ne true (Ne.symm l)]at n
   by_cases J:j<listed.size
   ·simp[J]at n p
    rw[n]at p;cases p
   ·rw[Array.getD_eq_getD_getElem?,Array.getElem?_eq_none (by omega)]at p
    cases p
 have hstep:∀ (listed:Array Bool) (i:Nat),Cl md ops listed→i ∈ Region.ready md ops listed→Cl md ops (listed.setIfInBounds i true):=by
  intro listed i b A m K f F e v E
  obtain⟨s,o,g,z⟩:=mem_ready.1 A
  refine getD_set_true ?_
  by_cases t:m=i
  ·subst t
   rw[g]at f
   injection f with f
   subst f
   exact z e v E
  ·rw[getD_set_ne false (Ne.symm t)]at F
   exact b m K f F e v E
 intro fuel
 induction fuel with
 | zero=>
   intro listed a w x b H
   refine⟨fun h=>?_,fun i d=>?_⟩
   ·obtain⟨i,d⟩:=oG I listed k u x
    rw[h]at d;cases d
   ·by_cases c:i=k
    ·subst c
     exact wpOp_mono (fun a' w' D=>⟨hall listed b d,D⟩) H.2
    ·have:=ready_mono d c
     rw[H.1]at this
     cases this
 | succ fuel ih=>
   intro listed a w x b H
   refine⟨fun h=>?_,fun i d=>?_⟩
   ·obtain⟨i,d⟩:=oG I listed k u x
    rw[h]at d;cases d
   ·by_cases c:i=k
    ·subst c
     have v:=hall listed b d
     exact wpOp_mono (fun a' w' D=>⟨fun _=>D,fun j y=>by rw[v]at y;cases y⟩) (H.1 v)
    ·have n:=uq (H.2 i (ready_mono d c))
     refine wpOp_mono (fun a' w' s=>ih (listed.setIfInBounds i true) a' w' (by rw[getD_set_ne true c];exact x) (hstep listed i b d) ?_) n
     rw[Array.setIfInBounds_comm _ _ c]
     exact s
end
section
variable {w0 W W' w1:World} {M X:List Nat} {L:List Itm} {F:List Fact} {P:Program}
theorem HH.rgl {id:Nat} {ops:Array Oper} {Q:Exit→Act→World→Prop} {a:Act} (K:HH w0 M X W L F) (k n:Nat) {L2 L':List Itm} {F2:List Fact} [h:Adv W W' L L'] (hT:∀ V,HH w0 M X V L' F→HH w0 M X V L2 F2)
 (d:∀ U,HH w0 M X U L' F→wpAnyH P .any ops (NoPanic (pZ (NoPanic Q) fun a w=>wpOp P ops (NoPanic Q) k (fun a' w'=>NoPanic Q .normal a' w') a w)) (fun V=>HH w0 M X V L2 F2) n ((Array.replicate (n+1) false).setIfInBounds k true) a U) (hn:ops.size=n+1:=by rfl) (hm:P.follows .mixedOrders=true:=by kernel_rfl) (ho:uA .any ops=true:=by kernel_rfl) (hl:Ak .any ops k=true:=by kernel_rfl) (hkn:decide (k<n+1)=true:=by rfl):(Code.region id ops true).wp P Q a W':=by
 refine wp_region_noPanic (wp_region_any hm ?_)
 rw[hn]
 have b:=of_decide_eq_true hkn
 refine vq (k:=k) ho hl n _ a _ (by simp[b]) (fun i o _ h=>by rw[Array.getD_eq_getD_getElem?,Array.getElem?_replicate]at h;split at h<;>cases h) ?_
 have e:NoPanic (pZ (NoPanic Q) fun a w=>wpOp P ops (NoPanic Q) k (fun a' w'=>NoPanic Q .normal a' w') a w)=pZ (NoPanic Q) fun a w=>wpOp P ops (NoPanic Q) k (fun a' w'=>NoPanic Q .normal a' w') a w:=by
  funext e a w
  cases e<;>rfl
 have c:=d W'.drew (h.go K.out).drew
 rw[e]at c
 exact wpAny_of_held _ _ _ _ c
def FN (P:Program) (ty:TypeId) (i:Nat):Option Nat:=match P.underlying ty with
 | some (.struct fs)=>match fs[i]? with
   | some f=>match P.underlying f.type with
     | some (.struct _)=>none
     | some (.array _ _)=>none
     | some _=>some f.offset
     | none=>none
   | none=>none
 | _=>none
theorem pq {ty:TypeId} {i off:Nat} {cs:Array Value} {v:Value} (h:FN P ty i=some off) (c:cs[off]?=some v) (W:World):(Instr.field ty (.agg cs) i).run P W = .ok v W:=by
 unfold FN at h
 split at h
 ·rename_i fs b
  split at h
  ·rename_i f e
   have key:(isAgg f.type).run P W = .ok false W∧f.offset=off:=by
    unfold isAgg
    split at h
    ·cases h
    ·cases h
    ·rename_i d j g a
     injection h with h
     refine⟨?_,h⟩
     rw[Sem.run_bind,run_underlying a W]
     cases d<;>simp_all
    ·cases h
   simp only[Instr.field,Sem.run_bind,run_underlying b W,Result.andThen_ok,e,asAgg,Sem.run_pure,part,key.1,key.2,c]
   simp
  ·cases h
 ·cases h
theorem HH.mv (K:HH w0 M X W L F) (i:Nat) {x:Itm} (a:L[i]?=some x) {L':List Itm} (hL:x::L.eraseIdx i=L':=by(first | (simp only[List.eraseIdx_cons_succ,List.eraseIdx_cons_zero];done) | (simp only[List.eraseIdx_cons_succ,List.eraseIdx_cons_zero];exact rfl))):HH w0 M X W L' F:=by
 subst hL
 obtain⟨h,rfl⟩:=List.getElem?_eq_some_iff.1 a
 refine K.out.perm ?_
 clear K a
 induction L generalizing i with
 | nil=>cases h
 | cons y l ih=>
   cases i with
   | zero=>exact List.Perm.refl _
   | succ i=>
     have h':i<l.length:=by simpa using h
     exact((ih i h').cons y).trans (List.Perm.swap _ _ _)
theorem HH.up (K:HH w0 M X W L F) (i:Nat) {f:Fact} (a:F[i]?=some f):HH w0 M X W L (f::F):=K.kn (K.fa i a)
theorem tZ {md:Region.Mode} {ops:Array Oper} {Q:Exit→Act→World→Prop} {S:World→Prop} {k fuel:Nat} {listed:Array Bool} {a:Act} {w:World} {o:Oper} (h:∀ K':Act→World→Prop,Shut (∀ a w,Q .normal a w→K' a w)→Oper.wp P o a w K' (NoPanic Q)) (b:Region.ready md ops listed = []:=by kernel_rfl) (ho:ops[k]?=some o:=by exact rfl) (hw:Region.wanted o (yielded ops a.tmps)=true:=by rfl):
 wpAnyH P md ops (NoPanic (pZ (NoPanic Q) fun a w=>wpOp P ops (NoPanic Q) k (fun a' w'=>NoPanic Q .normal a' w') a w)) S fuel listed a w:=by
 refine wpAnyH_done b ?_ _
 show wpOp P ops (NoPanic Q) k (fun a' w'=>NoPanic Q .normal a' w') a w
 unfold wpOp
 simp only[ho,hw,if_true]
 exact .inl (h _ fun a' w' c=>c)
end
theorem DM {α β γ δ ε ζ η:Type} {G:α→β→γ→δ→ε→ζ→η→Prop} {T:Prop} (c:Hid (∀ x y z u v a b,G x y z u v a b)→T) (key:∀ x y z u v a b,G x y z u v a b):T:=c key
end
section
open Go.RowKit
theorem AP (A:Option Addr) (n c:Nat) (w:World) (hn:n≤c) (a:c≤9223372036854775807):Calls Tryz.prog 191 #[.slice A n c] w fun e w'=>e = .returned (.slice A n n)∧w=w':=by
 go_enter Tryz.func191,Tryz.ntmps191
 go_wp2
 go_ret
 exact⟨rfl,rfl⟩
theorem fI {A:Option Addr} {n c:Nat} {l:List UInt8} {X:List Nat} {w:World} (hX:XOk X w) (f:Sl au w X A n c l) (z:Int) (g:0≤z) (i:z<18446744073709551616) (hn:n≤900000):
 Calls Tryz.prog 180 #[.slice A n c,.int .u64 z] w fun e w' => ∃ A' c',e = .returned (.slice A' (n+(ay z.toNat).length) c')∧Sl au w' X A' (n+(ay z.toNat).length) c' (l++ay z.toNat)∧Below w.heap.size w w':=by
 have b:((z.toNat:Nat):Int)=z:=Int.toNat_of_nonneg g
 have h:=qF A n c w.heap.size l z.toNat (by omega) w f.bytes (Nat.le_refl _) hn
 rw[b]at h
 refine h.mono ?_
 rintro e w' ⟨v,rfl,hown,a⟩
 obtain⟨A',c',rfl,d⟩:=Sl.of_made (s:=au) hown hX (dO _) (Nat.zero_lt_one)
 exact⟨A',c',rfl,d,a⟩
theorem kG {A:Option Addr} {n c:Nat} {l:List UInt8} {X:List Nat} {w:World} (hX:XOk X w) (d:Sl au w X A n c l) (s:ByteArray) (f:s.size≤400000) (hn:n≤400000):
 Calls Tryz.prog 194 #[.slice A n c,.string s] w fun e w' => ∃ A' c',e = .returned (.slice A' (n+(cx s.data.toList).length) c')∧Sl au w' X A' (n+(cx s.data.toList).length) c' (l++cx s.data.toList)∧Below w.heap.size w w':=by
 have h:=xS A n c w.heap.size l s.data.toList w d.bytes (Nat.le_refl _) hn (by rw[Array.length_toList];exact f)
 rw[show(⟨s.data.toList.toArray⟩:ByteArray)=s from rfl]at h
 refine h.mono ?_
 rintro e w' ⟨v,rfl,hown,a⟩
 obtain⟨A',c',rfl,b⟩:=Sl.of_made (s:=au) hown hX (dO _) (Nat.zero_lt_one)
 exact⟨A',c',rfl,b,a⟩
theorem qd (a:ByteArray) (h:a.size≤24):(cx a.data.toList).length≤34:=by
 have e:a.data.toList.length=a.size:=Array.length_toList
 unfold cx
 rw[List.length_append,e]
 have:=bB a.size (by omega)
 omega
def oh (c:Cx) (e0:Evt) (cells:Array Value) (X:List Nat) (w:World) (e:Ending) (w':World):Prop:=
 Below w.heap.size w w'∧((ei c e0≠0∧e = .returned (.tuple #[.slice none 0 0,.agg cells,.int .i64 (ei c e0)])) ∨
  (ei c e0=0 ∧ ∃ A n cp A2 n2 c2,e = .returned (.tuple #[.slice A n cp,.agg #[.int .i64 e0.q,.int .i64 e0.a,.slice A2 n2 c2],.int .i64 0])∧Sl au w' X A n cp (aN c e0)∧Sl af w' X A2 n2 c2 (bR c e0).ns))
theorem CG (x y z:Int) (j:Nat) (a:j<3):(#[Value.int .i64 x,.int .i64 y,.int .i64 z])[j]?=some (.int .i64 ([x,y,z].getD j 0)):=by
 rcases(by omega:j=0∨j=1∨j=2) with rfl | rfl | rfl<;>rfl
theorem sw (x y z:Int) (m j:Nat) (a:j<m) (b:m≤3):(([x,y,z].take m).take (j+1)).flatMap (fun n=>ay n.toNat)=(([x,y,z].take m).take j).flatMap (fun n=>ay n.toNat)++ay ([x,y,z].getD j 0).toNat:=by
 rcases(by omega:(j=0∧m=1)∨(j=0∧m=2)∨(j=0∧m=3)∨(j=1∧m=2)∨(j=1∧m=3)∨(j=2∧m=3)) with⟨rfl,rfl⟩ | ⟨rfl,rfl⟩ | ⟨rfl,rfl⟩ | ⟨rfl,rfl⟩ | ⟨rfl,rfl⟩ | ⟨rfl,rfl⟩<;>simp
theorem HH.rcM {P:Program} {f W:World} {M X:List Nat} {L:List Itm} {F:List Fact} {fn:Func} {R:Ending→World→Prop} {a:Act} {g:Nat} {p q r:Tmp} {t ty:TypeId} {cs:Array Value} (K:HH f M X W L F) (i:Nat) (e:L[i]?=some (.box g t cs)) (c:fn.results=#[.tmp r,.cell p ty,.tmp q]) (hR:R (.returned (.tuple #[a.tmps.getD r undef,.agg cs,a.tmps.getD q undef])) W)
 (d:a.tmps.getD p undef = .pointer (some ⟨g,0,none⟩):=by rfl) (hT:nk P ty cs.size=true:=by kernel_rfl) (hd:a.defers = []:=by rfl):bodyPost P fn R .ret a W:=by
 have b:a.tmps[p]?.getD undef = .pointer (some ⟨g,0,none⟩):=by simpa using d
 exact⟨hd,.tuple #[a.tmps.getD r undef,.agg cs,a.tmps.getD q undef],by simp[results,c,b,asAddr,fS K i e hT],hR⟩
theorem eX {A:Option Addr} {n c:Nat} {l:List UInt8} {X:List Nat} {w:World} (hX:XOk X w) (d:Sl au w X A n c l) (z:Int) (f:0≤z) (b:z<18446744073709551616) (hn:n≤900000):
 Calls Tryz.prog 180 #[.slice A n c,.int .u64 z] w fun e w' => ∃ A' n' c',e = .returned (.slice A' n' c')∧Sl au w' X A' n' c' (l++ay z.toNat)∧Below w.heap.size w w':=(fI hX d z f b hn).mono (by rintro e w' ⟨A',c',rfl,h,a⟩;exact⟨A',_,c',rfl,h,a⟩)
theorem xL {A:Option Addr} {n c:Nat} {l:List UInt8} {X:List Nat} {w:World} (hX:XOk X w) (a:Sl au w X A n c l) (s:ByteArray) (d:s.size≤400000) (hn:n≤400000):
 Calls Tryz.prog 194 #[.slice A n c,.string s] w fun e w' => ∃ A' n' c',e = .returned (.slice A' n' c')∧Sl au w' X A' n' c' (l++cx s.data.toList)∧Below w.heap.size w w':=(kG hX a s d hn).mono (by rintro e w' ⟨A',c',rfl,h,b⟩;exact⟨A',_,c',rfl,h,b⟩)
theorem FU {α β:Type} {G:α→β→Prop} {T:Prop} (a:Hid (∀ x y,G x y)→T) (key:∀ x y,G x y):T:=a key
set_option maxHeartbeats 8000000 in
theorem rZ (q a:Int) (ns:List (List UInt8)) (H:Option Addr) (nn L:Nat) (f:Evt) (X:List Nat) (w:World) (hX:XOk X w) (M:Sl af w X H nn L ns) (bj:nn≤1000) (Q:f.cm.size≤maxLen):
 Calls Tryz.prog 127 #[.agg #[.int .i64 q,.int .i64 a,.slice H nn L],.agg (evA f)] w (oh ⟨q,a,ns⟩ f #[.int .i64 q,.int .i64 a,.slice H nn L] X w):=by
 have bt:=Lib.hid M.len
 have ae:=Lib.hid M.le
 have hmax:=M.max
 unfold maxLen at hmax
 have o:Hid (ei ⟨q,a,ns⟩ f=if aJ ⟨q,a,ns⟩=false then 1 else if bX f≠0 then bX f else if f.q≤q then 1 else if f.a<a then 5 else if placeOf ns f.cm.data.toList=0∧ns.length=32 then 9 else 0):=rfl
 have N:Hid (aN ⟨q,a,ns⟩ f=ay f.k.toNat++ay (f.q-q).toNat++ay (f.a-a).toNat++ay (placeOf ns f.cm.data.toList)++(if placeOf ns f.cm.data.toList=0 then cx f.cm.data.toList else [])++(([f.x,f.y,f.z].take (cu f.k)).flatMap (fun n=>ay n.toNat))):=rfl
 have D:Hid ((bR ⟨q,a,ns⟩ f).ns=if placeOf ns f.cm.data.toList=0 then ns ++ [f.cm.data.toList] else ns):=rfl
 have ab:=Lib.hid (@cK f)
 have ar:=Lib.hid (@dB f)
 have HC:=fun W=>Lib.hid (dJ f Q W)
 have am:=fun W=>Lib.hid (yW f W)
 unfold oh
 generalize ei ⟨q,a,ns⟩ f=er at o ⊢
 generalize aN ⟨q,a,ns⟩ f=be at N ⊢
 generalize (bR ⟨q,a,ns⟩ f).ns=nx at D ⊢
 have ao:=Lib.hid (show aJ ⟨q,a,ns⟩=true→(0≤q∧q≤4294967296∧0≤a∧a≤1099511627776)∧dn ns=true from fun h=>by
  unfold aJ at h
  simp only[Bool.and_eq_true,decide_eq_true_iff]at h
  exact⟨⟨h.1.1.1.1,h.1.1.1.2,h.1.1.2,h.1.2⟩,h.2⟩)
 have HR:=fun(A:Option Addr) (n c:Nat) (X:List Nat) (W:World) (h:Sl af W X A n c ns) (hn:n≤1000)=>Lib.hid (jT q a ns A n c X W h hn)
 generalize aJ ⟨q,a,ns⟩=rc at o HR ao
 generalize bX f=ck at o ab HC
 obtain⟨eq,ea,ek,cm,ex,u,B⟩:=f
 simp only at o N D ab ar HC am Q ⊢
 go_enter Tryz.func127,Tryz.ntmps127
 go_upto_region 1 with(fail)
 refine(hstart hX).cw fun W K=>?_
 have K:=K.ksl0 M
 clear M
 go_wp2_with (first | refine K.ld 2 rfl ?_)
 refine((HR H nn L _ _ (K.sl 0 rfl) bj).out).mono ?_
 rintro e w1 ⟨rfl,d⟩
 have K:=K.on d
 clear d HR
 cases rc
 ·rw[if_pos rfl]at o
  go_upto_region 2 with(fail)
  refine K.rgt (fun V h=>h.tl) fun W K=>?_
  refine tL 0 (fun _ h=>h.at_ 1 rfl) K.tl ?_ (hy:=fun w I=>aD I)
  refine tK 1 K.tl ?_
  refine tSt 2 K 0 rfl (fun U h=>h.tl) fun U K=>?_
  refine tK 3 K.tl ?_
  refine tE ?_
  go_wp2
  exact K.rcM 0 rfl rfl ⟨K.below,.inl ⟨by rw[o.out];decide,by rw[o.out];rfl⟩⟩
 rw[if_neg (by simp)]at o
 obtain⟨⟨co,ce,ct,cs⟩,bk⟩:=ao.out rfl
 have bq:=Lib.hid bk
 clear bk
 go_wp2_with (first | refine K.ld 1 rfl ?_)
 refine((HC _).out).mono ?_
 rintro e w2 ⟨rfl,d⟩
 have K:=K.on d
 clear d HC
 by_cases Z:ck=0
 case neg=>
  rw[if_pos Z]at o
  have i1:(ck != 0)=true:=by simp[Z]
  go_upto_region 5 with(fail)
  refine K.rgt (fun V h=>h.tl) fun W K=>?_
  refine tL 0 (fun _ h=>h.at_ 1 rfl) K.tl ?_ (hy:=fun w I=>aD I)
  refine tK 1 K.tl ?_
  refine tK 2 K.tl ?_
  refine tSt 3 K 0 rfl (fun U h=>h.tl) fun U K=>?_
  refine tK 4 K.tl ?_
  refine tE ?_
  go_wp2
  exact K.rcM 0 rfl rfl ⟨K.below,.inl ⟨by rw[o.out];exact Z,by rw[o.out];rfl⟩⟩
 subst Z
 rw[if_neg (by simp)]at o
 obtain⟨bs,bp,bi,bd,bz,cc,ca,bx⟩:=ab.out rfl
 obtain⟨⟨cf,cp⟩,⟨ch,ci⟩,⟨cr,cg⟩,-,-⟩:=ar.out ⟨bs,bp⟩ bd
 have bl:=Lib.hid bi
 clear bi bd ab ar ao
 have t:=K.r 2 rfl
 have c1:=K.r 1 rfl
 by_cases bm:eq≤q
 case pos=>
  rw[if_pos bm]at o
  go_upto_region 7 with(fail)
  clear c1 t
  refine K.rgt (fun V h=>h.tl) fun W K=>?_
  refine tL 0 (fun _ h=>h.at_ 1 rfl) K.tl ?_ (hy:=fun w I=>aD I)
  refine tK 1 K.tl ?_
  refine tSt 2 K 0 rfl (fun U h=>h.tl) fun U K=>?_
  refine tK 3 K.tl ?_
  refine tE ?_
  go_wp2
  exact K.rcM 0 rfl rfl ⟨K.below,.inl ⟨by rw[o.out];decide,by rw[o.out];rfl⟩⟩
 rw[if_neg bm]at o
 by_cases aw:ea<a
 case pos=>
  rw[if_pos aw]at o
  go_upto_region 9 with(fail)
  clear c1 t
  refine K.rgt (fun V h=>h.tl) fun W K=>?_
  refine tL 0 (fun _ h=>h.at_ 1 rfl) K.tl ?_ (hy:=fun w I=>aD I)
  refine tK 1 K.tl ?_
  refine tSt 2 K 0 rfl (fun U h=>h.tl) fun U K=>?_
  refine tK 3 K.tl ?_
  refine tE ?_
  go_wp2
  exact K.rcM 0 rfl rfl ⟨K.below,.inl ⟨by rw[o.out];decide,by rw[o.out];rfl⟩⟩
 rw[if_neg aw]at o
 go_upto_region 10 with(fail)
 clear c1 t
 refine FU (α:=Nat) (β:=World) (G:=?G) ?main ?key
 case main=>
  intro key
  refine K.rg fun W K=>?_
  refine tK 0 K ?_
  refine tL 1 (fun _ h=>h.r 1 rfl) K ?_
  refine tK 2 K ?_
  refine tL 3 (fun _ h=>h.r 1 rfl) K ?_
  refine tK 4 K ?_
  refine tL 5 (fun _ h=>h.r 2 rfl) K ?_
  refine tC2 6 8 (fun K' hK=>?_) (fun K' hK=>?_)
  ·go_simp
   refine(AP H nn L _ ae.out (by omega)).mono ?_
   rintro e w3 ⟨rfl,rfl⟩
   refine hK.out _ _ K fun _=>?_
   clear hK K'
   try simp only[Act.put,aq,aj,ai]
   refine tK 7 K ?_
   refine tC 8 fun K' hK=>?_
   go_simp
   have K:=K.to (W':=W.alloc (.cells #[.int .i64 0,.int .i64 0,.slice none 0 0] 34))
   refine hK.out _ _ K.tl fun _=>?_
   clear hK K'
   try simp only[Act.put,aq,aj,ai]
   refine tSt 9 K 0 rfl (fun U h=>h.tl) fun U K=>?_
   refine tE ?_
   generalize W.heap.size=p at K ⊢
   revert K
   exact key.out p U
  ·go_simp
   have K:=K.to (W':=W.alloc (.cells #[.int .i64 0,.int .i64 0,.slice none 0 0] 34))
   refine hK.out _ _ K.tl fun _=>?_
   clear hK K'
   try simp only[Act.put,aq,aj,ai]
   refine tC 6 fun K' hK=>?_
   go_simp
   refine(AP H nn L _ ae.out (by omega)).mono ?_
   rintro e w3 ⟨rfl,rfl⟩
   refine hK.out _ _ K.tl fun _=>?_
   clear hK K'
   try simp only[Act.put,aq,aj,ai]
   refine tK 7 K.tl ?_
   refine tSt 9 K 0 rfl (fun U h=>h.tl) fun U K=>?_
   refine tE ?_
   generalize W.heap.size=p at K ⊢
   revert K
   exact key.out p U
 case key=>
  intro p W K
  have ba:Hid (∀ pl,placeOf ns cm.data.toList=pl→eP ns cm.data.toList=if pl≠0 then 7 else if ns.length=32 then 9 else 0):=fun pl h=>by unfold eP;rw[bq.out,if_neg (by simp),←lR,bl.out,if_neg (by simp),h]
  have bn:=Lib.hid (oN ns)
  have bo:nn≤1000:=bj
  have C:=K.r 3 rfl
  have t:=K.r 2 rfl
  go_wp2_with fail
  refine(mI H nn L _ (ns.map eN) cm _ (K.sl 0 rfl).names.1 (Nat.le_refl _) (by omega) (K.sl 0 rfl).names.2 Q).mono ?_
  rw[bn.out]
  rintro e w4 ⟨rfl,d⟩
  have K:=K.on d
  clear d t C
  have ac:=lN ns cm.data.toList
  have P:=Lib.hid (ba.out _ rfl)
  generalize placeOf ns cm.data.toList=pl at o N D P ac ⊢
  have cb:pl≤1000:=by have:=bt.out;omega
  clear ba ac
  have wk:IntKind.u64.wrap ek=ek:=IntWalk.u64_in _ (by omega)
  have wq:IntKind.i64.wrap (eq-q)=eq-q:=IntWalk.i64_in _ (by omega)
  have wa:IntKind.i64.wrap (ea-a)=ea-a:=IntWalk.i64_in _ (by omega)
  have bh:IntKind.u64.wrap (eq-q)=eq-q:=IntWalk.u64_in _ (by omega)
  have bb:IntKind.u64.wrap (ea-a)=ea-a:=IntWalk.u64_in _ (by omega)
  have wp:IntKind.u64.wrap (pl:Int)=(pl:Int):=IntWalk.u64_in _ (by omega)
  have lk:=bB ek.toNat (by omega)
  have lq:=bB (eq-q).toNat (by omega)
  have la:=bB (ea-a).toNat (by omega)
  have lp:=bB ((pl:Int)).toNat (by omega)
  by_cases hp:pl=0
  ·subst hp
   rw[if_pos rfl]at D
   have al:cm.size≤24:=by have h:=bl.out;unfold dN at h;simp only[Bool.and_eq_true,decide_eq_true_iff]at h;exact h.2
   have lt:=qd cm al
   have cd:(ay (0:Int).toNat).length≤10:=bB _ (by decide)
   have C:=K.r 3 rfl
   have t:=K.r 2 rfl
   go_wp2_with fail
   refine(Fp H nn L _ (ns.map eN) cm _ (K.sl 0 rfl).names.1 (Nat.le_refl _) (by omega) (K.sl 0 rfl).names.2 Q).mono ?_
   unfold wH
   rw[bn.out,P.out,if_neg (by simp)]
   by_cases J:ns.length=32
   ·rw[if_pos J]
    have o:Hid (er=9):=Lib.hid (by rw[o.out];simp[J])
    rintro e w5 ⟨S | S,d⟩
    rotate_left
    ·exact absurd S.1 (by decide)
    obtain⟨-,rfl⟩:=S
    have K:=(K.on d).mv 1 rfl
    clear d t C J
    go_upto_region 15 with(fail)
    refine K.rgt (fun V h=>h.tl) fun W K=>?_
    refine tL 0 (fun _ h=>h.at_ 2 rfl) K.tl ?_ (hy:=fun w I=>aD I)
    refine tK 1 K.tl ?_
    refine tK 2 K.tl ?_
    refine tSt 3 K 0 rfl (fun U h=>h.tl) fun U K=>?_
    refine tK 4 K.tl ?_
    refine tE ?_
    go_wp2
    exact K.rcM 0 rfl rfl ⟨K.below,.inl ⟨by rw[o.out];decide,by rw[o.out];rfl⟩⟩
   rw[if_neg J]
   have o:Hid (er=0):=Lib.hid (by rw[o.out];simp[J])
   clear J
   rintro e w5 ⟨S | S,d⟩
   ·exact absurd rfl S.1
   obtain⟨-,v,rfl,hown⟩:=S
   have bc:∀ W X,aF af W X ((ns.map eN ++ [cm]).map Value.string) (ns ++ [cm.data.toList]):=fun W X=>by
    have S:=qV (w:=W) (X:=X) (ns ++ [cm.data.toList]) (fun s M=>by
     rcases List.mem_append.1 M with M | M
     ·have h2:=(K.sl 0 rfl).names.2 (eN s) (List.mem_map_of_mem M);simpa [eN,ByteArray.size] using h2
     ·rw[List.mem_singleton]at M;subst M;rw[Array.length_toList];exact Q)
    rw[List.map_append]at S;exact S
   obtain⟨A5,c5,rfl,b⟩:=Sl.of_made (s:=af) hown K.xok (bc _ _) Nat.zero_lt_one
   have K:=(K.on d).ksl b
   clear hown bc d b t C
   have c0:=K.c 0 rfl
   go_upto_region 17 with(fail)
   refine K.cw fun W K=>?_
   clear c0
   have C:=K.r 3 rfl
   have t:=K.r 2 rfl
   go_wp2_with fail
   with_reducible refine(eX (A:=none) (n:=0) (c:=0) (l:=([]:List UInt8)) K.xok Sl.nil_ ek (by omega) (by omega) (by omega)).mono ?_
   rintro e w6 ⟨A6,T,c6,rfl,b,d⟩
   have K:=(K.on d).ksl b
   clear d b t C
   have C:=K.r 3 rfl
   have t:=K.r 2 rfl
   go_wp2_with fail
   with_reducible refine(eX K.xok (K.sl 0 rfl) (eq-q) (by omega) (by omega) (by have:=(K.sl 0 rfl).len;simp only[List.length_append,List.length_nil]at this;omega)).mono ?_
   rintro e w6 ⟨A6,T,c6,rfl,b,d⟩
   have K:=(K.on d).ft.ksl b
   clear d b t C
   have C:=K.r 3 rfl
   have t:=K.r 2 rfl
   go_wp2_with fail
   with_reducible refine(eX K.xok (K.sl 0 rfl) (ea-a) (by omega) (by omega) (by have:=(K.sl 0 rfl).len;simp only[List.length_append,List.length_nil]at this;omega)).mono ?_
   rintro e w6 ⟨A6,T,c6,rfl,b,d⟩
   have K:=(K.on d).ft.ksl b
   clear d b t C
   have C:=K.r 3 rfl
   have t:=K.r 2 rfl
   go_wp2_with fail
   with_reducible refine(eX K.xok (K.sl 0 rfl) (0:Int) (by omega) (by omega) (by have:=(K.sl 0 rfl).len;simp only[List.length_append,List.length_nil]at this;omega)).mono ?_
   rintro e w6 ⟨A6,T,c6,rfl,b,d⟩
   have K:=(K.on d).ft.ksl b
   clear d b t C
   have t:=K.r 2 rfl
   go_wp2_with fail
   with_reducible refine(xL K.xok (K.sl 0 rfl) cm (by omega) (by have:=(K.sl 0 rfl).len;simp only[List.length_append,List.length_nil]at this;omega)).mono ?_
   rintro e w6 ⟨A6,T,c6,rfl,b,d⟩
   have K:=(K.on d).ft.ksl b
   clear d b t
   have F:=Lib.hid (show be=([]:List UInt8)++ay ek.toNat++ay (eq-q).toNat++ay (ea-a).toNat++ay (0:Int).toNat++cx cm.data.toList++(([ex,u,B].take (cu ek)).flatMap (fun n=>ay n.toNat)) from by rw[N.out];simp)
   go_wp2_with (first | refine K.ld 2 rfl ?_)
   refine((am _).out).mono ?_
   rintro e w7 ⟨gn,rfl,R,E,d⟩
   have br:T≤80:=by have:=(K.sl 0 rfl).len;simp only[List.length_append,List.length_nil]at this;omega
   generalize ([]:List UInt8)++ay ek.toNat++ay (eq-q).toNat++ay (ea-a).toNat++ay (0:Int).toNat++cx cm.data.toList=pre at K F
   have K:=(K.out.add d (.box gn 2 #[.int .i64 ex,.int .i64 u,.int .i64 B]) E (fun g e=>by injection e with e;subst e;exact⟨R,E.lt⟩)).hh
   clear d E R
   have O:=iX ek
   generalize cu ek=m at F O ⊢
   have ad:=Lib.hid (sw ex u B m)
   clear wk wq wa bh bb wp lk lq la lp
   go_wp2
   go_loopw [12,99] (fun l0 i wr => ∃ (j:Nat) (Y:Option Addr) (nl cl:Nat),l0 = .slice Y nl cl∧j≤m∧i = .int .i64 j∧nl≤80+10*j∧HH w [] X wr [.box gn 2 #[.int .i64 ex,.int .i64 u,.int .i64 B],.box p 34 #[.int .i64 eq,.int .i64 ea,.slice A5 (nn+1) c5],.box (w.heap.size+2) 34 #[.int .i64 0,.int .i64 0,.slice none 0 0],.box (w.heap.size+1) 44 #[.int .i64 eq,.int .i64 ea,.int .i64 ek,.string cm,.int .i64 ex,.int .i64 u,.int .i64 B],.box w.heap.size 34 #[.int .i64 q,.int .i64 a,.slice H nn L]] [Sl.fact au Y nl cl (pre++(([ex,u,B].take m).take j).flatMap (fun n=>ay n.toNat)),Sl.fact af A5 (nn+1) c5 (ns ++ [cm.data.toList]),Sl.fact af H nn L ns]) (fun _ i _=>m-(intOf i).toNat)
   case atStart=>exact⟨0,_,_,_,rfl,Nat.zero_le _,rfl,by omega,by simpa using K⟩
   case round=>
    obtain⟨j,Y,nl,cl,rfl,hj,rfl,bv,K⟩:=hrel
    by_cases ag:j<m
    ·have HZ:=Lib.hid (CG ex u B j (by omega))
     have HT:=Lib.hid (ad.out j ag O)
     have hz:0 ≤ [ex,u,B].getD j 0 ∧ [ex,u,B].getD j 0≤2147483647:=by rcases(by omega:j=0∨j=1∨j=2) with rfl | rfl | rfl<;>(simp;omega)
     generalize [ex,u,B].getD j 0=z at HZ HT hz
     have cz:wr.cell? ⟨gn,j,none⟩=some (.int .i64 z):=(K.r 0 rfl j).trans HZ.out
     have wz:IntKind.u64.wrap z=z:=IntWalk.u64_in _ (by omega)
     go_wp2_with fail
     with_reducible refine(fI K.xok (K.sl 0 rfl) z hz.1 (by omega) (by omega)).mono ?_
     rintro e w9 ⟨A9,c9,rfl,b,d⟩
     clear cz wz
     have h9:=bB z.toNat (by omega)
     rw[List.append_assoc,←HT.out]at b
     have K:=(K.on d).ft.ksl b
     clear d b
     go_wp2
     go_roundw
     case rel=>exact⟨j+1,A9,_,c9,rfl,by omega,by go_num,by omega,K⟩
     case measure=>simp[intOf];omega
    ·obtain rfl:m=j:=by omega
     have ap:=Lib.hid (show([ex,u,B].take m).take m = [ex,u,B].take m from by rw[List.take_take,Nat.min_self])
     rw[ap.out,←F.out]at K
     have K:=K.mv 2 rfl
     go_upto_region 28 with(fail)
     refine K.rgt (fun V h=>h.tl) fun W K=>?_
     refine tK 0 K.tl ?_
     refine tL 1 (fun _ h=>h.at_ 1 rfl) K.tl ?_ (hy:=fun w I=>aD I)
     refine tK 2 K.tl ?_
     refine tSt 3 K 0 rfl (fun U h=>h.tl) fun U K=>?_
     refine tK 4 K.tl ?_
     refine tE ?_
     go_wp2
     exact K.rcM 0 rfl rfl ⟨K.below,.inr ⟨by rw[o.out],Y,nl,cl,A5,(nn+1),c5,rfl,K.slb 0 rfl,by rw[D.out];exact K.slb 1 rfl⟩⟩
  ·have p1:((pl:Int) == 0)=false:=by rw[beq_eq_false_iff_ne];omega
   rw[if_neg hp]at D
   rw[if_neg (fun h=>hp h.1)]at o
   clear P
   have C:=K.r 3 rfl
   have t:=K.r 2 rfl
   go_wp2_with fail
   with_reducible refine(eX (A:=none) (n:=0) (c:=0) (l:=([]:List UInt8)) K.xok Sl.nil_ ek (by omega) (by omega) (by omega)).mono ?_
   rintro e w6 ⟨A6,T,c6,rfl,b,d⟩
   have K:=(K.on d).ksl b
   clear d b t C
   have C:=K.r 3 rfl
   have t:=K.r 2 rfl
   go_wp2_with fail
   with_reducible refine(eX K.xok (K.sl 0 rfl) (eq-q) (by omega) (by omega) (by have:=(K.sl 0 rfl).len;simp only[List.length_append,List.length_nil]at this;omega)).mono ?_
   rintro e w6 ⟨A6,T,c6,rfl,b,d⟩
   have K:=(K.on d).ft.ksl b
   clear d b t C
   have C:=K.r 3 rfl
   have t:=K.r 2 rfl
   go_wp2_with fail
   with_reducible refine(eX K.xok (K.sl 0 rfl) (ea-a) (by omega) (by omega) (by have:=(K.sl 0 rfl).len;simp only[List.length_append,List.length_nil]at this;omega)).mono ?_
   rintro e w6 ⟨A6,T,c6,rfl,b,d⟩
   have K:=(K.on d).ft.ksl b
   clear d b t C
   have C:=K.r 3 rfl
   have t:=K.r 2 rfl
   go_wp2_with fail
   with_reducible refine(eX K.xok (K.sl 0 rfl) (pl:Int) (by omega) (by omega) (by have:=(K.sl 0 rfl).len;simp only[List.length_append,List.length_nil]at this;omega)).mono ?_
   rintro e w6 ⟨A6,T,c6,rfl,b,d⟩
   have K:=(K.on d).ft.ksl b
   clear d b t C
   have F:=Lib.hid (show be=([]:List UInt8)++ay ek.toNat++ay (eq-q).toNat++ay (ea-a).toNat++ay (pl:Int).toNat++(([ex,u,B].take (cu ek)).flatMap (fun n=>ay n.toNat)) from by rw[N.out];simp[hp])
   go_wp2_with (first | refine K.ld 2 rfl ?_)
   refine((am _).out).mono ?_
   rintro e w7 ⟨gn,rfl,R,E,d⟩
   have br:T≤80:=by have:=(K.sl 0 rfl).len;simp only[List.length_append,List.length_nil]at this;omega
   generalize ([]:List UInt8)++ay ek.toNat++ay (eq-q).toNat++ay (ea-a).toNat++ay (pl:Int).toNat=pre at K F
   have K:=(K.out.add d (.box gn 2 #[.int .i64 ex,.int .i64 u,.int .i64 B]) E (fun g e=>by injection e with e;subst e;exact⟨R,E.lt⟩)).hh
   clear d E R
   have O:=iX ek
   generalize cu ek=m at F O ⊢
   have ad:=Lib.hid (sw ex u B m)
   clear wk wq wa bh bb wp lk lq la lp
   go_wp2
   go_loopw [12,99] (fun l0 i wr => ∃ (j:Nat) (Y:Option Addr) (nl cl:Nat),l0 = .slice Y nl cl∧j≤m∧i = .int .i64 j∧nl≤80+10*j∧HH w [] X wr [.box gn 2 #[.int .i64 ex,.int .i64 u,.int .i64 B],.box p 34 #[.int .i64 eq,.int .i64 ea,.slice H nn nn],.box (w.heap.size+2) 34 #[.int .i64 0,.int .i64 0,.slice none 0 0],.box (w.heap.size+1) 44 #[.int .i64 eq,.int .i64 ea,.int .i64 ek,.string cm,.int .i64 ex,.int .i64 u,.int .i64 B],.box w.heap.size 34 #[.int .i64 q,.int .i64 a,.slice H nn L]] [Sl.fact au Y nl cl (pre++(([ex,u,B].take m).take j).flatMap (fun n=>ay n.toNat)),Sl.fact af H nn L ns]) (fun _ i _=>m-(intOf i).toNat)
   case atStart=>exact⟨0,_,_,_,rfl,Nat.zero_le _,rfl,by omega,by simpa using K⟩
   case round=>
    obtain⟨j,Y,nl,cl,rfl,hj,rfl,bv,K⟩:=hrel
    by_cases ag:j<m
    ·have HZ:=Lib.hid (CG ex u B j (by omega))
     have HT:=Lib.hid (ad.out j ag O)
     have hz:0 ≤ [ex,u,B].getD j 0 ∧ [ex,u,B].getD j 0≤2147483647:=by rcases(by omega:j=0∨j=1∨j=2) with rfl | rfl | rfl<;>(simp;omega)
     generalize [ex,u,B].getD j 0=z at HZ HT hz
     have cz:wr.cell? ⟨gn,j,none⟩=some (.int .i64 z):=(K.r 0 rfl j).trans HZ.out
     have wz:IntKind.u64.wrap z=z:=IntWalk.u64_in _ (by omega)
     go_wp2_with fail
     with_reducible refine(fI K.xok (K.sl 0 rfl) z hz.1 (by omega) (by omega)).mono ?_
     rintro e w9 ⟨A9,c9,rfl,b,d⟩
     clear cz wz
     have h9:=bB z.toNat (by omega)
     rw[List.append_assoc,←HT.out]at b
     have K:=(K.on d).ft.ksl b
     clear d b
     go_wp2
     go_roundw
     case rel=>exact⟨j+1,A9,_,c9,rfl,by omega,by go_num,by omega,K⟩
     case measure=>simp[intOf];omega
    ·obtain rfl:m=j:=by omega
     have ap:=Lib.hid (show([ex,u,B].take m).take m = [ex,u,B].take m from by rw[List.take_take,Nat.min_self])
     rw[ap.out,←F.out]at K
     have K:=K.mv 2 rfl
     go_upto_region 28 with(fail)
     refine K.rgt (fun V h=>h.tl) fun W K=>?_
     refine tK 0 K.tl ?_
     refine tL 1 (fun _ h=>h.at_ 1 rfl) K.tl ?_ (hy:=fun w I=>aD I)
     refine tK 2 K.tl ?_
     refine tSt 3 K 0 rfl (fun U h=>h.tl) fun U K=>?_
     refine tK 4 K.tl ?_
     refine tE ?_
     go_wp2
     exact K.rcM 0 rfl rfl ⟨K.below,.inr ⟨by rw[o.out],Y,nl,cl,H,nn,nn,rfl,K.slb 0 rfl,by rw[D.out];exact(K.slb 1 rfl).cap (Nat.le_refl _) ae.out⟩⟩
end
section
open Go.RowKit
def eZ (n:Int):Bool:=decide (1≤n)&&decide (n≤99999999)
theorem lI (n:Int) (w:World):Calls Tryz.prog 53 #[.int .i64 n] w fun e w'=>e = .returned (.bool (eZ n))∧w=w':=by
 by_cases a:1≤n
 ·go_enter Tryz.func53,Tryz.ntmps53
  go_wp2
  go_ret
  exact⟨bF (by unfold eZ;rw[decide_eq_true a];simp),rfl⟩
 ·have b:n<1:=by omega
  go_enter Tryz.func53,Tryz.ntmps53
  go_wp2
  go_ret
  exact⟨bF (by unfold eZ;rw[decide_eq_false (by omega)];rfl),rfl⟩
def aU (n q a:Int):List UInt8:=ay n.toNat++ay q.toNat++ay a.toNat
theorem jG {n q a:Int} (d:n<18446744073709551616) (b:q<18446744073709551616) (c:a<18446744073709551616):(aU n q a).length≤30:=by
 unfold aU
 rw[List.length_append,List.length_append]
 have:=bB n.toNat (by omega)
 have:=bB q.toNat (by omega)
 have:=bB a.toNat (by omega)
 omega
set_option maxHeartbeats 2000000 in
theorem Co (A:Option Addr) (n c:Nat) (l:List UInt8) (num q a:Int) (v:Value) (X:List Nat) (w:World) (hX:XOk X w) (K:Sl au w X A n c l) (hn:n≤1000) (T:0≤num) (R:num≤9223372036854775807) (O:0≤q) (N:q≤4294967296) (Q:0≤a) (P:a≤1099511627776):
 Calls Tryz.prog 114 #[.slice A n c,.int .i64 num,.agg #[.int .i64 q,.int .i64 a,v]] w fun e w' => ∃ A' c',e = .returned (.slice A' (n+(aU num q a).length) c')∧Sl au w' X A' (n+(aU num q a).length) c' (l++aU num q a)∧Below w.heap.size w w':=by
 have wn:IntKind.u64.wrap num=num:=IntWalk.u64_in _ (by omega)
 have U:IntKind.u64.wrap q=q:=IntWalk.u64_in _ (by omega)
 have wa:IntKind.u64.wrap a=a:=IntWalk.u64_in _ (by omega)
 have L:=Lib.hid (show l++aU num q a=l++ay num.toNat++ay q.toNat++ay a.toNat from by unfold aU;simp)
 have I:=Lib.hid (show n+(aU num q a).length=n+(ay num.toNat).length+(ay q.toNat).length+(ay a.toNat).length from by unfold aU;simp;omega)
 have V:=bB num.toNat (by omega)
 have S:=bB q.toNat (by omega)
 generalize aU num q a=p at L I ⊢
 have o:Hid (an w [] X (w.alloc (.cells #[.int .i64 q,.int .i64 a,v] 34)) [.box (w.heap.size) 34 #[.int .i64 q,.int .i64 a,v]] [Sl.fact au A n c l]):=(((an.start w hX).alloc_at 34 #[.int .i64 q,.int .i64 a,v] (w.heap.size) (by simp)).know0 (Sl.fact au A n c l) K)
 clear K
 go_enter Tryz.func114,Tryz.ntmps114
 go_wp2_with fail
 with_reducible refine(fI o.out.xok' (o.out.sl 0 rfl) num (by omega) (by omega) (by omega)).mono ?_
 rintro e y ⟨B,C,rfl,b,t⟩
 have z:Hid (an w [] X y [.box (w.heap.size) 34 #[.int .i64 q,.int .i64 a,v]] [Sl.fact au B (n+(ay num.toNat).length) C (l++ay num.toNat),Sl.fact au A n c l]):=((o.out.on t).know (Sl.fact au B (n+(ay num.toNat).length) C (l++ay num.toNat)) b)
 clear o
 clear t
 clear b
 have d:Hid (an w [] X y [.box (w.heap.size) 34 #[.int .i64 q,.int .i64 a,v]] [Sl.fact au B (n+(ay num.toNat).length) C (l++ay num.toNat)]):=(z.out.forget (List.Sublist.cons_cons _ (List.Sublist.cons _ List.Sublist.slnil)))
 clear z
 have i:y.cell? ⟨w.heap.size,0,none⟩=some (.int .i64 q):=d.out.cell 0 rfl 0
 have j:y.cell? ⟨w.heap.size,1,none⟩=some (.int .i64 a):=d.out.cell 0 rfl 1
 have m:y.cell? ⟨w.heap.size,2,none⟩=some (v):=d.out.cell 0 rfl 2
 go_wp2_with fail
 with_reducible refine(fI d.out.xok' (d.out.sl 0 rfl) q (by omega) (by omega) (by omega)).mono ?_
 rintro e u ⟨E,D,rfl,b,t⟩
 clear i j m
 have x:Hid (an w [] X u [.box (w.heap.size) 34 #[.int .i64 q,.int .i64 a,v]] [Sl.fact au E (n+(ay num.toNat).length+(ay q.toNat).length) D (l++ay num.toNat++ay q.toNat),Sl.fact au B (n+(ay num.toNat).length) C (l++ay num.toNat)]):=((d.out.on t).know (Sl.fact au E (n+(ay num.toNat).length+(ay q.toNat).length) D (l++ay num.toNat++ay q.toNat)) b)
 clear d
 clear t
 clear b
 have f:Hid (an w [] X u [.box (w.heap.size) 34 #[.int .i64 q,.int .i64 a,v]] [Sl.fact au E (n+(ay num.toNat).length+(ay q.toNat).length) D (l++ay num.toNat++ay q.toNat)]):=(x.out.forget (List.Sublist.cons_cons _ (List.Sublist.cons _ List.Sublist.slnil)))
 clear x
 have k:u.cell? ⟨w.heap.size,0,none⟩=some (.int .i64 q):=f.out.cell 0 rfl 0
 have h:u.cell? ⟨w.heap.size,1,none⟩=some (.int .i64 a):=f.out.cell 0 rfl 1
 have g:u.cell? ⟨w.heap.size,2,none⟩=some (v):=f.out.cell 0 rfl 2
 go_wp2_with fail
 with_reducible refine(fI f.out.xok' (f.out.sl 0 rfl) a (by omega) (by omega) (by omega)).mono ?_
 rintro e J ⟨F,G,rfl,b,t⟩
 clear k h g
 have s:Hid (an w [] X J [.box (w.heap.size) 34 #[.int .i64 q,.int .i64 a,v]] [Sl.fact au F (n+(ay num.toNat).length+(ay q.toNat).length+(ay a.toNat).length) G (l++ay num.toNat++ay q.toNat++ay a.toNat),Sl.fact au E (n+(ay num.toNat).length+(ay q.toNat).length) D (l++ay num.toNat++ay q.toNat)]):=((f.out.on t).know (Sl.fact au F (n+(ay num.toNat).length+(ay q.toNat).length+(ay a.toNat).length) G (l++ay num.toNat++ay q.toNat++ay a.toNat)) b)
 clear f
 clear t
 clear b
 have r:Hid (an w [] X J [.box (w.heap.size) 34 #[.int .i64 q,.int .i64 a,v]] [Sl.fact au F (n+(ay num.toNat).length+(ay q.toNat).length+(ay a.toNat).length) G (l++ay num.toNat++ay q.toNat++ay a.toNat)]):=(s.out.forget (List.Sublist.cons_cons _ (List.Sublist.cons _ List.Sublist.slnil)))
 clear s
 have H:=Lib.hid (r.out.sl 0 rfl)
 rw[←I.out]at H
 rw[←L.out]at H
 go_wp2
 go_ret
 exact⟨F,G,by rw[I.out];rfl,H.out.more (fun _ _ M=>List.mem_append_right _ M),r.out.below⟩
theorem rf {A:Option Addr} {n c:Nat} {l:List UInt8} {X:List Nat} {w:World} (hX:XOk X w) (g:Sl au w X A n c l) (k:Int) (d:1≤k) (a:k≤3) (hn:n≤200):
 Calls Tryz.prog 126 #[.int .i64 k,.slice A n c] w fun e w' => ∃ A' c',e = .returned (.tuple #[.slice A' (n+7) c',.int .i64 0])∧Sl au w' X A' (n+7) c' (av k l)∧Below w.heap.size w w':=by
 refine(DB k A n c w.heap.size l w d a hn g.bytes (Nat.le_refl _)).mono ?_
 rintro e w' ⟨v,rfl,hown,b⟩
 obtain⟨A',c',rfl,f⟩:=Sl.of_made (s:=au) hown hX (dO _) (Nat.zero_lt_one)
 exact⟨A',c',rfl,f,b⟩
end
section
open Go.RowKit
def kH (r:List UInt8×Int) (X:List Nat) (w:World) (e:Ending) (w':World):Prop:=
 Below w.heap.size w w'∧((r.2≠0∧e = .returned (.tuple #[.slice none 0 0,.int .i64 r.2]))∨(r.2=0 ∧ ∃ A c,e = .returned (.tuple #[.slice A r.1.length c,.int .i64 0])∧Sl au w' X A r.1.length c r.1))
def aW:List UInt8:=[102,98,120,49]
def kV (num:Int) (c:Cx):List UInt8×Int:=if eZ num=false∨aJ c=false∨0<c.ns.length then([],1) else(av 1 (aW++aU num c.q c.a),0)
def mm (many:Int) (c:Cx):List UInt8×Int:=if many<0∨aJ c=false then([],1) else(av 3 (aU many c.q c.a),0)
theorem fe {c:Cx} (h:aJ c=true):0≤c.q∧c.q≤4294967296∧0≤c.a∧c.a≤1099511627776:=by
 unfold aJ at h
 simp only[Bool.and_eq_true,decide_eq_true_iff]at h
 exact⟨h.1.1.1.1,h.1.1.1.2,h.1.1.2,h.1.2⟩
set_option maxHeartbeats 4000000 in
theorem EM (num q a:Int) (ns:List (List UInt8)) (i:Option Addr) (nn g:Nat) (X:List Nat) (w:World) (hX:XOk X w) (J:Sl af w X i nn g ns) (N:nn≤1000):
 Calls Tryz.prog 61 #[.int .i64 num,.agg #[.int .i64 q,.int .i64 a,.slice i nn g]] w (kH (kV num ⟨q,a,ns⟩) X w):=by
 have A:=Lib.hid J.len
 have l:Hid (kV num ⟨q,a,ns⟩=if eZ num=false∨aJ ⟨q,a,ns⟩=false∨0<ns.length then([],1) else(av 1 (aW++aU num q a),0)):=rfl
 have B:=fun W=>Lib.hid (lI num W)
 have u:Hid (eZ num=true→1≤num∧num≤99999999):=fun h=>by unfold eZ at h;simpa using h
 have G:=fun(X:List Nat) (W:World) (h:Sl af W X i nn g ns)=>Lib.hid (jT q a ns i nn g X W h N)
 have v:=Lib.hid (@fe ⟨q,a,ns⟩)
 unfold kH
 generalize kV num ⟨q,a,ns⟩=r at l ⊢
 generalize eZ num=nb at l B u
 generalize aJ ⟨q,a,ns⟩=rc at l G v
 have j:Hid (an w [] X (w.alloc (.cells #[.int .i64 q,.int .i64 a,.slice i nn g] 34)) [.box (w.heap.size) 34 #[.int .i64 q,.int .i64 a,.slice i nn g]] [Sl.fact af i nn g ns]):=(((an.start w hX).alloc_at 34 #[.int .i64 q,.int .i64 a,.slice i nn g] (w.heap.size) (by simp)).know0 (Sl.fact af i nn g ns) J)
 clear J
 cases nb
 ·skip
  rw[if_pos (.inl rfl)]at l
  go_enter Tryz.func61,Tryz.ntmps61
  go_wp2_with (go_at_call 53;refine((B _).out).mono ?_;rintro e w' ⟨rfl,rfl⟩)
  go_ret2
  exact⟨j.out.below,.inl ⟨by rw[l.out];exact(by decide:(1:Int)≠0),by rw[l.out];rfl⟩⟩
 cases rc
 ·skip
  rw[if_pos (.inr (.inl rfl))]at l
  go_enter Tryz.func61,Tryz.ntmps61
  go_wp2_with (first | (go_at_call 53;refine((B _).out).mono ?_;rintro e w' ⟨rfl,rfl⟩) | fail)
  with_reducible refine((G _ _ (j.out.sl 0 rfl)).out).mono ?_
  rintro e k ⟨rfl,m⟩
  have f:Hid (an w [] X k [.box (w.heap.size) 34 #[.int .i64 q,.int .i64 a,.slice i nn g]] [Sl.fact af i nn g ns]):=(j.out.on m)
  clear j
  clear m
  have b:k.cell? ⟨w.heap.size,0,none⟩=some (.int .i64 q):=f.out.cell 0 rfl 0
  have c:k.cell? ⟨w.heap.size,1,none⟩=some (.int .i64 a):=f.out.cell 0 rfl 1
  have d:k.cell? ⟨w.heap.size,2,none⟩=some (.slice i nn g):=f.out.cell 0 rfl 2
  go_wp2
  clear b c d
  go_ret2
  exact⟨f.out.below,.inl ⟨by rw[l.out];exact(by decide:(1:Int)≠0),by rw[l.out];rfl⟩⟩
 by_cases H:0<ns.length
 ·skip
  rw[if_pos (.inr (.inr H))]at l
  have t:0<nn:=by have:=A.out;omega
  have Y:decide ((0:Int)<(nn:Int))=true:=by simp;omega
  clear H
  go_enter Tryz.func61,Tryz.ntmps61
  go_wp2_with (first | (go_at_call 53;refine((B _).out).mono ?_;rintro e w' ⟨rfl,rfl⟩) | fail)
  with_reducible refine((G _ _ (j.out.sl 0 rfl)).out).mono ?_
  rintro e k ⟨rfl,m⟩
  have f:Hid (an w [] X k [.box (w.heap.size) 34 #[.int .i64 q,.int .i64 a,.slice i nn g]] [Sl.fact af i nn g ns]):=(j.out.on m)
  clear j
  clear m
  have b:k.cell? ⟨w.heap.size,0,none⟩=some (.int .i64 q):=f.out.cell 0 rfl 0
  have c:k.cell? ⟨w.heap.size,1,none⟩=some (.int .i64 a):=f.out.cell 0 rfl 1
  have d:k.cell? ⟨w.heap.size,2,none⟩=some (.slice i nn g):=f.out.cell 0 rfl 2
  go_wp2
  clear b c d
  go_ret2
  exact⟨f.out.below,.inl ⟨by rw[l.out];exact(by decide:(1:Int)≠0),by rw[l.out];rfl⟩⟩
 rw[if_neg (by simpa using H)]at l
 have t:nn=0:=by have:=A.out;omega
 subst t
 clear H
 obtain⟨Q,S⟩:=u.out rfl
 obtain⟨C,y,E,D⟩:=v.out rfl
 simp only at C y E D
 clear u v
 go_enter Tryz.func61,Tryz.ntmps61
 go_wp2_with (first | (go_at_call 53;refine((B _).out).mono ?_;rintro e w' ⟨rfl,rfl⟩) | fail)
 with_reducible refine((G _ _ (j.out.sl 0 rfl)).out).mono ?_
 rintro e k ⟨rfl,m⟩
 have f:Hid (an w [] X k [.box (w.heap.size) 34 #[.int .i64 q,.int .i64 a,.slice i 0 g]] [Sl.fact af i 0 g ns]):=(j.out.on m)
 clear j
 clear m
 have b:k.cell? ⟨w.heap.size,0,none⟩=some (.int .i64 q):=f.out.cell 0 rfl 0
 have c:k.cell? ⟨w.heap.size,1,none⟩=some (.int .i64 a):=f.out.cell 0 rfl 1
 have d:k.cell? ⟨w.heap.size,2,none⟩=some (.slice i 0 g):=f.out.cell 0 rfl 2
 have kc:=Lib.run_convert_bytes_const (P:=Tryz.prog) k 50 5 #[.int .u8 102,.int .u8 98,.int .u8 120,.int .u8 49] 4 4 Tryz.underlying50 Tryz.underlying5
 have U:w.heap.size<k.heap.size:=f.out.lt 0 rfl
 go_wp2_with fail
 clear b c d
 clear kc
 have p:Hid (an w [] X (k.alloc (.cells #[.int .u8 102,.int .u8 98,.int .u8 120,.int .u8 49] 5 (4,5))) [.box (w.heap.size) 34 #[.int .i64 q,.int .i64 a,.slice i 0 g]] [Sl.fact au (some ⟨k.heap.size,0,none⟩) 4 4 aW,Sl.fact af i 0 g ns]):=f.out.marked #[.int .u8 102,.int .u8 98,.int .u8 120,.int .u8 49] 5 (4,5) aW rfl (by unfold maxLen;decide)
 clear f
 with_reducible refine(Co (some ⟨k.heap.size,0,none⟩) 4 4 aW num q a _ _ _ p.out.xok' (p.out.sl 0 rfl) (by omega) (by omega) (by omega) C y E D).mono ?_
 rintro e R ⟨K,I,rfl,o,m⟩
 have V:=jG (n:=num) (q:=q) (a:=a) (by omega) (by omega) (by omega)
 have x:Hid ((aW++aU num q a).length+7=(av 1 (aW++aU num q a)).length):=(bP 1 (aW++aU num q a)).symm
 have z:=Lib.hid (show(aW++aU num q a).length=4+(aU num q a).length from by rw[List.length_append];rfl)
 have s:Hid (an w [] X R [.box (w.heap.size) 34 #[.int .i64 q,.int .i64 a,.slice i 0 g]] [Sl.fact au K (4+(aU num q a).length) I (aW++aU num q a),Sl.fact au (some ⟨k.heap.size,0,none⟩) 4 4 aW,Sl.fact af i 0 g ns]):=((p.out.on m).know (Sl.fact au K (4+(aU num q a).length) I (aW++aU num q a)) o)
 clear p
 clear m
 clear o
 skip
 go_wp2_with fail
 with_reducible refine(rf s.out.xok' (s.out.sl 0 rfl) 1 (by omega) (by omega) (by omega)).mono ?_
 rintro e T ⟨L,M,rfl,o,m⟩
 have F:Hid (an w [] X T [.box (w.heap.size) 34 #[.int .i64 q,.int .i64 a,.slice i 0 g]] [Sl.fact au L (4+(aU num q a).length+7) M (av 1 (aW++aU num q a)),Sl.fact au K (4+(aU num q a).length) I (aW++aU num q a),Sl.fact au (some ⟨k.heap.size,0,none⟩) 4 4 aW,Sl.fact af i 0 g ns]):=((s.out.on m).know (Sl.fact au L (4+(aU num q a).length+7) M (av 1 (aW++aU num q a))) o)
 clear s
 clear m
 clear o
 have O:=Lib.hid (F.out.back' 0 rfl)
 rw[←z.out,x.out]at O
 go_wp2
 go_ret2
 exact⟨F.out.below,.inr ⟨by rw[l.out],L,M,by rw[l.out,←x.out,z.out];rfl,by rw[l.out];exact O.out⟩⟩
set_option maxHeartbeats 4000000 in
theorem ET (many q a:Int) (ns:List (List UInt8)) (i:Option Addr) (nn g:Nat) (X:List Nat) (w:World) (hX:XOk X w) (I:Sl af w X i nn g ns) (G:nn≤1000) (M:many≤9223372036854775807):
 Calls Tryz.prog 63 #[.int .i64 many,.agg #[.int .i64 q,.int .i64 a,.slice i nn g]] w (kH (mm many ⟨q,a,ns⟩) X w):=by
 have l:Hid (mm many ⟨q,a,ns⟩=if many<0∨aJ ⟨q,a,ns⟩=false then([],1) else(av 3 (aU many q a),0)):=rfl
 have A:=fun(X:List Nat) (W:World) (h:Sl af W X i nn g ns)=>Lib.hid (jT q a ns i nn g X W h G)
 have s:=Lib.hid (@fe ⟨q,a,ns⟩)
 unfold kH
 generalize mm many ⟨q,a,ns⟩=r at l ⊢
 generalize aJ ⟨q,a,ns⟩=rc at l A s
 have j:Hid (an w [] X (w.alloc (.cells #[.int .i64 q,.int .i64 a,.slice i nn g] 34)) [.box (w.heap.size) 34 #[.int .i64 q,.int .i64 a,.slice i nn g]] [Sl.fact af i nn g ns]):=(((an.start w hX).alloc_at 34 #[.int .i64 q,.int .i64 a,.slice i nn g] (w.heap.size) (by simp)).know0 (Sl.fact af i nn g ns) I)
 clear I
 by_cases F:many<0
 ·skip
  rw[if_pos (.inl F)]at l
  go_enter Tryz.func63,Tryz.ntmps63
  go_wp2
  go_ret2
  exact⟨j.out.below,.inl ⟨by rw[l.out];exact(by decide:(1:Int)≠0),by rw[l.out];rfl⟩⟩
 have L:0≤many:=by omega
 cases rc
 ·skip
  rw[if_pos (.inr rfl)]at l
  go_enter Tryz.func63,Tryz.ntmps63
  go_wp2_with fail
  with_reducible refine((A _ _ (j.out.sl 0 rfl)).out).mono ?_
  rintro e p ⟨rfl,m⟩
  have f:Hid (an w [] X p [.box (w.heap.size) 34 #[.int .i64 q,.int .i64 a,.slice i nn g]] [Sl.fact af i nn g ns]):=(j.out.on m)
  clear j
  clear m
  have b:p.cell? ⟨w.heap.size,0,none⟩=some (.int .i64 q):=f.out.cell 0 rfl 0
  have c:p.cell? ⟨w.heap.size,1,none⟩=some (.int .i64 a):=f.out.cell 0 rfl 1
  have d:p.cell? ⟨w.heap.size,2,none⟩=some (.slice i nn g):=f.out.cell 0 rfl 2
  go_wp2
  clear b c d
  go_ret2
  exact⟨f.out.below,.inl ⟨by rw[l.out];exact(by decide:(1:Int)≠0),by rw[l.out];rfl⟩⟩
 rw[if_neg (by simpa using F)]at l
 obtain⟨x,u,z,y⟩:=s.out rfl
 simp only at x u z y
 clear s F
 go_enter Tryz.func63,Tryz.ntmps63
 go_wp2_with fail
 with_reducible refine((A _ _ (j.out.sl 0 rfl)).out).mono ?_
 rintro e p ⟨rfl,m⟩
 have f:Hid (an w [] X p [.box (w.heap.size) 34 #[.int .i64 q,.int .i64 a,.slice i nn g]] [Sl.fact af i nn g ns]):=(j.out.on m)
 clear j
 clear m
 have b:p.cell? ⟨w.heap.size,0,none⟩=some (.int .i64 q):=f.out.cell 0 rfl 0
 have c:p.cell? ⟨w.heap.size,1,none⟩=some (.int .i64 a):=f.out.cell 0 rfl 1
 have d:p.cell? ⟨w.heap.size,2,none⟩=some (.slice i nn g):=f.out.cell 0 rfl 2
 go_wp2_with fail
 with_reducible refine(Co none 0 0 [] many q a _ _ _ f.out.xok' Sl.nil_ (by omega) (by omega) (by omega) x u z y).mono ?_
 rintro e J ⟨C,B,rfl,k,m⟩
 rw[List.nil_append,Nat.zero_add]at k
 rw[Nat.zero_add]
 have N:=jG (n:=many) (q:=q) (a:=a) (by omega) (by omega) (by omega)
 have t:Hid ((aU many q a).length+7=(av 3 (aU many q a)).length):=(bP 3 (aU many q a)).symm
 clear b c d
 have o:Hid (an w [] X J [.box (w.heap.size) 34 #[.int .i64 q,.int .i64 a,.slice i nn g]] [Sl.fact au C (aU many q a).length B (aU many q a),Sl.fact af i nn g ns]):=((f.out.on m).know (Sl.fact au C (aU many q a).length B (aU many q a)) k)
 clear f
 clear m
 clear k
 go_wp2_with fail
 with_reducible refine(rf o.out.xok' (o.out.sl 0 rfl) 3 (by omega) (by omega) (by omega)).mono ?_
 rintro e K ⟨D,E,rfl,k,m⟩
 have v:Hid (an w [] X K [.box (w.heap.size) 34 #[.int .i64 q,.int .i64 a,.slice i nn g]] [Sl.fact au D ((aU many q a).length+7) E (av 3 (aU many q a)),Sl.fact au C (aU many q a).length B (aU many q a),Sl.fact af i nn g ns]):=((o.out.on m).know (Sl.fact au D ((aU many q a).length+7) E (av 3 (aU many q a))) k)
 clear o
 clear m
 clear k
 have H:=Lib.hid (v.out.back' 0 rfl)
 rw[t.out]at H
 go_wp2
 go_ret2
 exact⟨v.out.below,.inr ⟨by rw[l.out],D,E,by rw[l.out,←t.out];rfl,by rw[l.out];exact H.out⟩⟩
end
section
open Go.RowKit
def bT (bs:List UInt8) (a e:Int):Nat→Int×Int×List Int
 | 0=>(a,e,[])
 | k+1=>((dw bs (bT bs a e k).1 (bT bs a e k).2.1 2147483647).1,(dw bs (bT bs a e k).1 (bT bs a e k).2.1 2147483647).2.1,(bT bs a e k).2.2 ++ [((dw bs (bT bs a e k).1 (bT bs a e k).2.1 2147483647).2.2:Int)])
def dX (c:Cx) (bs:List UInt8):Evt×Bool:=
 let r1:=dw bs 0 0 10
 let r2:=dw bs r1.1 r1.2.1 4294967296
 let r3:=dw bs r2.1 r2.2.1 1099511627776
 let r4:=dw bs r3.1 r3.2.1 32
 let t:=if r4.2.2=0 then kS bs r4.1 r4.2.1 24 else(r4.1,r4.2.1,(c.ns[r4.2.2-1]?).getD [])
 let l:=bT bs t.1 t.2.1 (cu (r1.2.2:Int))
 (kX ⟨c.q+(r2.2.2:Int),c.a+(r3.2.2:Int),(r1.2.2:Int),eN t.2.2,0,0,0⟩ l.2.2,decide (l.2.1=0))
theorem lS (A:Option Addr) (n c:Nat) (at_ err:Int) (bs:List UInt8) (B:Nat) (w:World) (h:Reads w B 1 A n (byteCells bs)) (hB:B≤w.heap.size) (a:n≤c) (b:c≤9223372036854775807) (hn:n≤10000) (most:Nat) (g:most≤1099511627776) (f:Int) (d:(most:Int)=f):
 Calls Tryz.prog 260 #[.agg #[.slice A n c,.int .i64 at_,.int .i64 err],.int .u64 f] w fun e w'=>e = .returned (.tuple #[.agg #[.slice A n c,.int .i64 (dw bs at_ err most).1,.int .i64 (dw bs at_ err most).2.1],.int .i64 ((dw bs at_ err most).2.2:Int)])∧Below w.heap.size w w':=by
 subst d
 exact EB A n c at_ err bs B w h hB a b hn most g
set_option maxHeartbeats 8000000 in
theorem EC (q a:Int) (ns:List (List UInt8)) (H:Option Addr) (nn G:Nat) (A:Option Addr) (n c:Nat) (bs:List UInt8) (X:List Nat) (w:World) (hX:XOk X w) (hs:Sl af w X H nn G ns) (B:Nat) (hr:Reads w B 1 A n (byteCells bs)) (hB:B≤w.heap.size) (al:n≤c) (bb:c≤9223372036854775807)
 (ba:nn≤1000) (hn:n≤10000) (ao:0≤q) (am:q≤4294967296) (aw:0≤a) (ar:a≤1099511627776):
 Calls Tryz.prog 233 #[.agg #[.int .i64 q,.int .i64 a,.slice H nn G],.slice A n c] w fun e w'=>e = .returned (.tuple #[.agg (evA (dX ⟨q,a,ns⟩ bs).1),.bool (dX ⟨q,a,ns⟩ bs).2])∧Below w.heap.size w w':=by
 have ac:=Lib.hid hs.len
 have N:=Lib.hid hr
 obtain⟨⟨x1,y1,s⟩,h1⟩:∃ r,dw bs 0 0 10=r:=⟨_,rfl⟩
 obtain⟨⟨x2,y2,u⟩,h2⟩:∃ r,dw bs x1 y1 4294967296=r:=⟨_,rfl⟩
 obtain⟨⟨x3,y3,t⟩,h3⟩:∃ r,dw bs x2 y2 1099511627776=r:=⟨_,rfl⟩
 obtain⟨⟨d,f,l⟩,h4⟩:∃ r,dw bs x3 y3 32=r:=⟨_,rfl⟩
 have l1:=lZ bs 0 0 10
 have l2:=lZ bs x1 y1 4294967296
 have l3:=lZ bs x2 y2 1099511627776
 have l4:=lZ bs x3 y3 32
 rw[h1]at l1;rw[h2]at l2;rw[h3]at l3;rw[h4]at l4
 simp only at l1 l2 l3 l4
 have g:=Lib.hid (show dX ⟨q,a,ns⟩ bs=(kX ⟨q+(u:Int),a+(t:Int),(s:Int),eN (if l=0 then kS bs d f 24 else(d,f,(ns[l-1]?).getD [])).2.2,0,0,0⟩ (bT bs (if l=0 then kS bs d f 24 else(d,f,(ns[l-1]?).getD [])).1 (if l=0 then kS bs d f 24 else(d,f,(ns[l-1]?).getD [])).2.1 (cu (s:Int))).2.2,decide ((bT bs (if l=0 then kS bs d f 24 else(d,f,(ns[l-1]?).getD [])).1 (if l=0 then kS bs d f 24 else(d,f,(ns[l-1]?).getD [])).2.1 (cu (s:Int))).2.1=0)) from by
  unfold dX;simp only[h1,h2,h3,h4])
 have H1:=Lib.hid h1
 have H2:=Lib.hid h2
 have H3:=Lib.hid h3
 have H4:=Lib.hid h4
 clear h1 h2 h3 h4
 generalize dX ⟨q,a,ns⟩ bs=r at g ⊢
 have wq:IntKind.i64.wrap (q+(u:Int))=q+(u:Int):=IntWalk.i64_in _ (by omega)
 have wa:IntKind.i64.wrap (a+(t:Int))=a+(t:Int):=IntWalk.i64_in _ (by omega)
 have J:=iX (s:Int)
 have HM:=fun W=>Lib.hid (vC (s:Int) W)
 generalize cu (s:Int)=m at HM g J
 have bc:=hX
 go_enter Tryz.func233,Tryz.ntmps233
 go_upto_region 1 with(fail)
 refine(hstart hX).cw fun W K=>?_
 have K:=K.ksl0 hs
 have HS:=Lib.hid hs
 clear hs hr
 go_wp2_with fail
 with_reducible refine(wW A n c _ al).mono ?_
 rintro e w1 ⟨rfl,b⟩
 have K:=K.on b
 clear b
 go_wp2_with fail
 with_reducible refine(lS A n n 0 0 bs _ _ (N.out.below (K.below.mono hB)) (Nat.le_trans hB K.out.size) (Nat.le_refl _) (by omega) hn 10 (by omega) 10 rfl).mono ?_
 rw[H1.out]
 rintro e w2 ⟨rfl,b⟩
 have K:=K.on b
 clear b
 go_upto_region 2 with(refine K.lw fun W K=>?_;refine K.sr 0 rfl fun W K=>?_)
 go_wp2_with (first | refine K.ld 0 rfl ?_)
 with_reducible refine(lS A n n x1 y1 bs _ _ (N.out.below (K.below.mono hB)) (Nat.le_trans hB K.out.size) (Nat.le_refl _) (by omega) hn 4294967296 (by omega) 4294967296 rfl).mono ?_
 rw[H2.out]
 rintro e w3 ⟨rfl,b⟩
 have K:=K.on b
 clear b
 go_upto_region 3 with(refine K.lw fun W K=>?_;refine K.sr 0 rfl fun W K=>?_)
 go_wp2_with (first | refine K.ld 0 rfl ?_)
 with_reducible refine(lS A n n x2 y2 bs _ _ (N.out.below (K.below.mono hB)) (Nat.le_trans hB K.out.size) (Nat.le_refl _) (by omega) hn 1099511627776 (by omega) 1099511627776 rfl).mono ?_
 rw[H3.out]
 rintro e w4 ⟨rfl,b⟩
 have K:=K.on b
 clear b
 go_upto_region 4 with(refine K.lw fun W K=>?_;refine K.sr 0 rfl fun W K=>?_)
 go_wp2_with (first | refine K.ld 0 rfl ?_)
 with_reducible refine(lS A n n x3 y3 bs _ _ (N.out.below (K.below.mono hB)) (Nat.le_trans hB K.out.size) (Nat.le_refl _) (by omega) hn 32 (by omega) 32 rfl).mono ?_
 rw[H4.out]
 rintro e w5 ⟨rfl,b⟩
 have K:=K.on b
 clear b
 go_upto_region 5 with(refine K.lw fun W K=>?_;refine K.sr 0 rfl fun W K=>?_)
 refine K.cw fun W5 K=>?_
 have c2:=K.r 2 rfl
 go_upto_region 6 with(fail)
 refine K.cw fun W K=>?_
 clear c2
 generalize W5.heap.size=ge at K ⊢
 generalize w2.heap.size=gk at K ⊢
 by_cases hp:l=0
 ·obtain⟨⟨L,I,nm⟩,h5⟩:∃ r,kS bs d f 24=r:=⟨_,rfl⟩
  have H5:=Lib.hid h5
  subst hp
  rw[if_pos rfl,h5]at g
  clear h5
  simp only at g
  go_wp2_with (first | refine K.ld 1 rfl ?_)
  with_reducible refine(EA A n n d f bs _ _ (N.out.below (K.below.mono hB)) (Nat.le_trans hB K.out.size) (Nat.le_refl _) (by omega) hn 24 (by omega)).mono ?_
  rw[H5.out]
  rintro e w7 ⟨rfl,b⟩
  have K:=K.on b
  clear b
  go_upto_region 11 with(refine K.lw fun W K=>?_;refine K.sr 1 rfl fun W K=>?_;have c0:=K.c 0 rfl)
  refine K.cw fun W K=>?_
  clear c0
  have c0:=K.r 0 rfl
  go_wp2_with (go_at_call 57;refine((HM _).out).mono ?_;rintro e w' ⟨rfl,rfl⟩)
  clear c0
  have K:=K.nrow (e:=2) (size:=1) (n:=0) (v := .slice none 0 0) (xs:=[]) (Below.refl _ _) ⟨rfl,.inl ⟨rfl,rfl⟩⟩
  go_loopw [14,69] (fun Z i wr => ∃ (j:Nat) (y:Option Addr) (cl:Nat),Z = .slice y j cl∧j≤m∧i = .int .i64 j∧HH w [] X wr [.row 2 1 (.slice y j cl) j ((bT bs L I j).2.2.map (Value.int .i64)),.box ge 44 #[.int .i64 (q+(u:Int)),.int .i64 (a+(t:Int)),.int .i64 (s:Int),.string (eN nm),.int .i64 0,.int .i64 0,.int .i64 0],.box gk 252 #[.slice A n n,.int .i64 (bT bs L I j).1,.int .i64 (bT bs L I j).2.1],.box (w.heap.size+1) 44 #[.int .i64 0,.int .i64 0,.int .i64 0,.string ⟨#[]⟩,.int .i64 0,.int .i64 0,.int .i64 0],.box w.heap.size 34 #[.int .i64 q,.int .i64 a,.slice H nn G]] [Sl.fact af H nn G ns]) (fun _ i _=>m-(intOf i).toNat)
  case atStart=>exact⟨0,none,0,rfl,Nat.zero_le _,rfl,K⟩
  case round=>
   obtain⟨j,y,cl,rfl,hj,rfl,K⟩:=hrel
   by_cases R:j<m
   ·obtain⟨⟨S,y6,v6⟩,z⟩:∃ r,dw bs (bT bs L I j).1 (bT bs L I j).2.1 2147483647=r:=⟨_,rfl⟩
    have F:=Lib.hid (show bT bs L I (j+1)=(S,y6,(bT bs L I j).2.2 ++ [(v6:Int)]) from by rw[bT,z])
    have x:=Lib.hid z
    clear z
    generalize k:bT bs L I j=st at K x F
    clear k
    obtain⟨M,C,sl⟩:=st
    simp only at K x F
    go_wp2_with (first | refine K.ld 2 rfl ?_)
    with_reducible refine(lS A n n M C bs _ _ (N.out.below (K.below.mono hB)) (Nat.le_trans hB K.out.size) (Nat.le_refl _) (by omega) hn 2147483647 (by omega) 2147483647 rfl).mono ?_
    rw[x.out]
    rintro e w7 ⟨rfl,b⟩
    have K:=K.on b
    clear b
    go_upto_region 16 with(refine K.lw fun W K=>?_;refine K.sr 2 rfl fun W K=>?_)
    go_wp2_with (at_builtin;refine K.lw fun W K=>?_;refine K.ap1 8 0 rfl (by omega) fun v' U K=>?_)
    obtain⟨D,E,rfl,-⟩:=aE (K.row 0 rfl)
    go_roundw
    case rel=>exact⟨j+1,D,E,rfl,by omega,by go_num,by rw[F.out];simp only[List.map_append,List.map_cons,List.map_nil];exact K⟩
    case measure=>simp[intOf];omega
   ·obtain rfl:m=j:=by omega
    generalize k:bT bs L I m=st at K g
    clear k
    obtain⟨M,C,sl⟩:=st
    simp only at K g
    have Y:=Lib.hid (show(C == 0)=r.2 from by rw[g.out];rfl)
    have o:=Lib.hid (show kX ⟨q+(u:Int),a+(t:Int),(s:Int),(eN nm),0,0,0⟩ sl=r.1 from by rw[g.out])
    have K:=K.mv 3 rfl
    go_upto_region 18 with(fail)
    refine K.rgt (fun V h=>h.tl) fun W K=>?_
    refine tL 0 (fun _ h=>h.at_ 1 rfl) K.tl ?_ (hy:=fun w T=>aD T)
    refine tK 1 K.tl ?_
    refine tK 3 K.tl ?_
    refine tL 4 (fun _ h=>h.r 2 rfl) K.tl ?_
    refine tK 5 K.tl ?_
    refine tC 2 fun K' hK=>?_
    go_simp
    obtain⟨ae,ad,P,-,-,-,p⟩:=iY (K.row 1 rfl)
    injection P with e4 e5 Q
    subst e4 Q
    refine(uP ⟨q+(u:Int),a+(t:Int),(s:Int),(eN nm),0,0,0⟩ _ m _ _ sl _ p (Nat.le_refl _) J).mono ?_
    rw[o.out]
    rintro e w9 ⟨rfl,b⟩
    have K:=K.on b
    refine hK.out _ _ K.tl fun _=>?_
    clear hK K' b p e5 o g
    try simp only[Act.put,aq,aj,ai]
    obtain⟨⟨rq,ra,rk,ab,rx,ry,rz⟩,rb⟩:=r
    refine tSt 6 K 0 rfl (fun U h=>h.tl) fun U K=>?_
    refine tK 7 K.tl ?_
    refine tE ?_
    go_wp2
    exact K.rc2 0 rfl rfl ⟨by rw[←Y.out];rfl,K.below⟩
 have p0:(((l:Int)) == 0)=false:=by rw[beq_eq_false_iff_ne];omega
 have p1:(l == 0)=false:=by rw[beq_eq_false_iff_ne];omega
 rw[if_neg hp]at g
 simp only at g
 by_cases ap:l≤nn
 ·obtain⟨nm,O⟩:∃ nm,ns[l-1]?=some nm:=⟨_,List.getElem?_eq_getElem (by have:=ac.out;omega)⟩
  rw[O,Option.getD_some]at g
  have ag:=Lib.hid (show(ns.map eN)[l-1]?=some (eN nm) from by rw[List.getElem?_map,O];rfl)
  have HP:=Lib.hid (show(((l-1:Nat):Int)+1)=(l:Int) from by omega)
  clear O hp
  have c3:=K.r 3 rfl
  go_wp2_with fail
  rw[←HP.out]
  with_reducible refine(EU H nn G _ (l-1) (ns.map eN) (eN nm) _ (K.sl 0 rfl).names.1 (by omega) ag.out).mono ?_
  rintro e w7 ⟨rfl,rfl⟩
  clear c3
  have c0:=K.c 0 rfl
  go_upto_region 11 with(fail)
  refine K.cw fun W K=>?_
  clear c0
  have c0:=K.r 0 rfl
  go_wp2_with (go_at_call 57;refine((HM _).out).mono ?_;rintro e w' ⟨rfl,rfl⟩)
  clear c0
  have K:=K.nrow (e:=2) (size:=1) (n:=0) (v := .slice none 0 0) (xs:=[]) (Below.refl _ _) ⟨rfl,.inl ⟨rfl,rfl⟩⟩
  go_loopw [14,69] (fun Z i wr => ∃ (j:Nat) (y:Option Addr) (cl:Nat),Z = .slice y j cl∧j≤m∧i = .int .i64 j∧HH w [] X wr [.row 2 1 (.slice y j cl) j ((bT bs d f j).2.2.map (Value.int .i64)),.box ge 44 #[.int .i64 (q+(u:Int)),.int .i64 (a+(t:Int)),.int .i64 (s:Int),.string (eN nm),.int .i64 0,.int .i64 0,.int .i64 0],.box gk 252 #[.slice A n n,.int .i64 (bT bs d f j).1,.int .i64 (bT bs d f j).2.1],.box (w.heap.size+1) 44 #[.int .i64 0,.int .i64 0,.int .i64 0,.string ⟨#[]⟩,.int .i64 0,.int .i64 0,.int .i64 0],.box w.heap.size 34 #[.int .i64 q,.int .i64 a,.slice H nn G]] [Sl.fact af H nn G ns]) (fun _ i _=>m-(intOf i).toNat)
  case atStart=>exact⟨0,none,0,rfl,Nat.zero_le _,rfl,K⟩
  case round=>
   obtain⟨j,y,cl,rfl,hj,rfl,K⟩:=hrel
   by_cases R:j<m
   ·obtain⟨⟨S,y6,v6⟩,z⟩:∃ r,dw bs (bT bs d f j).1 (bT bs d f j).2.1 2147483647=r:=⟨_,rfl⟩
    have F:=Lib.hid (show bT bs d f (j+1)=(S,y6,(bT bs d f j).2.2 ++ [(v6:Int)]) from by rw[bT,z])
    have x:=Lib.hid z
    clear z
    generalize k:bT bs d f j=st at K x F
    clear k
    obtain⟨M,C,sl⟩:=st
    simp only at K x F
    go_wp2_with (first | refine K.ld 2 rfl ?_)
    with_reducible refine(lS A n n M C bs _ _ (N.out.below (K.below.mono hB)) (Nat.le_trans hB K.out.size) (Nat.le_refl _) (by omega) hn 2147483647 (by omega) 2147483647 rfl).mono ?_
    rw[x.out]
    rintro e w7 ⟨rfl,b⟩
    have K:=K.on b
    clear b
    go_upto_region 16 with(refine K.lw fun W K=>?_;refine K.sr 2 rfl fun W K=>?_)
    go_wp2_with (at_builtin;refine K.lw fun W K=>?_;refine K.ap1 8 0 rfl (by omega) fun v' U K=>?_)
    obtain⟨D,E,rfl,-⟩:=aE (K.row 0 rfl)
    go_roundw
    case rel=>exact⟨j+1,D,E,rfl,by omega,by go_num,by rw[F.out];simp only[List.map_append,List.map_cons,List.map_nil];exact K⟩
    case measure=>simp[intOf];omega
   ·obtain rfl:m=j:=by omega
    generalize k:bT bs d f m=st at K g
    clear k
    obtain⟨M,C,sl⟩:=st
    simp only at K g
    have Y:=Lib.hid (show(C == 0)=r.2 from by rw[g.out];rfl)
    have o:=Lib.hid (show kX ⟨q+(u:Int),a+(t:Int),(s:Int),(eN nm),0,0,0⟩ sl=r.1 from by rw[g.out])
    have K:=K.mv 3 rfl
    go_upto_region 18 with(fail)
    refine K.rgt (fun V h=>h.tl) fun W K=>?_
    refine tL 0 (fun _ h=>h.at_ 1 rfl) K.tl ?_ (hy:=fun w T=>aD T)
    refine tK 1 K.tl ?_
    refine tK 3 K.tl ?_
    refine tL 4 (fun _ h=>h.r 2 rfl) K.tl ?_
    refine tK 5 K.tl ?_
    refine tC 2 fun K' hK=>?_
    go_simp
    obtain⟨ae,ad,P,-,-,-,p⟩:=iY (K.row 1 rfl)
    injection P with e4 e5 Q
    subst e4 Q
    refine(uP ⟨q+(u:Int),a+(t:Int),(s:Int),(eN nm),0,0,0⟩ _ m _ _ sl _ p (Nat.le_refl _) J).mono ?_
    rw[o.out]
    rintro e w9 ⟨rfl,b⟩
    have K:=K.on b
    refine hK.out _ _ K.tl fun _=>?_
    clear hK K' b p e5 o g
    try simp only[Act.put,aq,aj,ai]
    obtain⟨⟨rq,ra,rk,ab,rx,ry,rz⟩,rb⟩:=r
    refine tSt 6 K 0 rfl (fun U h=>h.tl) fun U K=>?_
    refine tK 7 K.tl ?_
    refine tE ?_
    go_wp2
    exact K.rc2 0 rfl rfl ⟨by rw[←Y.out];rfl,K.below⟩
 ·rw[show(ns[l-1]?).getD [] = [] from by rw[List.getElem?_eq_none (by have:=ac.out;omega)];rfl]at g
  clear hp
  have c3:=K.r 3 rfl
  go_wp2_with fail
  with_reducible refine(FD H nn G (l:Int) _ (by omega) (by omega)).mono ?_
  rintro e w7 ⟨rfl,rfl⟩
  clear c3
  go_upto_region 11 with(fail)
  have c0:=K.r 0 rfl
  go_wp2_with (go_at_call 57;refine((HM _).out).mono ?_;rintro e w' ⟨rfl,rfl⟩)
  clear c0
  have K:=K.nrow (e:=2) (size:=1) (n:=0) (v := .slice none 0 0) (xs:=[]) (Below.refl _ _) ⟨rfl,.inl ⟨rfl,rfl⟩⟩
  go_loopw [14,69] (fun Z i wr => ∃ (j:Nat) (y:Option Addr) (cl:Nat),Z = .slice y j cl∧j≤m∧i = .int .i64 j∧HH w [] X wr [.row 2 1 (.slice y j cl) j ((bT bs d f j).2.2.map (Value.int .i64)),.box ge 44 #[.int .i64 (q+(u:Int)),.int .i64 (a+(t:Int)),.int .i64 (s:Int),.string (eN []),.int .i64 0,.int .i64 0,.int .i64 0],.box gk 252 #[.slice A n n,.int .i64 (bT bs d f j).1,.int .i64 (bT bs d f j).2.1],.box (w.heap.size+1) 44 #[.int .i64 0,.int .i64 0,.int .i64 0,.string ⟨#[]⟩,.int .i64 0,.int .i64 0,.int .i64 0],.box w.heap.size 34 #[.int .i64 q,.int .i64 a,.slice H nn G]] [Sl.fact af H nn G ns]) (fun _ i _=>m-(intOf i).toNat)
  case atStart=>exact⟨0,none,0,rfl,Nat.zero_le _,rfl,K⟩
  case round=>
   obtain⟨j,y,cl,rfl,hj,rfl,K⟩:=hrel
   by_cases R:j<m
   ·obtain⟨⟨S,y6,v6⟩,z⟩:∃ r,dw bs (bT bs d f j).1 (bT bs d f j).2.1 2147483647=r:=⟨_,rfl⟩
    have F:=Lib.hid (show bT bs d f (j+1)=(S,y6,(bT bs d f j).2.2 ++ [(v6:Int)]) from by rw[bT,z])
    have x:=Lib.hid z
    clear z
    generalize k:bT bs d f j=st at K x F
    clear k
    obtain⟨M,C,sl⟩:=st
    simp only at K x F
    go_wp2_with (first | refine K.ld 2 rfl ?_)
    with_reducible refine(lS A n n M C bs _ _ (N.out.below (K.below.mono hB)) (Nat.le_trans hB K.out.size) (Nat.le_refl _) (by omega) hn 2147483647 (by omega) 2147483647 rfl).mono ?_
    rw[x.out]
    rintro e w7 ⟨rfl,b⟩
    have K:=K.on b
    clear b
    go_upto_region 16 with(refine K.lw fun W K=>?_;refine K.sr 2 rfl fun W K=>?_)
    go_wp2_with (at_builtin;refine K.lw fun W K=>?_;refine K.ap1 8 0 rfl (by omega) fun v' U K=>?_)
    obtain⟨D,E,rfl,-⟩:=aE (K.row 0 rfl)
    go_roundw
    case rel=>exact⟨j+1,D,E,rfl,by omega,by go_num,by rw[F.out];simp only[List.map_append,List.map_cons,List.map_nil];exact K⟩
    case measure=>simp[intOf];omega
   ·obtain rfl:m=j:=by omega
    generalize k:bT bs d f m=st at K g
    clear k
    obtain⟨M,C,sl⟩:=st
    simp only at K g
    have Y:=Lib.hid (show(C == 0)=r.2 from by rw[g.out];rfl)
    have o:=Lib.hid (show kX ⟨q+(u:Int),a+(t:Int),(s:Int),(eN []),0,0,0⟩ sl=r.1 from by rw[g.out])
    have K:=K.mv 3 rfl
    go_upto_region 18 with(fail)
    refine K.rgt (fun V h=>h.tl) fun W K=>?_
    refine tL 0 (fun _ h=>h.at_ 1 rfl) K.tl ?_ (hy:=fun w T=>aD T)
    refine tK 1 K.tl ?_
    refine tK 3 K.tl ?_
    refine tL 4 (fun _ h=>h.r 2 rfl) K.tl ?_
    refine tK 5 K.tl ?_
    refine tC 2 fun K' hK=>?_
    go_simp
    obtain⟨ae,ad,P,-,-,-,p⟩:=iY (K.row 1 rfl)
    injection P with e4 e5 Q
    subst e4 Q
    refine(uP ⟨q+(u:Int),a+(t:Int),(s:Int),(eN []),0,0,0⟩ _ m _ _ sl _ p (Nat.le_refl _) J).mono ?_
    rw[o.out]
    rintro e w9 ⟨rfl,b⟩
    have K:=K.on b
    refine hK.out _ _ K.tl fun _=>?_
    clear hK K' b p e5 o g
    try simp only[Act.put,aq,aj,ai]
    obtain⟨⟨rq,ra,rk,ab,rx,ry,rz⟩,rb⟩:=r
    refine tSt 6 K 0 rfl (fun U h=>h.tl) fun U K=>?_
    refine tK 7 K.tl ?_
    refine tE ?_
    go_wp2
    exact K.rc2 0 rfl rfl ⟨by rw[←Y.out];rfl,K.below⟩
end
section
open Go.RowKit
abbrev ev0:Evt:=⟨0,0,0,⟨#[]⟩,0,0,0⟩
def hJ (c:Cx) (bs:List UInt8):Evt×Cx×Int:=
 if aJ c=false then(ev0,c,1) else if(dX c bs).2=false then(ev0,c,11)
 else if ei c (dX c bs).1≠0∨aN c (dX c bs).1≠bs then(ev0,c,11) else((dX c bs).1,bR c (dX c bs).1,0)
theorem Ce (e:Evt) (l:List Int):(kX e l).cm=e.cm:=rfl
theorem Ae (c:Cx) (bs:List UInt8) (b:bs.length≤maxLen) (a:∀ s ∈ c.ns,s.length≤maxLen):(dX c bs).1.cm.size≤maxLen:=by
 unfold dX
 simp only[Ce]
 show(_:List UInt8).length≤maxLen
 split
 ·unfold kS
  split
  ·exact Nat.zero_le _
  ·split
   ·exact Nat.zero_le _
   ·split
    ·exact Nat.zero_le _
    ·simp only[List.length_take,List.length_drop];omega
 ·cases h:c.ns[(dw bs _ _ 32).2.2-1]? with
  | none=>exact Nat.zero_le _
  | some s=>exact a s (List.mem_of_getElem? h)
def qS (r:Evt×Cx×Int) (cells:Array Value) (X:List Nat) (w:World) (e:Ending) (w':World):Prop:=
 Below w.heap.size w w'∧((r.2.2≠0∧e = .returned (.tuple #[.agg (evA ev0),.agg cells,.int .i64 r.2.2])) ∨
  (r.2.2=0 ∧ ∃ A2 n2 c2,e = .returned (.tuple #[.agg (evA r.1),.agg #[.int .i64 r.1.q,.int .i64 r.1.a,.slice A2 n2 c2],.int .i64 0])∧Sl af w' X A2 n2 c2 r.2.1.ns))
theorem HH.rcD {P:Program} {h W:World} {M X:List Nat} {L:List Itm} {F:List Fact} {fn:Func} {R:Ending→World→Prop} {a:Act} {g g':Nat} {p p' q:Tmp} {t ty t' ty':TypeId} {cs cs':Array Value} (K:HH h M X W L F) (i j:Nat) (f:L[i]?=some (.box g t cs)) (k:L[j]?=some (.box g' t' cs')) (c:fn.results=#[.cell p ty,.cell p' ty',.tmp q]) (hR:R (.returned (.tuple #[.agg cs,.agg cs',a.tmps.getD q undef])) W)
 (d:a.tmps.getD p undef = .pointer (some ⟨g,0,none⟩):=by rfl) (hp2:a.tmps.getD p' undef = .pointer (some ⟨g',0,none⟩):=by rfl) (hT:nk P ty cs.size=true:=by kernel_rfl) (hT2:nk P ty' cs'.size=true:=by kernel_rfl) (hd:a.defers = []:=by rfl):bodyPost P fn R .ret a W:=by
 have b:a.tmps[p]?.getD undef = .pointer (some ⟨g,0,none⟩):=by simpa using d
 have e:a.tmps[p']?.getD undef = .pointer (some ⟨g',0,none⟩):=by simpa using hp2
 exact⟨hd,.tuple #[.agg cs,.agg cs',a.tmps.getD q undef],by simp[results,c,b,e,asAddr,fS K i f hT,fS K j k hT2],hR⟩
set_option maxHeartbeats 8000000 in
theorem zM (q a:Int) (ns:List (List UInt8)) (l:Option Addr) (nn j:Nat) (A:Option Addr) (n c:Nat) (bs:List UInt8) (X:List Nat) (w:World) (hX:XOk X w) (o:Sl af w X l nn j ns) (B:Nat) (u:Reads w B 1 A n (byteCells bs)) (hB:B≤w.heap.size) (F:n≤c) (L:c≤9223372036854775807) (m:nn≤1000) (hn:n≤10000):
 Calls Tryz.prog 179 #[.agg #[.int .i64 q,.int .i64 a,.slice l nn j],.slice A n c] w (qS (hJ ⟨q,a,ns⟩ bs) #[.int .i64 q,.int .i64 a,.slice l nn j] X w):=by
 have t:=Lib.hid (Ae ⟨q,a,ns⟩ bs (by have k:bs.length=n:=u.lenB;unfold maxLen;omega) (fun s R=>by have k:=o.names.2 (eN s) (List.mem_map_of_mem R);simpa [eN,ByteArray.size] using k))
 have b:Hid (hJ ⟨q,a,ns⟩ bs=if aJ ⟨q,a,ns⟩=false then(ev0,⟨q,a,ns⟩,1) else if(dX ⟨q,a,ns⟩ bs).2=false then(ev0,⟨q,a,ns⟩,11) else if ei ⟨q,a,ns⟩ (dX ⟨q,a,ns⟩ bs).1≠0∨aN ⟨q,a,ns⟩ (dX ⟨q,a,ns⟩ bs).1≠bs then(ev0,⟨q,a,ns⟩,11) else((dX ⟨q,a,ns⟩ bs).1,bR ⟨q,a,ns⟩ (dX ⟨q,a,ns⟩ bs).1,0)):=rfl
 unfold qS
 generalize hJ ⟨q,a,ns⟩ bs=r at b ⊢
 have x:=Lib.hid (show aJ ⟨q,a,ns⟩=true→(0≤q∧q≤4294967296∧0≤a∧a≤1099511627776) from fun h=>by
  unfold aJ at h
  simp only[Bool.and_eq_true,decide_eq_true_iff]at h
  exact⟨h.1.1.1.1,h.1.1.1.2,h.1.1.2,h.1.2⟩)
 have H:=fun(A:Option Addr) (n c:Nat) (X:List Nat) (W:World) (h:Sl af W X A n c ns) (hn:n≤1000)=>Lib.hid (jT q a ns A n c X W h hn)
 have i:=fun(X:List Nat) (W:World) (hX:XOk X W) (o:Sl af W X l nn j ns) (u:Reads W B 1 A n (byteCells bs)) (hB:B≤W.heap.size) (k:0≤q) (h2:q≤4294967296) (h3:0≤a) (h4:a≤1099511627776)=>Lib.hid (EC q a ns l nn j A n c bs X W hX o B u hB F L m hn k h2 h3 h4)
 have f:=fun(X:List Nat) (W:World) (hX:XOk X W) (o:Sl af W X l nn j ns)=>Lib.hid (rZ q a ns l nn j (dX ⟨q,a,ns⟩ bs).1 X W hX o m t.out)
 generalize aJ ⟨q,a,ns⟩=rc at b H x
 generalize dX ⟨q,a,ns⟩ bs=rd at b i f
 obtain⟨⟨eq,ea,ek,Z,ex,ey,ez⟩,ok⟩:=rd
 have G:Hid (∀ v,(bR ⟨q,a,ns⟩ v).q=v.q∧(bR ⟨q,a,ns⟩ v).a=v.a):=fun v=>⟨rfl,rfl⟩
 unfold oh at f
 generalize ei ⟨q,a,ns⟩ _=S at b f
 generalize aN ⟨q,a,ns⟩ _=eb at b f
 generalize bR ⟨q,a,ns⟩ _=nx at b f
 clear t G
 simp only at b i f
 have y:=Lib.hid u
 go_enter Tryz.func179,Tryz.ntmps179
 go_upto_region 1 with(fail)
 refine(hstart hX).cw fun W K=>?_
 have K:=K.ksl0 o
 clear o u
 go_wp2_with (first | refine K.ld 2 rfl ?_)
 refine((H l nn j _ _ (K.sl 0 rfl) m).out).mono ?_
 rintro e w1 ⟨rfl,d⟩
 have K:=K.on d
 clear d H
 cases rc
 ·rw[if_pos rfl]at b
  go_upto_region 2 with(fail)
  refine K.rgt (fun V h=>h.tl.tl) fun W K=>?_
  refine tK 0 K.tl.tl ?_
  refine tL 1 (fun _ h=>h.at_ 0 rfl) K.tl.tl ?_ (hy:=fun w g=>aD g)
  refine tSt 2 K 1 rfl (fun U h=>h.tl.tl) fun U K=>?_
  refine tSt 3 K 0 rfl (fun U h=>h.tl.tl) fun U K=>?_
  refine tK 4 K.tl.tl ?_
  refine tE ?_
  go_wp2
  exact K.rcD 1 0 rfl rfl rfl ⟨K.below,.inl ⟨by rw[b.out];simp,by rw[b.out];rfl⟩⟩
 rw[if_neg (by simp)]at b
 obtain⟨E,D,J,I⟩:=x.out rfl
 go_wp2_with (first | refine K.ld 2 rfl ?_)
 refine((i _ _ K.xok (K.sl 0 rfl) (y.out.below (K.below.mono hB)) (Nat.le_trans hB K.out.size) E D J I).out).mono ?_
 rintro e w2 ⟨rfl,d⟩
 have K:=K.on d
 clear d i
 go_upto_region 4 with(refine K.lw fun W K=>?_;refine K.sr 0 rfl fun W K=>?_)
 cases ok
 ·rw[if_pos rfl]at b
  have K:=(K.mv 2 rfl).mv 2 rfl
  go_upto_region 5 with(fail)
  refine K.rgt (fun V h=>h.tl.tl) fun W K=>?_
  refine tK 0 K.tl.tl ?_
  refine tL 1 (fun _ h=>h.at_ 1 rfl) K.tl.tl ?_ (hy:=fun w g=>aD g)
  refine tSt 2 K 1 rfl (fun U h=>h.tl.tl) fun U K=>?_
  refine tSt 3 K 0 rfl (fun U h=>h.tl.tl) fun U K=>?_
  refine tK 4 K.tl.tl ?_
  refine tE ?_
  go_wp2
  exact K.rcD 1 0 rfl rfl rfl ⟨K.below,.inl ⟨by rw[b.out];simp,by rw[b.out];rfl⟩⟩
 rw[if_neg (by simp)]at b
 go_wp2_with (first | refine K.ld 3 rfl ?_ | refine K.ld 0 rfl ?_)
 refine((f _ _ K.xok (K.sl 0 rfl)).out).mono ?_
 rintro e w4 ⟨d,k | k⟩
 ·obtain⟨C,rfl⟩:=k
  rw[if_pos (.inl C)]at b
  have K:=K.on d
  clear d
  have b1:(S != 0)=true:=by rw[bne_iff_ne];exact C
  clear C
  go_upto_region 7 with(refine K.lw fun W K=>?_;refine K.sr 0 rfl fun W K=>?_)
  have K:=(K.mv 3 rfl).mv 3 rfl
  go_upto_region 8 with(fail)
  refine K.rgt (fun V h=>h.tl.tl) fun W K=>?_
  refine tK 0 K.tl.tl ?_
  refine tL 1 (fun _ h=>h.at_ 2 rfl) K.tl.tl ?_ (hy:=fun w g=>aD g)
  refine tSt 2 K 1 rfl (fun U h=>h.tl.tl) fun U K=>?_
  refine tSt 3 K 0 rfl (fun U h=>h.tl.tl) fun U K=>?_
  refine tK 4 K.tl.tl ?_
  refine tE ?_
  go_wp2
  exact K.rcD 1 0 rfl rfl rfl ⟨K.below,.inl ⟨by rw[b.out];simp,by rw[b.out];rfl⟩⟩
 obtain⟨C,P,O,Q,N,T,M,rfl,z,p⟩:=k
 have K:=((K.on d).ksl z).ksl p
 subst C
 clear z p d
 go_upto_region 7 with(refine K.lw fun W K=>?_;refine K.sr 0 rfl fun W K=>?_)
 go_wp2_with fail
 refine(nZ P A O Q n c _ _ eb bs _ (K.sl 1 rfl).bytes (y.out.below (K.below.mono hB))).mono ?_
 rintro e Y ⟨rfl,rfl⟩
 have K:=(K.mv 3 rfl).mv 3 rfl
 by_cases d:eb=bs
 ·rw[if_neg (by simp[d])]at b
  rw[show(eb == bs)=true from by rw[beq_iff_eq];exact d]
  clear d
  go_upto_region 9 with(fail)
  refine K.rgt (fun V h=>h.tl.tl) fun W K=>?_
  refine tL 0 (fun _ h=>h.at_ 1 rfl) K.tl.tl ?_ (hy:=fun w g=>aD g)
  refine tL 1 (fun _ h=>h.at_ 0 rfl) K.tl.tl ?_ (hy:=fun w g=>aD g)
  refine tSt 2 K 1 rfl (fun U h=>h.tl.tl) fun U K=>?_
  refine tSt 3 K 0 rfl (fun U h=>h.tl.tl) fun U K=>?_
  refine tK 4 K.tl.tl ?_
  refine tE ?_
  go_wp2
  exact K.rcD 1 0 rfl rfl rfl ⟨K.below,.inr ⟨by rw[b.out],N,T,M,by rw[b.out];rfl,by rw[b.out];exact K.slb 0 rfl⟩⟩
 ·rw[if_pos (.inr d)]at b
  rw[show(eb == bs)=false from by rw[beq_eq_false_iff_ne];exact d]
  clear d
  go_upto_region 8 with(fail)
  refine K.rgt (fun V h=>h.tl.tl) fun W K=>?_
  refine tK 0 K.tl.tl ?_
  refine tL 1 (fun _ h=>h.at_ 2 rfl) K.tl.tl ?_ (hy:=fun w g=>aD g)
  refine tSt 2 K 1 rfl (fun U h=>h.tl.tl) fun U K=>?_
  refine tSt 3 K 0 rfl (fun U h=>h.tl.tl) fun U K=>?_
  refine tK 4 K.tl.tl ?_
  refine tE ?_
  go_wp2
  exact K.rcD 1 0 rfl rfl rfl ⟨K.below,.inl ⟨by rw[b.out];simp,by rw[b.out];rfl⟩⟩
end
section
open Go.RowKit
structure Scn where
 num:Int
 bq:Int
 ba:Int
 evs:List Evt
 c:Cx
 size:Int
 sealed:Bool
abbrev aT (s:Scn) (ve:Value) (An:Option Addr) (nn cn:Nat):Array Value:=#[.int .i64 s.num,.int .i64 s.bq,.int .i64 s.ba,.slice none 0 0,ve,.int .i64 s.c.q,.int .i64 s.c.a,.slice An nn cn,.int .i64 0,.int .i64 s.size,.bool s.sealed]
def dF (what:Int) (sealed:Bool):Int:=if what=1 then(if sealed then 4 else 1) else if what=2∧sealed=false then 2 else 3
set_option maxHeartbeats 2000000 in
theorem Bu (what:Int) (a:Bool) (g:Nat) (w:World) (f:w.cell? ⟨g,10,none⟩=some (.bool a)):Calls Tryz.prog 52 #[.pointer (some ⟨g,0,none⟩),.int .i64 what] w fun e w'=>e = .returned (.int .i64 (dF what a))∧w=w':=by
 by_cases c:what=1
 ·subst c
  cases a <;>
  (go_enter Tryz.func52,Tryz.ntmps52
   go_wp2
   go_ret
   exact⟨rfl,rfl⟩)
 have j:(what == 1)=false:=by rw[beq_eq_false_iff_ne];exact c
 by_cases b:what=2
 ·subst b
  cases a <;>
  (go_enter Tryz.func52,Tryz.ntmps52
   go_wp2
   go_ret
   exact⟨rfl,rfl⟩)
 have i:(what == 2)=false:=by rw[beq_eq_false_iff_ne];exact b
 have d:=Lib.hid (show dF what a=3 from by unfold dF;rw[if_neg c,if_neg (fun h=>b h.1)])
 clear c b
 go_enter Tryz.func52,Tryz.ntmps52
 go_wp2
 go_ret
 exact⟨dV (by rw[d.out]),rfl⟩
theorem nC (A g:Option Addr) (n c m j B l:Nat) (bs ps:List UInt8) (w:World) (d:Reads w B 1 A n (byteCells bs)) (a:Reads w l 1 g m (byteCells ps)) (o:n≤c) (q:c≤9223372036854775807):
 Calls Tryz.prog 227 #[.slice A n c,.slice g m j] w fun e w'=>e = .returned (.bool (ps.isPrefixOf bs))∧w=w':=by
 have i:=d.lenB
 have f:=a.lenB
 by_cases p:m≤n
 ·have k:=Lib.hid (nZ A g m c m j B l (bs.take m) ps w (d.preB p) a)
  have b:=Lib.hid (show(bs.take m == ps)=ps.isPrefixOf bs from by
   rw[Bool.eq_iff_iff,beq_iff_eq,List.isPrefixOf_iff_prefix,List.prefix_iff_eq_take,f]
   exact⟨fun h=>h.symm,fun h=>h.symm⟩)
  generalize ps.isPrefixOf bs=r at b ⊢
  rw[b.out]at k
  clear i f b d a
  go_enter Tryz.func227,Tryz.ntmps227
  go_wp2_with (go_at_call 113;refine(k.out).mono ?_;rintro e w' ⟨rfl,rfl⟩)
  go_ret
  exact⟨rfl,rfl⟩
 ·have b:=Lib.hid (show ps.isPrefixOf bs=false from by
   cases h:ps.isPrefixOf bs with
   | false=>rfl
   | true=>
     have s:=List.IsPrefix.length_le (List.isPrefixOf_iff_prefix.1 h)
     omega)
  clear i f d a
  go_enter Tryz.func227,Tryz.ntmps227
  go_wp2
  go_ret
  exact⟨bF (by rw[b.out]),rfl⟩
theorem rP (A f:Option Addr) (n c m h B k:Nat) (bs ps:List UInt8) (w:World) (i:Reads w B 1 A n (byteCells bs)) (a:Reads w k 1 f m (byteCells ps)) (b:n≤c) (d:c≤9223372036854775807) (g:ps.isPrefixOf bs=false):
 Calls Tryz.prog 175 #[.slice A n c,.slice f m h] w fun e w'=>e = .returned (.tuple #[.slice A n c,.bool false])∧w=w':=by
 have j:=Lib.hid (nC A f n c m h B k bs ps w i a b d)
 rw[g]at j
 clear i a g
 go_enter Tryz.func175,Tryz.ntmps175
 go_wp2_with (go_at_call 227;refine(j.out).mono ?_;rintro e w' ⟨rfl,rfl⟩)
 go_ret2
 exact⟨rfl,rfl⟩
theorem pY (ad:Addr) (o:Option Addr) (n c m q B r:Nat) (bs ps:List UInt8) (w:World) (g:Reads w B 1 (some ad) n (byteCells bs)) (a:Reads w r 1 o m (byteCells ps)) (d:n≤c) (j:c≤9223372036854775807) (k:ps.isPrefixOf bs=true):
 Calls Tryz.prog 175 #[.slice (some ad) n c,.slice o m q] w fun e w'=>(∃ A' c',e = .returned (.tuple #[.slice A' (n-m) c',.bool true])∧Reads w B 1 A' (n-m) (byteCells (bs.drop m))∧n-m≤c'∧c'≤9223372036854775807)∧w=w':=by
 have l:m≤n:=by
  have u:=List.IsPrefix.length_le (List.isPrefixOf_iff_prefix.1 k)
  have v:=g.lenB
  have x:=a.lenB
  omega
 have f:=Lib.hid (g.sufB l d)
 have p:=Lib.hid (nC (some ad) o n c m q B r bs ps w g a d j)
 rw[k]at p
 clear g a k
 by_cases i:c=m
 ·subst i
  have b:=Lib.hid (show Reads w B 1 (some ad) (n-c) (byteCells (bs.drop c)) from by have:=f.out;rwa [if_pos rfl]at this)
  clear f
  go_enter Tryz.func175,Tryz.ntmps175
  go_wp2_with (go_at_call 227;refine(p.out).mono ?_;rintro e w' ⟨rfl,rfl⟩)
  go_ret2
  exact⟨⟨some ad,c-c,by first | rfl | (simp;omega),b.out,by omega,by omega⟩,rfl⟩
 ·have b:=Lib.hid (show Reads w B 1 (some (ad.add m)) (n-m) (byteCells (bs.drop m)) from by have:=f.out;rwa [if_neg i]at this)
  have s:¬ m=c:=fun h=>i h.symm
  have t:m<c:=by omega
  clear f
  go_enter Tryz.func175,Tryz.ntmps175
  go_wp2_with (go_at_call 227;refine(p.out).mono ?_;rintro e w' ⟨rfl,rfl⟩)
  go_ret2
  exact⟨⟨_,_,rfl,b.out,by omega,by omega⟩,rfl⟩
def three (bs:List UInt8):(Int×Int×Nat)×(Int×Int×Nat)×(Int×Int×Nat):=
 let r1:=cq bs 0 0
 let r2:=cq bs r1.1 r1.2.1
 (r1,r2,cq bs r2.1 r2.2.1)
def gN (s:Scn) (p:List UInt8):Option Scn:=
 if aW.isPrefixOf p then
  let t:=three (p.drop 4)
  let b:Cx:=⟨wrap64 (t.2.1.2.2:Int),wrap64 (t.2.2.2.2:Int),[]⟩
  if t.2.2.2.1≠0∨t.2.2.1<((p.drop 4).length:Int)∨eZ (wrap64 (t.1.2.2:Int))=false∨aJ b=false then none
  else some { s with num:=wrap64 (t.1.2.2:Int),bq:=b.q,ba:=b.a,c:=b }
 else none
end
section
open Go.RowKit
set_option maxHeartbeats 8000000 in
theorem EW (s:Scn) (v:Value) (z:Option Addr) (nn y g:Nat) (A:Option Addr) (n c B:Nat) (p:List UInt8) (X:List Nat) (w:World) (hX:XOk X w) (hG:qt w X [.box g 115 (aT s v z nn y)]) (hr:Reads w B 1 A n (byteCells p)) (hB:B≤w.heap.size) (hBg:B≤g) (dt:n≤c) (dy:c≤9223372036854775807) (hn:n≤200):
 Calls Tryz.prog 111 #[.pointer (some ⟨g,0,none⟩),.slice A n c] w fun e w'=>
  (gN s p=none∧e = .returned (.bool false)∧zn [g] w w'∧Blk w' g 115 (aT s v z nn y)) ∨
  (∃ s',gN s p=some s'∧e = .returned (.bool true)∧zn [g] w w'∧Blk w' g 115 (aT s' v none 0 0)):=by
 have HR:=Lib.hid hr
 have dl:=Lib.hid hr.lenB
 have dc:=Lib.hid (show ∀ b,aW.isPrefixOf p=b→gN s p=if b=true then(if(three (p.drop 4)).2.2.2.1≠0∨(three (p.drop 4)).2.2.1<((p.drop 4).length:Int)∨eZ (wrap64 ((three (p.drop 4)).1.2.2:Int))=false∨aJ ⟨wrap64 ((three (p.drop 4)).2.1.2.2:Int),wrap64 ((three (p.drop 4)).2.2.2.2:Int),[]⟩=false then none
  else some { s with num:=wrap64 ((three (p.drop 4)).1.2.2:Int),bq:=wrap64 ((three (p.drop 4)).2.1.2.2:Int),ba:=wrap64 ((three (p.drop 4)).2.2.2.2:Int),c:=⟨wrap64 ((three (p.drop 4)).2.1.2.2:Int),wrap64 ((three (p.drop 4)).2.2.2.2:Int),[]⟩ }) else none from fun b h=>by unfold gN;simp only[h])
 clear hr
 have ds:Hid (an w (Exs [.box g 115 (aT s v z nn y)]) X w [.box (g) 115 (aT s v z nn y)] []):=(an.startG hX hG)
 clear hG
 have kc:=Lib.run_convert_bytes_const (P:=Tryz.prog) w 50 5 #[.int .u8 102,.int .u8 98,.int .u8 120,.int .u8 49] 4 4 Tryz.underlying50 Tryz.underlying5
 go_enter Tryz.func111,Tryz.ntmps111
 go_wp2_with fail
 clear kc
 have J:Hid (an w (Exs [.box g 115 (aT s v z nn y)]) X (w.alloc (.cells #[.int .u8 102,.int .u8 98,.int .u8 120,.int .u8 49] 5 (4,5))) [.box (g) 115 (aT s v z nn y)] [Sl.fact au (some ⟨w.heap.size,0,none⟩) 4 4 aW]):=ds.out.marked #[.int .u8 102,.int .u8 98,.int .u8 120,.int .u8 49] 5 (4,5) aW rfl (by unfold maxLen;decide)
 clear ds
 have da:=Lib.hid (show ∀ g' ∈ Exs [.box g 115 (aT s v z nn y)],B≤g' from by intro g' h;obtain⟨x,hx,e⟩:=bI.1 h;rw[List.mem_singleton]at hx;subst hx;injection e with e;omega)
 have dg:=Lib.hid (J.out.belowB hB da.out)
 cases hp:aW.isPrefixOf p
 ·skip
  have i:=Lib.hid (dc.out _ hp)
  clear dc
  with_reducible refine(rP A (some ⟨w.heap.size,0,none⟩) n c 4 4 _ _ p aW _ (HR.out.below dg.out) (J.out.sl 0 rfl).bytes dt dy hp).mono ?_
  rintro e w' ⟨rfl,rfl⟩
  clear hp
  go_wp2
  go_ret
  exact .inl ⟨i.out,rfl,J.out.only,J.out.blk 0 rfl⟩
 have i:=Lib.hid (dc.out _ hp)
 clear dc
 have ee:4≤n:=by have h1:=List.IsPrefix.length_le (List.isPrefixOf_iff_prefix.1 hp);have h2:=dl.out;simp[aW]at h1;omega
 obtain⟨ad,rfl,-,-⟩:=HR.out.2 (by omega)
 with_reducible refine(pY ad (some ⟨w.heap.size,0,none⟩) n c 4 4 _ _ p aW _ (HR.out.below dg.out) (J.out.sl 0 rfl).bytes dt dy hp).mono ?_
 rintro e w' ⟨⟨t,c1,rfl,dk,eb,eg⟩,rfl⟩
 clear hp dg
 generalize w.alloc (.cells #[.int .u8 102,.int .u8 98,.int .u8 120,.int .u8 49] 5 (4,5))=w1 at J dk ⊢
 have db:Hid (Reads w B 1 t (n-4) (byteCells (p.drop 4))):=dk.keep (fun q hq=>((J.out.belowB hB da.out).cell hq).symm)
 clear dk
 have hm:n-4≤200:=by omega
 have HP:Hid (three (p.drop 4)=(cq (p.drop 4) 0 0,cq (p.drop 4) (cq (p.drop 4) 0 0).1 (cq (p.drop 4) 0 0).2.1,cq (p.drop 4) (cq (p.drop 4) (cq (p.drop 4) 0 0).1 (cq (p.drop 4) 0 0).2.1).1 (cq (p.drop 4) (cq (p.drop 4) 0 0).1 (cq (p.drop 4) 0 0).2.1).2.1)):=rfl
 have df:=Lib.hid (show(p.drop 4).length=n-4 from by rw[List.length_drop,dl.out])
 rw[HP.out]at i
 clear HP
 generalize p.drop 4=r at i db df
 generalize n-4=m at db df eb hm ⊢
 clear HR dl
 obtain⟨⟨x1,y1,v1⟩,h1⟩:∃ u,cq r 0 0=u:=⟨_,rfl⟩
 rw[h1]at i
 simp only at i
 obtain⟨⟨x2,y2,Q⟩,h2⟩:∃ u,cq r x1 y1=u:=⟨_,rfl⟩
 rw[h2]at i
 simp only at i
 obtain⟨⟨O,y3,M⟩,h3⟩:∃ u,cq r x2 y2=u:=⟨_,rfl⟩
 rw[h3]at i
 simp only at i
 have HU:=Lib.hid (iq r x2 y2 O M)
 rw[h3]at HU
 rw[df.out]at HU i
 have H1:=Lib.hid h1
 have H2:=Lib.hid h2
 have H3:=Lib.hid h3
 clear h1 h2 h3
 rw[if_pos trivial]at i
 go_wp2_with fail
 with_reducible refine(wW t m c1 _ eb).mono ?_
 rintro e w2 ⟨rfl,L⟩
 have dd:Hid (an w (Exs [.box g 115 (aT s v z nn y)]) X w2 [.box (g) 115 (aT s v z nn y)] [Sl.fact au (some ⟨w.heap.size,0,none⟩) 4 4 aW]):=(J.out.on L)
 clear J
 clear L
 go_wp2_with fail
 with_reducible refine(jg t m m 0 0 r _ _ (db.out.below (dd.out.belowB hB da.out)) (Nat.le_trans hB dd.out.size) (Nat.le_refl _) (by omega) (by omega)).mono ?_
 rw[H1.out]
 rintro e w3 ⟨rfl,L⟩
 have dv:Hid (an w (Exs [.box g 115 (aT s v z nn y)]) X w3 [.box (g) 115 (aT s v z nn y)] [Sl.fact au (some ⟨w.heap.size,0,none⟩) 4 4 aW]):=(dd.out.on L)
 clear dd
 clear L
 have H:Hid (an w (Exs [.box g 115 (aT s v z nn y)]) X (w3.alloc (.cells #[.slice t m m,.int .i64 x1,.int .i64 y1] 252)) [.box (w3.heap.size) 252 #[.slice t m m,.int .i64 x1,.int .i64 y1],.box (g) 115 (aT s v z nn y)] [Sl.fact au (some ⟨w.heap.size,0,none⟩) 4 4 aW]):=dv.out.alloc_at 252 #[.slice t m m,.int .i64 x1,.int .i64 y1] (w3.heap.size) (by simp)
 clear dv
 go_upto_region 5 with(fail)
 generalize w3.alloc (.cells #[.slice t m m,.int .i64 x1,.int .i64 y1] 252)=w4 at H ⊢
 generalize w3.heap.size=j at H ⊢
 have cs:w4.cell? ⟨j,0,none⟩=some (.slice t m m):=H.out.cell 0 rfl 0
 have cz:w4.frozen? ⟨j,0,none⟩=false:=H.out.frozen 0 rfl 0
 have cw:w4.cell? ⟨j,1,none⟩=some (.int .i64 x1):=H.out.cell 0 rfl 1
 have cv:w4.frozen? ⟨j,1,none⟩=false:=H.out.frozen 0 rfl 1
 have ck:w4.cell? ⟨j,2,none⟩=some (.int .i64 y1):=H.out.cell 0 rfl 2
 have bn:w4.frozen? ⟨j,2,none⟩=false:=H.out.frozen 0 rfl 2
 go_wp2_with fail
 with_reducible refine(jg t m m x1 y1 r _ _ (db.out.below (H.out.belowB hB da.out)) (Nat.le_trans hB H.out.size) (Nat.le_refl _) (by omega) (by omega)).mono ?_
 rw[H2.out]
 rintro e w5 ⟨rfl,L⟩
 clear cs cz cw cv ck bn
 have G:Hid (an w (Exs [.box g 115 (aT s v z nn y)]) X w5 [.box (j) 252 #[.slice t m m,.int .i64 x1,.int .i64 y1],.box (g) 115 (aT s v z nn y)] [Sl.fact au (some ⟨w.heap.size,0,none⟩) 4 4 aW]):=(H.out.on L)
 clear H
 clear L
 have bb:w5.cell? ⟨j,0,none⟩=some (.slice t m m):=G.out.cell 0 rfl 0
 have co:w5.frozen? ⟨j,0,none⟩=false:=G.out.frozen 0 rfl 0
 have al:w5.cell? ⟨j,1,none⟩=some (.int .i64 x1):=G.out.cell 0 rfl 1
 have bh:w5.frozen? ⟨j,1,none⟩=false:=G.out.frozen 0 rfl 1
 have ch:w5.cell? ⟨j,2,none⟩=some (.int .i64 y1):=G.out.cell 0 rfl 2
 have ci:w5.frozen? ⟨j,2,none⟩=false:=G.out.frozen 0 rfl 2
 go_upto_region 6 with(fail)
 clear bb co al bh ch ci
 have o:Hid (an w (Exs [.box g 115 (aT s v z nn y)]) X (((w5.setCell ⟨j,0,none⟩ (.slice t m m)).setCell ⟨j,1,none⟩ (.int .i64 x2)).setCell ⟨j,2,none⟩ (.int .i64 y2)) [.box (j) 252 #[.slice t m m,.int .i64 x2,.int .i64 y2],.box (g) 115 (aT s v z nn y)] [Sl.fact au (some ⟨w.heap.size,0,none⟩) 4 4 aW]):=(((G.out.set_ 0 rfl 0 (.slice t m m)).set_ 0 rfl 1 (.int .i64 x2)).set_ 0 rfl 2 (.int .i64 y2))
 clear G
 generalize ((w5.setCell ⟨j,0,none⟩ (.slice t m m)).setCell ⟨j,1,none⟩ (.int .i64 x2)).setCell ⟨j,2,none⟩ (.int .i64 y2)=w6 at o ⊢
 have bs:w6.cell? ⟨j,0,none⟩=some (.slice t m m):=o.out.cell 0 rfl 0
 have bx:w6.frozen? ⟨j,0,none⟩=false:=o.out.frozen 0 rfl 0
 have br:w6.cell? ⟨j,1,none⟩=some (.int .i64 x2):=o.out.cell 0 rfl 1
 have bo:w6.frozen? ⟨j,1,none⟩=false:=o.out.frozen 0 rfl 1
 have bv:w6.cell? ⟨j,2,none⟩=some (.int .i64 y2):=o.out.cell 0 rfl 2
 have bj:w6.frozen? ⟨j,2,none⟩=false:=o.out.frozen 0 rfl 2
 go_wp2_with fail
 with_reducible refine(jg t m m x2 y2 r _ _ (db.out.below (o.out.belowB hB da.out)) (Nat.le_trans hB o.out.size) (Nat.le_refl _) (by omega) (by omega)).mono ?_
 rw[H3.out]
 rintro e w7 ⟨rfl,L⟩
 clear bs bx br bo bv bj
 have F:Hid (an w (Exs [.box g 115 (aT s v z nn y)]) X w7 [.box (j) 252 #[.slice t m m,.int .i64 x2,.int .i64 y2],.box (g) 115 (aT s v z nn y)] [Sl.fact au (some ⟨w.heap.size,0,none⟩) 4 4 aW]):=(o.out.on L)
 clear o
 clear L
 have ao:w7.cell? ⟨j,0,none⟩=some (.slice t m m):=F.out.cell 0 rfl 0
 have cr:w7.frozen? ⟨j,0,none⟩=false:=F.out.frozen 0 rfl 0
 have bt:w7.cell? ⟨j,1,none⟩=some (.int .i64 x2):=F.out.cell 0 rfl 1
 have cc:w7.frozen? ⟨j,1,none⟩=false:=F.out.frozen 0 rfl 1
 have cg:w7.cell? ⟨j,2,none⟩=some (.int .i64 y2):=F.out.cell 0 rfl 2
 have cd:w7.frozen? ⟨j,2,none⟩=false:=F.out.frozen 0 rfl 2
 go_upto_region 7 with(fail)
 clear ao cr bt cc cg cd
 have ct:Hid (an w (Exs [.box g 115 (aT s v z nn y)]) X (((w7.setCell ⟨j,0,none⟩ (.slice t m m)).setCell ⟨j,1,none⟩ (.int .i64 O)).setCell ⟨j,2,none⟩ (.int .i64 y3)) [.box (j) 252 #[.slice t m m,.int .i64 O,.int .i64 y3],.box (g) 115 (aT s v z nn y)] [Sl.fact au (some ⟨w.heap.size,0,none⟩) 4 4 aW]):=(((F.out.set_ 0 rfl 0 (.slice t m m)).set_ 0 rfl 1 (.int .i64 O)).set_ 0 rfl 2 (.int .i64 y3))
 clear F
 generalize ((w7.setCell ⟨j,0,none⟩ (.slice t m m)).setCell ⟨j,1,none⟩ (.int .i64 O)).setCell ⟨j,2,none⟩ (.int .i64 y3)=w8 at ct ⊢
 have k:Hid (an w (Exs [.box g 115 (aT s v z nn y)]) X (w8.alloc (.cells #[.int .i64 (wrap64 (Q:Int)),.int .i64 (wrap64 (M:Int)),.slice none 0 0] 34)) [.box (w8.heap.size) 34 #[.int .i64 (wrap64 (Q:Int)),.int .i64 (wrap64 (M:Int)),.slice none 0 0],.box (j) 252 #[.slice t m m,.int .i64 O,.int .i64 y3],.box (g) 115 (aT s v z nn y)] [Sl.fact au (some ⟨w.heap.size,0,none⟩) 4 4 aW]):=ct.out.alloc_at 34 #[.int .i64 (wrap64 (Q:Int)),.int .i64 (wrap64 (M:Int)),.slice none 0 0] (w8.heap.size) (by simp)
 clear ct
 go_upto_region 8 with(fail)
 generalize w8.alloc (.cells #[.int .i64 (wrap64 (Q:Int)),.int .i64 (wrap64 (M:Int)),.slice none 0 0] 34)=w9 at k ⊢
 generalize w8.heap.size=T at k ⊢
 have HN:=fun W=>Lib.hid (lI (wrap64 (v1:Int)) W)
 have du:=fun(X:List Nat) (W:World)=>Lib.hid (jT (wrap64 (Q:Int)) (wrap64 (M:Int)) [] none 0 0 X W Sl.nil_ (by omega))
 generalize eZ _=nb at HN i
 generalize aJ _=rc at du i
 by_cases hy:y3=0
 rotate_left
 ·skip
  rw[if_pos (.inl hy)]at i
  have b1:(y3 != 0)=true:=by rw[bne_iff_ne];exact hy
  clear hy
  have C:w9.cell? ⟨j,0,none⟩=some (.slice t m m):=k.out.cell 1 rfl 0
  have D:w9.cell? ⟨j,1,none⟩=some (.int .i64 O):=k.out.cell 1 rfl 1
  have E:w9.cell? ⟨j,2,none⟩=some (.int .i64 y3):=k.out.cell 1 rfl 2
  go_wp2
  clear C D E
  go_ret
  exact .inl ⟨i.out,rfl,k.out.only,k.out.blk 2 rfl⟩
 subst hy
 obtain⟨-,ed,ec,-,-⟩:=HU.out rfl
 clear HU
 have C:w9.cell? ⟨j,0,none⟩=some (.slice t m m):=k.out.cell 1 rfl 0
 have D:w9.cell? ⟨j,1,none⟩=some (.int .i64 O):=k.out.cell 1 rfl 1
 have E:w9.cell? ⟨j,2,none⟩=some (.int .i64 0):=k.out.cell 1 rfl 2
 go_wp2_with fail
 with_reducible refine(iQ t m m O _ ed ec (by omega)).mono ?_
 rintro e R ⟨rfl,L⟩
 clear C D E
 have l:Hid (an w (Exs [.box g 115 (aT s v z nn y)]) X R [.box (T) 34 #[.int .i64 (wrap64 (Q:Int)),.int .i64 (wrap64 (M:Int)),.slice none 0 0],.box (j) 252 #[.slice t m m,.int .i64 O,.int .i64 0],.box (g) 115 (aT s v z nn y)] [Sl.fact au (some ⟨w.heap.size,0,none⟩) 4 4 aW]):=(k.out.on L)
 clear k
 clear L
 by_cases hx:O<(m:Int)
 ·skip
  rw[if_pos (.inr (.inl hx))]at i
  have b1:decide (0<(m:Int)-O)=true:=by simp;omega
  have bc:R.cell? ⟨j,0,none⟩=some (.slice t m m):=l.out.cell 1 rfl 0
  have cp:R.cell? ⟨j,1,none⟩=some (.int .i64 O):=l.out.cell 1 rfl 1
  have cb:R.cell? ⟨j,2,none⟩=some (.int .i64 0):=l.out.cell 1 rfl 2
  go_wp2
  clear bc cp cb
  go_ret
  exact .inl ⟨i.out,rfl,l.out.only,l.out.blk 2 rfl⟩
 have b1:decide (0<(m:Int)-O)=false:=by simp;omega
 cases nb
 ·skip
  rw[if_pos (.inr (.inr (.inl rfl)))]at i
  go_wp2_with (go_at_call 53;refine((HN _).out).mono ?_;rintro e w' ⟨rfl,rfl⟩)
  go_ret
  exact .inl ⟨i.out,rfl,l.out.only,l.out.blk 2 rfl⟩
 have ac:R.cell? ⟨T,0,none⟩=some (.int .i64 (wrap64 (Q:Int))):=l.out.cell 0 rfl 0
 have bz:R.cell? ⟨T,1,none⟩=some (.int .i64 (wrap64 (M:Int))):=l.out.cell 0 rfl 1
 have ab:R.cell? ⟨T,2,none⟩=some (.slice none 0 0):=l.out.cell 0 rfl 2
 go_wp2_with (first | (go_at_call 53;refine((HN _).out).mono ?_;rintro e w' ⟨rfl,rfl⟩) | fail)
 with_reducible refine((du [] _).out).mono ?_
 rintro e de ⟨rfl,L⟩
 clear ac bz ab
 have N:Hid (an w (Exs [.box g 115 (aT s v z nn y)]) X de [.box (T) 34 #[.int .i64 (wrap64 (Q:Int)),.int .i64 (wrap64 (M:Int)),.slice none 0 0],.box (j) 252 #[.slice t m m,.int .i64 O,.int .i64 0],.box (g) 115 (aT s v z nn y)] [Sl.fact au (some ⟨w.heap.size,0,none⟩) 4 4 aW]):=(l.out.on L)
 clear l
 clear L
 cases rc
 ·skip
  rw[if_pos (.inr (.inr (.inr rfl)))]at i
  go_wp2
  go_ret
  exact .inl ⟨i.out,rfl,N.out.only,N.out.blk 2 rfl⟩
 rw[if_neg (by simpa using hx)]at i
 go_wp2_with fail
 refine wp_region_noPanic ?_
 refine wp_region_held_drew (S:=fun W'=>Blk W' (T) 34 #[.int .i64 (wrap64 (Q:Int)),.int .i64 (wrap64 (M:Int)),.slice none 0 0]) (by kernel_rfl) (N.out.blk 0 rfl).drew (fun f=>?_)
 have d:Hid (an w (Exs [.box g 115 (aT s v z nn y)]) X de.drew [.box (T) 34 #[.int .i64 (wrap64 (Q:Int)),.int .i64 (wrap64 (M:Int)),.slice none 0 0],.box (j) 252 #[.slice t m m,.int .i64 O,.int .i64 0],.box (g) 115 (aT s v z nn y)] [Sl.fact au (some ⟨w.heap.size,0,none⟩) 4 4 aW]):=N.out.drew
 clear N
 generalize de.drew=wd at f d ⊢
 have cf:wd.cell? ⟨g,0,none⟩=some (.int .i64 s.num):=d.out.cell 2 rfl 0
 have ar:wd.frozen? ⟨g,0,none⟩=false:=d.out.frozen 2 rfl 0
 have cl:wd.cell? ⟨g,1,none⟩=some (.int .i64 s.bq):=d.out.cell 2 rfl 1
 have bl:wd.frozen? ⟨g,1,none⟩=false:=d.out.frozen 2 rfl 1
 have Z:wd.cell? ⟨g,2,none⟩=some (.int .i64 s.ba):=d.out.cell 2 rfl 2
 have aw:wd.frozen? ⟨g,2,none⟩=false:=d.out.frozen 2 rfl 2
 have ce:wd.cell? ⟨g,3,none⟩=some (.slice none 0 0):=d.out.cell 2 rfl 3
 have ap:wd.frozen? ⟨g,3,none⟩=false:=d.out.frozen 2 rfl 3
 have ca:wd.cell? ⟨g,4,none⟩=some (v):=d.out.cell 2 rfl 4
 have ag:wd.frozen? ⟨g,4,none⟩=false:=d.out.frozen 2 rfl 4
 have ae:wd.cell? ⟨g,5,none⟩=some (.int .i64 s.c.q):=d.out.cell 2 rfl 5
 have cm:wd.frozen? ⟨g,5,none⟩=false:=d.out.frozen 2 rfl 5
 have bd:wd.cell? ⟨g,6,none⟩=some (.int .i64 s.c.a):=d.out.cell 2 rfl 6
 have Y:wd.frozen? ⟨g,6,none⟩=false:=d.out.frozen 2 rfl 6
 have bm:wd.cell? ⟨g,7,none⟩=some (.slice z nn y):=d.out.cell 2 rfl 7
 have am:wd.frozen? ⟨g,7,none⟩=false:=d.out.frozen 2 rfl 7
 have bp:wd.cell? ⟨g,8,none⟩=some (.int .i64 0):=d.out.cell 2 rfl 8
 have bk:wd.frozen? ⟨g,8,none⟩=false:=d.out.frozen 2 rfl 8
 have be:wd.cell? ⟨g,9,none⟩=some (.int .i64 s.size):=d.out.cell 2 rfl 9
 have bi:wd.frozen? ⟨g,9,none⟩=false:=d.out.frozen 2 rfl 9
 have U:wd.cell? ⟨g,10,none⟩=some (.bool s.sealed):=d.out.cell 2 rfl 10
 have V:wd.frozen? ⟨g,10,none⟩=false:=d.out.frozen 2 rfl 10
 have dq:¬ (g=T):=d.out.ne 2 0 (by decide) rfl rfl
 have dm:¬ (T=g):=d.out.ne 0 2 (by decide) rfl rfl
 refine tS 0 f ?_
 refine tS 1 f ?_
 refine tS 2 f ?_
 refine tS 3 f ?_
 refine tS 4 f ?_
 refine tS 5 f ?_ (hy:=by(intro W I;(try dsimp only at I);have q0:W.cell? ⟨T,0,none⟩=some (.int .i64 (wrap64 (Q:Int))):=I.cell 0;have q1:W.cell? ⟨T,1,none⟩=some (.int .i64 (wrap64 (M:Int))):=I.cell 1;have q2:W.cell? ⟨T,2,none⟩=some (.slice none 0 0):=I.cell 2;go_simp;try with_reducible rfl))
 refine tS 6 f ?_ (hy:=by(intro W I;(try dsimp only at I);have q0:W.cell? ⟨T,0,none⟩=some (.int .i64 (wrap64 (Q:Int))):=I.cell 0;have q1:W.cell? ⟨T,1,none⟩=some (.int .i64 (wrap64 (M:Int))):=I.cell 1;have q2:W.cell? ⟨T,2,none⟩=some (.slice none 0 0):=I.cell 2;go_simp;try with_reducible rfl))
 refine tS 7 f ?_
 refine tS 8 f ?_
 refine tS 9 f ?_
 refine wpAnyH_ready (rs:=[10]) (by kernel_rfl) (by simp) ?_
 refine AllReadyH.cons rfl (fun K hK=>?_) AllReadyH.nil
 go_simp
 refine hK.out _ _ (f.far (p:=⟨g,0,none⟩) (d.out.ne 0 2 (by decide) rfl rfl) ((.int .i64 (IntKind.i64.wrap (v1:Int))))) (fun f=>?_)
 clear hK K
 try simp only[Act.put,sI,sZ,sS]
 refine tS 11 f ?_
 refine tS 12 f ?_
 refine tS 13 f ?_
 refine wpAnyH_ready (rs:=[14]) (by kernel_rfl) (by simp) ?_
 refine AllReadyH.cons rfl (fun K hK=>?_) AllReadyH.nil
 go_simp
 refine hK.out _ _ (((f.far (p:=⟨g,1,none⟩) (d.out.ne 0 2 (by decide) rfl rfl) (.int .i64 (wrap64 (Q:Int)))).far (p:=⟨g,2,none⟩) (d.out.ne 0 2 (by decide) rfl rfl) (.int .i64 (wrap64 (M:Int)))).far (p:=⟨g,3,none⟩) (d.out.ne 0 2 (by decide) rfl rfl) (.slice none 0 0)) (fun f=>?_)
 clear hK K
 try simp only[Act.put,sI,sZ,sS]
 refine tS 15 f ?_
 refine tS 16 f ?_
 refine tS 17 f ?_
 refine wpAnyH_ready (rs:=[18]) (by kernel_rfl) (by simp) ?_
 refine AllReadyH.cons rfl (fun K hK=>?_) AllReadyH.nil
 go_simp
 refine hK.out _ _ (((f.far (p:=⟨g,5,none⟩) (d.out.ne 0 2 (by decide) rfl rfl) (.int .i64 (wrap64 (Q:Int)))).far (p:=⟨g,6,none⟩) (d.out.ne 0 2 (by decide) rfl rfl) (.int .i64 (wrap64 (M:Int)))).far (p:=⟨g,7,none⟩) (d.out.ne 0 2 (by decide) rfl rfl) (.slice none 0 0)) (fun f=>?_)
 clear hK K
 try simp only[Act.put,sI,sZ,sS]
 refine wpAnyH_done (by kernel_rfl) ?_ _
 refine NoPanic.normal ?_
 clear cf ar cl bl Z aw ce ap ca ag ae cm bd Y bm am bp bk be bi U V dq dm
 have dp:=Lib.hid (((((((d.out.set_ 2 rfl 0 ((.int .i64 (IntKind.i64.wrap (v1:Int))))).set_ 2 rfl 1 (.int .i64 (wrap64 (Q:Int)))).set_ 2 rfl 2 (.int .i64 (wrap64 (M:Int)))).set_ 2 rfl 3 (.slice none 0 0)).set_ 2 rfl 5 (.int .i64 (wrap64 (Q:Int)))).set_ 2 rfl 6 (.int .i64 (wrap64 (M:Int)))).set_ 2 rfl 7 (.slice none 0 0))
 have ea:IntKind.i64.wrap (v1:Int)=wrap64 (v1:Int):=by unfold wrap64;exact IntKind.wrap_i64 _
 rw[ea]at dp ⊢
 clear ea
 go_wp2
 go_ret
 exact .inr ⟨_,i.out,rfl,dp.out.only,dp.out.blk 2 rfl⟩
end
section
open Go.RowKit
theorem oK {c:Cx} {bs:List UInt8} (h:(hJ c bs).2.2=0):(hJ c bs).2.1.q=(hJ c bs).1.q∧(hJ c bs).2.1.a=(hJ c bs).1.a∧aJ c=true∧ei c (hJ c bs).1=0∧aN c (hJ c bs).1=bs∧(hJ c bs).2.1=bR c (hJ c bs).1:=by
 unfold hJ at h ⊢
 by_cases d:aJ c=false
 ·rw[if_pos d]at h;cases h
 rw[if_neg d]at h ⊢
 by_cases e:(dX c bs).2=false
 ·rw[if_pos e]at h;cases h
 rw[if_neg e]at h ⊢
 by_cases b:ei c (dX c bs).1≠0∨aN c (dX c bs).1≠bs
 ·rw[if_pos b]at h;cases h
 rw[if_neg b]
 exact⟨rfl,rfl,by simpa using d,Classical.not_not.1 (fun h=>b (.inl h)),Classical.not_not.1 (fun h=>b (.inr h)),rfl⟩
section
variable {P:Program} {w0 W:World} {M X0:List Nat} {L:List Itm} {F:List Fact}
theorem nN {ops:Array Oper} {o:Oper} {a:Act} {K:Act→World→Prop} {Q:Exit→Act→World→Prop} {E:Prop} (g:an w0 M X0 W L F) (k:Nat) (b:o.guard=none) (s x:Operand) (t:TypeId)
 (A:o.op = .call { callee := .builtin .append,args:=#[s,x],argTypes:=#[t,t] }) {e:TypeId} {size bytes:Nat} (hT:BR P t e size bytes)
 {v:Value} {n:Nat} {xs:List Value} (hk:L[k]?=some (.row e size v n xs)) (hs:a.eval s=v)
 {cs:Array Value} (hx:a.eval x = .slice (some ⟨W.heap.size,0,none⟩) 1 1) (hcs:cs.size=size) (h1:∀ u ∈ cs.toList,u.oneCell'=true)
 (h63:n+1≤maxLen) (hbytes:(n+1)*bytes≤140737488355328)
 (h:∀ v' w',an w0 M X0 w' (L.set k (.row e size v' (n+1) (xs++cs.toList))) F→K (a.put o.dst v') w'):if Region.wanted o (yielded ops a.tmps)=true then Oper.wp P o a (W.alloc (.cells cs e)) K Q else E:=by
 obtain⟨y,i,z,w,q,hsize,f,d,c⟩:=hT
 refine nS _ b s x t A 0 e i z size bytes y w q hsize f d c v n xs hs ((g.alloc_off _).ent k hk) (W.heap.size+1) _ 1 1 cs.toList hx ?_ h1 h63 hbytes (Nat.zero_le _) (fun v' w' r l m=>h v' w' ((g.alloc_off _).appended k hk r l m))
 refine⟨by simp[hcs],fun _=>⟨_,rfl,Nat.lt_succ_self _,fun j u p=>?_⟩⟩
 rw[add_plain,Nat.zero_add,(Blk.new W e cs).cell j]
 simpa using p
theorem wV {L:List Itm} {x x' y y':Itm} {X:List Nat} (i j:Nat) (g:L[i]?=some x') (d:L[j]?=some y') (f:x.blk=x'.blk:=by rfl) (hy:y.blk=y'.blk:=by rfl):∀ b ∈ Exs [x,y]++X,b ∈ Exs L++X:=by
 intro b a
 rcases List.mem_append.1 a with a | a
 ·obtain⟨z,c,e⟩:=bI.1 a
  rcases List.mem_cons.1 c with rfl | c
  ·exact List.mem_append_left _ (bI.2 ⟨x',List.mem_of_getElem? g,f ▸ e⟩)
  ·rw[List.mem_singleton]at c
   subst c
   exact List.mem_append_left _ (bI.2 ⟨y',List.mem_of_getElem? d,hy ▸ e⟩)
 ·exact List.mem_append_right _ a
theorem uw {base:Nat} {e:TypeId} {size n:Nat} {v:Value} {xs:List Value} (h:W.ownsRow base e size v n xs):∃ A c,v = .slice A n c:=by
 rcases h.2 with⟨a,b⟩ | ⟨g,cap,cur,a,_⟩
 ·exact⟨none,0,by rw[a,b]⟩
 ·exact⟨_,cap,a⟩
theorem an.row_near {g:Nat} {t:TypeId} {cs cs':Array Value} {e:TypeId} {size n n':Nat} {v v':Value} {xs xs':List Value} (h:an w0 (Exs [.box g t cs,.row e size v n xs]) X0 W L F) {i j:Nat} (d:i≠j) (l:L[i]?=some (.box g t cs')) (k:L[j]?=some (.row e size v' n' xs')):∀ b,v'.ownBlock=some b→v.ownBlock=some b∨w0.heap.size≤b:=fun b f=>by
 rcases((h.ents _ (List.mem_of_getElem? k)).2 b f).1 with c | c
 ·exact .inr c
 obtain⟨x,a,ex⟩:=bI.1 c
 rcases List.mem_cons.1 a with rfl | a
 ·exact absurd f (h.apart_ d l k b ex)
 ·rw[List.mem_singleton]at a
  subst a
  exact .inl ex
end
theorem nM {l:List (List UInt8)} (h:dn l=true):l.length≤32:=by
 unfold dn at h;rw[decide_eq_true_eq]at h;exact h.1
def rE (s:Scn) (p:List UInt8):Option Scn:=if(hJ s.c p).2.2=0 then some { s with evs:=s.evs ++ [(hJ s.c p).1],c:=(hJ s.c p).2.1 } else none
theorem FO:BR Tryz.prog 24 44 7 64:=Fy Tryz.underlying24 (z := .agg #[.int .i64 0,.int .i64 0,.int .i64 0,.string ⟨#[]⟩,.int .i64 0,.int .i64 0,.int .i64 0]) (by kernel_rfl) rfl (by omega)
abbrev cG (ve:Value) (evs:List Evt):Itm := .row 44 7 ve evs.length (aG evs)
def wT (r:Option Scn) (s:Scn) (ve:Value) (An:Option Addr) (nn cn g:Nat) (X:List Nat) (w:World) (e:Ending) (w':World):Prop:=
 zn (Exs [.box g 115 (aT s ve An nn cn),cG ve s.evs]) w w' ∧
 ((r=none∧e = .returned (.bool false)∧Blk w' g 115 (aT s ve An nn cn)∧(cG ve s.evs).ok w') ∨
  (∃ s' ve' A2 n2 c2,r=some s'∧e = .returned (.bool true)∧Blk w' g 115 (aT s' ve' A2 n2 c2)∧(cG ve' s'.evs).ok w'∧(∀ b,ve'.ownBlock=some b→ve.ownBlock=some b∨w.heap.size≤b)∧Sl af w' (Exs [.box g 115 (aT s' ve' A2 n2 c2),cG ve' s'.evs]++X) A2 n2 c2 s'.c.ns∧n2≤1000))
set_option maxHeartbeats 8000000 in
theorem Bq (s:Scn) (ve:Value) (t:Option Addr) (nn o g:Nat) (A:Option Addr) (n c B:Nat) (p:List UInt8) (X:List Nat) (w:World) (hX:XOk X w) (hG:qt w X [.box g 115 (aT s ve t nn o),cG ve s.evs]) (hs:Sl af w X t nn o s.c.ns) (fs:nn≤1000) (hr:Reads w B 1 A n (byteCells p)) (hB:B≤w.heap.size) (hBg:B≤g) (fg:∀ b,ve.ownBlock=some b→B≤b) (fp:n≤c) (ft:c≤9223372036854775807) (hn:n≤200) (fv:s.evs.length≤100000):
 Calls Tryz.prog 112 #[.pointer (some ⟨g,0,none⟩),.slice A n c] w (wT (rE s p) s ve t nn o g X w):=by
 have HR:=Lib.hid hr
 have HD:=fun(X:List Nat) (W:World) (hX:XOk X W) (hs:Sl af W X t nn o s.c.ns) (hr:Reads W B 1 A n (byteCells p)) (hB:B≤W.heap.size)=>Lib.hid (zM s.c.q s.c.a s.c.ns t nn o A n c p X W hX hs B hr hB fp ft fs (by omega))
 have HS:Hid (rE s p=if(hJ s.c p).2.2=0 then some { s with evs:=s.evs ++ [(hJ s.c p).1],c:=(hJ s.c p).2.1 } else none):=rfl
 have HC:=Lib.hid (@oK s.c p)
 rw[show(⟨s.c.q,s.c.a,s.c.ns⟩:Cx)=s.c from rfl]at HD
 unfold qS at HD
 generalize rE s p=r at HS ⊢
 generalize hd:hJ s.c p=d at HD HS HC
 clear hd hr
 have ez:Hid (an w (Exs [.box g 115 (aT s ve t nn o),cG ve s.evs]) X w [.box (g) 115 (aT s ve t nn o),.row 44 7 (ve) (s.evs.length) (aG s.evs)] []):=(an.startG hX hG)
 have u:Hid (an w (Exs [.box g 115 (aT s ve t nn o),cG ve s.evs]) X w [.box (g) 115 (aT s ve t nn o),.row 44 7 (ve) (s.evs.length) (aG s.evs)] [Sl.fact af t nn o s.c.ns]):=ez.out.know0 (Sl.fact af t nn o s.c.ns) hs
 clear ez
 clear hG hs
 have fn:=Lib.hid (show ∀ g' ∈ Exs [.box g 115 (aT s ve t nn o),cG ve s.evs],B≤g' from by
  intro g' h;obtain⟨x,hx,e⟩:=bI.1 h
  rcases List.mem_cons.1 hx with rfl | hx
  ·injection e with e;omega
  ·rw[List.mem_singleton]at hx;subst hx;exact fg g' e)
 have ae:w.cell? ⟨g,0,none⟩=some (.int .i64 s.num):=u.out.cell 0 rfl 0
 have T:w.cell? ⟨g,1,none⟩=some (.int .i64 s.bq):=u.out.cell 0 rfl 1
 have V:w.cell? ⟨g,2,none⟩=some (.int .i64 s.ba):=u.out.cell 0 rfl 2
 have ab:w.cell? ⟨g,3,none⟩=some (.slice none 0 0):=u.out.cell 0 rfl 3
 have ad:w.cell? ⟨g,4,none⟩=some (ve):=u.out.cell 0 rfl 4
 have ac:w.cell? ⟨g,5,none⟩=some (.int .i64 s.c.q):=u.out.cell 0 rfl 5
 have Z:w.cell? ⟨g,6,none⟩=some (.int .i64 s.c.a):=u.out.cell 0 rfl 6
 have M:w.cell? ⟨g,7,none⟩=some (.slice t nn o):=u.out.cell 0 rfl 7
 have I:w.cell? ⟨g,8,none⟩=some (.int .i64 0):=u.out.cell 0 rfl 8
 have J:w.cell? ⟨g,9,none⟩=some (.int .i64 s.size):=u.out.cell 0 rfl 9
 have H:w.cell? ⟨g,10,none⟩=some (.bool s.sealed):=u.out.cell 0 rfl 10
 go_enter Tryz.func112,Tryz.ntmps112
 go_wp2_with fail
 with_reducible refine((HD _ _ u.out.xok' (u.out.sl 0 rfl) (HR.out.below (u.out.belowB hB fn.out)) (Nat.le_trans hB u.out.size)).out).mono ?_
 rintro e w1 ⟨hb,h1 | h1⟩
 ·skip
  obtain⟨he,rfl⟩:=h1
  have b1:(d.2.2 != 0)=true:=by rw[bne_iff_ne];exact he
  rw[if_neg he]at HS
  clear he
  clear ae T V ab ad ac Z M I J H
  have U:Hid (an w (Exs [.box g 115 (aT s ve t nn o),cG ve s.evs]) X w1 [.box (g) 115 (aT s ve t nn o),.row 44 7 (ve) (s.evs.length) (aG s.evs)] [Sl.fact af t nn o s.c.ns]):=(u.out.on hb)
  clear u
  clear hb
  go_wp2
  have L:Hid (an w (Exs [.box g 115 (aT s ve t nn o),cG ve s.evs]) X (w1.alloc (.cells #[.int .i64 0,.int .i64 0,.int .i64 0,.string ⟨#[]⟩,.int .i64 0,.int .i64 0,.int .i64 0] 44)) [.box (w1.heap.size) 44 #[.int .i64 0,.int .i64 0,.int .i64 0,.string ⟨#[]⟩,.int .i64 0,.int .i64 0,.int .i64 0],.box (g) 115 (aT s ve t nn o),.row 44 7 (ve) (s.evs.length) (aG s.evs)] [Sl.fact af t nn o s.c.ns]):=U.out.alloc_at 44 #[.int .i64 0,.int .i64 0,.int .i64 0,.string ⟨#[]⟩,.int .i64 0,.int .i64 0,.int .i64 0] (w1.heap.size) (by simp)
  clear U
  generalize w1.alloc (.cells #[.int .i64 0,.int .i64 0,.int .i64 0,.string ⟨#[]⟩,.int .i64 0,.int .i64 0,.int .i64 0] 44)=w2 at L ⊢
  have v:Hid (an w (Exs [.box g 115 (aT s ve t nn o),cG ve s.evs]) X (w2.alloc (.cells #[.int .i64 s.c.q,.int .i64 s.c.a,.slice t nn o] 34)) [.box (w2.heap.size) 34 #[.int .i64 s.c.q,.int .i64 s.c.a,.slice t nn o],.box (w1.heap.size) 44 #[.int .i64 0,.int .i64 0,.int .i64 0,.string ⟨#[]⟩,.int .i64 0,.int .i64 0,.int .i64 0],.box (g) 115 (aT s ve t nn o),.row 44 7 (ve) (s.evs.length) (aG s.evs)] [Sl.fact af t nn o s.c.ns]):=L.out.alloc_at 34 #[.int .i64 s.c.q,.int .i64 s.c.a,.slice t nn o] (w2.heap.size) (by simp)
  clear L
  go_ret
  exact⟨v.out.only,.inl ⟨HS.out,rfl,v.out.blk 2 rfl,v.out.ent 3 rfl⟩⟩
 obtain⟨he,Q,O,P,rfl,ex⟩:=h1
 obtain⟨hq,ha,fk,fa,fl,fb⟩:=HC.out he
 have fr:O≤1000:=by have h1:=jz fa;rw[←fb]at h1;have h2:=nM (show dn d.2.1.ns=true from by unfold aJ at h1;simp only[Bool.and_eq_true]at h1;exact h1.2);have h3:=ex.len;omega
 obtain⟨d0,⟨C,D,Y⟩,er⟩:=d
 obtain⟨q,a,k,N,x,y,z⟩:=d0
 simp only at he hq ha ex HS
 subst he hq ha
 rw[if_pos rfl]at HS
 clear HC fk fa fl fb
 clear ae T V ab ad ac Z M I J H
 have U:Hid (an w (Exs [.box g 115 (aT s ve t nn o),cG ve s.evs]) X w1 [.box (g) 115 (aT s ve t nn o),.row 44 7 (ve) (s.evs.length) (aG s.evs)] [Sl.fact af Q O P Y,Sl.fact af t nn o s.c.ns]):=((u.out.on hb).know (Sl.fact af Q O P Y) ex)
 clear u
 clear hb
 go_upto_region 4 with(fail)
 have L:Hid (an w (Exs [.box g 115 (aT s ve t nn o),cG ve s.evs]) X (w1.alloc (.cells #[.int .i64 C,.int .i64 D,.int .i64 k,.string N,.int .i64 x,.int .i64 y,.int .i64 z] 44)) [.box (w1.heap.size) 44 #[.int .i64 C,.int .i64 D,.int .i64 k,.string N,.int .i64 x,.int .i64 y,.int .i64 z],.box (g) 115 (aT s ve t nn o),.row 44 7 (ve) (s.evs.length) (aG s.evs)] [Sl.fact af Q O P Y,Sl.fact af t nn o s.c.ns]):=U.out.alloc_at 44 #[.int .i64 C,.int .i64 D,.int .i64 k,.string N,.int .i64 x,.int .i64 y,.int .i64 z] (w1.heap.size) (by simp)
 clear U
 have v:Hid (an w (Exs [.box g 115 (aT s ve t nn o),cG ve s.evs]) X ((w1.alloc (.cells #[.int .i64 C,.int .i64 D,.int .i64 k,.string N,.int .i64 x,.int .i64 y,.int .i64 z] 44)).alloc (.cells #[.int .i64 C,.int .i64 D,.slice Q O P] 34)) [.box (w1.heap.size+1) 34 #[.int .i64 C,.int .i64 D,.slice Q O P],.box (w1.heap.size) 44 #[.int .i64 C,.int .i64 D,.int .i64 k,.string N,.int .i64 x,.int .i64 y,.int .i64 z],.box (g) 115 (aT s ve t nn o),.row 44 7 (ve) (s.evs.length) (aG s.evs)] [Sl.fact af Q O P Y,Sl.fact af t nn o s.c.ns]):=L.out.alloc_at 34 #[.int .i64 C,.int .i64 D,.slice Q O P] (w1.heap.size+1) (by simp)
 clear L
 generalize (w1.alloc (.cells #[.int .i64 C,.int .i64 D,.int .i64 k,.string N,.int .i64 x,.int .i64 y,.int .i64 z] 44)).alloc (.cells #[.int .i64 C,.int .i64 D,.slice Q O P] 34)=w3 at v ⊢
 generalize fi:w1.heap.size+1=gb at v ⊢
 clear fi
 generalize w1.heap.size=ge at v ⊢
 refine wp_region_noPanic ?_
 refine wp_region_held_drew (S:=fun W'=>Blk W' (ge) 44 #[.int .i64 C,.int .i64 D,.int .i64 k,.string N,.int .i64 x,.int .i64 y,.int .i64 z]) (by kernel_rfl) (v.out.blk 1 rfl).drew (fun hHeld=>?_)
 have m:Hid (an w (Exs [.box g 115 (aT s ve t nn o),cG ve s.evs]) X w3.drew [.box (gb) 34 #[.int .i64 C,.int .i64 D,.slice Q O P],.box (ge) 44 #[.int .i64 C,.int .i64 D,.int .i64 k,.string N,.int .i64 x,.int .i64 y,.int .i64 z],.box (g) 115 (aT s ve t nn o),.row 44 7 (ve) (s.evs.length) (aG s.evs)] [Sl.fact af Q O P Y,Sl.fact af t nn o s.c.ns]):=v.out.drew
 clear v
 generalize w3.drew=wd at hHeld m ⊢
 have bo:wd.cell? ⟨g,0,none⟩=some (.int .i64 s.num):=m.out.cell 2 rfl 0
 have cl:wd.frozen? ⟨g,0,none⟩=false:=m.out.frozen 2 rfl 0
 have bv:wd.cell? ⟨g,1,none⟩=some (.int .i64 s.bq):=m.out.cell 2 rfl 1
 have dp:wd.frozen? ⟨g,1,none⟩=false:=m.out.frozen 2 rfl 1
 have bx:wd.cell? ⟨g,2,none⟩=some (.int .i64 s.ba):=m.out.cell 2 rfl 2
 have ek:wd.frozen? ⟨g,2,none⟩=false:=m.out.frozen 2 rfl 2
 have bd:wd.cell? ⟨g,3,none⟩=some (.slice none 0 0):=m.out.cell 2 rfl 3
 have ci:wd.frozen? ⟨g,3,none⟩=false:=m.out.frozen 2 rfl 3
 have cp:wd.cell? ⟨g,4,none⟩=some (ve):=m.out.cell 2 rfl 4
 have bh:wd.frozen? ⟨g,4,none⟩=false:=m.out.frozen 2 rfl 4
 have cb:wd.cell? ⟨g,5,none⟩=some (.int .i64 s.c.q):=m.out.cell 2 rfl 5
 have eh:wd.frozen? ⟨g,5,none⟩=false:=m.out.frozen 2 rfl 5
 have de:wd.cell? ⟨g,6,none⟩=some (.int .i64 s.c.a):=m.out.cell 2 rfl 6
 have cd:wd.frozen? ⟨g,6,none⟩=false:=m.out.frozen 2 rfl 6
 have el:wd.cell? ⟨g,7,none⟩=some (.slice t nn o):=m.out.cell 2 rfl 7
 have dy:wd.frozen? ⟨g,7,none⟩=false:=m.out.frozen 2 rfl 7
 have df:wd.cell? ⟨g,8,none⟩=some (.int .i64 0):=m.out.cell 2 rfl 8
 have dk:wd.frozen? ⟨g,8,none⟩=false:=m.out.frozen 2 rfl 8
 have dt:wd.cell? ⟨g,9,none⟩=some (.int .i64 s.size):=m.out.cell 2 rfl 9
 have aw:wd.frozen? ⟨g,9,none⟩=false:=m.out.frozen 2 rfl 9
 have am:wd.cell? ⟨g,10,none⟩=some (.bool s.sealed):=m.out.cell 2 rfl 10
 have ag:wd.frozen? ⟨g,10,none⟩=false:=m.out.frozen 2 rfl 10
 have ev:¬ (g=ge):=m.out.ne 2 1 (by decide) rfl rfl
 have es:¬ (ge=g):=m.out.ne 1 2 (by decide) rfl rfl
 refine tS 0 hHeld ?_
 refine tS 1 hHeld ?_
 refine tS 2 hHeld ?_
 refine tS 3 hHeld ?_
 refine tS 4 hHeld ?_
 refine tS 6 hHeld ?_ (hy:=by(intro W R;(try dsimp only at R);have q0:W.cell? ⟨ge,0,none⟩=some (.int .i64 C):=R.cell 0;have C:W.cell? ⟨ge,1,none⟩=some (.int .i64 D):=R.cell 1;have q2:W.cell? ⟨ge,2,none⟩=some (.int .i64 k):=R.cell 2;have q3:W.cell? ⟨ge,3,none⟩=some (.string N):=R.cell 3;have q4:W.cell? ⟨ge,4,none⟩=some (.int .i64 x):=R.cell 4;have q5:W.cell? ⟨ge,5,none⟩=some (.int .i64 y):=R.cell 5;have q6:W.cell? ⟨ge,6,none⟩=some (.int .i64 z):=R.cell 6;go_simp;try with_reducible rfl))
 refine CK (G:=?G) ?main ?key
 case main=>
  intro hkey
  refine wpAnyH_ready (rs:=[5,7]) (by kernel_rfl) (by simp) ?_
  refine AllReadyH.cons rfl (fun K hK=>?_) (AllReadyH.cons rfl (fun K hK=>?_) AllReadyH.nil)
  ·go_simp
   refine hK.out _ _ hHeld (fun hHeld=>?_)
   clear hK K
   try simp only[Act.put,sI,sZ,sS]
   refine wpAnyH_ready (rs:=[7]) (by kernel_rfl) (by simp) ?_
   refine AllReadyH.cons rfl (fun K hK=>?_) AllReadyH.nil
   go_simp
   refine hK.out _ _ (hHeld.alloc (.cells #[.int .i64 C,.int .i64 D,.int .i64 k,.string N,.int .i64 x,.int .i64 y,.int .i64 z] 44)) (fun hHeld=>?_)
   clear hK K
   try simp only[Act.put,sI,sZ,sS]
   clear hHeld
   exact hkey.out
  ·go_simp
   refine hK.out _ _ (hHeld.alloc (.cells #[.int .i64 C,.int .i64 D,.int .i64 k,.string N,.int .i64 x,.int .i64 y,.int .i64 z] 44)) (fun hHeld=>?_)
   clear hK K
   try simp only[Act.put,sI,sZ,sS]
   have c8:(wd.alloc (.cells #[.int .i64 C,.int .i64 D,.int .i64 k,.string N,.int .i64 x,.int .i64 y,.int .i64 z] 44)).cell? ⟨g,4,none⟩=some ve:=(m.out.alloc_off (.cells #[.int .i64 C,.int .i64 D,.int .i64 k,.string N,.int .i64 x,.int .i64 y,.int .i64 z] 44)).cell 2 rfl 4
   refine wpAnyH_ready (rs:=[5]) (by kernel_rfl) (by simp) ?_
   refine AllReadyH.cons rfl (fun K hK=>?_) AllReadyH.nil
   go_simp
   refine hK.out _ _ hHeld (fun hHeld=>?_)
   clear hK K
   try simp only[Act.put,sI,sZ,sS]
   clear hHeld
   exact hkey.out
 case key=>
  clear bo cl bv dp bx ek bd ci cp bh cb eh de cd el dy df dk dt aw am ag ev es
  replace hHeld:=(hHeld.alloc (.cells #[.int .i64 C,.int .i64 D,.int .i64 k,.string N,.int .i64 x,.int .i64 y,.int .i64 z] 44))
  refine wpAnyH_ready (rs:=[8]) (by kernel_rfl) (by simp) ?_
  refine AllReadyH.cons rfl (fun K hK=>?_) AllReadyH.nil
  refine nN m.out 3 rfl (.tmp 26) (.tmp 28) 24 rfl FO rfl rfl rfl (cs:=#[.int .i64 C,.int .i64 D,.int .i64 k,.string N,.int .i64 x,.int .i64 y,.int .i64 z]) rfl (by simp[Value.oneCell']) (by unfold maxLen;omega) (by omega) ?_
  intro v2 F fd
  have l:Hid (an w (Exs [.box g 115 (aT s ve t nn o),cG ve s.evs]) X F [.box (gb) 34 #[.int .i64 C,.int .i64 D,.slice Q O P],.box (ge) 44 #[.int .i64 C,.int .i64 D,.int .i64 k,.string N,.int .i64 x,.int .i64 y,.int .i64 z],.box (g) 115 (aT s ve t nn o),.row 44 7 (v2) (s.evs.length+1) (aG s.evs++#[.int .i64 C,.int .i64 D,.int .i64 k,.string N,.int .i64 x,.int .i64 y,.int .i64 z].toList)] [Sl.fact af Q O P Y,Sl.fact af t nn o s.c.ns]):=fd
  clear m
  clear fd
  refine hK.out _ _ (l.out.blk 1 rfl) (fun hHeld=>?_)
  clear hK K
  try simp only[Act.put,sI,sZ,sS]
  refine tS 9 hHeld ?_
  refine tS 10 hHeld ?_
  refine tS 11 hHeld ?_
  obtain⟨Av,cv,rfl⟩:=uw (l.out.row 3 rfl)
  have bk:F.cell? ⟨g,0,none⟩=some (.int .i64 s.num):=l.out.cell 2 rfl 0
  have eg:F.frozen? ⟨g,0,none⟩=false:=l.out.frozen 2 rfl 0
  have bz:F.cell? ⟨g,1,none⟩=some (.int .i64 s.bq):=l.out.cell 2 rfl 1
  have eb:F.frozen? ⟨g,1,none⟩=false:=l.out.frozen 2 rfl 1
  have br:F.cell? ⟨g,2,none⟩=some (.int .i64 s.ba):=l.out.cell 2 rfl 2
  have ce:F.frozen? ⟨g,2,none⟩=false:=l.out.frozen 2 rfl 2
  have bp:F.cell? ⟨g,3,none⟩=some (.slice none 0 0):=l.out.cell 2 rfl 3
  have dl:F.frozen? ⟨g,3,none⟩=false:=l.out.frozen 2 rfl 3
  have dv:F.cell? ⟨g,4,none⟩=some (ve):=l.out.cell 2 rfl 4
  have bs:F.frozen? ⟨g,4,none⟩=false:=l.out.frozen 2 rfl 4
  have bc:F.cell? ⟨g,5,none⟩=some (.int .i64 s.c.q):=l.out.cell 2 rfl 5
  have du:F.frozen? ⟨g,5,none⟩=false:=l.out.frozen 2 rfl 5
  have bm:F.cell? ⟨g,6,none⟩=some (.int .i64 s.c.a):=l.out.cell 2 rfl 6
  have co:F.frozen? ⟨g,6,none⟩=false:=l.out.frozen 2 rfl 6
  have ec:F.cell? ⟨g,7,none⟩=some (.slice t nn o):=l.out.cell 2 rfl 7
  have dq:F.frozen? ⟨g,7,none⟩=false:=l.out.frozen 2 rfl 7
  have bn:F.cell? ⟨g,8,none⟩=some (.int .i64 0):=l.out.cell 2 rfl 8
  have cf:F.frozen? ⟨g,8,none⟩=false:=l.out.frozen 2 rfl 8
  have bt:F.cell? ⟨g,9,none⟩=some (.int .i64 s.size):=l.out.cell 2 rfl 9
  have cz:F.frozen? ⟨g,9,none⟩=false:=l.out.frozen 2 rfl 9
  have ar:F.cell? ⟨g,10,none⟩=some (.bool s.sealed):=l.out.cell 2 rfl 10
  have al:F.frozen? ⟨g,10,none⟩=false:=l.out.frozen 2 rfl 10
  have en:¬ (g=ge):=l.out.ne 2 1 (by decide) rfl rfl
  have ey:¬ (ge=g):=l.out.ne 1 2 (by decide) rfl rfl
  refine wpAnyH_ready (rs:=[12]) (by kernel_rfl) (by simp) ?_
  refine AllReadyH.cons rfl (fun K hK=>?_) AllReadyH.nil
  go_simp
  refine hK.out _ _ (hHeld.far (p:=⟨g,4,none⟩) (l.out.ne 1 2 (by decide) rfl rfl) (.slice Av (s.evs.length+1) cv)) (fun hHeld=>?_)
  clear hK K
  try simp only[Act.put,sI,sZ,sS]
  refine wpAnyH_done (by kernel_rfl) ?_ _
  refine NoPanic.normal ?_
  clear hHeld
  clear bk eg bz eb br ce bp dl dv bs bc du bm co ec dq bn cf bt cz ar al en ey
  have f:Hid (an w (Exs [.box g 115 (aT s ve t nn o),cG ve s.evs]) X (F.setCell ⟨g,4,none⟩ (.slice Av (s.evs.length+1) cv)) [.box (gb) 34 #[.int .i64 C,.int .i64 D,.slice Q O P],.box (ge) 44 #[.int .i64 C,.int .i64 D,.int .i64 k,.string N,.int .i64 x,.int .i64 y,.int .i64 z],.box (g) 115 #[.int .i64 s.num,.int .i64 s.bq,.int .i64 s.ba,.slice none 0 0,.slice Av (s.evs.length+1) cv,.int .i64 s.c.q,.int .i64 s.c.a,.slice t nn o,.int .i64 0,.int .i64 s.size,.bool s.sealed],.row 44 7 ((.slice Av (s.evs.length+1) cv)) (s.evs.length+1) (aG s.evs++#[.int .i64 C,.int .i64 D,.int .i64 k,.string N,.int .i64 x,.int .i64 y,.int .i64 z].toList)] [Sl.fact af Q O P Y,Sl.fact af t nn o s.c.ns]):=l.out.set_ 2 rfl 4 (.slice Av (s.evs.length+1) cv)
  clear l
  generalize F.setCell ⟨g,4,none⟩ (.slice Av (s.evs.length+1) cv)=E at f ⊢
  have dc:E.cell? ⟨gb,0,none⟩=some (.int .i64 C):=f.out.cell 0 rfl 0
  have ca:E.cell? ⟨gb,1,none⟩=some (.int .i64 D):=f.out.cell 0 rfl 1
  have ee:E.cell? ⟨gb,2,none⟩=some (.slice Q O P):=f.out.cell 0 rfl 2
  have bi:E.cell? ⟨g,0,none⟩=some (.int .i64 s.num):=f.out.cell 2 rfl 0
  have dg:E.frozen? ⟨g,0,none⟩=false:=f.out.frozen 2 rfl 0
  have dd:E.cell? ⟨g,1,none⟩=some (.int .i64 s.bq):=f.out.cell 2 rfl 1
  have ds:E.frozen? ⟨g,1,none⟩=false:=f.out.frozen 2 rfl 1
  have bb:E.cell? ⟨g,2,none⟩=some (.int .i64 s.ba):=f.out.cell 2 rfl 2
  have da:E.frozen? ⟨g,2,none⟩=false:=f.out.frozen 2 rfl 2
  have be:E.cell? ⟨g,3,none⟩=some (.slice none 0 0):=f.out.cell 2 rfl 3
  have bj:E.frozen? ⟨g,3,none⟩=false:=f.out.frozen 2 rfl 3
  have db:E.cell? ⟨g,4,none⟩=some (.slice Av (s.evs.length+1) cv):=f.out.cell 2 rfl 4
  have ck:E.frozen? ⟨g,4,none⟩=false:=f.out.frozen 2 rfl 4
  have dm:E.cell? ⟨g,5,none⟩=some (.int .i64 s.c.q):=f.out.cell 2 rfl 5
  have ed:E.frozen? ⟨g,5,none⟩=false:=f.out.frozen 2 rfl 5
  have cw:E.cell? ⟨g,6,none⟩=some (.int .i64 s.c.a):=f.out.cell 2 rfl 6
  have bl:E.frozen? ⟨g,6,none⟩=false:=f.out.frozen 2 rfl 6
  have cc:E.cell? ⟨g,7,none⟩=some (.slice t nn o):=f.out.cell 2 rfl 7
  have cr:E.frozen? ⟨g,7,none⟩=false:=f.out.frozen 2 rfl 7
  have cg:E.cell? ⟨g,8,none⟩=some (.int .i64 0):=f.out.cell 2 rfl 8
  have ct:E.frozen? ⟨g,8,none⟩=false:=f.out.frozen 2 rfl 8
  have ea:E.cell? ⟨g,9,none⟩=some (.int .i64 s.size):=f.out.cell 2 rfl 9
  have ch:E.frozen? ⟨g,9,none⟩=false:=f.out.frozen 2 rfl 9
  have ao:E.cell? ⟨g,10,none⟩=some (.bool s.sealed):=f.out.cell 2 rfl 10
  have ap:E.frozen? ⟨g,10,none⟩=false:=f.out.frozen 2 rfl 10
  have eq:¬ (g=gb):=f.out.ne 2 0 (by decide) rfl rfl
  have et:¬ (gb=g):=f.out.ne 0 2 (by decide) rfl rfl
  go_wp2
  clear dc ca ee bi dg dd ds bb da be bj db ck dm ed cw bl cc cr cg ct ea ch ao ap eq et
  have em:=Lib.hid (((f.out.set_ 2 rfl 5 (.int .i64 C)).set_ 2 rfl 6 (.int .i64 D)).set_ 2 rfl 7 (.slice Q O P))
  go_ret
  exact⟨em.out.only,.inr ⟨_,_,Q,O,P,HS.out,rfl,em.out.blk 2 rfl,by have h1:=em.out.ent 3 rfl;simpa [cG,oD,aG] using h1,em.out.row_near (i:=2) (j:=3) (by decide) rfl rfl,((Sl.fact af Q O P Y).more (em.out.fact 0 rfl) (fun b _=>wV 2 3 rfl rfl (by rfl) (by rfl) b)),fr⟩⟩
end
section
open Go.RowKit
theorem jh {w w':World} {p:Addr} {u:Value} (a:Below w.heap.size w w') (h:w.cell? p=some u):w'.cell? p=some u:=(a.cell (World.block_lt_of_cell? _ _ h)).trans h
def dx (s:Scn) (kind:Int) (p:List UInt8):Option Scn:=
 if s.sealed=true then none else if s.num=0 then(if kind=1 then gN s p else none)
 else if kind=2 then rE s p else if kind=3 then(if(p == aU (s.evs.length:Int) s.c.q s.c.a)=true then some { s with sealed:=true } else none) else none
theorem nB {s s':Scn} {p:List UInt8} (h:gN s p=some s'):s'.evs=s.evs∧s'.c.ns = []:=by
 unfold gN at h
 split at h
 ·simp only at h
  split at h
  ·cases h
  ·injection h with h;subst h;exact⟨rfl,rfl⟩
 ·cases h
set_option maxHeartbeats 8000000 in
theorem EY (s:Scn) (ve:Value) (G:Option Addr) (nn F g:Nat) (kind:Int) (A:Option Addr) (n c B:Nat) (p:List UInt8) (X:List Nat) (w:World) (hX:XOk X w) (hG:qt w X [.box g 115 (aT s ve G nn F),cG ve s.evs]) (hs:Sl af w X G nn F s.c.ns) (cr:nn≤1000) (hr:Reads w B 1 A n (byteCells p)) (hB:B≤w.heap.size) (hBg:B≤g) (cg:∀ b,ve.ownBlock=some b→B≤b) (cl:n≤c) (cs:c≤9223372036854775807) (hn:n≤200) (ch:s.evs.length≤100000) (cb:s.num≠0→aJ s.c=true):
 Calls Tryz.prog 51 #[.pointer (some ⟨g,0,none⟩),.int .i64 kind,.slice A n c] w (wT (dx s kind p) s ve G nn F g X w):=by
 have HR:=Lib.hid hr
 obtain⟨num,I,ba,evs,⟨q,a,ns⟩,size,Y⟩:=s
 simp only at hs ch cb
 obtain⟨m,o,rfl⟩:=uw (hG.ok (.row 44 7 ve evs.length (aG evs)) (by simp[cG])).1
 have N:=Lib.hid (Bq ⟨num,I,ba,evs,⟨q,a,ns⟩,size,Y⟩ (.slice m evs.length o) G nn F g A n c B p X w hX hG hs cr hr hB hBg cg cl cs hn ch)
 cases Y
 rotate_left
 ·skip
  clear N
  have Q:Hid (dx ⟨num,I,ba,evs,⟨q,a,ns⟩,size,true⟩ kind p=none):=by unfold Hid dx;rw[if_pos rfl]
  have J:Hid (an w (Exs [.box g 115 (aT ⟨num,I,ba,evs,⟨q,a,ns⟩,size,true⟩ (.slice m evs.length o) G nn F),cG (.slice m evs.length o) evs]) X w [.box (g) 115 (aT ⟨num,I,ba,evs,⟨q,a,ns⟩,size,true⟩ (.slice m evs.length o) G nn F),.row 44 7 ((.slice m evs.length o)) (evs.length) (aG evs)] []):=(an.startG hX hG)
  have d:Hid (an w (Exs [.box g 115 (aT ⟨num,I,ba,evs,⟨q,a,ns⟩,size,true⟩ (.slice m evs.length o) G nn F),cG (.slice m evs.length o) evs]) X w [.box (g) 115 (aT ⟨num,I,ba,evs,⟨q,a,ns⟩,size,true⟩ (.slice m evs.length o) G nn F),.row 44 7 ((.slice m evs.length o)) (evs.length) (aG evs)] [Sl.fact af G nn F ns]):=J.out.know0 (Sl.fact af G nn F ns) hs
  clear J
  have E:w.cell? ⟨g,0,none⟩=some (.int .i64 num):=d.out.cell 0 rfl 0
  have u:w.cell? ⟨g,1,none⟩=some (.int .i64 I):=d.out.cell 0 rfl 1
  have v:w.cell? ⟨g,2,none⟩=some (.int .i64 ba):=d.out.cell 0 rfl 2
  have z:w.cell? ⟨g,3,none⟩=some (.slice none 0 0):=d.out.cell 0 rfl 3
  have D:w.cell? ⟨g,4,none⟩=some (.slice m evs.length o):=d.out.cell 0 rfl 4
  have C:w.cell? ⟨g,5,none⟩=some (.int .i64 q):=d.out.cell 0 rfl 5
  have y:w.cell? ⟨g,6,none⟩=some (.int .i64 a):=d.out.cell 0 rfl 6
  have l:w.cell? ⟨g,7,none⟩=some (.slice G nn F):=d.out.cell 0 rfl 7
  have j:w.cell? ⟨g,8,none⟩=some (.int .i64 0):=d.out.cell 0 rfl 8
  have k:w.cell? ⟨g,9,none⟩=some (.int .i64 size):=d.out.cell 0 rfl 9
  have i:w.cell? ⟨g,10,none⟩=some (.bool true):=d.out.cell 0 rfl 10
  go_enter Tryz.func51,Tryz.ntmps51
  go_wp2
  clear E u v z D C y l j k i
  go_ret
  exact⟨d.out.only,.inl ⟨Q.out,rfl,d.out.blk 0 rfl,d.out.ent 1 rfl⟩⟩
 by_cases O:num=0
 ·skip
  clear N
  subst O
  by_cases hk:kind=1
  ·skip
   subst hk
   have Q:Hid (dx ⟨0,I,ba,evs,⟨q,a,ns⟩,size,false⟩ 1 p=gN ⟨0,I,ba,evs,⟨q,a,ns⟩,size,false⟩ p):=by unfold Hid dx;rw[if_neg (by simp),if_pos rfl,if_pos rfl]
   have J:Hid (an w (Exs [.box g 115 (aT ⟨0,I,ba,evs,⟨q,a,ns⟩,size,false⟩ (.slice m evs.length o) G nn F),cG (.slice m evs.length o) evs]) X w [.box (g) 115 (aT ⟨0,I,ba,evs,⟨q,a,ns⟩,size,false⟩ (.slice m evs.length o) G nn F),.row 44 7 ((.slice m evs.length o)) (evs.length) (aG evs)] []):=(an.startG hX hG)
   have d:Hid (an w (Exs [.box g 115 (aT ⟨0,I,ba,evs,⟨q,a,ns⟩,size,false⟩ (.slice m evs.length o) G nn F),cG (.slice m evs.length o) evs]) X w [.box (g) 115 (aT ⟨0,I,ba,evs,⟨q,a,ns⟩,size,false⟩ (.slice m evs.length o) G nn F),.row 44 7 ((.slice m evs.length o)) (evs.length) (aG evs)] [Sl.fact af G nn F ns]):=J.out.know0 (Sl.fact af G nn F ns) hs
   clear J
   have E:w.cell? ⟨g,0,none⟩=some (.int .i64 0):=d.out.cell 0 rfl 0
   have u:w.cell? ⟨g,1,none⟩=some (.int .i64 I):=d.out.cell 0 rfl 1
   have v:w.cell? ⟨g,2,none⟩=some (.int .i64 ba):=d.out.cell 0 rfl 2
   have z:w.cell? ⟨g,3,none⟩=some (.slice none 0 0):=d.out.cell 0 rfl 3
   have D:w.cell? ⟨g,4,none⟩=some (.slice m evs.length o):=d.out.cell 0 rfl 4
   have C:w.cell? ⟨g,5,none⟩=some (.int .i64 q):=d.out.cell 0 rfl 5
   have y:w.cell? ⟨g,6,none⟩=some (.int .i64 a):=d.out.cell 0 rfl 6
   have l:w.cell? ⟨g,7,none⟩=some (.slice G nn F):=d.out.cell 0 rfl 7
   have j:w.cell? ⟨g,8,none⟩=some (.int .i64 0):=d.out.cell 0 rfl 8
   have k:w.cell? ⟨g,9,none⟩=some (.int .i64 size):=d.out.cell 0 rfl 9
   have i:w.cell? ⟨g,10,none⟩=some (.bool false):=d.out.cell 0 rfl 10
   have cd:=Lib.hid (EW ⟨0,I,ba,evs,⟨q,a,ns⟩,size,false⟩ (.slice m evs.length o) G nn F g A n c B p _ w d.out.xok' (d.out.give1 0 rfl) hr hB hBg cl cs hn)
   have cc:=Lib.hid (fun s'=>@nB ⟨0,I,ba,evs,⟨q,a,ns⟩,size,false⟩ s' p)
   generalize gN _ p=r at Q cd cc
   go_enter Tryz.func51,Tryz.ntmps51
   go_wp2_with fail
   with_reducible refine(cd.out).mono ?_
   clear cd
   rintro e L (⟨rfl,rfl,ho,V⟩ | ⟨s',rfl,rfl,ho,V⟩)
   clear E u v z D C y l j k i
   ·skip
    clear cc
    have M:Hid (an w (Exs [.box g 115 (aT ⟨0,I,ba,evs,⟨q,a,ns⟩,size,false⟩ (.slice m evs.length o) G nn F),cG (.slice m evs.length o) evs]) X L [.box (g) 115 (aT ⟨0,I,ba,evs,⟨q,a,ns⟩,size,false⟩ (.slice m evs.length o) G nn F),.row 44 7 ((.slice m evs.length o)) (evs.length) (aG evs)] [Sl.fact af G nn F ns]):=d.out.wrote1 0 rfl ho V
    clear d
    go_wp2
    go_ret
    exact⟨M.out.only,.inl ⟨Q.out,rfl,M.out.blk 0 rfl,M.out.ent 1 rfl⟩⟩
   ·skip
    obtain⟨cw,P⟩:=cc.out _ rfl
    have ce:=Lib.hid (d.out.wrote1 0 rfl ho V)
    clear cc
    go_wp2
    go_ret
    exact⟨ce.out.only,.inr ⟨s',(.slice m evs.length o),none,0,0,Q.out,rfl,ce.out.blk 0 rfl,(show(cG (.slice m evs.length o) s'.evs).ok L from by rw[cw];exact ce.out.ent 1 rfl),fun b V=>.inl V,by rw[P];exact Sl.nil_,by omega⟩⟩
  ·skip
   have Q:Hid (dx ⟨0,I,ba,evs,⟨q,a,ns⟩,size,false⟩ kind p=none):=by unfold Hid dx;rw[if_neg (by simp),if_pos rfl,if_neg hk]
   have b1:(kind == 1)=false:=by rw[beq_eq_false_iff_ne];exact hk
   have J:Hid (an w (Exs [.box g 115 (aT ⟨0,I,ba,evs,⟨q,a,ns⟩,size,false⟩ (.slice m evs.length o) G nn F),cG (.slice m evs.length o) evs]) X w [.box (g) 115 (aT ⟨0,I,ba,evs,⟨q,a,ns⟩,size,false⟩ (.slice m evs.length o) G nn F),.row 44 7 ((.slice m evs.length o)) (evs.length) (aG evs)] []):=(an.startG hX hG)
   have d:Hid (an w (Exs [.box g 115 (aT ⟨0,I,ba,evs,⟨q,a,ns⟩,size,false⟩ (.slice m evs.length o) G nn F),cG (.slice m evs.length o) evs]) X w [.box (g) 115 (aT ⟨0,I,ba,evs,⟨q,a,ns⟩,size,false⟩ (.slice m evs.length o) G nn F),.row 44 7 ((.slice m evs.length o)) (evs.length) (aG evs)] [Sl.fact af G nn F ns]):=J.out.know0 (Sl.fact af G nn F ns) hs
   clear J
   have E:w.cell? ⟨g,0,none⟩=some (.int .i64 0):=d.out.cell 0 rfl 0
   have u:w.cell? ⟨g,1,none⟩=some (.int .i64 I):=d.out.cell 0 rfl 1
   have v:w.cell? ⟨g,2,none⟩=some (.int .i64 ba):=d.out.cell 0 rfl 2
   have z:w.cell? ⟨g,3,none⟩=some (.slice none 0 0):=d.out.cell 0 rfl 3
   have D:w.cell? ⟨g,4,none⟩=some (.slice m evs.length o):=d.out.cell 0 rfl 4
   have C:w.cell? ⟨g,5,none⟩=some (.int .i64 q):=d.out.cell 0 rfl 5
   have y:w.cell? ⟨g,6,none⟩=some (.int .i64 a):=d.out.cell 0 rfl 6
   have l:w.cell? ⟨g,7,none⟩=some (.slice G nn F):=d.out.cell 0 rfl 7
   have j:w.cell? ⟨g,8,none⟩=some (.int .i64 0):=d.out.cell 0 rfl 8
   have k:w.cell? ⟨g,9,none⟩=some (.int .i64 size):=d.out.cell 0 rfl 9
   have i:w.cell? ⟨g,10,none⟩=some (.bool false):=d.out.cell 0 rfl 10
   go_enter Tryz.func51,Tryz.ntmps51
   go_wp2
   clear E u v z D C y l j k i
   go_ret
   exact⟨d.out.only,.inl ⟨Q.out,rfl,d.out.blk 0 rfl,d.out.ent 1 rfl⟩⟩
 have b0:(num == 0)=false:=by rw[beq_eq_false_iff_ne];exact O
 have cb:=cb O
 by_cases P:kind=2
 ·skip
  subst P
  have Q:Hid (dx ⟨num,I,ba,evs,⟨q,a,ns⟩,size,false⟩ 2 p=rE ⟨num,I,ba,evs,⟨q,a,ns⟩,size,false⟩ p):=by unfold Hid dx;rw[if_neg (by simp),if_neg O,if_pos rfl]
  rw[←Q.out]at N
  clear Q O
  have J:Hid (an w (Exs [.box g 115 (aT ⟨num,I,ba,evs,⟨q,a,ns⟩,size,false⟩ (.slice m evs.length o) G nn F),cG (.slice m evs.length o) evs]) X w [.box (g) 115 (aT ⟨num,I,ba,evs,⟨q,a,ns⟩,size,false⟩ (.slice m evs.length o) G nn F),.row 44 7 ((.slice m evs.length o)) (evs.length) (aG evs)] []):=(an.startG hX hG)
  have d:Hid (an w (Exs [.box g 115 (aT ⟨num,I,ba,evs,⟨q,a,ns⟩,size,false⟩ (.slice m evs.length o) G nn F),cG (.slice m evs.length o) evs]) X w [.box (g) 115 (aT ⟨num,I,ba,evs,⟨q,a,ns⟩,size,false⟩ (.slice m evs.length o) G nn F),.row 44 7 ((.slice m evs.length o)) (evs.length) (aG evs)] [Sl.fact af G nn F ns]):=J.out.know0 (Sl.fact af G nn F ns) hs
  clear J
  have E:w.cell? ⟨g,0,none⟩=some (.int .i64 num):=d.out.cell 0 rfl 0
  have u:w.cell? ⟨g,1,none⟩=some (.int .i64 I):=d.out.cell 0 rfl 1
  have v:w.cell? ⟨g,2,none⟩=some (.int .i64 ba):=d.out.cell 0 rfl 2
  have z:w.cell? ⟨g,3,none⟩=some (.slice none 0 0):=d.out.cell 0 rfl 3
  have D:w.cell? ⟨g,4,none⟩=some (.slice m evs.length o):=d.out.cell 0 rfl 4
  have C:w.cell? ⟨g,5,none⟩=some (.int .i64 q):=d.out.cell 0 rfl 5
  have y:w.cell? ⟨g,6,none⟩=some (.int .i64 a):=d.out.cell 0 rfl 6
  have l:w.cell? ⟨g,7,none⟩=some (.slice G nn F):=d.out.cell 0 rfl 7
  have j:w.cell? ⟨g,8,none⟩=some (.int .i64 0):=d.out.cell 0 rfl 8
  have k:w.cell? ⟨g,9,none⟩=some (.int .i64 size):=d.out.cell 0 rfl 9
  have i:w.cell? ⟨g,10,none⟩=some (.bool false):=d.out.cell 0 rfl 10
  skip
  go_enter Tryz.func51,Tryz.ntmps51
  go_wp2_with fail
  with_reducible refine(N.out).mono ?_
  clear N
  intro e L hp
  clear E u v z D C y l j k i
  rcases hp with⟨ho,⟨h1,rfl,h2⟩ | ⟨s',cz,A2,n2,c2,h1,rfl,h2⟩⟩
  ·go_wp2
   go_ret
   exact⟨ho,.inl ⟨h1,rfl,h2⟩⟩
  ·go_wp2
   go_ret
   exact⟨ho,.inr ⟨s',cz,A2,n2,c2,h1,rfl,h2⟩⟩
 have b2:(kind == 2)=false:=by rw[beq_eq_false_iff_ne];exact P
 clear N
 by_cases ca:kind=3
 rotate_left
 ·skip
  have Q:Hid (dx ⟨num,I,ba,evs,⟨q,a,ns⟩,size,false⟩ kind p=none):=by unfold Hid dx;rw[if_neg (by simp),if_neg O,if_neg P,if_neg ca]
  have b3:(kind == 3)=false:=by rw[beq_eq_false_iff_ne];exact ca
  clear O P ca
  have J:Hid (an w (Exs [.box g 115 (aT ⟨num,I,ba,evs,⟨q,a,ns⟩,size,false⟩ (.slice m evs.length o) G nn F),cG (.slice m evs.length o) evs]) X w [.box (g) 115 (aT ⟨num,I,ba,evs,⟨q,a,ns⟩,size,false⟩ (.slice m evs.length o) G nn F),.row 44 7 ((.slice m evs.length o)) (evs.length) (aG evs)] []):=(an.startG hX hG)
  have d:Hid (an w (Exs [.box g 115 (aT ⟨num,I,ba,evs,⟨q,a,ns⟩,size,false⟩ (.slice m evs.length o) G nn F),cG (.slice m evs.length o) evs]) X w [.box (g) 115 (aT ⟨num,I,ba,evs,⟨q,a,ns⟩,size,false⟩ (.slice m evs.length o) G nn F),.row 44 7 ((.slice m evs.length o)) (evs.length) (aG evs)] [Sl.fact af G nn F ns]):=J.out.know0 (Sl.fact af G nn F ns) hs
  clear J
  have E:w.cell? ⟨g,0,none⟩=some (.int .i64 num):=d.out.cell 0 rfl 0
  have u:w.cell? ⟨g,1,none⟩=some (.int .i64 I):=d.out.cell 0 rfl 1
  have v:w.cell? ⟨g,2,none⟩=some (.int .i64 ba):=d.out.cell 0 rfl 2
  have z:w.cell? ⟨g,3,none⟩=some (.slice none 0 0):=d.out.cell 0 rfl 3
  have D:w.cell? ⟨g,4,none⟩=some (.slice m evs.length o):=d.out.cell 0 rfl 4
  have C:w.cell? ⟨g,5,none⟩=some (.int .i64 q):=d.out.cell 0 rfl 5
  have y:w.cell? ⟨g,6,none⟩=some (.int .i64 a):=d.out.cell 0 rfl 6
  have l:w.cell? ⟨g,7,none⟩=some (.slice G nn F):=d.out.cell 0 rfl 7
  have j:w.cell? ⟨g,8,none⟩=some (.int .i64 0):=d.out.cell 0 rfl 8
  have k:w.cell? ⟨g,9,none⟩=some (.int .i64 size):=d.out.cell 0 rfl 9
  have i:w.cell? ⟨g,10,none⟩=some (.bool false):=d.out.cell 0 rfl 10
  go_enter Tryz.func51,Tryz.ntmps51
  go_wp2
  clear E u v z D C y l j k i
  go_ret
  exact⟨d.out.only,.inl ⟨Q.out,rfl,d.out.blk 0 rfl,d.out.ent 1 rfl⟩⟩
 subst ca
 have Q:Hid (dx ⟨num,I,ba,evs,⟨q,a,ns⟩,size,false⟩ 3 p=if(p == aU (evs.length:Int) q a)=true then some ⟨num,I,ba,evs,⟨q,a,ns⟩,size,true⟩ else none):=by unfold Hid dx;rw[if_neg (by simp),if_neg O,if_neg P,if_pos rfl]
 clear O P b2
 obtain⟨ck,ci,cp,co⟩:=fe cb
 simp only at ck ci cp co
 have J:Hid (an w (Exs [.box g 115 (aT ⟨num,I,ba,evs,⟨q,a,ns⟩,size,false⟩ (.slice m evs.length o) G nn F),cG (.slice m evs.length o) evs]) X w [.box (g) 115 (aT ⟨num,I,ba,evs,⟨q,a,ns⟩,size,false⟩ (.slice m evs.length o) G nn F),.row 44 7 ((.slice m evs.length o)) (evs.length) (aG evs)] []):=(an.startG hX hG)
 have d:Hid (an w (Exs [.box g 115 (aT ⟨num,I,ba,evs,⟨q,a,ns⟩,size,false⟩ (.slice m evs.length o) G nn F),cG (.slice m evs.length o) evs]) X w [.box (g) 115 (aT ⟨num,I,ba,evs,⟨q,a,ns⟩,size,false⟩ (.slice m evs.length o) G nn F),.row 44 7 ((.slice m evs.length o)) (evs.length) (aG evs)] [Sl.fact af G nn F ns]):=J.out.know0 (Sl.fact af G nn F ns) hs
 clear J
 have ct:=Lib.hid (show ∀ g' ∈ (Exs [.box g 115 (aT ⟨num,I,ba,evs,⟨q,a,ns⟩,size,false⟩ (.slice m evs.length o) G nn F),cG (.slice m evs.length o) evs]),B≤g' from by
  intro g' h;obtain⟨x,hx,e⟩:=bI.1 h
  rcases List.mem_cons.1 hx with rfl | hx
  ·injection e with e;omega
  ·rw[List.mem_singleton]at hx;subst hx;exact cg g' e)
 have E:w.cell? ⟨g,0,none⟩=some (.int .i64 num):=d.out.cell 0 rfl 0
 have u:w.cell? ⟨g,1,none⟩=some (.int .i64 I):=d.out.cell 0 rfl 1
 have v:w.cell? ⟨g,2,none⟩=some (.int .i64 ba):=d.out.cell 0 rfl 2
 have z:w.cell? ⟨g,3,none⟩=some (.slice none 0 0):=d.out.cell 0 rfl 3
 have D:w.cell? ⟨g,4,none⟩=some (.slice m evs.length o):=d.out.cell 0 rfl 4
 have C:w.cell? ⟨g,5,none⟩=some (.int .i64 q):=d.out.cell 0 rfl 5
 have y:w.cell? ⟨g,6,none⟩=some (.int .i64 a):=d.out.cell 0 rfl 6
 have l:w.cell? ⟨g,7,none⟩=some (.slice G nn F):=d.out.cell 0 rfl 7
 have j:w.cell? ⟨g,8,none⟩=some (.int .i64 0):=d.out.cell 0 rfl 8
 have k:w.cell? ⟨g,9,none⟩=some (.int .i64 size):=d.out.cell 0 rfl 9
 have i:w.cell? ⟨g,10,none⟩=some (.bool false):=d.out.cell 0 rfl 10
 go_enter Tryz.func51,Tryz.ntmps51
 go_upto_region 8 with(fail)
 clear E u v z D C y l j k i
 have k4:=d.out.cell 0 rfl 4
 have k5:=d.out.cell 0 rfl 5
 have k6:=d.out.cell 0 rfl 6
 have k7:=d.out.cell 0 rfl 7
 refine wp_region_noPanic ?_
 refine wp_region_held_drew (S:=fun W'=>W'.cell? ⟨g,4,none⟩=some (.slice m evs.length o)∧W'.cell? ⟨g,5,none⟩=some (.int .i64 q)∧W'.cell? ⟨g,6,none⟩=some (.int .i64 a)∧W'.cell? ⟨g,7,none⟩=some (.slice G nn F)) (by kernel_rfl) ⟨k4,k5,k6,k7⟩ (fun f=>?_)
 clear k4 k5 k6 k7
 have M:Hid (an w (Exs [.box g 115 (aT ⟨num,I,ba,evs,⟨q,a,ns⟩,size,false⟩ (.slice m evs.length o) G nn F),cG (.slice m evs.length o) evs]) X w.drew [.box (g) 115 (aT ⟨num,I,ba,evs,⟨q,a,ns⟩,size,false⟩ (.slice m evs.length o) G nn F),.row 44 7 ((.slice m evs.length o)) (evs.length) (aG evs)] [Sl.fact af G nn F ns]):=d.out.drew
 clear d
 generalize w.drew=wd at f M ⊢
 refine tS 0 f ?_
 refine tS 1 f ?_
 refine tS 2 f ?_
 refine tS 3 f ?_
 refine tS 4 f ?_
 refine tS 5 f ?_
 refine tS 6 f ?_ (hy:=by(intro W bz;(try dsimp only at bz);obtain⟨q4,q5,q6,q7⟩:=bz;go_simp;try with_reducible rfl))
 refine tS 7 f ?_
 refine tS 8 f ?_
 refine tS 9 f ?_
 refine tS 10 f ?_
 refine tS 11 f ?_
 refine tS 12 f ?_ (hy:=by(intro W bz;(try dsimp only at bz);obtain⟨q4,q5,q6,q7⟩:=bz;go_simp;try with_reducible rfl))
 refine wpAnyH_ready (rs:=[13]) (by kernel_rfl) (by simp) ?_
 refine AllReadyH.cons rfl (fun K hK=>?_) AllReadyH.nil
 go_simp
 with_reducible refine(Co none 0 0 [] (evs.length:Int) q a (.slice G nn F) _ wd M.out.xok' Sl.nil_ (by omega) (by omega) (by omega) ck ci cp co).mono ?_
 rintro e L ⟨A1,c1,rfl,cf,V⟩
 have HL:=Lib.hid (jG (n:=(evs.length:Int)) (q:=q) (a:=a) (by omega) (by omega) (by omega))
 generalize aU (evs.length:Int) q a=pl at Q cf HL ⊢
 rw[Nat.zero_add,List.nil_append]at cf
 have cm:=(⟨(jh V f.1),(jh V f.2.1),(jh V f.2.2.1),(jh V f.2.2.2)⟩:_∧_∧_∧_)
 have t:Hid (an w (Exs [.box g 115 (aT ⟨num,I,ba,evs,⟨q,a,ns⟩,size,false⟩ (.slice m evs.length o) G nn F),cG (.slice m evs.length o) evs]) X L [.box (g) 115 (aT ⟨num,I,ba,evs,⟨q,a,ns⟩,size,false⟩ (.slice m evs.length o) G nn F),.row 44 7 ((.slice m evs.length o)) (evs.length) (aG evs)] [Sl.fact au A1 pl.length c1 pl,Sl.fact af G nn F ns]):=((M.out.on V).know (Sl.fact au A1 pl.length c1 pl) cf)
 clear M
 clear V
 refine hK.out _ _ cm (fun f=>?_)
 clear hK K
 try simp only[Act.put,sI,sZ,sS]
 clear cm
 refine wpAnyH_ready (rs:=[14]) (by kernel_rfl) (by simp) ?_
 refine AllReadyH.cons rfl (fun K hK=>?_) AllReadyH.nil
 go_simp
 with_reducible refine(nZ A A1 n c pl.length c1 B L.heap.size p pl L (HR.out.below (t.out.belowB hB ct.out)) (t.out.sl 0 rfl).bytes).mono ?_
 rintro e w' ⟨rfl,rfl⟩
 refine hK.out _ _ f (fun f=>?_)
 clear hK K
 try simp only[Act.put,sI,sZ,sS]
 generalize (p == pl)=pb at Q ⊢
 refine tS 15 f ?_
 refine tS 16 f ?_
 have br:L.cell? ⟨g,0,none⟩=some (.int .i64 num):=t.out.cell 0 rfl 0
 have ap:L.frozen? ⟨g,0,none⟩=false:=t.out.frozen 0 rfl 0
 have ag:L.cell? ⟨g,1,none⟩=some (.int .i64 I):=t.out.cell 0 rfl 1
 have bm:L.frozen? ⟨g,1,none⟩=false:=t.out.frozen 0 rfl 1
 have bk:L.cell? ⟨g,2,none⟩=some (.int .i64 ba):=t.out.cell 0 rfl 2
 have bb:L.frozen? ⟨g,2,none⟩=false:=t.out.frozen 0 rfl 2
 have bn:L.cell? ⟨g,3,none⟩=some (.slice none 0 0):=t.out.cell 0 rfl 3
 have ab:L.frozen? ⟨g,3,none⟩=false:=t.out.frozen 0 rfl 3
 have bd:L.cell? ⟨g,4,none⟩=some (.slice m evs.length o):=t.out.cell 0 rfl 4
 have be:L.frozen? ⟨g,4,none⟩=false:=t.out.frozen 0 rfl 4
 have Z:L.cell? ⟨g,5,none⟩=some (.int .i64 q):=t.out.cell 0 rfl 5
 have bl:L.frozen? ⟨g,5,none⟩=false:=t.out.frozen 0 rfl 5
 have aw:L.cell? ⟨g,6,none⟩=some (.int .i64 a):=t.out.cell 0 rfl 6
 have al:L.frozen? ⟨g,6,none⟩=false:=t.out.frozen 0 rfl 6
 have bc:L.cell? ⟨g,7,none⟩=some (.slice G nn F):=t.out.cell 0 rfl 7
 have bt:L.frozen? ⟨g,7,none⟩=false:=t.out.frozen 0 rfl 7
 have bh:L.cell? ⟨g,8,none⟩=some (.int .i64 0):=t.out.cell 0 rfl 8
 have bi:L.frozen? ⟨g,8,none⟩=false:=t.out.frozen 0 rfl 8
 have bx:L.cell? ⟨g,9,none⟩=some (.int .i64 size):=t.out.cell 0 rfl 9
 have ae:L.frozen? ⟨g,9,none⟩=false:=t.out.frozen 0 rfl 9
 have R:L.cell? ⟨g,10,none⟩=some (.bool false):=t.out.cell 0 rfl 10
 have U:L.frozen? ⟨g,10,none⟩=false:=t.out.frozen 0 rfl 10
 refine wpAnyH_ready (rs:=[17]) (by kernel_rfl) (by simp) ?_
 refine AllReadyH.cons rfl (fun K hK=>?_) AllReadyH.nil
 go_simp
 refine hK.out _ _ ⟨by rw[World.cell?_setCell_other _ _ _ _ (by simp)];exact f.1,by rw[World.cell?_setCell_other _ _ _ _ (by simp)];exact f.2.1,by rw[World.cell?_setCell_other _ _ _ _ (by simp)];exact f.2.2.1,by rw[World.cell?_setCell_other _ _ _ _ (by simp)];exact f.2.2.2⟩ (fun f=>?_)
 clear hK K
 try simp only[Act.put,sI,sZ,sS]
 refine wpAnyH_done (by kernel_rfl) ?_ _
 refine NoPanic.normal ?_
 clear f
 clear br ap ag bm bk bb bn ab bd be Z bl aw al bc bt bh bi bx ae R U
 have H:Hid (an w (Exs [.box g 115 (aT ⟨num,I,ba,evs,⟨q,a,ns⟩,size,false⟩ (.slice m evs.length o) G nn F),cG (.slice m evs.length o) evs]) X (L.setCell ⟨g,10,none⟩ (.bool pb)) [.box (g) 115 ((aT ⟨num,I,ba,evs,⟨q,a,ns⟩,size,false⟩ (.slice m evs.length o) G nn F).setIfInBounds 10 (.bool pb)),.row 44 7 ((.slice m evs.length o)) (evs.length) (aG evs)] [Sl.fact au A1 pl.length c1 pl,Sl.fact af G nn F ns]):=t.out.set_ 0 rfl 10 (.bool pb)
 clear t
 generalize L.setCell ⟨g,10,none⟩ (.bool pb)=w2 at H ⊢
 have bv:w2.cell? ⟨g,0,none⟩=some (.int .i64 num):=H.out.cell 0 rfl 0
 have ao:w2.cell? ⟨g,1,none⟩=some (.int .i64 I):=H.out.cell 0 rfl 1
 have bj:w2.cell? ⟨g,2,none⟩=some (.int .i64 ba):=H.out.cell 0 rfl 2
 have ac:w2.cell? ⟨g,3,none⟩=some (.slice none 0 0):=H.out.cell 0 rfl 3
 have ad:w2.cell? ⟨g,4,none⟩=some (.slice m evs.length o):=H.out.cell 0 rfl 4
 have am:w2.cell? ⟨g,5,none⟩=some (.int .i64 q):=H.out.cell 0 rfl 5
 have bs:w2.cell? ⟨g,6,none⟩=some (.int .i64 a):=H.out.cell 0 rfl 6
 have bp:w2.cell? ⟨g,7,none⟩=some (.slice G nn F):=H.out.cell 0 rfl 7
 have bo:w2.cell? ⟨g,8,none⟩=some (.int .i64 0):=H.out.cell 0 rfl 8
 have ar:w2.cell? ⟨g,9,none⟩=some (.int .i64 size):=H.out.cell 0 rfl 9
 have T:w2.cell? ⟨g,10,none⟩=some (.bool pb):=H.out.cell 0 rfl 10
 go_wp2
 clear bv ao bj ac ad am bs bp bo ar T
 cases pb
 ·go_ret
  exact⟨H.out.only,.inl ⟨Q.out,rfl,H.out.blk 0 rfl,H.out.ent 1 rfl⟩⟩
 ·go_ret
  exact⟨H.out.only,.inr ⟨_,(.slice m evs.length o),G,nn,F,Q.out,rfl,H.out.blk 0 rfl,H.out.ent 1 rfl,fun b V=>.inl V,((Sl.fact af G nn F ns).more (H.out.fact 1 rfl) (fun b _=>wV 0 1 rfl rfl (by rfl) (by rfl) b)),cr⟩⟩
end
section
open Go.RowKit
theorem uX {s s':Scn} {p:List UInt8} (h:rE s p=some s'):s'.size=s.size∧s'.evs.length=s.evs.length+1∧s'.num=s.num∧s'.sealed=s.sealed∧aJ s'.c=true:=by
 unfold rE at h
 split at h
 ·rename_i b
  obtain⟨i,e,g,a,f,d⟩:=oK b
  injection h with h
  subst h
  exact⟨rfl,by simp,rfl,rfl,by rw[d];exact jz a⟩
 ·cases h
theorem vT {s s':Scn} {p:List UInt8} (h:gN s p=some s'):s'.size=s.size∧s'.sealed=s.sealed∧aJ s'.c=true:=by
 unfold gN at h
 split at h
 ·simp only at h
  split at h
  ·cases h
  ·rename_i hn
   injection h with h
   subst h
   exact⟨rfl,rfl,by
    rw[←Bool.not_eq_false]
    exact fun a=>hn (.inr (.inr (.inr a)))⟩
 ·cases h
theorem tQ {s s':Scn} {kind:Int} {p:List UInt8} (h:dx s kind p=some s') (d:s.num≠0→aJ s.c=true):s'.size=s.size∧s'.evs.length≤s.evs.length+1∧(s'.num≠0→aJ s'.c=true):=by
 unfold dx at h
 split at h
 ·cases h
 split at h
 ·split at h
  ·have a:=vT h
   have b:=nB h
   exact⟨a.1,by rw[b.1];omega,fun _=>a.2.2⟩
  ·cases h
 rename_i hn
 split at h
 ·have a:=uX h
  exact⟨a.1,by omega,fun _=>a.2.2.2.2⟩
 split at h
 ·split at h
  ·injection h with h
   subst h
   exact⟨rfl,by simp,d⟩
  ·cases h
 ·cases h
def bH (bs:List UInt8) (s:Scn):Scn×Int:=
 match h:eB bs s.size with
 | .inl what=>(s,dF (what:Int) s.sealed)
 | .inr (x,p)=>match dx s (x.toNat:Int) p with
   | none=>(s,dF 0 s.sealed)
   | some s'=>bH bs { s' with size:=s.size+((p.length:Int)+7) }
termination_by ((bs.length:Int)+1-s.size).toNat
decreasing_by
 have h1:=jQ _ _ _ _ h
 omega
theorem kI {bs:List UInt8} {s:Scn} {what:Nat} (h:eB bs s.size = .inl what):bH bs s=(s,dF (what:Int) s.sealed):=by
 rw[bH]
 split
 ·rename_i w a;rw[h]at a;injection a with a;rw[a]
 ·rename_i x p a;rw[h]at a;cases a
theorem qn {bs:List UInt8} {s:Scn} {x:UInt8} {p:List UInt8} (h:eB bs s.size = .inr (x,p)) (b:dx s (x.toNat:Int) p=none):bH bs s=(s,dF 0 s.sealed):=by
 rw[bH]
 split
 ·rename_i w a;rw[h]at a;cases a
 ·rename_i x' p' a;rw[h]at a;injection a with a;injection a with a c;subst a c;rw[b]
theorem jL {bs:List UInt8} {s s':Scn} {x:UInt8} {p:List UInt8} (h:eB bs s.size = .inr (x,p)) (b:dx s (x.toNat:Int) p=some s'):bH bs s=bH bs { s' with size:=s.size+((p.length:Int)+7) }:=by
 rw[bH]
 split
 ·rename_i w a;rw[h]at a;cases a
 ·rename_i x' p' a;rw[h]at a;injection a with a;injection a with a c;subst a c;rw[b]
def cM:Scn:=⟨0,0,0,[],⟨0,0,[]⟩,0,false⟩
theorem wZ {W:World} {g:Nat} {x0 x1 x2 x3 x4 x5 x6 x7 x8 x9:Value} (h:Blk W g 54 #[x0,x1,x2,x3,x4,x5,x6,x7,x8,x9]) (tmps:Array Value) (l:tmps[2]?.getD undef = .pointer (some ⟨g,0,none⟩)):(results Tryz.f14 tmps).run Tryz.prog W = .ok (.agg #[x0,x1,x2,x3,x4,x5,x6,x7,x8,x9]) W:=by
 have c0:W.cell? ⟨g,0,none⟩=some x0:=h.cell 0
 have e:W.cell? ⟨g,1,none⟩=some x1:=h.cell 1
 have f:W.cell? ⟨g,2,none⟩=some x2:=h.cell 2
 have j:W.cell? ⟨g,3,none⟩=some x3:=h.cell 3
 have a:W.cell? ⟨g,4,none⟩=some x4:=h.cell 4
 have k:W.cell? ⟨g,5,none⟩=some x5:=h.cell 5
 have c:W.cell? ⟨g,6,none⟩=some x6:=h.cell 6
 have i:W.cell? ⟨g,7,none⟩=some x7:=h.cell 7
 have b:W.cell? ⟨g,8,none⟩=some x8:=h.cell 8
 have d:W.cell? ⟨g,9,none⟩=some x9:=h.cell 9
 simp[results,Tryz.results14,go_sem,l,c0,e,f,j,a,k,c,i,b,d]
end
end Go.Proofs.YtpokkciheejeiaaGreatDoor
