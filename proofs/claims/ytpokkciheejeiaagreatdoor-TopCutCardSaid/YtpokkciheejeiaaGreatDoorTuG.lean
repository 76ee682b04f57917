/- Lemmas and contracts that the proof of TopCut uses, part 7 of 16: each is a theorem for every input that its premises allow. -/
import Derived.IntWalk
import Derived.Lib.SlBytesConst
import Derived.StillTailTactics
import Derived.Deep.RegionHeld3
import Derived.Deep.DeepCutAuto
import Derived.Deep.LoopGhost
import Derived.Test.YtpokkciheejeiaaGreatDoorTuF
set_option linter.unusedVariables false
set_option linter.unusedSimpArgs false
set_option maxRecDepth 100000
namespace Go.Proofs.YtpokkciheejeiaaGreatDoor
section
open Go.RowKit
def mb (Q:Exit→Act→World→Prop) (E:Act→World→Prop):Exit→Act→World→Prop
 | .normal,a,w=>E a w
 | e,a,w=>Q e a w
section
variable {P:Program} {md:Region.Mode} {ops:Array Oper} {Q:Exit→Act→World→Prop}
theorem xe {E K:Act→World→Prop} {i:Nat} {a:Act} {w:World} (h:wpOp P ops (mb Q E) i K a w):wpOp P ops Q i K a w:=by
 unfold wpOp at *
 split
 ·rename_i j;simpa [j] using h
 ·rename_i o k
  simp only[k]at h
  split
  ·rename_i b
   simp only[b,if_true]at h
   refine h.imp (fun h=>?_) (fun h=>⟨h.1,h.2⟩)
   unfold Oper.wp at *
   generalize (execOp a.eval o).run P w=r at *
   cases r with
   | ok n w'=>
     cases n<;>simp only[Oper.upon]at h ⊢
     case value u=>exact h
     case skip=>exact h
     case defer d=>exact h
     case enter f args=>
      refine Calls.mono h fun e w'' g=>?_
      cases e with
      | returned u=>exact g
      | panicked c=>exact g
      | outgrown=>exact g
     case row row args=>exact h
   | halt x w'=>
     cases x<;>simp only[Oper.upon]at h ⊢
     case panic u=>exact h
  ·rename_i b
   simp only[b]at h
   exact h
def rE (md:Region.Mode) (ops:Array Oper):Bool:=(List.range ops.size).all fun j=>match ops[j]? with | some o=>o.after.all (fun e => !Region.binds md e || decide (e.on<j)) | none=>true
def nt (md:Region.Mode) (ops:Array Oper):Nat→Nat→Nat→Bool
 | 0,k,j=>match ops[k]? with | some o=>o.after.toList.any (fun e=>Region.binds md e&&decide (e.on=j)) | none=>false
 | d+1,k,j=>match ops[k]? with | some o=>o.after.toList.any (fun e=>Region.binds md e&&(decide (e.on=j) || nt md ops d e.on j)) | none=>false
def xM (md:Region.Mode) (ops:Array Oper) (k:Nat):Bool:=decide (k<ops.size)&&(List.range ops.size).all fun j=>decide (j=k) || nt md ops 3 k j
def Cl (md:Region.Mode) (ops:Array Oper) (listed:Array Bool):Prop := ∀ (i:Nat) (o:Oper),ops[i]?=some o→listed.getD i false=true → ∀ e ∈ o.after,Region.binds md e=true→listed.getD e.on false=true
theorem mH {listed:Array Bool} (f:Cl md ops listed) (j:Nat):∀ (d k:Nat) (o:Oper),ops[k]?=some o→(∀ e ∈ o.after,Region.binds md e=true→listed.getD e.on false=true)→nt md ops d k j=true→listed.getD j false=true
 | 0,k,o,ho,h,hw=>by
   unfold nt at hw
   rw[ho]at hw
   simp only[List.any_eq_true,Bool.and_eq_true,decide_eq_true_eq,Array.mem_toList_iff]at hw
   obtain⟨e,c,a,rfl⟩:=hw
   exact h e c a
 | d+1,k,o,ho,h,hw=>by
   unfold nt at hw
   rw[ho]at hw
   simp only[List.any_eq_true,Bool.and_eq_true,Bool.or_eq_true,decide_eq_true_eq,Array.mem_toList_iff]at hw
   obtain⟨e,c,a,rfl | b⟩:=hw
   ·exact h e c a
   ·cases hm:ops[e.on]? with
    | none=>
      cases d<;>(unfold nt at b;rw[hm]at b;cases b)
    | some o'=>exact mH f j d e.on o' hm (f e.on o' hm (h e c a)) b
theorem oN (q:rE md ops=true) (listed:Array Bool):∀ j,j<ops.size→listed.getD j true=false → ∃ i,i ∈ Region.ready md ops listed:=by
 intro j
 induction j using Nat.strongRecOn with
 | ind j ih=>
   intro l g
   obtain⟨o,a⟩:∃ o,ops[j]?=some o:=⟨_,Array.getElem?_eq_getElem l⟩
   by_cases hall:∀ e ∈ o.after,Region.binds md e=true→listed.getD e.on false=true
   ·exact⟨j,mem_ready.2 ⟨g,o,a,hall⟩⟩
   ·have n:∃ e,e ∈ o.after∧Region.binds md e=true∧listed.getD e.on false=false:=by
     refine Classical.byContradiction fun m=>hall fun e b c=>?_
     cases d:listed.getD e.on false with
     | true=>rfl
     | false=>exact absurd ⟨e,b,c,d⟩ m
    obtain⟨e,b,c,d⟩:=n
    have k:=List.all_eq_true.1 q j (List.mem_range.2 l)
    rw[a]at k
    have h:=Array.all_eq_true_iff_forall_mem.1 k e b
    simp[c]at h
    by_cases f:e.on<listed.size
    ·exact ih e.on h (by omega) (by simpa [f] using d)
    ·have:listed.size≤e.on:=by omega
     have p:j<listed.size:=by
      refine Classical.byContradiction fun m=>?_
      rw[Array.getD_eq_getD_getElem?,Array.getElem?_eq_none (by omega)]at g
      cases g
     omega
theorem oB {k:Nat} (F:rE md ops=true) (r:xM md ops k=true):
 ∀ (fuel:Nat) (listed:Array Bool) (a:Act) (w:World),listed.getD k true=false→Cl md ops listed→wpAny P md ops (mb Q fun a w=>wpOp P ops Q k (fun a' w'=>Q .normal a' w') a w) fuel (listed.setIfInBounds k true) a w→wpAny P md ops Q (fuel+1) listed a w:=by
 unfold xM at r
 rw[Bool.and_eq_true,decide_eq_true_eq]at r
 obtain⟨v,r⟩:=r
 have hall:∀ listed:Array Bool,Cl md ops listed→k ∈ Region.ready md ops listed→Region.ready md ops (listed.setIfInBounds k true) = []:=by
  intro listed b B
  refine List.eq_nil_iff_forall_not_mem.2 fun j x=>?_
  obtain⟨n,oj,D,_⟩:=mem_ready.1 x
  obtain⟨t,o,g,z⟩:=mem_ready.1 B
  have A:j<ops.size:=(Array.getElem?_eq_some_iff.1 D).1
  have s:k<listed.size:=by
   refine Classical.byContradiction fun L=>?_
   rw[Array.getD_eq_getD_getElem?,Array.getElem?_eq_none (by omega)]at t
   cases t
  by_cases l:j=k
  ·subst l
   simp[s]at n
  ·have I:=List.all_eq_true.1 r j (List.mem_range.2 A)
   simp only[l,decide_false,Bool.false_or]at I
   have p:=mH b j 3 k o g z I
   rw[getD_set_ne true (Ne.symm l)]at n
   by_cases J:j<listed.size
   ·simp[J]at n p
    rw[n]at p;cases p
   ·rw[Array.getD_eq_getD_getElem?,Array.getElem?_eq_none (by omega)]at p
    cases p
 have hstep:∀ (listed:Array Bool) (i:Nat),Cl md ops listed→i ∈ Region.ready md ops listed→Cl md ops (listed.setIfInBounds i true):=by
  intro listed i b B m K f G e u E
  obtain⟨t,o,g,z⟩:=mem_ready.1 B
  refine getD_set_true ?_
  by_cases q:m=i
  ·subst q
   rw[g]at f
   injection f with f
   subst f
   exact z e u E
  ·rw[getD_set_ne false (Ne.symm q)]at G
   exact b m K f G e u E
 intro fuel
 induction fuel with
 | zero=>
   intro listed a w y b H
   refine⟨fun h=>?_,fun i d=>?_⟩
   ·obtain⟨i,d⟩:=oN F listed k v y
    rw[h]at d;cases d
   ·by_cases c:i=k
    ·subst c
     exact wpOp_mono (fun a' w' C=>⟨hall listed b d,C⟩) H.2
    ·have:=ready_mono d c
     rw[H.1]at this
     cases this
 | succ fuel ih=>
   intro listed a w y b H
   refine⟨fun h=>?_,fun i d=>?_⟩
   ·obtain⟨i,d⟩:=oN F listed k v y
    rw[h]at d;cases d
   ·by_cases c:i=k
    ·subst c
     have u:=hall listed b d
     exact wpOp_mono (fun a' w' C=>⟨fun _=>C,fun j x=>by rw[u]at x;cases x⟩) (H.1 u)
    ·have n:=xe (H.2 i (ready_mono d c))
     refine wpOp_mono (fun a' w' t=>ih (listed.setIfInBounds i true) a' w' (by rw[getD_set_ne true c];exact y) (hstep listed i b d) ?_) n
     rw[Array.setIfInBounds_comm _ _ c]
     exact t
end
section
variable {w0 W W' w1:World} {M X:List Nat} {L:List Itm} {F:List Fact} {P:Program}
theorem HH.rgl {id:Nat} {ops:Array Oper} {Q:Exit→Act→World→Prop} {a:Act} (K:HH w0 M X W L F) (k n:Nat) {L2 L':List Itm} {F2:List Fact} [h:Adv W W' L L'] (hT:∀ V,HH w0 M X V L' F→HH w0 M X V L2 F2)
 (d:∀ U,HH w0 M X U L' F→wpAnyH P .any ops (NoPanic (mb (NoPanic Q) fun a w=>wpOp P ops (NoPanic Q) k (fun a' w'=>NoPanic Q .normal a' w') a w)) (fun V=>HH w0 M X V L2 F2) n ((Array.replicate (n+1) false).setIfInBounds k true) a U) (f:ops.size=n+1:=by rfl) (hm:P.follows .mixedOrders=true:=by kernel_rfl) (ho:rE .any ops=true:=by kernel_rfl) (hl:xM .any ops k=true:=by kernel_rfl) (hkn:decide (k<n+1)=true:=by rfl):(Code.region id ops true).wp P Q a W':=by
 refine wp_region_noPanic (wp_region_any hm ?_)
 rw[f]
 have b:=of_decide_eq_true hkn
 refine oB (k:=k) ho hl n _ a _ (by simp[b]) (fun i o _ h=>by rw[Array.getD_eq_getD_getElem?,Array.getElem?_replicate]at h;split at h<;>cases h) ?_
 have e:NoPanic (mb (NoPanic Q) fun a w=>wpOp P ops (NoPanic Q) k (fun a' w'=>NoPanic Q .normal a' w') a w)=mb (NoPanic Q) fun a w=>wpOp P ops (NoPanic Q) k (fun a' w'=>NoPanic Q .normal a' w') a w:=by
  funext e a w
  cases e<;>rfl
 have c:=d W'.drew (h.go K.out).drew
 rw[e]at c
 exact wpAny_of_held _ _ _ _ c
def GF (P:Program) (ty:TypeId) (i:Nat):Option Nat:=match P.underlying ty with
 | some (.struct fs)=>match fs[i]? with
   | some f=>match P.underlying f.type with
     | some (.struct _)=>none
     | some (.array _ _)=>none
     | some _=>some f.offset
     | none=>none
   | none=>none
 | _=>none
theorem ox {ty:TypeId} {i off:Nat} {cs:Array Value} {v:Value} (h:GF P ty i=some off) (b:cs[off]?=some v) (W:World):(Instr.field ty (.agg cs) i).run P W = .ok v W:=by
 unfold GF at h
 split at h
 ·rename_i fs c
  split at h
  ·rename_i f e
   have key:(isAgg f.type).run P W = .ok false W∧f.offset=off:=by
    unfold isAgg
    split at h
    ·cases h
    ·cases h
    ·rename_i d g j a
     injection h with h
     refine⟨?_,h⟩
     rw[Sem.run_bind,run_underlying a W]
     cases d<;>simp_all
    ·cases h
   simp only[Instr.field,Sem.run_bind,run_underlying c W,Result.andThen_ok,e,asAgg,Sem.run_pure,part,key.1,key.2,b]
   simp
  ·cases h
 ·cases h
theorem HH.mv (K:HH w0 M X W L F) (i:Nat) {x:Itm} (a:L[i]?=some x) {L':List Itm} (hL:x::L.eraseIdx i=L':=by(first | (simp only[List.eraseIdx_cons_succ,List.eraseIdx_cons_zero];done) | (simp only[List.eraseIdx_cons_succ,List.eraseIdx_cons_zero];exact rfl))):HH w0 M X W L' F:=by
 subst hL
 obtain⟨h,rfl⟩:=List.getElem?_eq_some_iff.1 a
 refine K.out.perm ?_
 clear K a
 induction L generalizing i with
 | nil=>cases h
 | cons y l ih=>
   cases i with
   | zero=>exact List.Perm.refl _
   | succ i=>
     have h':i<l.length:=by simpa using h
     exact((ih i h').cons y).trans (List.Perm.swap _ _ _)
theorem HH.up (K:HH w0 M X W L F) (i:Nat) {f:Fact} (a:F[i]?=some f):HH w0 M X W L (f::F):=K.kn (K.fa i a)
theorem tZ {md:Region.Mode} {ops:Array Oper} {Q:Exit→Act→World→Prop} {S:World→Prop} {k fuel:Nat} {listed:Array Bool} {a:Act} {w:World} {o:Oper} (h:∀ K':Act→World→Prop,Shut (∀ a w,Q .normal a w→K' a w)→Oper.wp P o a w K' (NoPanic Q)) (b:Region.ready md ops listed = []:=by kernel_rfl) (ho:ops[k]?=some o:=by exact rfl) (hw:Region.wanted o (yielded ops a.tmps)=true:=by rfl):
 wpAnyH P md ops (NoPanic (mb (NoPanic Q) fun a w=>wpOp P ops (NoPanic Q) k (fun a' w'=>NoPanic Q .normal a' w') a w)) S fuel listed a w:=by
 refine wpAnyH_done b ?_ _
 show wpOp P ops (NoPanic Q) k (fun a' w'=>NoPanic Q .normal a' w') a w
 unfold wpOp
 simp only[ho,hw,if_true]
 exact .inl (h _ fun a' w' c=>c)
end
theorem ET {α β γ δ ε ζ η:Type} {G:α→β→γ→δ→ε→ζ→η→Prop} {T:Prop} (c:Hid (∀ x y z u v a b,G x y z u v a b)→T) (key:∀ x y z u v a b,G x y z u v a b):T:=c key
end
section
open Go.RowKit
theorem Ak (A:Option Addr) (n c:Nat) (w:World) (b:n≤c) (a:c≤9223372036854775807):Calls Tryz.prog 191 #[.slice A n c] w fun e w'=>e = .returned (.slice A n n)∧w=w':=by
 go_enter Tryz.func191,Tryz.ntmps191
 go_wp2
 go_ret
 exact⟨rfl,rfl⟩
theorem fV {A:Option Addr} {n c:Nat} {l:List UInt8} {X:List Nat} {w:World} (hX:XOk X w) (b:Sl ak w X A n c l) (z:Int) (i:0≤z) (j:z<18446744073709551616) (f:n≤900000):
 Calls Tryz.prog 180 #[.slice A n c,.int .u64 z] w fun e w' => ∃ A' c',e = .returned (.slice A' (n+(au z.toNat).length) c')∧Sl ak w' X A' (n+(au z.toNat).length) c' (l++au z.toNat)∧Below w.heap.size w w':=by
 have d:((z.toNat:Nat):Int)=z:=Int.toNat_of_nonneg i
 have h:=qN A n c w.heap.size l z.toNat (by omega) w b.bytes (Nat.le_refl _) f
 rw[d]at h
 refine h.mono ?_
 rintro e w' ⟨v,rfl,hown,a⟩
 obtain⟨A',c',rfl,g⟩:=Sl.of_made (s:=ak) hown hX (di _) (Nat.zero_lt_one)
 exact⟨A',c',rfl,g,a⟩
theorem kL {A:Option Addr} {n c:Nat} {l:List UInt8} {X:List Nat} {w:World} (hX:XOk X w) (b:Sl ak w X A n c l) (s:ByteArray) (d:s.size≤400000) (f:n≤400000):
 Calls Tryz.prog 194 #[.slice A n c,.string s] w fun e w' => ∃ A' c',e = .returned (.slice A' (n+(bG s.data.toList).length) c')∧Sl ak w' X A' (n+(bG s.data.toList).length) c' (l++bG s.data.toList)∧Below w.heap.size w w':=by
 have h:=zh A n c w.heap.size l s.data.toList w b.bytes (Nat.le_refl _) f (by rw[Array.length_toList];exact d)
 rw[show(⟨s.data.toList.toArray⟩:ByteArray)=s from rfl]at h
 refine h.mono ?_
 rintro e w' ⟨v,rfl,hown,a⟩
 obtain⟨A',c',rfl,g⟩:=Sl.of_made (s:=ak) hown hX (di _) (Nat.zero_lt_one)
 exact⟨A',c',rfl,g,a⟩
theorem qT (a:ByteArray) (h:a.size≤24):(bG a.data.toList).length≤34:=by
 have e:a.data.toList.length=a.size:=Array.length_toList
 unfold bG
 rw[List.length_append,e]
 have:=bu a.size (by omega)
 omega
def oa (c:Cx) (e0:Evt) (cells:Array Value) (X:List Nat) (w:World) (e:Ending) (w':World):Prop:=
 Below w.heap.size w w'∧((eG c e0≠0∧e = .returned (.tuple #[.slice none 0 0,.agg cells,.int .i64 (eG c e0)])) ∨
  (eG c e0=0 ∧ ∃ A n cp A2 n2 c2,e = .returned (.tuple #[.slice A n cp,.agg #[.int .i64 e0.q,.int .i64 e0.a,.slice A2 n2 c2],.int .i64 0])∧Sl ak w' X A n cp (aQ c e0)∧Sl af w' X A2 n2 c2 (bJ c e0).ns))
theorem By (x y z:Int) (j:Nat) (a:j<3):(#[Value.int .i64 x,.int .i64 y,.int .i64 z])[j]?=some (.int .i64 ([x,y,z].getD j 0)):=by
 rcases(by omega:j=0∨j=1∨j=2) with rfl | rfl | rfl<;>rfl
theorem tT (x y z:Int) (m j:Nat) (b:j<m) (a:m≤3):(([x,y,z].take m).take (j+1)).flatMap (fun n=>au n.toNat)=(([x,y,z].take m).take j).flatMap (fun n=>au n.toNat)++au ([x,y,z].getD j 0).toNat:=by
 rcases(by omega:(j=0∧m=1)∨(j=0∧m=2)∨(j=0∧m=3)∨(j=1∧m=2)∨(j=1∧m=3)∨(j=2∧m=3)) with⟨rfl,rfl⟩ | ⟨rfl,rfl⟩ | ⟨rfl,rfl⟩ | ⟨rfl,rfl⟩ | ⟨rfl,rfl⟩ | ⟨rfl,rfl⟩<;>simp
theorem HH.rcM {P:Program} {f W:World} {M X:List Nat} {L:List Itm} {F:List Fact} {fn:Func} {R:Ending→World→Prop} {a:Act} {g:Nat} {p q r:Tmp} {t ty:TypeId} {cs:Array Value} (K:HH f M X W L F) (i:Nat) (d:L[i]?=some (.box g t cs)) (e:fn.results=#[.tmp r,.cell p ty,.tmp q]) (hR:R (.returned (.tuple #[a.tmps.getD r undef,.agg cs,a.tmps.getD q undef])) W)
 (c:a.tmps.getD p undef = .pointer (some ⟨g,0,none⟩):=by rfl) (hT:lM P ty cs.size=true:=by kernel_rfl) (hd:a.defers = []:=by rfl):bodyPost P fn R .ret a W:=by
 have b:a.tmps[p]?.getD undef = .pointer (some ⟨g,0,none⟩):=by simpa using c
 exact⟨hd,.tuple #[a.tmps.getD r undef,.agg cs,a.tmps.getD q undef],by simp[results,e,b,asAddr,fe K i d hT],hR⟩
theorem fo {A:Option Addr} {n c:Nat} {l:List UInt8} {X:List Nat} {w:World} (hX:XOk X w) (b:Sl ak w X A n c l) (z:Int) (g:0≤z) (d:z<18446744073709551616) (f:n≤900000):
 Calls Tryz.prog 180 #[.slice A n c,.int .u64 z] w fun e w' => ∃ A' n' c',e = .returned (.slice A' n' c')∧Sl ak w' X A' n' c' (l++au z.toNat)∧Below w.heap.size w w':=(fV hX b z g d f).mono (by rintro e w' ⟨A',c',rfl,h,a⟩;exact⟨A',_,c',rfl,h,a⟩)
theorem zO {A:Option Addr} {n c:Nat} {l:List UInt8} {X:List Nat} {w:World} (hX:XOk X w) (b:Sl ak w X A n c l) (s:ByteArray) (d:s.size≤400000) (f:n≤400000):
 Calls Tryz.prog 194 #[.slice A n c,.string s] w fun e w' => ∃ A' n' c',e = .returned (.slice A' n' c')∧Sl ak w' X A' n' c' (l++bG s.data.toList)∧Below w.heap.size w w':=(kL hX b s d f).mono (by rintro e w' ⟨A',c',rfl,h,a⟩;exact⟨A',_,c',rfl,h,a⟩)
theorem GQ {α β:Type} {G:α→β→Prop} {T:Prop} (a:Hid (∀ x y,G x y)→T) (key:∀ x y,G x y):T:=a key
set_option maxHeartbeats 8000000 in
theorem uY (q a:Int) (ns:List (List UInt8)) (H:Option Addr) (nn M:Nat) (f:Evt) (X:List Nat) (w:World) (hX:XOk X w) (L:Sl af w X H nn M ns) (be:nn≤1000) (R:f.cm.size≤maxLen):
 Calls Tryz.prog 127 #[.agg #[.int .i64 q,.int .i64 a,.slice H nn M],.agg (evA f)] w (oa ⟨q,a,ns⟩ f #[.int .i64 q,.int .i64 a,.slice H nn M] X w):=by
 have bo:=Lib.hid L.len
 have ad:=Lib.hid L.le
 have hmax:=L.max
 unfold maxLen at hmax
 have o:Hid (eG ⟨q,a,ns⟩ f=if aN ⟨q,a,ns⟩=false then 1 else if dz f≠0 then dz f else if f.q≤q then 1 else if f.a<a then 5 else if placeOf ns f.cm.data.toList=0∧ns.length=32 then 9 else 0):=rfl
 have O:Hid (aQ ⟨q,a,ns⟩ f=au f.k.toNat++au (f.q-q).toNat++au (f.a-a).toNat++au (placeOf ns f.cm.data.toList)++(if placeOf ns f.cm.data.toList=0 then bG f.cm.data.toList else [])++(([f.x,f.y,f.z].take (cu f.k)).flatMap (fun n=>au n.toNat))):=rfl
 have E:Hid ((bJ ⟨q,a,ns⟩ f).ns=if placeOf ns f.cm.data.toList=0 then ns ++ [f.cm.data.toList] else ns):=rfl
 have Y:=Lib.hid (@eD f)
 have ac:=Lib.hid (@dI f)
 have HC:=fun W=>Lib.hid (dA f R W)
 have al:=fun W=>Lib.hid (zZ f W)
 unfold oa
 generalize eG ⟨q,a,ns⟩ f=er at o ⊢
 generalize aQ ⟨q,a,ns⟩ f=ar at O ⊢
 generalize (bJ ⟨q,a,ns⟩ f).ns=nx at E ⊢
 have ae:=Lib.hid (show aN ⟨q,a,ns⟩=true→(0≤q∧q≤4294967296∧0≤a∧a≤1099511627776)∧cK ns=true from fun h=>by
  unfold aN at h
  simp only[Bool.and_eq_true,decide_eq_true_iff]at h
  exact⟨⟨h.1.1.1.1,h.1.1.1.2,h.1.1.2,h.1.2⟩,h.2⟩)
 have HR:=fun(A:Option Addr) (n c:Nat) (X:List Nat) (W:World) (h:Sl af W X A n c ns) (hn:n≤1000)=>Lib.hid (jy q a ns A n c X W h hn)
 generalize aN ⟨q,a,ns⟩=rc at o HR ae
 generalize dz f=ck at o Y HC
 obtain⟨eq,ea,ek,cm,ex,u,B⟩:=f
 simp only at o O E Y ac HC al R ⊢
 go_enter Tryz.func127,Tryz.ntmps127
 go_upto_region 1 with(fail)
 refine(hstart hX).cw fun W K=>?_
 have K:=K.ksl0 L
 clear L
 go_wp2_with (first | refine K.ld 2 rfl ?_)
 refine((HR H nn M _ _ (K.sl 0 rfl) be).out).mono ?_
 rintro e w1 ⟨rfl,d⟩
 have K:=K.on d
 clear d HR
 cases rc
 ·rw[if_pos rfl]at o
  go_upto_region 2 with(fail)
  refine K.rgt (fun V h=>h.tl) fun W K=>?_
  refine tL 0 (fun _ h=>h.at_ 1 rfl) K.tl ?_ (hy:=fun w I=>aM I)
  refine tK 1 K.tl ?_
  refine tSt 2 K 0 rfl (fun U h=>h.tl) fun U K=>?_
  refine tK 3 K.tl ?_
  refine tE ?_
  go_wp2
  exact K.rcM 0 rfl rfl ⟨K.below,.inl ⟨by rw[o.out];decide,by rw[o.out];rfl⟩⟩
 rw[if_neg (by simp)]at o
 obtain⟨⟨cp,cf,ct,cr⟩,bm⟩:=ae.out rfl
 have bp:=Lib.hid bm
 clear bm
 go_wp2_with (first | refine K.ld 1 rfl ?_)
 refine((HC _).out).mono ?_
 rintro e w2 ⟨rfl,d⟩
 have K:=K.on d
 clear d HC
 by_cases Z:ck=0
 case neg=>
  rw[if_pos Z]at o
  have i1:(ck != 0)=true:=by simp[Z]
  go_upto_region 5 with(fail)
  refine K.rgt (fun V h=>h.tl) fun W K=>?_
  refine tL 0 (fun _ h=>h.at_ 1 rfl) K.tl ?_ (hy:=fun w I=>aM I)
  refine tK 1 K.tl ?_
  refine tK 2 K.tl ?_
  refine tSt 3 K 0 rfl (fun U h=>h.tl) fun U K=>?_
  refine tK 4 K.tl ?_
  refine tE ?_
  go_wp2
  exact K.rcM 0 rfl rfl ⟨K.below,.inl ⟨by rw[o.out];exact Z,by rw[o.out];rfl⟩⟩
 subst Z
 rw[if_neg (by simp)]at o
 obtain⟨bq,bs,bb,bj,cb,ca,bx,bv⟩:=Y.out rfl
 obtain⟨⟨co,cs⟩,⟨cc,ch⟩,⟨ce,cd⟩,-,-⟩:=ac.out ⟨bq,bs⟩ bj
 have bc:=Lib.hid bb
 clear bb bj Y ac ae
 have t:=K.r 2 rfl
 have c1:=K.r 1 rfl
 by_cases aw:eq≤q
 case pos=>
  rw[if_pos aw]at o
  go_upto_region 7 with(fail)
  clear c1 t
  refine K.rgt (fun V h=>h.tl) fun W K=>?_
  refine tL 0 (fun _ h=>h.at_ 1 rfl) K.tl ?_ (hy:=fun w I=>aM I)
  refine tK 1 K.tl ?_
  refine tSt 2 K 0 rfl (fun U h=>h.tl) fun U K=>?_
  refine tK 3 K.tl ?_
  refine tE ?_
  go_wp2
  exact K.rcM 0 rfl rfl ⟨K.below,.inl ⟨by rw[o.out];decide,by rw[o.out];rfl⟩⟩
 rw[if_neg aw]at o
 by_cases bk:ea<a
 case pos=>
  rw[if_pos bk]at o
  go_upto_region 9 with(fail)
  clear c1 t
  refine K.rgt (fun V h=>h.tl) fun W K=>?_
  refine tL 0 (fun _ h=>h.at_ 1 rfl) K.tl ?_ (hy:=fun w I=>aM I)
  refine tK 1 K.tl ?_
  refine tSt 2 K 0 rfl (fun U h=>h.tl) fun U K=>?_
  refine tK 3 K.tl ?_
  refine tE ?_
  go_wp2
  exact K.rcM 0 rfl rfl ⟨K.below,.inl ⟨by rw[o.out];decide,by rw[o.out];rfl⟩⟩
 rw[if_neg bk]at o
 go_upto_region 10 with(fail)
 clear c1 t
 refine GQ (α:=Nat) (β:=World) (G:=?G) ?main ?key
 case main=>
  intro key
  refine K.rg fun W K=>?_
  refine tK 0 K ?_
  refine tL 1 (fun _ h=>h.r 1 rfl) K ?_
  refine tK 2 K ?_
  refine tL 3 (fun _ h=>h.r 1 rfl) K ?_
  refine tK 4 K ?_
  refine tL 5 (fun _ h=>h.r 2 rfl) K ?_
  refine tC2 6 8 (fun K' hK=>?_) (fun K' hK=>?_)
  ·go_simp
   refine(Ak H nn M _ ad.out (by omega)).mono ?_
   rintro e w3 ⟨rfl,rfl⟩
   refine hK.out _ _ K fun _=>?_
   clear hK K'
   try simp only[Act.put,an,ai,aj]
   refine tK 7 K ?_
   refine tC 8 fun K' hK=>?_
   go_simp
   have K:=K.to (W':=W.alloc (.cells #[.int .i64 0,.int .i64 0,.slice none 0 0] 34))
   refine hK.out _ _ K.tl fun _=>?_
   clear hK K'
   try simp only[Act.put,an,ai,aj]
   refine tSt 9 K 0 rfl (fun U h=>h.tl) fun U K=>?_
   refine tE ?_
   generalize W.heap.size=p at K ⊢
   revert K
   exact key.out p U
  ·go_simp
   have K:=K.to (W':=W.alloc (.cells #[.int .i64 0,.int .i64 0,.slice none 0 0] 34))
   refine hK.out _ _ K.tl fun _=>?_
   clear hK K'
   try simp only[Act.put,an,ai,aj]
   refine tC 6 fun K' hK=>?_
   go_simp
   refine(Ak H nn M _ ad.out (by omega)).mono ?_
   rintro e w3 ⟨rfl,rfl⟩
   refine hK.out _ _ K.tl fun _=>?_
   clear hK K'
   try simp only[Act.put,an,ai,aj]
   refine tK 7 K.tl ?_
   refine tSt 9 K 0 rfl (fun U h=>h.tl) fun U K=>?_
   refine tE ?_
   generalize W.heap.size=p at K ⊢
   revert K
   exact key.out p U
 case key=>
  intro p W K
  have ba:Hid (∀ pl,placeOf ns cm.data.toList=pl→eW ns cm.data.toList=if pl≠0 then 7 else if ns.length=32 then 9 else 0):=fun pl h=>by unfold eW;rw[bp.out,if_neg (by simp),←lS,bc.out,if_neg (by simp),h]
  have bi:=Lib.hid (pS ns)
  have bn:nn≤1000:=be
  have C:=K.r 3 rfl
  have t:=K.r 2 rfl
  go_wp2_with fail
  refine(lZ H nn M _ (ns.map eX) cm _ (K.sl 0 rfl).names.1 (Nat.le_refl _) (by omega) (K.sl 0 rfl).names.2 R).mono ?_
  rw[bi.out]
  rintro e w4 ⟨rfl,d⟩
  have K:=K.on d
  clear d t C
  have ab:=lK ns cm.data.toList
  have P:=Lib.hid (ba.out _ rfl)
  generalize placeOf ns cm.data.toList=pl at o O E P ab ⊢
  have bz:pl≤1000:=by have:=bo.out;omega
  clear ba ab
  have wk:IntKind.u64.wrap ek=ek:=IntWalk.u64_in _ (by omega)
  have wq:IntKind.i64.wrap (eq-q)=eq-q:=IntWalk.i64_in _ (by omega)
  have wa:IntKind.i64.wrap (ea-a)=ea-a:=IntWalk.i64_in _ (by omega)
  have ap:IntKind.u64.wrap (eq-q)=eq-q:=IntWalk.u64_in _ (by omega)
  have bd:IntKind.u64.wrap (ea-a)=ea-a:=IntWalk.u64_in _ (by omega)
  have wp:IntKind.u64.wrap (pl:Int)=(pl:Int):=IntWalk.u64_in _ (by omega)
  have lk:=bu ek.toNat (by omega)
  have lq:=bu (eq-q).toNat (by omega)
  have la:=bu (ea-a).toNat (by omega)
  have lp:=bu ((pl:Int)).toNat (by omega)
  by_cases hp:pl=0
  ·subst hp
   rw[if_pos rfl]at E
   have am:cm.size≤24:=by have h:=bc.out;unfold fB at h;simp only[Bool.and_eq_true,decide_eq_true_iff]at h;exact h.2
   have lt:=qT cm am
   have ci:(au (0:Int).toNat).length≤10:=bu _ (by decide)
   have C:=K.r 3 rfl
   have t:=K.r 2 rfl
   go_wp2_with fail
   refine(GL H nn M _ (ns.map eX) cm _ (K.sl 0 rfl).names.1 (Nat.le_refl _) (by omega) (K.sl 0 rfl).names.2 R).mono ?_
   unfold xA
   rw[bi.out,P.out,if_neg (by simp)]
   by_cases J:ns.length=32
   ·rw[if_pos J]
    have o:Hid (er=9):=Lib.hid (by rw[o.out];simp[J])
    rintro e w5 ⟨T | T,d⟩
    rotate_left
    ·exact absurd T.1 (by decide)
    obtain⟨-,rfl⟩:=T
    have K:=(K.on d).mv 1 rfl
    clear d t C J
    go_upto_region 15 with(fail)
    refine K.rgt (fun V h=>h.tl) fun W K=>?_
    refine tL 0 (fun _ h=>h.at_ 2 rfl) K.tl ?_ (hy:=fun w I=>aM I)
    refine tK 1 K.tl ?_
    refine tK 2 K.tl ?_
    refine tSt 3 K 0 rfl (fun U h=>h.tl) fun U K=>?_
    refine tK 4 K.tl ?_
    refine tE ?_
    go_wp2
    exact K.rcM 0 rfl rfl ⟨K.below,.inl ⟨by rw[o.out];decide,by rw[o.out];rfl⟩⟩
   rw[if_neg J]
   have o:Hid (er=0):=Lib.hid (by rw[o.out];simp[J])
   clear J
   rintro e w5 ⟨T | T,d⟩
   ·exact absurd rfl T.1
   obtain⟨-,v,rfl,hown⟩:=T
   have bl:∀ W X,aC af W X ((ns.map eX ++ [cm]).map Value.string) (ns ++ [cm.data.toList]):=fun W X=>by
    have T:=sj (w:=W) (X:=X) (ns ++ [cm.data.toList]) (fun s L=>by
     rcases List.mem_append.1 L with L | L
     ·have h2:=(K.sl 0 rfl).names.2 (eX s) (List.mem_map_of_mem L);simpa [eX,ByteArray.size] using h2
     ·rw[List.mem_singleton]at L;subst L;rw[Array.length_toList];exact R)
    rw[List.map_append]at T;exact T
   obtain⟨A5,c5,rfl,b⟩:=Sl.of_made (s:=af) hown K.xok (bl _ _) Nat.zero_lt_one
   have K:=(K.on d).ksl b
   clear hown bl d b t C
   have c0:=K.c 0 rfl
   go_upto_region 17 with(fail)
   refine K.cw fun W K=>?_
   clear c0
   have C:=K.r 3 rfl
   have t:=K.r 2 rfl
   go_wp2_with fail
   with_reducible refine(fo (A:=none) (n:=0) (c:=0) (l:=([]:List UInt8)) K.xok Sl.nil_ ek (by omega) (by omega) (by omega)).mono ?_
   rintro e w6 ⟨A6,S,c6,rfl,b,d⟩
   have K:=(K.on d).ksl b
   clear d b t C
   have C:=K.r 3 rfl
   have t:=K.r 2 rfl
   go_wp2_with fail
   with_reducible refine(fo K.xok (K.sl 0 rfl) (eq-q) (by omega) (by omega) (by have:=(K.sl 0 rfl).len;simp only[List.length_append,List.length_nil]at this;omega)).mono ?_
   rintro e w6 ⟨A6,S,c6,rfl,b,d⟩
   have K:=(K.on d).ft.ksl b
   clear d b t C
   have C:=K.r 3 rfl
   have t:=K.r 2 rfl
   go_wp2_with fail
   with_reducible refine(fo K.xok (K.sl 0 rfl) (ea-a) (by omega) (by omega) (by have:=(K.sl 0 rfl).len;simp only[List.length_append,List.length_nil]at this;omega)).mono ?_
   rintro e w6 ⟨A6,S,c6,rfl,b,d⟩
   have K:=(K.on d).ft.ksl b
   clear d b t C
   have C:=K.r 3 rfl
   have t:=K.r 2 rfl
   go_wp2_with fail
   with_reducible refine(fo K.xok (K.sl 0 rfl) (0:Int) (by omega) (by omega) (by have:=(K.sl 0 rfl).len;simp only[List.length_append,List.length_nil]at this;omega)).mono ?_
   rintro e w6 ⟨A6,S,c6,rfl,b,d⟩
   have K:=(K.on d).ft.ksl b
   clear d b t C
   have t:=K.r 2 rfl
   go_wp2_with fail
   with_reducible refine(zO K.xok (K.sl 0 rfl) cm (by omega) (by have:=(K.sl 0 rfl).len;simp only[List.length_append,List.length_nil]at this;omega)).mono ?_
   rintro e w6 ⟨A6,S,c6,rfl,b,d⟩
   have K:=(K.on d).ft.ksl b
   clear d b t
   have F:=Lib.hid (show ar=([]:List UInt8)++au ek.toNat++au (eq-q).toNat++au (ea-a).toNat++au (0:Int).toNat++bG cm.data.toList++(([ex,u,B].take (cu ek)).flatMap (fun n=>au n.toNat)) from by rw[O.out];simp)
   go_wp2_with (first | refine K.ld 2 rfl ?_)
   refine((al _).out).mono ?_
   rintro e w7 ⟨gn,rfl,N,D,d⟩
   have bt:S≤80:=by have:=(K.sl 0 rfl).len;simp only[List.length_append,List.length_nil]at this;omega
   generalize ([]:List UInt8)++au ek.toNat++au (eq-q).toNat++au (ea-a).toNat++au (0:Int).toNat++bG cm.data.toList=pre at K F
   have K:=(K.out.add d (.box gn 2 #[.int .i64 ex,.int .i64 u,.int .i64 B]) D (fun g e=>by injection e with e;subst e;exact⟨N,D.lt⟩)).hh
   clear d D N
   have Q:=iD ek
   generalize cu ek=m at F Q ⊢
   have ah:=Lib.hid (tT ex u B m)
   clear wk wq wa ap bd wp lk lq la lp
   go_wp2
   go_loopw [12,99] (fun l0 i wr => ∃ (j:Nat) (Al:Option Addr) (nl cl:Nat),l0 = .slice Al nl cl∧j≤m∧i = .int .i64 j∧nl≤80+10*j∧HH w [] X wr [.box gn 2 #[.int .i64 ex,.int .i64 u,.int .i64 B],.box p 34 #[.int .i64 eq,.int .i64 ea,.slice A5 (nn+1) c5],.box (w.heap.size+2) 34 #[.int .i64 0,.int .i64 0,.slice none 0 0],.box (w.heap.size+1) 44 #[.int .i64 eq,.int .i64 ea,.int .i64 ek,.string cm,.int .i64 ex,.int .i64 u,.int .i64 B],.box w.heap.size 34 #[.int .i64 q,.int .i64 a,.slice H nn M]] [Sl.fact ak Al nl cl (pre++(([ex,u,B].take m).take j).flatMap (fun n=>au n.toNat)),Sl.fact af A5 (nn+1) c5 (ns ++ [cm.data.toList]),Sl.fact af H nn M ns]) (fun _ i _=>m-(intOf i).toNat)
   case atStart=>exact⟨0,_,_,_,rfl,Nat.zero_le _,rfl,by omega,by simpa using K⟩
   case round=>
    obtain⟨j,Al,nl,cl,rfl,hj,rfl,br,K⟩:=hrel
    by_cases ag:j<m
    ·have HZ:=Lib.hid (By ex u B j (by omega))
     have HT:=Lib.hid (ah.out j ag Q)
     have hz:0 ≤ [ex,u,B].getD j 0 ∧ [ex,u,B].getD j 0≤2147483647:=by rcases(by omega:j=0∨j=1∨j=2) with rfl | rfl | rfl<;>(simp;omega)
     generalize [ex,u,B].getD j 0=z at HZ HT hz
     have cz:wr.cell? ⟨gn,j,none⟩=some (.int .i64 z):=(K.r 0 rfl j).trans HZ.out
     have wz:IntKind.u64.wrap z=z:=IntWalk.u64_in _ (by omega)
     go_wp2_with fail
     with_reducible refine(fV K.xok (K.sl 0 rfl) z hz.1 (by omega) (by omega)).mono ?_
     rintro e w9 ⟨A9,c9,rfl,b,d⟩
     clear cz wz
     have h9:=bu z.toNat (by omega)
     rw[List.append_assoc,←HT.out]at b
     have K:=(K.on d).ft.ksl b
     clear d b
     go_wp2
     go_roundw
     case rel=>exact⟨j+1,A9,_,c9,rfl,by omega,by go_num,by omega,K⟩
     case measure=>simp[intOf];omega
    ·obtain rfl:m=j:=by omega
     have ao:=Lib.hid (show([ex,u,B].take m).take m = [ex,u,B].take m from by rw[List.take_take,Nat.min_self])
     rw[ao.out,←F.out]at K
     have K:=K.mv 2 rfl
     go_upto_region 28 with(fail)
     refine K.rgt (fun V h=>h.tl) fun W K=>?_
     refine tK 0 K.tl ?_
     refine tL 1 (fun _ h=>h.at_ 1 rfl) K.tl ?_ (hy:=fun w I=>aM I)
     refine tK 2 K.tl ?_
     refine tSt 3 K 0 rfl (fun U h=>h.tl) fun U K=>?_
     refine tK 4 K.tl ?_
     refine tE ?_
     go_wp2
     exact K.rcM 0 rfl rfl ⟨K.below,.inr ⟨by rw[o.out],Al,nl,cl,A5,(nn+1),c5,rfl,K.slb 0 rfl,by rw[E.out];exact K.slb 1 rfl⟩⟩
  ·have p1:((pl:Int) == 0)=false:=by rw[beq_eq_false_iff_ne];omega
   rw[if_neg hp]at E
   rw[if_neg (fun h=>hp h.1)]at o
   clear P
   have C:=K.r 3 rfl
   have t:=K.r 2 rfl
   go_wp2_with fail
   with_reducible refine(fo (A:=none) (n:=0) (c:=0) (l:=([]:List UInt8)) K.xok Sl.nil_ ek (by omega) (by omega) (by omega)).mono ?_
   rintro e w6 ⟨A6,S,c6,rfl,b,d⟩
   have K:=(K.on d).ksl b
   clear d b t C
   have C:=K.r 3 rfl
   have t:=K.r 2 rfl
   go_wp2_with fail
   with_reducible refine(fo K.xok (K.sl 0 rfl) (eq-q) (by omega) (by omega) (by have:=(K.sl 0 rfl).len;simp only[List.length_append,List.length_nil]at this;omega)).mono ?_
   rintro e w6 ⟨A6,S,c6,rfl,b,d⟩
   have K:=(K.on d).ft.ksl b
   clear d b t C
   have C:=K.r 3 rfl
   have t:=K.r 2 rfl
   go_wp2_with fail
   with_reducible refine(fo K.xok (K.sl 0 rfl) (ea-a) (by omega) (by omega) (by have:=(K.sl 0 rfl).len;simp only[List.length_append,List.length_nil]at this;omega)).mono ?_
   rintro e w6 ⟨A6,S,c6,rfl,b,d⟩
   have K:=(K.on d).ft.ksl b
   clear d b t C
   have C:=K.r 3 rfl
   have t:=K.r 2 rfl
   go_wp2_with fail
   with_reducible refine(fo K.xok (K.sl 0 rfl) (pl:Int) (by omega) (by omega) (by have:=(K.sl 0 rfl).len;simp only[List.length_append,List.length_nil]at this;omega)).mono ?_
   rintro e w6 ⟨A6,S,c6,rfl,b,d⟩
   have K:=(K.on d).ft.ksl b
   clear d b t C
   have F:=Lib.hid (show ar=([]:List UInt8)++au ek.toNat++au (eq-q).toNat++au (ea-a).toNat++au (pl:Int).toNat++(([ex,u,B].take (cu ek)).flatMap (fun n=>au n.toNat)) from by rw[O.out];simp[hp])
   go_wp2_with (first | refine K.ld 2 rfl ?_)
   refine((al _).out).mono ?_
   rintro e w7 ⟨gn,rfl,N,D,d⟩
   have bt:S≤80:=by have:=(K.sl 0 rfl).len;simp only[List.length_append,List.length_nil]at this;omega
   generalize ([]:List UInt8)++au ek.toNat++au (eq-q).toNat++au (ea-a).toNat++au (pl:Int).toNat=pre at K F
   have K:=(K.out.add d (.box gn 2 #[.int .i64 ex,.int .i64 u,.int .i64 B]) D (fun g e=>by injection e with e;subst e;exact⟨N,D.lt⟩)).hh
   clear d D N
   have Q:=iD ek
   generalize cu ek=m at F Q ⊢
   have ah:=Lib.hid (tT ex u B m)
   clear wk wq wa ap bd wp lk lq la lp
   go_wp2
   go_loopw [12,99] (fun l0 i wr => ∃ (j:Nat) (Al:Option Addr) (nl cl:Nat),l0 = .slice Al nl cl∧j≤m∧i = .int .i64 j∧nl≤80+10*j∧HH w [] X wr [.box gn 2 #[.int .i64 ex,.int .i64 u,.int .i64 B],.box p 34 #[.int .i64 eq,.int .i64 ea,.slice H nn nn],.box (w.heap.size+2) 34 #[.int .i64 0,.int .i64 0,.slice none 0 0],.box (w.heap.size+1) 44 #[.int .i64 eq,.int .i64 ea,.int .i64 ek,.string cm,.int .i64 ex,.int .i64 u,.int .i64 B],.box w.heap.size 34 #[.int .i64 q,.int .i64 a,.slice H nn M]] [Sl.fact ak Al nl cl (pre++(([ex,u,B].take m).take j).flatMap (fun n=>au n.toNat)),Sl.fact af H nn M ns]) (fun _ i _=>m-(intOf i).toNat)
   case atStart=>exact⟨0,_,_,_,rfl,Nat.zero_le _,rfl,by omega,by simpa using K⟩
   case round=>
    obtain⟨j,Al,nl,cl,rfl,hj,rfl,br,K⟩:=hrel
    by_cases ag:j<m
    ·have HZ:=Lib.hid (By ex u B j (by omega))
     have HT:=Lib.hid (ah.out j ag Q)
     have hz:0 ≤ [ex,u,B].getD j 0 ∧ [ex,u,B].getD j 0≤2147483647:=by rcases(by omega:j=0∨j=1∨j=2) with rfl | rfl | rfl<;>(simp;omega)
     generalize [ex,u,B].getD j 0=z at HZ HT hz
     have cz:wr.cell? ⟨gn,j,none⟩=some (.int .i64 z):=(K.r 0 rfl j).trans HZ.out
     have wz:IntKind.u64.wrap z=z:=IntWalk.u64_in _ (by omega)
     go_wp2_with fail
     with_reducible refine(fV K.xok (K.sl 0 rfl) z hz.1 (by omega) (by omega)).mono ?_
     rintro e w9 ⟨A9,c9,rfl,b,d⟩
     clear cz wz
     have h9:=bu z.toNat (by omega)
     rw[List.append_assoc,←HT.out]at b
     have K:=(K.on d).ft.ksl b
     clear d b
     go_wp2
     go_roundw
     case rel=>exact⟨j+1,A9,_,c9,rfl,by omega,by go_num,by omega,K⟩
     case measure=>simp[intOf];omega
    ·obtain rfl:m=j:=by omega
     have ao:=Lib.hid (show([ex,u,B].take m).take m = [ex,u,B].take m from by rw[List.take_take,Nat.min_self])
     rw[ao.out,←F.out]at K
     have K:=K.mv 2 rfl
     go_upto_region 28 with(fail)
     refine K.rgt (fun V h=>h.tl) fun W K=>?_
     refine tK 0 K.tl ?_
     refine tL 1 (fun _ h=>h.at_ 1 rfl) K.tl ?_ (hy:=fun w I=>aM I)
     refine tK 2 K.tl ?_
     refine tSt 3 K 0 rfl (fun U h=>h.tl) fun U K=>?_
     refine tK 4 K.tl ?_
     refine tE ?_
     go_wp2
     exact K.rcM 0 rfl rfl ⟨K.below,.inr ⟨by rw[o.out],Al,nl,cl,H,nn,nn,rfl,K.slb 0 rfl,by rw[E.out];exact(K.slb 1 rfl).cap (Nat.le_refl _) ad.out⟩⟩
end
section
open Go.RowKit
def eE (n:Int):Bool:=decide (1≤n)&&decide (n≤99999999)
theorem lH (n:Int) (w:World):Calls Tryz.prog 53 #[.int .i64 n] w fun e w'=>e = .returned (.bool (eE n))∧w=w':=by
 by_cases a:1≤n
 ·go_enter Tryz.func53,Tryz.ntmps53
  go_wp2
  go_ret
  exact⟨gi (by unfold eE;rw[decide_eq_true a];simp),rfl⟩
 ·have b:n<1:=by omega
  go_enter Tryz.func53,Tryz.ntmps53
  go_wp2
  go_ret
  exact⟨gi (by unfold eE;rw[decide_eq_false (by omega)];rfl),rfl⟩
def aS (n q a:Int):List UInt8:=au n.toNat++au q.toNat++au a.toNat
theorem jG {n q a:Int} (b:n<18446744073709551616) (d:q<18446744073709551616) (c:a<18446744073709551616):(aS n q a).length≤30:=by
 unfold aS
 rw[List.length_append,List.length_append]
 have:=bu n.toNat (by omega)
 have:=bu q.toNat (by omega)
 have:=bu a.toNat (by omega)
 omega
set_option maxHeartbeats 2000000 in
theorem BZ (A:Option Addr) (n c:Nat) (l:List UInt8) (num q a:Int) (v:Value) (X:List Nat) (w:World) (hX:XOk X w) (J:Sl ak w X A n c l) (V:n≤1000) (W:0≤num) (T:num≤9223372036854775807) (P:0≤q) (M:q≤4294967296) (O:0≤a) (Q:a≤1099511627776):
 Calls Tryz.prog 114 #[.slice A n c,.int .i64 num,.agg #[.int .i64 q,.int .i64 a,v]] w fun e w' => ∃ A' c',e = .returned (.slice A' (n+(aS num q a).length) c')∧Sl ak w' X A' (n+(aS num q a).length) c' (l++aS num q a)∧Below w.heap.size w w':=by
 have wn:IntKind.u64.wrap num=num:=IntWalk.u64_in _ (by omega)
 have U:IntKind.u64.wrap q=q:=IntWalk.u64_in _ (by omega)
 have wa:IntKind.u64.wrap a=a:=IntWalk.u64_in _ (by omega)
 have K:=Lib.hid (show l++aS num q a=l++au num.toNat++au q.toNat++au a.toNat from by unfold aS;simp)
 have H:=Lib.hid (show n+(aS num q a).length=n+(au num.toNat).length+(au q.toNat).length+(au a.toNat).length from by unfold aS;simp;omega)
 have S:=bu num.toNat (by omega)
 have R:=bu q.toNat (by omega)
 generalize aS num q a=p at K H ⊢
 have o:Hid (aq w [] X (w.alloc (.cells #[.int .i64 q,.int .i64 a,v] 34)) [.box (w.heap.size) 34 #[.int .i64 q,.int .i64 a,v]] [Sl.fact ak A n c l]):=(((aq.start w hX).alloc_at 34 #[.int .i64 q,.int .i64 a,v] (w.heap.size) (by simp)).know0 (Sl.fact ak A n c l) J)
 clear J
 go_enter Tryz.func114,Tryz.ntmps114
 go_wp2_with fail
 with_reducible refine(fV o.out.xok' (o.out.sl 0 rfl) num (by omega) (by omega) (by omega)).mono ?_
 rintro e x ⟨D,B,rfl,b,r⟩
 have z:Hid (aq w [] X x [.box (w.heap.size) 34 #[.int .i64 q,.int .i64 a,v]] [Sl.fact ak D (n+(au num.toNat).length) B (l++au num.toNat),Sl.fact ak A n c l]):=((o.out.on r).know (Sl.fact ak D (n+(au num.toNat).length) B (l++au num.toNat)) b)
 clear o
 clear r
 clear b
 have d:Hid (aq w [] X x [.box (w.heap.size) 34 #[.int .i64 q,.int .i64 a,v]] [Sl.fact ak D (n+(au num.toNat).length) B (l++au num.toNat)]):=(z.out.forget (List.Sublist.cons_cons _ (List.Sublist.cons _ List.Sublist.slnil)))
 clear z
 have m:x.cell? ⟨w.heap.size,0,none⟩=some (.int .i64 q):=d.out.cell 0 rfl 0
 have j:x.cell? ⟨w.heap.size,1,none⟩=some (.int .i64 a):=d.out.cell 0 rfl 1
 have k:x.cell? ⟨w.heap.size,2,none⟩=some (v):=d.out.cell 0 rfl 2
 go_wp2_with fail
 with_reducible refine(fV d.out.xok' (d.out.sl 0 rfl) q (by omega) (by omega) (by omega)).mono ?_
 rintro e u ⟨F,C,rfl,b,r⟩
 clear m j k
 have y:Hid (aq w [] X u [.box (w.heap.size) 34 #[.int .i64 q,.int .i64 a,v]] [Sl.fact ak F (n+(au num.toNat).length+(au q.toNat).length) C (l++au num.toNat++au q.toNat),Sl.fact ak D (n+(au num.toNat).length) B (l++au num.toNat)]):=((d.out.on r).know (Sl.fact ak F (n+(au num.toNat).length+(au q.toNat).length) C (l++au num.toNat++au q.toNat)) b)
 clear d
 clear r
 clear b
 have f:Hid (aq w [] X u [.box (w.heap.size) 34 #[.int .i64 q,.int .i64 a,v]] [Sl.fact ak F (n+(au num.toNat).length+(au q.toNat).length) C (l++au num.toNat++au q.toNat)]):=(y.out.forget (List.Sublist.cons_cons _ (List.Sublist.cons _ List.Sublist.slnil)))
 clear y
 have i:u.cell? ⟨w.heap.size,0,none⟩=some (.int .i64 q):=f.out.cell 0 rfl 0
 have g:u.cell? ⟨w.heap.size,1,none⟩=some (.int .i64 a):=f.out.cell 0 rfl 1
 have h:u.cell? ⟨w.heap.size,2,none⟩=some (v):=f.out.cell 0 rfl 2
 go_wp2_with fail
 with_reducible refine(fV f.out.xok' (f.out.sl 0 rfl) a (by omega) (by omega) (by omega)).mono ?_
 rintro e L ⟨E,G,rfl,b,r⟩
 clear i g h
 have t:Hid (aq w [] X L [.box (w.heap.size) 34 #[.int .i64 q,.int .i64 a,v]] [Sl.fact ak E (n+(au num.toNat).length+(au q.toNat).length+(au a.toNat).length) G (l++au num.toNat++au q.toNat++au a.toNat),Sl.fact ak F (n+(au num.toNat).length+(au q.toNat).length) C (l++au num.toNat++au q.toNat)]):=((f.out.on r).know (Sl.fact ak E (n+(au num.toNat).length+(au q.toNat).length+(au a.toNat).length) G (l++au num.toNat++au q.toNat++au a.toNat)) b)
 clear f
 clear r
 clear b
 have s:Hid (aq w [] X L [.box (w.heap.size) 34 #[.int .i64 q,.int .i64 a,v]] [Sl.fact ak E (n+(au num.toNat).length+(au q.toNat).length+(au a.toNat).length) G (l++au num.toNat++au q.toNat++au a.toNat)]):=(t.out.forget (List.Sublist.cons_cons _ (List.Sublist.cons _ List.Sublist.slnil)))
 clear t
 have I:=Lib.hid (s.out.sl 0 rfl)
 rw[←H.out]at I
 rw[←K.out]at I
 go_wp2
 go_ret
 exact⟨E,G,by rw[H.out];rfl,I.out.more (fun _ _ N=>List.mem_append_right _ N),s.out.below⟩
theorem sN {A:Option Addr} {n c:Nat} {l:List UInt8} {X:List Nat} {w:World} (hX:XOk X w) (b:Sl ak w X A n c l) (k:Int) (f:1≤k) (d:k≤3) (g:n≤200):
 Calls Tryz.prog 126 #[.int .i64 k,.slice A n c] w fun e w' => ∃ A' c',e = .returned (.tuple #[.slice A' (n+7) c',.int .i64 0])∧Sl ak w' X A' (n+7) c' (av k l)∧Below w.heap.size w w':=by
 refine(Eh k A n c w.heap.size l w f d g b.bytes (Nat.le_refl _)).mono ?_
 rintro e w' ⟨v,rfl,hown,a⟩
 obtain⟨A',c',rfl,h⟩:=Sl.of_made (s:=ak) hown hX (di _) (Nat.zero_lt_one)
 exact⟨A',c',rfl,h,a⟩
end
section
open Go.RowKit
def ku (r:List UInt8×Int) (X:List Nat) (w:World) (e:Ending) (w':World):Prop:=
 Below w.heap.size w w'∧((r.2≠0∧e = .returned (.tuple #[.slice none 0 0,.int .i64 r.2]))∨(r.2=0 ∧ ∃ A c,e = .returned (.tuple #[.slice A r.1.length c,.int .i64 0])∧Sl ak w' X A r.1.length c r.1))
def aR:List UInt8:=[102,98,120,49]
def kZ (num:Int) (c:Cx):List UInt8×Int:=if eE num=false∨aN c=false∨0<c.ns.length then([],1) else(av 1 (aR++aS num c.q c.a),0)
def mz (many:Int) (c:Cx):List UInt8×Int:=if many<0∨aN c=false then([],1) else(av 3 (aS many c.q c.a),0)
theorem eR {c:Cx} (h:aN c=true):0≤c.q∧c.q≤4294967296∧0≤c.a∧c.a≤1099511627776:=by
 unfold aN at h
 simp only[Bool.and_eq_true,decide_eq_true_iff]at h
 exact⟨h.1.1.1.1,h.1.1.1.2,h.1.1.2,h.1.2⟩
set_option maxHeartbeats 4000000 in
theorem Fh (num q a:Int) (ns:List (List UInt8)) (g:Option Addr) (nn i:Nat) (X:List Nat) (w:World) (hX:XOk X w) (I:Sl af w X g nn i ns) (N:nn≤1000):
 Calls Tryz.prog 61 #[.int .i64 num,.agg #[.int .i64 q,.int .i64 a,.slice g nn i]] w (ku (kZ num ⟨q,a,ns⟩) X w):=by
 have y:=Lib.hid I.len
 have l:Hid (kZ num ⟨q,a,ns⟩=if eE num=false∨aN ⟨q,a,ns⟩=false∨0<ns.length then([],1) else(av 1 (aR++aS num q a),0)):=rfl
 have z:=fun W=>Lib.hid (lH num W)
 have v:Hid (eE num=true→1≤num∧num≤99999999):=fun h=>by unfold eE at h;simpa using h
 have G:=fun(X:List Nat) (W:World) (h:Sl af W X g nn i ns)=>Lib.hid (jy q a ns g nn i X W h N)
 have u:=Lib.hid (@eR ⟨q,a,ns⟩)
 unfold ku
 generalize kZ num ⟨q,a,ns⟩=r at l ⊢
 generalize eE num=nb at l z v
 generalize aN ⟨q,a,ns⟩=rc at l G u
 have k:Hid (aq w [] X (w.alloc (.cells #[.int .i64 q,.int .i64 a,.slice g nn i] 34)) [.box (w.heap.size) 34 #[.int .i64 q,.int .i64 a,.slice g nn i]] [Sl.fact af g nn i ns]):=(((aq.start w hX).alloc_at 34 #[.int .i64 q,.int .i64 a,.slice g nn i] (w.heap.size) (by simp)).know0 (Sl.fact af g nn i ns) I)
 clear I
 cases nb
 ·skip
  rw[if_pos (.inl rfl)]at l
  go_enter Tryz.func61,Tryz.ntmps61
  go_wp2_with (go_at_call 53;refine((z _).out).mono ?_;rintro e w' ⟨rfl,rfl⟩)
  go_ret2
  exact⟨k.out.below,.inl ⟨by rw[l.out];exact(by decide:(1:Int)≠0),by rw[l.out];rfl⟩⟩
 cases rc
 ·skip
  rw[if_pos (.inr (.inl rfl))]at l
  go_enter Tryz.func61,Tryz.ntmps61
  go_wp2_with (first | (go_at_call 53;refine((z _).out).mono ?_;rintro e w' ⟨rfl,rfl⟩) | fail)
  with_reducible refine((G _ _ (k.out.sl 0 rfl)).out).mono ?_
  rintro e j ⟨rfl,m⟩
  have f:Hid (aq w [] X j [.box (w.heap.size) 34 #[.int .i64 q,.int .i64 a,.slice g nn i]] [Sl.fact af g nn i ns]):=(k.out.on m)
  clear k
  clear m
  have c:j.cell? ⟨w.heap.size,0,none⟩=some (.int .i64 q):=f.out.cell 0 rfl 0
  have d:j.cell? ⟨w.heap.size,1,none⟩=some (.int .i64 a):=f.out.cell 0 rfl 1
  have b:j.cell? ⟨w.heap.size,2,none⟩=some (.slice g nn i):=f.out.cell 0 rfl 2
  go_wp2
  clear c d b
  go_ret2
  exact⟨f.out.below,.inl ⟨by rw[l.out];exact(by decide:(1:Int)≠0),by rw[l.out];rfl⟩⟩
 by_cases H:0<ns.length
 ·skip
  rw[if_pos (.inr (.inr H))]at l
  have t:0<nn:=by have:=y.out;omega
  have V:decide ((0:Int)<(nn:Int))=true:=by simp;omega
  clear H
  go_enter Tryz.func61,Tryz.ntmps61
  go_wp2_with (first | (go_at_call 53;refine((z _).out).mono ?_;rintro e w' ⟨rfl,rfl⟩) | fail)
  with_reducible refine((G _ _ (k.out.sl 0 rfl)).out).mono ?_
  rintro e j ⟨rfl,m⟩
  have f:Hid (aq w [] X j [.box (w.heap.size) 34 #[.int .i64 q,.int .i64 a,.slice g nn i]] [Sl.fact af g nn i ns]):=(k.out.on m)
  clear k
  clear m
  have c:j.cell? ⟨w.heap.size,0,none⟩=some (.int .i64 q):=f.out.cell 0 rfl 0
  have d:j.cell? ⟨w.heap.size,1,none⟩=some (.int .i64 a):=f.out.cell 0 rfl 1
  have b:j.cell? ⟨w.heap.size,2,none⟩=some (.slice g nn i):=f.out.cell 0 rfl 2
  go_wp2
  clear c d b
  go_ret2
  exact⟨f.out.below,.inl ⟨by rw[l.out];exact(by decide:(1:Int)≠0),by rw[l.out];rfl⟩⟩
 rw[if_neg (by simpa using H)]at l
 have t:nn=0:=by have:=y.out;omega
 subst t
 clear H
 obtain⟨S,U⟩:=v.out rfl
 obtain⟨C,x,B,D⟩:=u.out rfl
 simp only at C x B D
 clear v u
 go_enter Tryz.func61,Tryz.ntmps61
 go_wp2_with (first | (go_at_call 53;refine((z _).out).mono ?_;rintro e w' ⟨rfl,rfl⟩) | fail)
 with_reducible refine((G _ _ (k.out.sl 0 rfl)).out).mono ?_
 rintro e j ⟨rfl,m⟩
 have f:Hid (aq w [] X j [.box (w.heap.size) 34 #[.int .i64 q,.int .i64 a,.slice g 0 i]] [Sl.fact af g 0 i ns]):=(k.out.on m)
 clear k
 clear m
 have c:j.cell? ⟨w.heap.size,0,none⟩=some (.int .i64 q):=f.out.cell 0 rfl 0
 have d:j.cell? ⟨w.heap.size,1,none⟩=some (.int .i64 a):=f.out.cell 0 rfl 1
 have b:j.cell? ⟨w.heap.size,2,none⟩=some (.slice g 0 i):=f.out.cell 0 rfl 2
 have kc:=Lib.run_convert_bytes_const (P:=Tryz.prog) j 50 5 #[.int .u8 102,.int .u8 98,.int .u8 120,.int .u8 49] 4 4 Tryz.underlying50 Tryz.underlying5
 have R:w.heap.size<j.heap.size:=f.out.lt 0 rfl
 go_wp2_with fail
 clear c d b
 clear kc
 have s:Hid (aq w [] X (j.alloc (.cells #[.int .u8 102,.int .u8 98,.int .u8 120,.int .u8 49] 5 (4,5))) [.box (w.heap.size) 34 #[.int .i64 q,.int .i64 a,.slice g 0 i]] [Sl.fact ak (some ⟨j.heap.size,0,none⟩) 4 4 aR,Sl.fact af g 0 i ns]):=f.out.marked #[.int .u8 102,.int .u8 98,.int .u8 120,.int .u8 49] 5 (4,5) aR rfl (by unfold maxLen;decide)
 clear f
 with_reducible refine(BZ (some ⟨j.heap.size,0,none⟩) 4 4 aR num q a _ _ _ s.out.xok' (s.out.sl 0 rfl) (by omega) (by omega) (by omega) C x B D).mono ?_
 rintro e Q ⟨L,J,rfl,o,m⟩
 have Y:=jG (n:=num) (q:=q) (a:=a) (by omega) (by omega) (by omega)
 have F:Hid ((aR++aS num q a).length+7=(av 1 (aR++aS num q a)).length):=(aW 1 (aR++aS num q a)).symm
 have E:=Lib.hid (show(aR++aS num q a).length=4+(aS num q a).length from by rw[List.length_append];rfl)
 have p:Hid (aq w [] X Q [.box (w.heap.size) 34 #[.int .i64 q,.int .i64 a,.slice g 0 i]] [Sl.fact ak L (4+(aS num q a).length) J (aR++aS num q a),Sl.fact ak (some ⟨j.heap.size,0,none⟩) 4 4 aR,Sl.fact af g 0 i ns]):=((s.out.on m).know (Sl.fact ak L (4+(aS num q a).length) J (aR++aS num q a)) o)
 clear s
 clear m
 clear o
 skip
 go_wp2_with fail
 with_reducible refine(sN p.out.xok' (p.out.sl 0 rfl) 1 (by omega) (by omega) (by omega)).mono ?_
 rintro e T ⟨K,M,rfl,o,m⟩
 have A:Hid (aq w [] X T [.box (w.heap.size) 34 #[.int .i64 q,.int .i64 a,.slice g 0 i]] [Sl.fact ak K (4+(aS num q a).length+7) M (av 1 (aR++aS num q a)),Sl.fact ak L (4+(aS num q a).length) J (aR++aS num q a),Sl.fact ak (some ⟨j.heap.size,0,none⟩) 4 4 aR,Sl.fact af g 0 i ns]):=((p.out.on m).know (Sl.fact ak K (4+(aS num q a).length+7) M (av 1 (aR++aS num q a))) o)
 clear p
 clear m
 clear o
 have O:=Lib.hid (A.out.back' 0 rfl)
 rw[←E.out,F.out]at O
 go_wp2
 go_ret2
 exact⟨A.out.below,.inr ⟨by rw[l.out],K,M,by rw[l.out,←F.out,E.out];rfl,by rw[l.out];exact O.out⟩⟩
set_option maxHeartbeats 4000000 in
theorem FO (many q a:Int) (ns:List (List UInt8)) (g:Option Addr) (nn i:Nat) (X:List Nat) (w:World) (hX:XOk X w) (H:Sl af w X g nn i ns) (G:nn≤1000) (M:many≤9223372036854775807):
 Calls Tryz.prog 63 #[.int .i64 many,.agg #[.int .i64 q,.int .i64 a,.slice g nn i]] w (ku (mz many ⟨q,a,ns⟩) X w):=by
 have l:Hid (mz many ⟨q,a,ns⟩=if many<0∨aN ⟨q,a,ns⟩=false then([],1) else(av 3 (aS many q a),0)):=rfl
 have D:=fun(X:List Nat) (W:World) (h:Sl af W X g nn i ns)=>Lib.hid (jy q a ns g nn i X W h G)
 have s:=Lib.hid (@eR ⟨q,a,ns⟩)
 unfold ku
 generalize mz many ⟨q,a,ns⟩=r at l ⊢
 generalize aN ⟨q,a,ns⟩=rc at l D s
 have j:Hid (aq w [] X (w.alloc (.cells #[.int .i64 q,.int .i64 a,.slice g nn i] 34)) [.box (w.heap.size) 34 #[.int .i64 q,.int .i64 a,.slice g nn i]] [Sl.fact af g nn i ns]):=(((aq.start w hX).alloc_at 34 #[.int .i64 q,.int .i64 a,.slice g nn i] (w.heap.size) (by simp)).know0 (Sl.fact af g nn i ns) H)
 clear H
 by_cases E:many<0
 ·skip
  rw[if_pos (.inl E)]at l
  go_enter Tryz.func63,Tryz.ntmps63
  go_wp2
  go_ret2
  exact⟨j.out.below,.inl ⟨by rw[l.out];exact(by decide:(1:Int)≠0),by rw[l.out];rfl⟩⟩
 have L:0≤many:=by omega
 cases rc
 ·skip
  rw[if_pos (.inr rfl)]at l
  go_enter Tryz.func63,Tryz.ntmps63
  go_wp2_with fail
  with_reducible refine((D _ _ (j.out.sl 0 rfl)).out).mono ?_
  rintro e o ⟨rfl,m⟩
  have d:Hid (aq w [] X o [.box (w.heap.size) 34 #[.int .i64 q,.int .i64 a,.slice g nn i]] [Sl.fact af g nn i ns]):=(j.out.on m)
  clear j
  clear m
  have c:o.cell? ⟨w.heap.size,0,none⟩=some (.int .i64 q):=d.out.cell 0 rfl 0
  have f:o.cell? ⟨w.heap.size,1,none⟩=some (.int .i64 a):=d.out.cell 0 rfl 1
  have b:o.cell? ⟨w.heap.size,2,none⟩=some (.slice g nn i):=d.out.cell 0 rfl 2
  go_wp2
  clear c f b
  go_ret2
  exact⟨d.out.below,.inl ⟨by rw[l.out];exact(by decide:(1:Int)≠0),by rw[l.out];rfl⟩⟩
 rw[if_neg (by simpa using E)]at l
 obtain⟨x,t,v,y⟩:=s.out rfl
 simp only at x t v y
 clear s E
 go_enter Tryz.func63,Tryz.ntmps63
 go_wp2_with fail
 with_reducible refine((D _ _ (j.out.sl 0 rfl)).out).mono ?_
 rintro e o ⟨rfl,m⟩
 have d:Hid (aq w [] X o [.box (w.heap.size) 34 #[.int .i64 q,.int .i64 a,.slice g nn i]] [Sl.fact af g nn i ns]):=(j.out.on m)
 clear j
 clear m
 have c:o.cell? ⟨w.heap.size,0,none⟩=some (.int .i64 q):=d.out.cell 0 rfl 0
 have f:o.cell? ⟨w.heap.size,1,none⟩=some (.int .i64 a):=d.out.cell 0 rfl 1
 have b:o.cell? ⟨w.heap.size,2,none⟩=some (.slice g nn i):=d.out.cell 0 rfl 2
 go_wp2_with fail
 with_reducible refine(BZ none 0 0 [] many q a _ _ _ d.out.xok' Sl.nil_ (by omega) (by omega) (by omega) x t v y).mono ?_
 rintro e J ⟨C,A,rfl,k,m⟩
 rw[List.nil_append,Nat.zero_add]at k
 rw[Nat.zero_add]
 have N:=jG (n:=many) (q:=q) (a:=a) (by omega) (by omega) (by omega)
 have z:Hid ((aS many q a).length+7=(av 3 (aS many q a)).length):=(aW 3 (aS many q a)).symm
 clear c f b
 have p:Hid (aq w [] X J [.box (w.heap.size) 34 #[.int .i64 q,.int .i64 a,.slice g nn i]] [Sl.fact ak C (aS many q a).length A (aS many q a),Sl.fact af g nn i ns]):=((d.out.on m).know (Sl.fact ak C (aS many q a).length A (aS many q a)) k)
 clear d
 clear m
 clear k
 go_wp2_with fail
 with_reducible refine(sN p.out.xok' (p.out.sl 0 rfl) 3 (by omega) (by omega) (by omega)).mono ?_
 rintro e K ⟨B,F,rfl,k,m⟩
 have u:Hid (aq w [] X K [.box (w.heap.size) 34 #[.int .i64 q,.int .i64 a,.slice g nn i]] [Sl.fact ak B ((aS many q a).length+7) F (av 3 (aS many q a)),Sl.fact ak C (aS many q a).length A (aS many q a),Sl.fact af g nn i ns]):=((p.out.on m).know (Sl.fact ak B ((aS many q a).length+7) F (av 3 (aS many q a))) k)
 clear p
 clear m
 clear k
 have I:=Lib.hid (u.out.back' 0 rfl)
 rw[z.out]at I
 go_wp2
 go_ret2
 exact⟨u.out.below,.inr ⟨by rw[l.out],B,F,by rw[l.out,←z.out];rfl,by rw[l.out];exact I.out⟩⟩
end
section
open Go.RowKit
def bO (bs:List UInt8) (a e:Int):Nat→Int×Int×List Int
 | 0=>(a,e,[])
 | k+1=>((cT bs (bO bs a e k).1 (bO bs a e k).2.1 2147483647).1,(cT bs (bO bs a e k).1 (bO bs a e k).2.1 2147483647).2.1,(bO bs a e k).2.2 ++ [((cT bs (bO bs a e k).1 (bO bs a e k).2.1 2147483647).2.2:Int)])
def dV (c:Cx) (bs:List UInt8):Evt×Bool:=
 let r1:=cT bs 0 0 10
 let r2:=cT bs r1.1 r1.2.1 4294967296
 let r3:=cT bs r2.1 r2.2.1 1099511627776
 let r4:=cT bs r3.1 r3.2.1 32
 let t:=if r4.2.2=0 then jI bs r4.1 r4.2.1 24 else(r4.1,r4.2.1,(c.ns[r4.2.2-1]?).getD [])
 let l:=bO bs t.1 t.2.1 (cu (r1.2.2:Int))
 (lg ⟨c.q+(r2.2.2:Int),c.a+(r3.2.2:Int),(r1.2.2:Int),eX t.2.2,0,0,0⟩ l.2.2,decide (l.2.1=0))
theorem lQ (A:Option Addr) (n c:Nat) (at_ err:Int) (bs:List UInt8) (B:Nat) (w:World) (h:Reads w B 1 A n (byteCells bs)) (hB:B≤w.heap.size) (a:n≤c) (b:c≤9223372036854775807) (i:n≤10000) (most:Nat) (g:most≤1099511627776) (f:Int) (d:(most:Int)=f):
 Calls Tryz.prog 260 #[.agg #[.slice A n c,.int .i64 at_,.int .i64 err],.int .u64 f] w fun e w'=>e = .returned (.tuple #[.agg #[.slice A n c,.int .i64 (cT bs at_ err most).1,.int .i64 (cT bs at_ err most).2.1],.int .i64 ((cT bs at_ err most).2.2:Int)])∧Below w.heap.size w w':=by
 subst d
 exact FJ A n c at_ err bs B w h hB a b i most g
set_option maxHeartbeats 8000000 in
theorem FA (q a:Int) (ns:List (List UInt8)) (G:Option Addr) (nn H:Nat) (A:Option Addr) (n c:Nat) (bs:List UInt8) (X:List Nat) (w:World) (hX:XOk X w) (hs:Sl af w X G nn H ns) (B:Nat) (hr:Reads w B 1 A n (byteCells bs)) (hB:B≤w.heap.size) (ae:n≤c) (ar:c≤9223372036854775807)
 (ao:nn≤1000) (O:n≤10000) (al:0≤q) (ag:q≤4294967296) (aw:0≤a) (am:a≤1099511627776):
 Calls Tryz.prog 233 #[.agg #[.int .i64 q,.int .i64 a,.slice G nn H],.slice A n c] w fun e w'=>e = .returned (.tuple #[.agg (evA (dV ⟨q,a,ns⟩ bs).1),.bool (dV ⟨q,a,ns⟩ bs).2])∧Below w.heap.size w w':=by
 have R:=Lib.hid hs.len
 have M:=Lib.hid hr
 obtain⟨⟨x1,y1,s⟩,h1⟩:∃ r,cT bs 0 0 10=r:=⟨_,rfl⟩
 obtain⟨⟨x2,y2,t⟩,h2⟩:∃ r,cT bs x1 y1 4294967296=r:=⟨_,rfl⟩
 obtain⟨⟨x3,y3,u⟩,h3⟩:∃ r,cT bs x2 y2 1099511627776=r:=⟨_,rfl⟩
 obtain⟨⟨f,d,l⟩,h4⟩:∃ r,cT bs x3 y3 32=r:=⟨_,rfl⟩
 have l1:=mA bs 0 0 10
 have l2:=mA bs x1 y1 4294967296
 have l3:=mA bs x2 y2 1099511627776
 have l4:=mA bs x3 y3 32
 rw[h1]at l1;rw[h2]at l2;rw[h3]at l3;rw[h4]at l4
 simp only at l1 l2 l3 l4
 have g:=Lib.hid (show dV ⟨q,a,ns⟩ bs=(lg ⟨q+(t:Int),a+(u:Int),(s:Int),eX (if l=0 then jI bs f d 24 else(f,d,(ns[l-1]?).getD [])).2.2,0,0,0⟩ (bO bs (if l=0 then jI bs f d 24 else(f,d,(ns[l-1]?).getD [])).1 (if l=0 then jI bs f d 24 else(f,d,(ns[l-1]?).getD [])).2.1 (cu (s:Int))).2.2,decide ((bO bs (if l=0 then jI bs f d 24 else(f,d,(ns[l-1]?).getD [])).1 (if l=0 then jI bs f d 24 else(f,d,(ns[l-1]?).getD [])).2.1 (cu (s:Int))).2.1=0)) from by
  unfold dV;simp only[h1,h2,h3,h4])
 have H1:=Lib.hid h1
 have H2:=Lib.hid h2
 have H3:=Lib.hid h3
 have H4:=Lib.hid h4
 clear h1 h2 h3 h4
 generalize dV ⟨q,a,ns⟩ bs=r at g ⊢
 have wq:IntKind.i64.wrap (q+(t:Int))=q+(t:Int):=IntWalk.i64_in _ (by omega)
 have wa:IntKind.i64.wrap (a+(u:Int))=a+(u:Int):=IntWalk.i64_in _ (by omega)
 have L:=iD (s:Int)
 have HM:=fun W=>Lib.hid (wZ (s:Int) W)
 generalize cu (s:Int)=m at HM g L
 have ap:=hX
 go_enter Tryz.func233,Tryz.ntmps233
 go_upto_region 1 with(fail)
 refine(hstart hX).cw fun W K=>?_
 have K:=K.ksl0 hs
 have HS:=Lib.hid hs
 clear hs hr
 go_wp2_with fail
 with_reducible refine(rQ A n c _ ae).mono ?_
 rintro e w1 ⟨rfl,b⟩
 have K:=K.on b
 clear b
 go_wp2_with fail
 with_reducible refine(lQ A n n 0 0 bs _ _ (M.out.below (K.below.mono hB)) (Nat.le_trans hB K.out.size) (Nat.le_refl _) (by omega) O 10 (by omega) 10 rfl).mono ?_
 rw[H1.out]
 rintro e w2 ⟨rfl,b⟩
 have K:=K.on b
 clear b
 go_upto_region 2 with(refine K.lw fun W K=>?_;refine K.sr 0 rfl fun W K=>?_)
 go_wp2_with (first | refine K.ld 0 rfl ?_)
 with_reducible refine(lQ A n n x1 y1 bs _ _ (M.out.below (K.below.mono hB)) (Nat.le_trans hB K.out.size) (Nat.le_refl _) (by omega) O 4294967296 (by omega) 4294967296 rfl).mono ?_
 rw[H2.out]
 rintro e w3 ⟨rfl,b⟩
 have K:=K.on b
 clear b
 go_upto_region 3 with(refine K.lw fun W K=>?_;refine K.sr 0 rfl fun W K=>?_)
 go_wp2_with (first | refine K.ld 0 rfl ?_)
 with_reducible refine(lQ A n n x2 y2 bs _ _ (M.out.below (K.below.mono hB)) (Nat.le_trans hB K.out.size) (Nat.le_refl _) (by omega) O 1099511627776 (by omega) 1099511627776 rfl).mono ?_
 rw[H3.out]
 rintro e w4 ⟨rfl,b⟩
 have K:=K.on b
 clear b
 go_upto_region 4 with(refine K.lw fun W K=>?_;refine K.sr 0 rfl fun W K=>?_)
 go_wp2_with (first | refine K.ld 0 rfl ?_)
 with_reducible refine(lQ A n n x3 y3 bs _ _ (M.out.below (K.below.mono hB)) (Nat.le_trans hB K.out.size) (Nat.le_refl _) (by omega) O 32 (by omega) 32 rfl).mono ?_
 rw[H4.out]
 rintro e w5 ⟨rfl,b⟩
 have K:=K.on b
 clear b
 go_upto_region 5 with(refine K.lw fun W K=>?_;refine K.sr 0 rfl fun W K=>?_)
 refine K.cw fun W5 K=>?_
 have c2:=K.r 2 rfl
 go_upto_region 6 with(fail)
 refine K.cw fun W K=>?_
 clear c2
 generalize W5.heap.size=ge at K ⊢
 generalize w2.heap.size=gk at K ⊢
 by_cases hp:l=0
 ·obtain⟨⟨I,J,nm⟩,h5⟩:∃ r,jI bs f d 24=r:=⟨_,rfl⟩
  have H5:=Lib.hid h5
  subst hp
  rw[if_pos rfl,h5]at g
  clear h5
  simp only at g
  go_wp2_with (first | refine K.ld 1 rfl ?_)
  with_reducible refine(Aj A n n f d bs _ _ (M.out.below (K.below.mono hB)) (Nat.le_trans hB K.out.size) (Nat.le_refl _) (by omega) O 24 (by omega)).mono ?_
  rw[H5.out]
  rintro e w7 ⟨rfl,b⟩
  have K:=K.on b
  clear b
  go_upto_region 11 with(refine K.lw fun W K=>?_;refine K.sr 1 rfl fun W K=>?_;have c0:=K.c 0 rfl)
  refine K.cw fun W K=>?_
  clear c0
  have c0:=K.r 0 rfl
  go_wp2_with (go_at_call 57;refine((HM _).out).mono ?_;rintro e w' ⟨rfl,rfl⟩)
  clear c0
  have K:=K.nrow (e:=2) (size:=1) (n:=0) (v := .slice none 0 0) (xs:=[]) (Below.refl _ _) ⟨rfl,.inl ⟨rfl,rfl⟩⟩
  go_loopw [14,69] (fun Q i wr => ∃ (j:Nat) (F:Option Addr) (cl:Nat),Q = .slice F j cl∧j≤m∧i = .int .i64 j∧HH w [] X wr [.row 2 1 (.slice F j cl) j ((bO bs I J j).2.2.map (Value.int .i64)),.box ge 44 #[.int .i64 (q+(t:Int)),.int .i64 (a+(u:Int)),.int .i64 (s:Int),.string (eX nm),.int .i64 0,.int .i64 0,.int .i64 0],.box gk 252 #[.slice A n n,.int .i64 (bO bs I J j).1,.int .i64 (bO bs I J j).2.1],.box (w.heap.size+1) 44 #[.int .i64 0,.int .i64 0,.int .i64 0,.string ⟨#[]⟩,.int .i64 0,.int .i64 0,.int .i64 0],.box w.heap.size 34 #[.int .i64 q,.int .i64 a,.slice G nn H]] [Sl.fact af G nn H ns]) (fun _ i _=>m-(intOf i).toNat)
  case atStart=>exact⟨0,none,0,rfl,Nat.zero_le _,rfl,K⟩
  case round=>
   obtain⟨j,F,cl,rfl,hj,rfl,K⟩:=hrel
   by_cases T:j<m
   ·obtain⟨⟨x6,Z,v6⟩,D⟩:∃ r,cT bs (bO bs I J j).1 (bO bs I J j).2.1 2147483647=r:=⟨_,rfl⟩
    have y:=Lib.hid (show bO bs I J (j+1)=(x6,Z,(bO bs I J j).2.2 ++ [(v6:Int)]) from by rw[bO,D])
    have z:=Lib.hid D
    clear D
    generalize k:bO bs I J j=st at K z y
    clear k
    obtain⟨N,E,sl⟩:=st
    simp only at K z y
    go_wp2_with (first | refine K.ld 2 rfl ?_)
    with_reducible refine(lQ A n n N E bs _ _ (M.out.below (K.below.mono hB)) (Nat.le_trans hB K.out.size) (Nat.le_refl _) (by omega) O 2147483647 (by omega) 2147483647 rfl).mono ?_
    rw[z.out]
    rintro e w7 ⟨rfl,b⟩
    have K:=K.on b
    clear b
    go_upto_region 16 with(refine K.lw fun W K=>?_;refine K.sr 2 rfl fun W K=>?_)
    go_wp2_with (at_builtin;refine K.lw fun W K=>?_;refine K.ap1 8 0 rfl (by omega) fun v' U K=>?_)
    obtain⟨C,x,rfl,-⟩:=aK (K.row 0 rfl)
    go_roundw
    case rel=>exact⟨j+1,C,x,rfl,by omega,by go_num,by rw[y.out];simp only[List.map_append,List.map_cons,List.map_nil];exact K⟩
    case measure=>simp[intOf];omega
   ·obtain rfl:m=j:=by omega
    generalize k:bO bs I J m=st at K g
    clear k
    obtain⟨N,E,sl⟩:=st
    simp only at K g
    have HD:=Lib.hid (show(E == 0)=r.2 from by rw[g.out];rfl)
    have p:=Lib.hid (show lg ⟨q+(t:Int),a+(u:Int),(s:Int),(eX nm),0,0,0⟩ sl=r.1 from by rw[g.out])
    have K:=K.mv 3 rfl
    go_upto_region 18 with(fail)
    refine K.rgt (fun V h=>h.tl) fun W K=>?_
    refine tL 0 (fun _ h=>h.at_ 1 rfl) K.tl ?_ (hy:=fun w Y=>aM Y)
    refine tK 1 K.tl ?_
    refine tK 3 K.tl ?_
    refine tL 4 (fun _ h=>h.r 2 rfl) K.tl ?_
    refine tK 5 K.tl ?_
    refine tC 2 fun K' hK=>?_
    go_simp
    obtain⟨ac,ab,e3,-,-,-,o⟩:=iI (K.row 1 rfl)
    injection e3 with e4 e5 e6
    subst e4 e6
    refine(vB ⟨q+(t:Int),a+(u:Int),(s:Int),(eX nm),0,0,0⟩ _ m _ _ sl _ o (Nat.le_refl _) L).mono ?_
    rw[p.out]
    rintro e w9 ⟨rfl,b⟩
    have K:=K.on b
    refine hK.out _ _ K.tl fun _=>?_
    clear hK K' b o e5 p g
    try simp only[Act.put,an,ai,aj]
    obtain⟨⟨rq,ra,rk,S,rx,ry,rz⟩,rb⟩:=r
    refine tSt 6 K 0 rfl (fun U h=>h.tl) fun U K=>?_
    refine tK 7 K.tl ?_
    refine tE ?_
    go_wp2
    exact K.rc2 0 rfl rfl ⟨by rw[←HD.out];rfl,K.below⟩
 have p0:(((l:Int)) == 0)=false:=by rw[beq_eq_false_iff_ne];omega
 have p1:(l == 0)=false:=by rw[beq_eq_false_iff_ne];omega
 rw[if_neg hp]at g
 simp only at g
 by_cases ah:l≤nn
 ·obtain⟨nm,P⟩:∃ nm,ns[l-1]?=some nm:=⟨_,List.getElem?_eq_getElem (by have:=R.out;omega)⟩
  rw[P,Option.getD_some]at g
  have ad:=Lib.hid (show(ns.map eX)[l-1]?=some (eX nm) from by rw[List.getElem?_map,P];rfl)
  have HP:=Lib.hid (show(((l-1:Nat):Int)+1)=(l:Int) from by omega)
  clear P hp
  have c3:=K.r 3 rfl
  go_wp2_with fail
  rw[←HP.out]
  with_reducible refine(Fx G nn H _ (l-1) (ns.map eX) (eX nm) _ (K.sl 0 rfl).names.1 (by omega) ad.out).mono ?_
  rintro e w7 ⟨rfl,rfl⟩
  clear c3
  have c0:=K.c 0 rfl
  go_upto_region 11 with(fail)
  refine K.cw fun W K=>?_
  clear c0
  have c0:=K.r 0 rfl
  go_wp2_with (go_at_call 57;refine((HM _).out).mono ?_;rintro e w' ⟨rfl,rfl⟩)
  clear c0
  have K:=K.nrow (e:=2) (size:=1) (n:=0) (v := .slice none 0 0) (xs:=[]) (Below.refl _ _) ⟨rfl,.inl ⟨rfl,rfl⟩⟩
  go_loopw [14,69] (fun Q i wr => ∃ (j:Nat) (F:Option Addr) (cl:Nat),Q = .slice F j cl∧j≤m∧i = .int .i64 j∧HH w [] X wr [.row 2 1 (.slice F j cl) j ((bO bs f d j).2.2.map (Value.int .i64)),.box ge 44 #[.int .i64 (q+(t:Int)),.int .i64 (a+(u:Int)),.int .i64 (s:Int),.string (eX nm),.int .i64 0,.int .i64 0,.int .i64 0],.box gk 252 #[.slice A n n,.int .i64 (bO bs f d j).1,.int .i64 (bO bs f d j).2.1],.box (w.heap.size+1) 44 #[.int .i64 0,.int .i64 0,.int .i64 0,.string ⟨#[]⟩,.int .i64 0,.int .i64 0,.int .i64 0],.box w.heap.size 34 #[.int .i64 q,.int .i64 a,.slice G nn H]] [Sl.fact af G nn H ns]) (fun _ i _=>m-(intOf i).toNat)
  case atStart=>exact⟨0,none,0,rfl,Nat.zero_le _,rfl,K⟩
  case round=>
   obtain⟨j,F,cl,rfl,hj,rfl,K⟩:=hrel
   by_cases T:j<m
   ·obtain⟨⟨x6,Z,v6⟩,D⟩:∃ r,cT bs (bO bs f d j).1 (bO bs f d j).2.1 2147483647=r:=⟨_,rfl⟩
    have y:=Lib.hid (show bO bs f d (j+1)=(x6,Z,(bO bs f d j).2.2 ++ [(v6:Int)]) from by rw[bO,D])
    have z:=Lib.hid D
    clear D
    generalize k:bO bs f d j=st at K z y
    clear k
    obtain⟨N,E,sl⟩:=st
    simp only at K z y
    go_wp2_with (first | refine K.ld 2 rfl ?_)
    with_reducible refine(lQ A n n N E bs _ _ (M.out.below (K.below.mono hB)) (Nat.le_trans hB K.out.size) (Nat.le_refl _) (by omega) O 2147483647 (by omega) 2147483647 rfl).mono ?_
    rw[z.out]
    rintro e w7 ⟨rfl,b⟩
    have K:=K.on b
    clear b
    go_upto_region 16 with(refine K.lw fun W K=>?_;refine K.sr 2 rfl fun W K=>?_)
    go_wp2_with (at_builtin;refine K.lw fun W K=>?_;refine K.ap1 8 0 rfl (by omega) fun v' U K=>?_)
    obtain⟨C,x,rfl,-⟩:=aK (K.row 0 rfl)
    go_roundw
    case rel=>exact⟨j+1,C,x,rfl,by omega,by go_num,by rw[y.out];simp only[List.map_append,List.map_cons,List.map_nil];exact K⟩
    case measure=>simp[intOf];omega
   ·obtain rfl:m=j:=by omega
    generalize k:bO bs f d m=st at K g
    clear k
    obtain⟨N,E,sl⟩:=st
    simp only at K g
    have HD:=Lib.hid (show(E == 0)=r.2 from by rw[g.out];rfl)
    have p:=Lib.hid (show lg ⟨q+(t:Int),a+(u:Int),(s:Int),(eX nm),0,0,0⟩ sl=r.1 from by rw[g.out])
    have K:=K.mv 3 rfl
    go_upto_region 18 with(fail)
    refine K.rgt (fun V h=>h.tl) fun W K=>?_
    refine tL 0 (fun _ h=>h.at_ 1 rfl) K.tl ?_ (hy:=fun w Y=>aM Y)
    refine tK 1 K.tl ?_
    refine tK 3 K.tl ?_
    refine tL 4 (fun _ h=>h.r 2 rfl) K.tl ?_
    refine tK 5 K.tl ?_
    refine tC 2 fun K' hK=>?_
    go_simp
    obtain⟨ac,ab,e3,-,-,-,o⟩:=iI (K.row 1 rfl)
    injection e3 with e4 e5 e6
    subst e4 e6
    refine(vB ⟨q+(t:Int),a+(u:Int),(s:Int),(eX nm),0,0,0⟩ _ m _ _ sl _ o (Nat.le_refl _) L).mono ?_
    rw[p.out]
    rintro e w9 ⟨rfl,b⟩
    have K:=K.on b
    refine hK.out _ _ K.tl fun _=>?_
    clear hK K' b o e5 p g
    try simp only[Act.put,an,ai,aj]
    obtain⟨⟨rq,ra,rk,S,rx,ry,rz⟩,rb⟩:=r
    refine tSt 6 K 0 rfl (fun U h=>h.tl) fun U K=>?_
    refine tK 7 K.tl ?_
    refine tE ?_
    go_wp2
    exact K.rc2 0 rfl rfl ⟨by rw[←HD.out];rfl,K.below⟩
 ·rw[show(ns[l-1]?).getD [] = [] from by rw[List.getElem?_eq_none (by have:=R.out;omega)];rfl]at g
  clear hp
  have c3:=K.r 3 rfl
  go_wp2_with fail
  with_reducible refine(Gs G nn H (l:Int) _ (by omega) (by omega)).mono ?_
  rintro e w7 ⟨rfl,rfl⟩
  clear c3
  go_upto_region 11 with(fail)
  have c0:=K.r 0 rfl
  go_wp2_with (go_at_call 57;refine((HM _).out).mono ?_;rintro e w' ⟨rfl,rfl⟩)
  clear c0
  have K:=K.nrow (e:=2) (size:=1) (n:=0) (v := .slice none 0 0) (xs:=[]) (Below.refl _ _) ⟨rfl,.inl ⟨rfl,rfl⟩⟩
  go_loopw [14,69] (fun Q i wr => ∃ (j:Nat) (F:Option Addr) (cl:Nat),Q = .slice F j cl∧j≤m∧i = .int .i64 j∧HH w [] X wr [.row 2 1 (.slice F j cl) j ((bO bs f d j).2.2.map (Value.int .i64)),.box ge 44 #[.int .i64 (q+(t:Int)),.int .i64 (a+(u:Int)),.int .i64 (s:Int),.string (eX []),.int .i64 0,.int .i64 0,.int .i64 0],.box gk 252 #[.slice A n n,.int .i64 (bO bs f d j).1,.int .i64 (bO bs f d j).2.1],.box (w.heap.size+1) 44 #[.int .i64 0,.int .i64 0,.int .i64 0,.string ⟨#[]⟩,.int .i64 0,.int .i64 0,.int .i64 0],.box w.heap.size 34 #[.int .i64 q,.int .i64 a,.slice G nn H]] [Sl.fact af G nn H ns]) (fun _ i _=>m-(intOf i).toNat)
  case atStart=>exact⟨0,none,0,rfl,Nat.zero_le _,rfl,K⟩
  case round=>
   obtain⟨j,F,cl,rfl,hj,rfl,K⟩:=hrel
   by_cases T:j<m
   ·obtain⟨⟨x6,Z,v6⟩,D⟩:∃ r,cT bs (bO bs f d j).1 (bO bs f d j).2.1 2147483647=r:=⟨_,rfl⟩
    have y:=Lib.hid (show bO bs f d (j+1)=(x6,Z,(bO bs f d j).2.2 ++ [(v6:Int)]) from by rw[bO,D])
    have z:=Lib.hid D
    clear D
    generalize k:bO bs f d j=st at K z y
    clear k
    obtain⟨N,E,sl⟩:=st
    simp only at K z y
    go_wp2_with (first | refine K.ld 2 rfl ?_)
    with_reducible refine(lQ A n n N E bs _ _ (M.out.below (K.below.mono hB)) (Nat.le_trans hB K.out.size) (Nat.le_refl _) (by omega) O 2147483647 (by omega) 2147483647 rfl).mono ?_
    rw[z.out]
    rintro e w7 ⟨rfl,b⟩
    have K:=K.on b
    clear b
    go_upto_region 16 with(refine K.lw fun W K=>?_;refine K.sr 2 rfl fun W K=>?_)
    go_wp2_with (at_builtin;refine K.lw fun W K=>?_;refine K.ap1 8 0 rfl (by omega) fun v' U K=>?_)
    obtain⟨C,x,rfl,-⟩:=aK (K.row 0 rfl)
    go_roundw
    case rel=>exact⟨j+1,C,x,rfl,by omega,by go_num,by rw[y.out];simp only[List.map_append,List.map_cons,List.map_nil];exact K⟩
    case measure=>simp[intOf];omega
   ·obtain rfl:m=j:=by omega
    generalize k:bO bs f d m=st at K g
    clear k
    obtain⟨N,E,sl⟩:=st
    simp only at K g
    have HD:=Lib.hid (show(E == 0)=r.2 from by rw[g.out];rfl)
    have p:=Lib.hid (show lg ⟨q+(t:Int),a+(u:Int),(s:Int),(eX []),0,0,0⟩ sl=r.1 from by rw[g.out])
    have K:=K.mv 3 rfl
    go_upto_region 18 with(fail)
    refine K.rgt (fun V h=>h.tl) fun W K=>?_
    refine tL 0 (fun _ h=>h.at_ 1 rfl) K.tl ?_ (hy:=fun w Y=>aM Y)
    refine tK 1 K.tl ?_
    refine tK 3 K.tl ?_
    refine tL 4 (fun _ h=>h.r 2 rfl) K.tl ?_
    refine tK 5 K.tl ?_
    refine tC 2 fun K' hK=>?_
    go_simp
    obtain⟨ac,ab,e3,-,-,-,o⟩:=iI (K.row 1 rfl)
    injection e3 with e4 e5 e6
    subst e4 e6
    refine(vB ⟨q+(t:Int),a+(u:Int),(s:Int),(eX []),0,0,0⟩ _ m _ _ sl _ o (Nat.le_refl _) L).mono ?_
    rw[p.out]
    rintro e w9 ⟨rfl,b⟩
    have K:=K.on b
    refine hK.out _ _ K.tl fun _=>?_
    clear hK K' b o e5 p g
    try simp only[Act.put,an,ai,aj]
    obtain⟨⟨rq,ra,rk,S,rx,ry,rz⟩,rb⟩:=r
    refine tSt 6 K 0 rfl (fun U h=>h.tl) fun U K=>?_
    refine tK 7 K.tl ?_
    refine tE ?_
    go_wp2
    exact K.rc2 0 rfl rfl ⟨by rw[←HD.out];rfl,K.below⟩
end
section
open Go.RowKit
abbrev ev0:Evt:=⟨0,0,0,⟨#[]⟩,0,0,0⟩
def gX (c:Cx) (bs:List UInt8):Evt×Cx×Int:=
 if aN c=false then(ev0,c,1) else if(dV c bs).2=false then(ev0,c,11)
 else if eG c (dV c bs).1≠0∨aQ c (dV c bs).1≠bs then(ev0,c,11) else((dV c bs).1,bJ c (dV c bs).1,0)
theorem BT (e:Evt) (l:List Int):(lg e l).cm=e.cm:=rfl
theorem Bf (c:Cx) (bs:List UInt8) (b:bs.length≤maxLen) (a:∀ s ∈ c.ns,s.length≤maxLen):(dV c bs).1.cm.size≤maxLen:=by
 unfold dV
 simp only[BT]
 show(_:List UInt8).length≤maxLen
 split
 ·unfold jI
  split
  ·exact Nat.zero_le _
  ·split
   ·exact Nat.zero_le _
   ·split
    ·exact Nat.zero_le _
    ·simp only[List.length_take,List.length_drop];omega
 ·cases h:c.ns[(cT bs _ _ 32).2.2-1]? with
  | none=>exact Nat.zero_le _
  | some s=>exact a s (List.mem_of_getElem? h)
def sP (r:Evt×Cx×Int) (cells:Array Value) (X:List Nat) (w:World) (e:Ending) (w':World):Prop:=
 Below w.heap.size w w'∧((r.2.2≠0∧e = .returned (.tuple #[.agg (evA ev0),.agg cells,.int .i64 r.2.2])) ∨
  (r.2.2=0 ∧ ∃ A2 n2 c2,e = .returned (.tuple #[.agg (evA r.1),.agg #[.int .i64 r.1.q,.int .i64 r.1.a,.slice A2 n2 c2],.int .i64 0])∧Sl af w' X A2 n2 c2 r.2.1.ns))
theorem HH.rcD {P:Program} {f W:World} {M X:List Nat} {L:List Itm} {F:List Fact} {fn:Func} {R:Ending→World→Prop} {a:Act} {g g':Nat} {p p' q:Tmp} {t ty t' ty':TypeId} {cs cs':Array Value} (K:HH f M X W L F) (i j:Nat) (c:L[i]?=some (.box g t cs)) (h:L[j]?=some (.box g' t' cs')) (d:fn.results=#[.cell p ty,.cell p' ty',.tmp q]) (hR:R (.returned (.tuple #[.agg cs,.agg cs',a.tmps.getD q undef])) W)
 (b:a.tmps.getD p undef = .pointer (some ⟨g,0,none⟩):=by rfl) (hp2:a.tmps.getD p' undef = .pointer (some ⟨g',0,none⟩):=by rfl) (hT:lM P ty cs.size=true:=by kernel_rfl) (hT2:lM P ty' cs'.size=true:=by kernel_rfl) (hd:a.defers = []:=by rfl):bodyPost P fn R .ret a W:=by
 have e:a.tmps[p]?.getD undef = .pointer (some ⟨g,0,none⟩):=by simpa using b
 have k:a.tmps[p']?.getD undef = .pointer (some ⟨g',0,none⟩):=by simpa using hp2
 exact⟨hd,.tuple #[.agg cs,.agg cs',a.tmps.getD q undef],by simp[results,d,e,k,asAddr,fe K i c hT,fe K j h hT2],hR⟩
set_option maxHeartbeats 8000000 in
theorem Bd (q a:Int) (ns:List (List UInt8)) (j:Option Addr) (nn k:Nat) (A:Option Addr) (n c:Nat) (bs:List UInt8) (X:List Nat) (w:World) (hX:XOk X w) (m:Sl af w X j nn k ns) (B:Nat) (C:Reads w B 1 A n (byteCells bs)) (hB:B≤w.heap.size) (G:n≤c) (L:c≤9223372036854775807) (o:nn≤1000) (F:n≤10000):
 Calls Tryz.prog 179 #[.agg #[.int .i64 q,.int .i64 a,.slice j nn k],.slice A n c] w (sP (gX ⟨q,a,ns⟩ bs) #[.int .i64 q,.int .i64 a,.slice j nn k] X w):=by
 have u:=Lib.hid (Bf ⟨q,a,ns⟩ bs (by have l:bs.length=n:=C.lenB;unfold maxLen;omega) (fun s R=>by have l:=m.names.2 (eX s) (List.mem_map_of_mem R);simpa [eX,ByteArray.size] using l))
 have b:Hid (gX ⟨q,a,ns⟩ bs=if aN ⟨q,a,ns⟩=false then(ev0,⟨q,a,ns⟩,1) else if(dV ⟨q,a,ns⟩ bs).2=false then(ev0,⟨q,a,ns⟩,11) else if eG ⟨q,a,ns⟩ (dV ⟨q,a,ns⟩ bs).1≠0∨aQ ⟨q,a,ns⟩ (dV ⟨q,a,ns⟩ bs).1≠bs then(ev0,⟨q,a,ns⟩,11) else((dV ⟨q,a,ns⟩ bs).1,bJ ⟨q,a,ns⟩ (dV ⟨q,a,ns⟩ bs).1,0)):=rfl
 unfold sP
 generalize gX ⟨q,a,ns⟩ bs=r at b ⊢
 have p:=Lib.hid (show aN ⟨q,a,ns⟩=true→(0≤q∧q≤4294967296∧0≤a∧a≤1099511627776) from fun h=>by
  unfold aN at h
  simp only[Bool.and_eq_true,decide_eq_true_iff]at h
  exact⟨h.1.1.1.1,h.1.1.1.2,h.1.1.2,h.1.2⟩)
 have D:=fun(A:Option Addr) (n c:Nat) (X:List Nat) (W:World) (h:Sl af W X A n c ns) (F:n≤1000)=>Lib.hid (jy q a ns A n c X W h F)
 have i:=fun(X:List Nat) (W:World) (hX:XOk X W) (m:Sl af W X j nn k ns) (C:Reads W B 1 A n (byteCells bs)) (hB:B≤W.heap.size) (l:0≤q) (h2:q≤4294967296) (h3:0≤a) (h4:a≤1099511627776)=>Lib.hid (FA q a ns j nn k A n c bs X W hX m B C hB G L o F l h2 h3 h4)
 have f:=fun(X:List Nat) (W:World) (hX:XOk X W) (m:Sl af W X j nn k ns)=>Lib.hid (uY q a ns j nn k (dV ⟨q,a,ns⟩ bs).1 X W hX m o u.out)
 generalize aN ⟨q,a,ns⟩=rc at b D p
 generalize dV ⟨q,a,ns⟩ bs=rd at b i f
 obtain⟨⟨eq,ea,ek,cm,ex,ey,ez⟩,ok⟩:=rd
 have J:Hid (∀ v,(bJ ⟨q,a,ns⟩ v).q=v.q∧(bJ ⟨q,a,ns⟩ v).a=v.a):=fun v=>⟨rfl,rfl⟩
 unfold oa at f
 generalize eG ⟨q,a,ns⟩ _=er at b f
 generalize aQ ⟨q,a,ns⟩ _=eb at b f
 generalize bJ ⟨q,a,ns⟩ _=nx at b f
 clear u J
 simp only at b i f
 have y:=Lib.hid C
 go_enter Tryz.func179,Tryz.ntmps179
 go_upto_region 1 with(fail)
 refine(hstart hX).cw fun W K=>?_
 have K:=K.ksl0 m
 clear m C
 go_wp2_with (first | refine K.ld 2 rfl ?_)
 refine((D j nn k _ _ (K.sl 0 rfl) o).out).mono ?_
 rintro e Z ⟨rfl,d⟩
 have K:=K.on d
 clear d D
 cases rc
 ·rw[if_pos rfl]at b
  go_upto_region 2 with(fail)
  refine K.rgt (fun V h=>h.tl.tl) fun W K=>?_
  refine tK 0 K.tl.tl ?_
  refine tL 1 (fun _ h=>h.at_ 0 rfl) K.tl.tl ?_ (hy:=fun w g=>aM g)
  refine tSt 2 K 1 rfl (fun U h=>h.tl.tl) fun U K=>?_
  refine tSt 3 K 0 rfl (fun U h=>h.tl.tl) fun U K=>?_
  refine tK 4 K.tl.tl ?_
  refine tE ?_
  go_wp2
  exact K.rcD 1 0 rfl rfl rfl ⟨K.below,.inl ⟨by rw[b.out];simp,by rw[b.out];rfl⟩⟩
 rw[if_neg (by simp)]at b
 obtain⟨H,E,M,I⟩:=p.out rfl
 go_wp2_with (first | refine K.ld 2 rfl ?_)
 refine((i _ _ K.xok (K.sl 0 rfl) (y.out.below (K.below.mono hB)) (Nat.le_trans hB K.out.size) H E M I).out).mono ?_
 rintro e w2 ⟨rfl,d⟩
 have K:=K.on d
 clear d i
 go_upto_region 4 with(refine K.lw fun W K=>?_;refine K.sr 0 rfl fun W K=>?_)
 cases ok
 ·rw[if_pos rfl]at b
  have K:=(K.mv 2 rfl).mv 2 rfl
  go_upto_region 5 with(fail)
  refine K.rgt (fun V h=>h.tl.tl) fun W K=>?_
  refine tK 0 K.tl.tl ?_
  refine tL 1 (fun _ h=>h.at_ 1 rfl) K.tl.tl ?_ (hy:=fun w g=>aM g)
  refine tSt 2 K 1 rfl (fun U h=>h.tl.tl) fun U K=>?_
  refine tSt 3 K 0 rfl (fun U h=>h.tl.tl) fun U K=>?_
  refine tK 4 K.tl.tl ?_
  refine tE ?_
  go_wp2
  exact K.rcD 1 0 rfl rfl rfl ⟨K.below,.inl ⟨by rw[b.out];simp,by rw[b.out];rfl⟩⟩
 rw[if_neg (by simp)]at b
 go_wp2_with (first | refine K.ld 3 rfl ?_ | refine K.ld 0 rfl ?_)
 refine((f _ _ K.xok (K.sl 0 rfl)).out).mono ?_
 rintro e w4 ⟨d,l | l⟩
 ·obtain⟨t,rfl⟩:=l
  rw[if_pos (.inl t)]at b
  have K:=K.on d
  clear d
  have b1:(er != 0)=true:=by rw[bne_iff_ne];exact t
  clear t
  go_upto_region 7 with(refine K.lw fun W K=>?_;refine K.sr 0 rfl fun W K=>?_)
  have K:=(K.mv 3 rfl).mv 3 rfl
  go_upto_region 8 with(fail)
  refine K.rgt (fun V h=>h.tl.tl) fun W K=>?_
  refine tK 0 K.tl.tl ?_
  refine tL 1 (fun _ h=>h.at_ 2 rfl) K.tl.tl ?_ (hy:=fun w g=>aM g)
  refine tSt 2 K 1 rfl (fun U h=>h.tl.tl) fun U K=>?_
  refine tSt 3 K 0 rfl (fun U h=>h.tl.tl) fun U K=>?_
  refine tK 4 K.tl.tl ?_
  refine tE ?_
  go_wp2
  exact K.rcD 1 0 rfl rfl rfl ⟨K.below,.inl ⟨by rw[b.out];simp,by rw[b.out];rfl⟩⟩
 obtain⟨t,N,S,T,Q,O,P,rfl,x,z⟩:=l
 have K:=((K.on d).ksl x).ksl z
 subst t
 clear x z d
 go_upto_region 7 with(refine K.lw fun W K=>?_;refine K.sr 0 rfl fun W K=>?_)
 go_wp2_with fail
 refine(oo N A S T n c _ _ eb bs _ (K.sl 1 rfl).bytes (y.out.below (K.below.mono hB))).mono ?_
 rintro e Y ⟨rfl,rfl⟩
 have K:=(K.mv 3 rfl).mv 3 rfl
 by_cases d:eb=bs
 ·rw[if_neg (by simp[d])]at b
  rw[show(eb == bs)=true from by rw[beq_iff_eq];exact d]
  clear d
  go_upto_region 9 with(fail)
  refine K.rgt (fun V h=>h.tl.tl) fun W K=>?_
  refine tL 0 (fun _ h=>h.at_ 1 rfl) K.tl.tl ?_ (hy:=fun w g=>aM g)
  refine tL 1 (fun _ h=>h.at_ 0 rfl) K.tl.tl ?_ (hy:=fun w g=>aM g)
  refine tSt 2 K 1 rfl (fun U h=>h.tl.tl) fun U K=>?_
  refine tSt 3 K 0 rfl (fun U h=>h.tl.tl) fun U K=>?_
  refine tK 4 K.tl.tl ?_
  refine tE ?_
  go_wp2
  exact K.rcD 1 0 rfl rfl rfl ⟨K.below,.inr ⟨by rw[b.out],Q,O,P,by rw[b.out];rfl,by rw[b.out];exact K.slb 0 rfl⟩⟩
 ·rw[if_pos (.inr d)]at b
  rw[show(eb == bs)=false from by rw[beq_eq_false_iff_ne];exact d]
  clear d
  go_upto_region 8 with(fail)
  refine K.rgt (fun V h=>h.tl.tl) fun W K=>?_
  refine tK 0 K.tl.tl ?_
  refine tL 1 (fun _ h=>h.at_ 2 rfl) K.tl.tl ?_ (hy:=fun w g=>aM g)
  refine tSt 2 K 1 rfl (fun U h=>h.tl.tl) fun U K=>?_
  refine tSt 3 K 0 rfl (fun U h=>h.tl.tl) fun U K=>?_
  refine tK 4 K.tl.tl ?_
  refine tE ?_
  go_wp2
  exact K.rcD 1 0 rfl rfl rfl ⟨K.below,.inl ⟨by rw[b.out];simp,by rw[b.out];rfl⟩⟩
end
section
open Go.RowKit
structure Scn where
 num:Int
 bq:Int
 ba:Int
 evs:List Evt
 c:Cx
 size:Int
 sealed:Bool
abbrev aX (s:Scn) (ve:Value) (An:Option Addr) (nn cn:Nat):Array Value:=#[.int .i64 s.num,.int .i64 s.bq,.int .i64 s.ba,.slice none 0 0,ve,.int .i64 s.c.q,.int .i64 s.c.a,.slice An nn cn,.int .i64 0,.int .i64 s.size,.bool s.sealed]
def cE (what:Int) (sealed:Bool):Int:=if what=1 then(if sealed then 4 else 1) else if what=2∧sealed=false then 2 else 3
set_option maxHeartbeats 2000000 in
theorem CQ (what:Int) (a:Bool) (g:Nat) (w:World) (f:w.cell? ⟨g,10,none⟩=some (.bool a)):Calls Tryz.prog 52 #[.pointer (some ⟨g,0,none⟩),.int .i64 what] w fun e w'=>e = .returned (.int .i64 (cE what a))∧w=w':=by
 by_cases b:what=1
 ·subst b
  cases a <;>
  (go_enter Tryz.func52,Tryz.ntmps52
   go_wp2
   go_ret
   exact⟨rfl,rfl⟩)
 have j:(what == 1)=false:=by rw[beq_eq_false_iff_ne];exact b
 by_cases c:what=2
 ·subst c
  cases a <;>
  (go_enter Tryz.func52,Tryz.ntmps52
   go_wp2
   go_ret
   exact⟨rfl,rfl⟩)
 have i:(what == 2)=false:=by rw[beq_eq_false_iff_ne];exact c
 have d:=Lib.hid (show cE what a=3 from by unfold cE;rw[if_neg b,if_neg (fun h=>c h.1)])
 clear b c
 go_enter Tryz.func52,Tryz.ntmps52
 go_wp2
 go_ret
 exact⟨gu (by rw[d.out]),rfl⟩
theorem jE (A g:Option Addr) (n c m j B i:Nat) (bs ps:List UInt8) (w:World) (d:Reads w B 1 A n (byteCells bs)) (a:Reads w i 1 g m (byteCells ps)) (o:n≤c) (q:c≤9223372036854775807):
 Calls Tryz.prog 227 #[.slice A n c,.slice g m j] w fun e w'=>e = .returned (.bool (ps.isPrefixOf bs))∧w=w':=by
 have l:=d.lenB
 have f:=a.lenB
 by_cases p:m≤n
 ·have k:=Lib.hid (oo A g m c m j B i (bs.take m) ps w (d.preB p) a)
  have b:=Lib.hid (show(bs.take m == ps)=ps.isPrefixOf bs from by
   rw[Bool.eq_iff_iff,beq_iff_eq,List.isPrefixOf_iff_prefix,List.prefix_iff_eq_take,f]
   exact⟨fun h=>h.symm,fun h=>h.symm⟩)
  generalize ps.isPrefixOf bs=r at b ⊢
  rw[b.out]at k
  clear l f b d a
  go_enter Tryz.func227,Tryz.ntmps227
  go_wp2_with (go_at_call 113;refine(k.out).mono ?_;rintro e w' ⟨rfl,rfl⟩)
  go_ret
  exact⟨rfl,rfl⟩
 ·have b:=Lib.hid (show ps.isPrefixOf bs=false from by
   cases h:ps.isPrefixOf bs with
   | false=>rfl
   | true=>
     have s:=List.IsPrefix.length_le (List.isPrefixOf_iff_prefix.1 h)
     omega)
  clear l f d a
  go_enter Tryz.func227,Tryz.ntmps227
  go_wp2
  go_ret
  exact⟨gi (by rw[b.out]),rfl⟩
theorem rS (A f:Option Addr) (n c m i B g:Nat) (bs ps:List UInt8) (w:World) (k:Reads w B 1 A n (byteCells bs)) (a:Reads w g 1 f m (byteCells ps)) (b:n≤c) (d:c≤9223372036854775807) (h:ps.isPrefixOf bs=false):
 Calls Tryz.prog 175 #[.slice A n c,.slice f m i] w fun e w'=>e = .returned (.tuple #[.slice A n c,.bool false])∧w=w':=by
 have j:=Lib.hid (jE A f n c m i B g bs ps w k a b d)
 rw[h]at j
 clear k a h
 go_enter Tryz.func175,Tryz.ntmps175
 go_wp2_with (go_at_call 227;refine(j.out).mono ?_;rintro e w' ⟨rfl,rfl⟩)
 go_ret2
 exact⟨rfl,rfl⟩
theorem qg (ad:Addr) (p:Option Addr) (n c m r B q:Nat) (bs ps:List UInt8) (w:World) (g:Reads w B 1 (some ad) n (byteCells bs)) (a:Reads w q 1 p m (byteCells ps)) (d:n≤c) (l:c≤9223372036854775807) (i:ps.isPrefixOf bs=true):
 Calls Tryz.prog 175 #[.slice (some ad) n c,.slice p m r] w fun e w'=>(∃ A' c',e = .returned (.tuple #[.slice A' (n-m) c',.bool true])∧Reads w B 1 A' (n-m) (byteCells (bs.drop m))∧n-m≤c'∧c'≤9223372036854775807)∧w=w':=by
 have o:m≤n:=by
  have u:=List.IsPrefix.length_le (List.isPrefixOf_iff_prefix.1 i)
  have v:=g.lenB
  have x:=a.lenB
  omega
 have f:=Lib.hid (g.sufB o d)
 have k:=Lib.hid (jE (some ad) p n c m r B q bs ps w g a d l)
 rw[i]at k
 clear g a i
 by_cases j:c=m
 ·subst j
  have b:=Lib.hid (show Reads w B 1 (some ad) (n-c) (byteCells (bs.drop c)) from by have:=f.out;rwa [if_pos rfl]at this)
  clear f
  go_enter Tryz.func175,Tryz.ntmps175
  go_wp2_with (go_at_call 227;refine(k.out).mono ?_;rintro e w' ⟨rfl,rfl⟩)
  go_ret2
  exact⟨⟨some ad,c-c,by first | rfl | (simp;omega),b.out,by omega,by omega⟩,rfl⟩
 ·have b:=Lib.hid (show Reads w B 1 (some (ad.add m)) (n-m) (byteCells (bs.drop m)) from by have:=f.out;rwa [if_neg j]at this)
  have s:¬ m=c:=fun h=>j h.symm
  have t:m<c:=by omega
  clear f
  go_enter Tryz.func175,Tryz.ntmps175
  go_wp2_with (go_at_call 227;refine(k.out).mono ?_;rintro e w' ⟨rfl,rfl⟩)
  go_ret2
  exact⟨⟨_,_,rfl,b.out,by omega,by omega⟩,rfl⟩
def three (bs:List UInt8):(Int×Int×Nat)×(Int×Int×Nat)×(Int×Int×Nat):=
 let r1:=bT bs 0 0
 let r2:=bT bs r1.1 r1.2.1
 (r1,r2,bT bs r2.1 r2.2.1)
def gO (s:Scn) (p:List UInt8):Option Scn:=
 if aR.isPrefixOf p then
  let t:=three (p.drop 4)
  let b:Cx:=⟨wrap64 (t.2.1.2.2:Int),wrap64 (t.2.2.2.2:Int),[]⟩
  if t.2.2.2.1≠0∨t.2.2.1<((p.drop 4).length:Int)∨eE (wrap64 (t.1.2.2:Int))=false∨aN b=false then none
  else some { s with num:=wrap64 (t.1.2.2:Int),bq:=b.q,ba:=b.a,c:=b }
 else none
end
section
open Go.RowKit
set_option maxHeartbeats 8000000 in
theorem FK (s:Scn) (v:Value) (y:Option Addr) (nn z g:Nat) (A:Option Addr) (n c B:Nat) (p:List UInt8) (X:List Nat) (w:World) (hX:XOk X w) (hG:ru w X [.box g 115 (aX s v y nn z)]) (hr:Reads w B 1 A n (byteCells p)) (hB:B≤w.heap.size) (hBg:B≤g) (du:n≤c) (eb:c≤9223372036854775807) (hn:n≤200):
 Calls Tryz.prog 111 #[.pointer (some ⟨g,0,none⟩),.slice A n c] w fun e w'=>
  (gO s p=none∧e = .returned (.bool false)∧zN [g] w w'∧Blk w' g 115 (aX s v y nn z)) ∨
  (∃ s',gO s p=some s'∧e = .returned (.bool true)∧zN [g] w w'∧Blk w' g 115 (aX s' v none 0 0)):=by
 have HR:=Lib.hid hr
 have ds:=Lib.hid hr.lenB
 have dd:=Lib.hid (show ∀ b,aR.isPrefixOf p=b→gO s p=if b=true then(if(three (p.drop 4)).2.2.2.1≠0∨(three (p.drop 4)).2.2.1<((p.drop 4).length:Int)∨eE (wrap64 ((three (p.drop 4)).1.2.2:Int))=false∨aN ⟨wrap64 ((three (p.drop 4)).2.1.2.2:Int),wrap64 ((three (p.drop 4)).2.2.2.2:Int),[]⟩=false then none
  else some { s with num:=wrap64 ((three (p.drop 4)).1.2.2:Int),bq:=wrap64 ((three (p.drop 4)).2.1.2.2:Int),ba:=wrap64 ((three (p.drop 4)).2.2.2.2:Int),c:=⟨wrap64 ((three (p.drop 4)).2.1.2.2:Int),wrap64 ((three (p.drop 4)).2.2.2.2:Int),[]⟩ }) else none from fun b h=>by unfold gO;simp only[h])
 clear hr
 have dv:Hid (aq w (Exs [.box g 115 (aX s v y nn z)]) X w [.box (g) 115 (aX s v y nn z)] []):=(aq.startG hX hG)
 clear hG
 have kc:=Lib.run_convert_bytes_const (P:=Tryz.prog) w 50 5 #[.int .u8 102,.int .u8 98,.int .u8 120,.int .u8 49] 4 4 Tryz.underlying50 Tryz.underlying5
 go_enter Tryz.func111,Tryz.ntmps111
 go_wp2_with fail
 clear kc
 have J:Hid (aq w (Exs [.box g 115 (aX s v y nn z)]) X (w.alloc (.cells #[.int .u8 102,.int .u8 98,.int .u8 120,.int .u8 49] 5 (4,5))) [.box (g) 115 (aX s v y nn z)] [Sl.fact ak (some ⟨w.heap.size,0,none⟩) 4 4 aR]):=dv.out.marked #[.int .u8 102,.int .u8 98,.int .u8 120,.int .u8 49] 5 (4,5) aR rfl (by unfold maxLen;decide)
 clear dv
 have cz:=Lib.hid (show ∀ g' ∈ Exs [.box g 115 (aX s v y nn z)],B≤g' from by intro g' h;obtain⟨x,hx,e⟩:=bh.1 h;rw[List.mem_singleton]at hx;subst hx;injection e with e;omega)
 have dp:=Lib.hid (J.out.belowB hB cz.out)
 cases hp:aR.isPrefixOf p
 ·skip
  have i:=Lib.hid (dd.out _ hp)
  clear dd
  with_reducible refine(rS A (some ⟨w.heap.size,0,none⟩) n c 4 4 _ _ p aR _ (HR.out.below dp.out) (J.out.sl 0 rfl).bytes du eb hp).mono ?_
  rintro e w' ⟨rfl,rfl⟩
  clear hp
  go_wp2
  go_ret
  exact .inl ⟨i.out,rfl,J.out.only,J.out.blk 0 rfl⟩
 have i:=Lib.hid (dd.out _ hp)
 clear dd
 have eg:4≤n:=by have h1:=List.IsPrefix.length_le (List.isPrefixOf_iff_prefix.1 hp);have h2:=ds.out;simp[aR]at h1;omega
 obtain⟨ad,rfl,-,-⟩:=HR.out.2 (by omega)
 with_reducible refine(qg ad (some ⟨w.heap.size,0,none⟩) n c 4 4 _ _ p aR _ (HR.out.below dp.out) (J.out.sl 0 rfl).bytes du eb hp).mono ?_
 rintro e w' ⟨⟨t,c1,rfl,dg,ea,eh⟩,rfl⟩
 clear hp dp
 generalize w.alloc (.cells #[.int .u8 102,.int .u8 98,.int .u8 120,.int .u8 49] 5 (4,5))=w1 at J dg ⊢
 have da:Hid (Reads w B 1 t (n-4) (byteCells (p.drop 4))):=dg.keep (fun q hq=>((J.out.belowB hB cz.out).cell hq).symm)
 clear dg
 have hm:n-4≤200:=by omega
 have HP:Hid (three (p.drop 4)=(bT (p.drop 4) 0 0,bT (p.drop 4) (bT (p.drop 4) 0 0).1 (bT (p.drop 4) 0 0).2.1,bT (p.drop 4) (bT (p.drop 4) (bT (p.drop 4) 0 0).1 (bT (p.drop 4) 0 0).2.1).1 (bT (p.drop 4) (bT (p.drop 4) 0 0).1 (bT (p.drop 4) 0 0).2.1).2.1)):=rfl
 have dk:=Lib.hid (show(p.drop 4).length=n-4 from by rw[List.length_drop,ds.out])
 rw[HP.out]at i
 clear HP
 generalize p.drop 4=r at i da dk
 generalize n-4=m at da dk ea hm ⊢
 clear HR ds
 obtain⟨⟨x1,y1,v1⟩,h1⟩:∃ u,bT r 0 0=u:=⟨_,rfl⟩
 rw[h1]at i
 simp only at i
 obtain⟨⟨x2,y2,O⟩,h2⟩:∃ u,bT r x1 y1=u:=⟨_,rfl⟩
 rw[h2]at i
 simp only at i
 obtain⟨⟨Q,y3,N⟩,h3⟩:∃ u,bT r x2 y2=u:=⟨_,rfl⟩
 rw[h3]at i
 simp only at i
 have HU:=Lib.hid (hJ r x2 y2 Q N)
 rw[h3]at HU
 rw[dk.out]at HU i
 have H1:=Lib.hid h1
 have H2:=Lib.hid h2
 have H3:=Lib.hid h3
 clear h1 h2 h3
 rw[if_pos trivial]at i
 go_wp2_with fail
 with_reducible refine(rQ t m c1 _ ea).mono ?_
 rintro e w2 ⟨rfl,M⟩
 have de:Hid (aq w (Exs [.box g 115 (aX s v y nn z)]) X w2 [.box (g) 115 (aX s v y nn z)] [Sl.fact ak (some ⟨w.heap.size,0,none⟩) 4 4 aR]):=(J.out.on M)
 clear J
 clear M
 go_wp2_with fail
 with_reducible refine(ig t m m 0 0 r _ _ (da.out.below (de.out.belowB hB cz.out)) (Nat.le_trans hB de.out.size) (Nat.le_refl _) (by omega) (by omega)).mono ?_
 rw[H1.out]
 rintro e w3 ⟨rfl,M⟩
 have dy:Hid (aq w (Exs [.box g 115 (aX s v y nn z)]) X w3 [.box (g) 115 (aX s v y nn z)] [Sl.fact ak (some ⟨w.heap.size,0,none⟩) 4 4 aR]):=(de.out.on M)
 clear de
 clear M
 have H:Hid (aq w (Exs [.box g 115 (aX s v y nn z)]) X (w3.alloc (.cells #[.slice t m m,.int .i64 x1,.int .i64 y1] 252)) [.box (w3.heap.size) 252 #[.slice t m m,.int .i64 x1,.int .i64 y1],.box (g) 115 (aX s v y nn z)] [Sl.fact ak (some ⟨w.heap.size,0,none⟩) 4 4 aR]):=dy.out.alloc_at 252 #[.slice t m m,.int .i64 x1,.int .i64 y1] (w3.heap.size) (by simp)
 clear dy
 go_upto_region 5 with(fail)
 generalize w3.alloc (.cells #[.slice t m m,.int .i64 x1,.int .i64 y1] 252)=w4 at H ⊢
 generalize w3.heap.size=j at H ⊢
 have dc:w4.cell? ⟨j,0,none⟩=some (.slice t m m):=H.out.cell 0 rfl 0
 have ct:w4.frozen? ⟨j,0,none⟩=false:=H.out.frozen 0 rfl 0
 have cv:w4.cell? ⟨j,1,none⟩=some (.int .i64 x1):=H.out.cell 0 rfl 1
 have db:w4.frozen? ⟨j,1,none⟩=false:=H.out.frozen 0 rfl 1
 have cc:w4.cell? ⟨j,2,none⟩=some (.int .i64 y1):=H.out.cell 0 rfl 2
 have bv:w4.frozen? ⟨j,2,none⟩=false:=H.out.frozen 0 rfl 2
 go_wp2_with fail
 with_reducible refine(ig t m m x1 y1 r _ _ (da.out.below (H.out.belowB hB cz.out)) (Nat.le_trans hB H.out.size) (Nat.le_refl _) (by omega) (by omega)).mono ?_
 rw[H2.out]
 rintro e w5 ⟨rfl,M⟩
 clear dc ct cv db cc bv
 have F:Hid (aq w (Exs [.box g 115 (aX s v y nn z)]) X w5 [.box (j) 252 #[.slice t m m,.int .i64 x1,.int .i64 y1],.box (g) 115 (aX s v y nn z)] [Sl.fact ak (some ⟨w.heap.size,0,none⟩) 4 4 aR]):=(H.out.on M)
 clear H
 clear M
 have ar:w5.cell? ⟨j,0,none⟩=some (.slice t m m):=F.out.cell 0 rfl 0
 have ck:w5.frozen? ⟨j,0,none⟩=false:=F.out.frozen 0 rfl 0
 have bp:w5.cell? ⟨j,1,none⟩=some (.int .i64 x1):=F.out.cell 0 rfl 1
 have am:w5.frozen? ⟨j,1,none⟩=false:=F.out.frozen 0 rfl 1
 have co:w5.cell? ⟨j,2,none⟩=some (.int .i64 y1):=F.out.cell 0 rfl 2
 have bd:w5.frozen? ⟨j,2,none⟩=false:=F.out.frozen 0 rfl 2
 go_upto_region 6 with(fail)
 clear ar ck bp am co bd
 have o:Hid (aq w (Exs [.box g 115 (aX s v y nn z)]) X (((w5.setCell ⟨j,0,none⟩ (.slice t m m)).setCell ⟨j,1,none⟩ (.int .i64 x2)).setCell ⟨j,2,none⟩ (.int .i64 y2)) [.box (j) 252 #[.slice t m m,.int .i64 x2,.int .i64 y2],.box (g) 115 (aX s v y nn z)] [Sl.fact ak (some ⟨w.heap.size,0,none⟩) 4 4 aR]):=(((F.out.set_ 0 rfl 0 (.slice t m m)).set_ 0 rfl 1 (.int .i64 x2)).set_ 0 rfl 2 (.int .i64 y2))
 clear F
 generalize ((w5.setCell ⟨j,0,none⟩ (.slice t m m)).setCell ⟨j,1,none⟩ (.int .i64 x2)).setCell ⟨j,2,none⟩ (.int .i64 y2)=w6 at o ⊢
 have bz:w6.cell? ⟨j,0,none⟩=some (.slice t m m):=o.out.cell 0 rfl 0
 have Y:w6.frozen? ⟨j,0,none⟩=false:=o.out.frozen 0 rfl 0
 have bl:w6.cell? ⟨j,1,none⟩=some (.int .i64 x2):=o.out.cell 0 rfl 1
 have cm:w6.frozen? ⟨j,1,none⟩=false:=o.out.frozen 0 rfl 1
 have be:w6.cell? ⟨j,2,none⟩=some (.int .i64 y2):=o.out.cell 0 rfl 2
 have cf:w6.frozen? ⟨j,2,none⟩=false:=o.out.frozen 0 rfl 2
 go_wp2_with fail
 with_reducible refine(ig t m m x2 y2 r _ _ (da.out.below (o.out.belowB hB cz.out)) (Nat.le_trans hB o.out.size) (Nat.le_refl _) (by omega) (by omega)).mono ?_
 rw[H3.out]
 rintro e w7 ⟨rfl,M⟩
 clear bz Y bl cm be cf
 have G:Hid (aq w (Exs [.box g 115 (aX s v y nn z)]) X w7 [.box (j) 252 #[.slice t m m,.int .i64 x2,.int .i64 y2],.box (g) 115 (aX s v y nn z)] [Sl.fact ak (some ⟨w.heap.size,0,none⟩) 4 4 aR]):=(o.out.on M)
 clear o
 clear M
 have bc:w7.cell? ⟨j,0,none⟩=some (.slice t m m):=G.out.cell 0 rfl 0
 have cr:w7.frozen? ⟨j,0,none⟩=false:=G.out.frozen 0 rfl 0
 have cl:w7.cell? ⟨j,1,none⟩=some (.int .i64 x2):=G.out.cell 0 rfl 1
 have ab:w7.frozen? ⟨j,1,none⟩=false:=G.out.frozen 0 rfl 1
 have cd:w7.cell? ⟨j,2,none⟩=some (.int .i64 y2):=G.out.cell 0 rfl 2
 have ce:w7.frozen? ⟨j,2,none⟩=false:=G.out.frozen 0 rfl 2
 go_upto_region 7 with(fail)
 clear bc cr cl ab cd ce
 have cw:Hid (aq w (Exs [.box g 115 (aX s v y nn z)]) X (((w7.setCell ⟨j,0,none⟩ (.slice t m m)).setCell ⟨j,1,none⟩ (.int .i64 Q)).setCell ⟨j,2,none⟩ (.int .i64 y3)) [.box (j) 252 #[.slice t m m,.int .i64 Q,.int .i64 y3],.box (g) 115 (aX s v y nn z)] [Sl.fact ak (some ⟨w.heap.size,0,none⟩) 4 4 aR]):=(((G.out.set_ 0 rfl 0 (.slice t m m)).set_ 0 rfl 1 (.int .i64 Q)).set_ 0 rfl 2 (.int .i64 y3))
 clear G
 generalize ((w7.setCell ⟨j,0,none⟩ (.slice t m m)).setCell ⟨j,1,none⟩ (.int .i64 Q)).setCell ⟨j,2,none⟩ (.int .i64 y3)=w8 at cw ⊢
 have l:Hid (aq w (Exs [.box g 115 (aX s v y nn z)]) X (w8.alloc (.cells #[.int .i64 (wrap64 (O:Int)),.int .i64 (wrap64 (N:Int)),.slice none 0 0] 34)) [.box (w8.heap.size) 34 #[.int .i64 (wrap64 (O:Int)),.int .i64 (wrap64 (N:Int)),.slice none 0 0],.box (j) 252 #[.slice t m m,.int .i64 Q,.int .i64 y3],.box (g) 115 (aX s v y nn z)] [Sl.fact ak (some ⟨w.heap.size,0,none⟩) 4 4 aR]):=cw.out.alloc_at 34 #[.int .i64 (wrap64 (O:Int)),.int .i64 (wrap64 (N:Int)),.slice none 0 0] (w8.heap.size) (by simp)
 clear cw
 go_upto_region 8 with(fail)
 generalize w8.alloc (.cells #[.int .i64 (wrap64 (O:Int)),.int .i64 (wrap64 (N:Int)),.slice none 0 0] 34)=w9 at l ⊢
 generalize w8.heap.size=R at l ⊢
 have HN:=fun W=>Lib.hid (lH (wrap64 (v1:Int)) W)
 have dt:=fun(X:List Nat) (W:World)=>Lib.hid (jy (wrap64 (O:Int)) (wrap64 (N:Int)) [] none 0 0 X W Sl.nil_ (by omega))
 generalize eE _=nb at HN i
 generalize aN _=rc at dt i
 by_cases hy:y3=0
 rotate_left
 ·skip
  rw[if_pos (.inl hy)]at i
  have b1:(y3 != 0)=true:=by rw[bne_iff_ne];exact hy
  clear hy
  have E:w9.cell? ⟨j,0,none⟩=some (.slice t m m):=l.out.cell 1 rfl 0
  have D:w9.cell? ⟨j,1,none⟩=some (.int .i64 Q):=l.out.cell 1 rfl 1
  have C:w9.cell? ⟨j,2,none⟩=some (.int .i64 y3):=l.out.cell 1 rfl 2
  go_wp2
  clear E D C
  go_ret
  exact .inl ⟨i.out,rfl,l.out.only,l.out.blk 2 rfl⟩
 subst hy
 obtain⟨-,ee,ed,-,-⟩:=HU.out rfl
 clear HU
 have E:w9.cell? ⟨j,0,none⟩=some (.slice t m m):=l.out.cell 1 rfl 0
 have D:w9.cell? ⟨j,1,none⟩=some (.int .i64 Q):=l.out.cell 1 rfl 1
 have C:w9.cell? ⟨j,2,none⟩=some (.int .i64 0):=l.out.cell 1 rfl 2
 go_wp2_with fail
 with_reducible refine(gR t m m Q _ ee ed (by omega)).mono ?_
 rintro e T ⟨rfl,M⟩
 clear E D C
 have k:Hid (aq w (Exs [.box g 115 (aX s v y nn z)]) X T [.box (R) 34 #[.int .i64 (wrap64 (O:Int)),.int .i64 (wrap64 (N:Int)),.slice none 0 0],.box (j) 252 #[.slice t m m,.int .i64 Q,.int .i64 0],.box (g) 115 (aX s v y nn z)] [Sl.fact ak (some ⟨w.heap.size,0,none⟩) 4 4 aR]):=(l.out.on M)
 clear l
 clear M
 by_cases hx:Q<(m:Int)
 ·skip
  rw[if_pos (.inr (.inl hx))]at i
  have b1:decide (0<(m:Int)-Q)=true:=by simp;omega
  have bm:T.cell? ⟨j,0,none⟩=some (.slice t m m):=k.out.cell 1 rfl 0
  have bx:T.cell? ⟨j,1,none⟩=some (.int .i64 Q):=k.out.cell 1 rfl 1
  have al:T.cell? ⟨j,2,none⟩=some (.int .i64 0):=k.out.cell 1 rfl 2
  go_wp2
  clear bm bx al
  go_ret
  exact .inl ⟨i.out,rfl,k.out.only,k.out.blk 2 rfl⟩
 have b1:decide (0<(m:Int)-Q)=false:=by simp;omega
 cases nb
 ·skip
  rw[if_pos (.inr (.inr (.inl rfl)))]at i
  go_wp2_with (go_at_call 53;refine((HN _).out).mono ?_;rintro e w' ⟨rfl,rfl⟩)
  go_ret
  exact .inl ⟨i.out,rfl,k.out.only,k.out.blk 2 rfl⟩
 have ae:T.cell? ⟨R,0,none⟩=some (.int .i64 (wrap64 (O:Int))):=k.out.cell 0 rfl 0
 have Z:T.cell? ⟨R,1,none⟩=some (.int .i64 (wrap64 (N:Int))):=k.out.cell 0 rfl 1
 have bk:T.cell? ⟨R,2,none⟩=some (.slice none 0 0):=k.out.cell 0 rfl 2
 go_wp2_with (first | (go_at_call 53;refine((HN _).out).mono ?_;rintro e w' ⟨rfl,rfl⟩) | fail)
 with_reducible refine((dt [] _).out).mono ?_
 rintro e df ⟨rfl,M⟩
 clear ae Z bk
 have L:Hid (aq w (Exs [.box g 115 (aX s v y nn z)]) X df [.box (R) 34 #[.int .i64 (wrap64 (O:Int)),.int .i64 (wrap64 (N:Int)),.slice none 0 0],.box (j) 252 #[.slice t m m,.int .i64 Q,.int .i64 0],.box (g) 115 (aX s v y nn z)] [Sl.fact ak (some ⟨w.heap.size,0,none⟩) 4 4 aR]):=(k.out.on M)
 clear k
 clear M
 cases rc
 ·skip
  rw[if_pos (.inr (.inr (.inr rfl)))]at i
  go_wp2
  go_ret
  exact .inl ⟨i.out,rfl,L.out.only,L.out.blk 2 rfl⟩
 rw[if_neg (by simpa using hx)]at i
 go_wp2_with fail
 refine wp_region_noPanic ?_
 refine wp_region_held_drew (S:=fun W'=>Blk W' (R) 34 #[.int .i64 (wrap64 (O:Int)),.int .i64 (wrap64 (N:Int)),.slice none 0 0]) (by kernel_rfl) (L.out.blk 0 rfl).drew (fun f=>?_)
 have d:Hid (aq w (Exs [.box g 115 (aX s v y nn z)]) X df.drew [.box (R) 34 #[.int .i64 (wrap64 (O:Int)),.int .i64 (wrap64 (N:Int)),.slice none 0 0],.box (j) 252 #[.slice t m m,.int .i64 Q,.int .i64 0],.box (g) 115 (aX s v y nn z)] [Sl.fact ak (some ⟨w.heap.size,0,none⟩) 4 4 aR]):=L.out.drew
 clear L
 generalize df.drew=wd at f d ⊢
 have ag:wd.cell? ⟨g,0,none⟩=some (.int .i64 s.num):=d.out.cell 2 rfl 0
 have bs:wd.frozen? ⟨g,0,none⟩=false:=d.out.frozen 2 rfl 0
 have bn:wd.cell? ⟨g,1,none⟩=some (.int .i64 s.bq):=d.out.cell 2 rfl 1
 have bt:wd.frozen? ⟨g,1,none⟩=false:=d.out.frozen 2 rfl 1
 have cb:wd.cell? ⟨g,2,none⟩=some (.int .i64 s.ba):=d.out.cell 2 rfl 2
 have aw:wd.frozen? ⟨g,2,none⟩=false:=d.out.frozen 2 rfl 2
 have cp:wd.cell? ⟨g,3,none⟩=some (.slice none 0 0):=d.out.cell 2 rfl 3
 have bo:wd.frozen? ⟨g,3,none⟩=false:=d.out.frozen 2 rfl 3
 have cs:wd.cell? ⟨g,4,none⟩=some (v):=d.out.cell 2 rfl 4
 have bi:wd.frozen? ⟨g,4,none⟩=false:=d.out.frozen 2 rfl 4
 have ci:wd.cell? ⟨g,5,none⟩=some (.int .i64 s.c.q):=d.out.cell 2 rfl 5
 have br:wd.frozen? ⟨g,5,none⟩=false:=d.out.frozen 2 rfl 5
 have ap:wd.cell? ⟨g,6,none⟩=some (.int .i64 s.c.a):=d.out.cell 2 rfl 6
 have ch:wd.frozen? ⟨g,6,none⟩=false:=d.out.frozen 2 rfl 6
 have bb:wd.cell? ⟨g,7,none⟩=some (.slice y nn z):=d.out.cell 2 rfl 7
 have ah:wd.frozen? ⟨g,7,none⟩=false:=d.out.frozen 2 rfl 7
 have ac:wd.cell? ⟨g,8,none⟩=some (.int .i64 0):=d.out.cell 2 rfl 8
 have ao:wd.frozen? ⟨g,8,none⟩=false:=d.out.frozen 2 rfl 8
 have bj:wd.cell? ⟨g,9,none⟩=some (.int .i64 s.size):=d.out.cell 2 rfl 9
 have ca:wd.frozen? ⟨g,9,none⟩=false:=d.out.frozen 2 rfl 9
 have V:wd.cell? ⟨g,10,none⟩=some (.bool s.sealed):=d.out.cell 2 rfl 10
 have U:wd.frozen? ⟨g,10,none⟩=false:=d.out.frozen 2 rfl 10
 have dq:¬ (g=R):=d.out.ne 2 0 (by decide) rfl rfl
 have dl:¬ (R=g):=d.out.ne 0 2 (by decide) rfl rfl
 refine tS 0 f ?_
 refine tS 1 f ?_
 refine tS 2 f ?_
 refine tS 3 f ?_
 refine tS 4 f ?_
 refine tS 5 f ?_ (hy:=by(intro W I;(try dsimp only at I);have q0:W.cell? ⟨R,0,none⟩=some (.int .i64 (wrap64 (O:Int))):=I.cell 0;have q1:W.cell? ⟨R,1,none⟩=some (.int .i64 (wrap64 (N:Int))):=I.cell 1;have q2:W.cell? ⟨R,2,none⟩=some (.slice none 0 0):=I.cell 2;go_simp;try with_reducible rfl))
 refine tS 6 f ?_ (hy:=by(intro W I;(try dsimp only at I);have q0:W.cell? ⟨R,0,none⟩=some (.int .i64 (wrap64 (O:Int))):=I.cell 0;have q1:W.cell? ⟨R,1,none⟩=some (.int .i64 (wrap64 (N:Int))):=I.cell 1;have q2:W.cell? ⟨R,2,none⟩=some (.slice none 0 0):=I.cell 2;go_simp;try with_reducible rfl))
 refine tS 7 f ?_
 refine tS 8 f ?_
 refine tS 9 f ?_
 refine wpAnyH_ready (rs:=[10]) (by kernel_rfl) (by simp) ?_
 refine AllReadyH.cons rfl (fun K hK=>?_) AllReadyH.nil
 go_simp
 refine hK.out _ _ (f.far (p:=⟨g,0,none⟩) (d.out.ne 0 2 (by decide) rfl rfl) ((.int .i64 (IntKind.i64.wrap (v1:Int))))) (fun f=>?_)
 clear hK K
 try simp only[Act.put,sI,sZ,sS]
 refine tS 11 f ?_
 refine tS 12 f ?_
 refine tS 13 f ?_
 refine wpAnyH_ready (rs:=[14]) (by kernel_rfl) (by simp) ?_
 refine AllReadyH.cons rfl (fun K hK=>?_) AllReadyH.nil
 go_simp
 refine hK.out _ _ (((f.far (p:=⟨g,1,none⟩) (d.out.ne 0 2 (by decide) rfl rfl) (.int .i64 (wrap64 (O:Int)))).far (p:=⟨g,2,none⟩) (d.out.ne 0 2 (by decide) rfl rfl) (.int .i64 (wrap64 (N:Int)))).far (p:=⟨g,3,none⟩) (d.out.ne 0 2 (by decide) rfl rfl) (.slice none 0 0)) (fun f=>?_)
 clear hK K
 try simp only[Act.put,sI,sZ,sS]
 refine tS 15 f ?_
 refine tS 16 f ?_
 refine tS 17 f ?_
 refine wpAnyH_ready (rs:=[18]) (by kernel_rfl) (by simp) ?_
 refine AllReadyH.cons rfl (fun K hK=>?_) AllReadyH.nil
 go_simp
 refine hK.out _ _ (((f.far (p:=⟨g,5,none⟩) (d.out.ne 0 2 (by decide) rfl rfl) (.int .i64 (wrap64 (O:Int)))).far (p:=⟨g,6,none⟩) (d.out.ne 0 2 (by decide) rfl rfl) (.int .i64 (wrap64 (N:Int)))).far (p:=⟨g,7,none⟩) (d.out.ne 0 2 (by decide) rfl rfl) (.slice none 0 0)) (fun f=>?_)
 clear hK K
 try simp only[Act.put,sI,sZ,sS]
 refine wpAnyH_done (by kernel_rfl) ?_ _
 refine NoPanic.normal ?_
 clear ag bs bn bt cb aw cp bo cs bi ci br ap ch bb ah ac ao bj ca V U dq dl
 have dm:=Lib.hid (((((((d.out.set_ 2 rfl 0 ((.int .i64 (IntKind.i64.wrap (v1:Int))))).set_ 2 rfl 1 (.int .i64 (wrap64 (O:Int)))).set_ 2 rfl 2 (.int .i64 (wrap64 (N:Int)))).set_ 2 rfl 3 (.slice none 0 0)).set_ 2 rfl 5 (.int .i64 (wrap64 (O:Int)))).set_ 2 rfl 6 (.int .i64 (wrap64 (N:Int)))).set_ 2 rfl 7 (.slice none 0 0))
 have ec:IntKind.i64.wrap (v1:Int)=wrap64 (v1:Int):=by unfold wrap64;exact IntKind.wrap_i64 _
 rw[ec]at dm ⊢
 clear ec
 go_wp2
 go_ret
 exact .inr ⟨_,i.out,rfl,dm.out.only,dm.out.blk 2 rfl⟩
end
section
open Go.RowKit
theorem pZ {c:Cx} {bs:List UInt8} (h:(gX c bs).2.2=0):(gX c bs).2.1.q=(gX c bs).1.q∧(gX c bs).2.1.a=(gX c bs).1.a∧aN c=true∧eG c (gX c bs).1=0∧aQ c (gX c bs).1=bs∧(gX c bs).2.1=bJ c (gX c bs).1:=by
 unfold gX at h ⊢
 by_cases d:aN c=false
 ·rw[if_pos d]at h;cases h
 rw[if_neg d]at h ⊢
 by_cases e:(dV c bs).2=false
 ·rw[if_pos e]at h;cases h
 rw[if_neg e]at h ⊢
 by_cases b:eG c (dV c bs).1≠0∨aQ c (dV c bs).1≠bs
 ·rw[if_pos b]at h;cases h
 rw[if_neg b]
 exact⟨rfl,rfl,by simpa using d,Classical.not_not.1 (fun h=>b (.inl h)),Classical.not_not.1 (fun h=>b (.inr h)),rfl⟩
section
variable {P:Program} {w0 W:World} {M X0:List Nat} {L:List Itm} {F:List Fact}
theorem nS {ops:Array Oper} {o:Oper} {a:Act} {K:Act→World→Prop} {Q:Exit→Act→World→Prop} {E:Prop} (g:aq w0 M X0 W L F) (k:Nat) (b:o.guard=none) (s x:Operand) (t:TypeId)
 (m:o.op = .call { callee := .builtin .append,args:=#[s,x],argTypes:=#[t,t] }) {e:TypeId} {size bytes:Nat} (hT:Cd P t e size bytes)
 {v:Value} {n:Nat} {xs:List Value} (hk:L[k]?=some (.row e size v n xs)) (hs:a.eval s=v)
 {cs:Array Value} (hx:a.eval x = .slice (some ⟨W.heap.size,0,none⟩) 1 1) (hcs:cs.size=size) (h1:∀ u ∈ cs.toList,u.oneCell'=true)
 (h63:n+1≤maxLen) (hbytes:(n+1)*bytes≤140737488355328)
 (h:∀ v' w',aq w0 M X0 w' (L.set k (.row e size v' (n+1) (xs++cs.toList))) F→K (a.put o.dst v') w'):if Region.wanted o (yielded ops a.tmps)=true then Oper.wp P o a (W.alloc (.cells cs e)) K Q else E:=by
 obtain⟨r,i,z,l,q,hsize,f,d,c⟩:=hT
 refine nR _ b s x t m 0 e i z size bytes r l q hsize f d c v n xs hs ((g.alloc_off _).ent k hk) (W.heap.size+1) _ 1 1 cs.toList hx ?_ h1 h63 hbytes (Nat.zero_le _) (fun v' w' y p w=>h v' w' ((g.alloc_off _).appended k hk y p w))
 refine⟨by simp[hcs],fun _=>⟨_,rfl,Nat.lt_succ_self _,fun j u A=>?_⟩⟩
 rw[add_plain,Nat.zero_add,(Blk.new W e cs).cell j]
 simpa using A
theorem xR {L:List Itm} {x x' y y':Itm} {X:List Nat} (i j:Nat) (g:L[i]?=some x') (d:L[j]?=some y') (f:x.blk=x'.blk:=by rfl) (hy:y.blk=y'.blk:=by rfl):∀ b ∈ Exs [x,y]++X,b ∈ Exs L++X:=by
 intro b a
 rcases List.mem_append.1 a with a | a
 ·obtain⟨z,c,e⟩:=bh.1 a
  rcases List.mem_cons.1 c with rfl | c
  ·exact List.mem_append_left _ (bh.2 ⟨x',List.mem_of_getElem? g,f ▸ e⟩)
  ·rw[List.mem_singleton]at c
   subst c
   exact List.mem_append_left _ (bh.2 ⟨y',List.mem_of_getElem? d,hy ▸ e⟩)
 ·exact List.mem_append_right _ a
theorem vO {base:Nat} {e:TypeId} {size n:Nat} {v:Value} {xs:List Value} (h:W.ownsRow base e size v n xs):∃ A c,v = .slice A n c:=by
 rcases h.2 with⟨a,b⟩ | ⟨g,cap,cur,a,_⟩
 ·exact⟨none,0,by rw[a,b]⟩
 ·exact⟨_,cap,a⟩
theorem aq.row_near {g:Nat} {t:TypeId} {cs cs':Array Value} {e:TypeId} {size n n':Nat} {v v':Value} {xs xs':List Value} (h:aq w0 (Exs [.box g t cs,.row e size v n xs]) X0 W L F) {i j:Nat} (c:i≠j) (l:L[i]?=some (.box g t cs')) (k:L[j]?=some (.row e size v' n' xs')):∀ b,v'.ownBlock=some b→v.ownBlock=some b∨w0.heap.size≤b:=fun b f=>by
 rcases((h.ents _ (List.mem_of_getElem? k)).2 b f).1 with d | d
 ·exact .inr d
 obtain⟨x,a,ex⟩:=bh.1 d
 rcases List.mem_cons.1 a with rfl | a
 ·exact absurd f (h.apart_ c l k b ex)
 ·rw[List.mem_singleton]at a
  subst a
  exact .inl ex
end
theorem nN {l:List (List UInt8)} (h:cK l=true):l.length≤32:=by
 unfold cK at h;rw[decide_eq_true_eq]at h;exact h.1
def rH (s:Scn) (p:List UInt8):Option Scn:=if(gX s.c p).2.2=0 then some { s with evs:=s.evs ++ [(gX s.c p).1],c:=(gX s.c p).2.1 } else none
theorem GB:Cd Tryz.prog 24 44 7 64:=Gx Tryz.underlying24 (z := .agg #[.int .i64 0,.int .i64 0,.int .i64 0,.string ⟨#[]⟩,.int .i64 0,.int .i64 0,.int .i64 0]) (by kernel_rfl) rfl (by omega)
abbrev bZ (ve:Value) (evs:List Evt):Itm := .row 44 7 ve evs.length (aH evs)
def yu (r:Option Scn) (s:Scn) (ve:Value) (An:Option Addr) (nn cn g:Nat) (X:List Nat) (w:World) (e:Ending) (w':World):Prop:=
 zN (Exs [.box g 115 (aX s ve An nn cn),bZ ve s.evs]) w w' ∧
 ((r=none∧e = .returned (.bool false)∧Blk w' g 115 (aX s ve An nn cn)∧(bZ ve s.evs).ok w') ∨
  (∃ s' ve' A2 n2 c2,r=some s'∧e = .returned (.bool true)∧Blk w' g 115 (aX s' ve' A2 n2 c2)∧(bZ ve' s'.evs).ok w'∧(∀ b,ve'.ownBlock=some b→ve.ownBlock=some b∨w.heap.size≤b)∧Sl af w' (Exs [.box g 115 (aX s' ve' A2 n2 c2),bZ ve' s'.evs]++X) A2 n2 c2 s'.c.ns∧n2≤1000))
set_option maxHeartbeats 8000000 in
theorem Cy (s:Scn) (ve:Value) (o:Option Addr) (nn t g:Nat) (A:Option Addr) (n c B:Nat) (p:List UInt8) (X:List Nat) (w:World) (hX:XOk X w) (hG:ru w X [.box g 115 (aX s ve o nn t),bZ ve s.evs]) (hs:Sl af w X o nn t s.c.ns) (fr:nn≤1000) (hr:Reads w B 1 A n (byteCells p)) (hB:B≤w.heap.size) (hBg:B≤g) (fk:∀ b,ve.ownBlock=some b→B≤b) (fl:n≤c) (fv:c≤9223372036854775807) (hn:n≤200) (fw:s.evs.length≤100000):
 Calls Tryz.prog 112 #[.pointer (some ⟨g,0,none⟩),.slice A n c] w (yu (rH s p) s ve o nn t g X w):=by
 have HR:=Lib.hid hr
 have HD:=fun(X:List Nat) (W:World) (hX:XOk X W) (hs:Sl af W X o nn t s.c.ns) (hr:Reads W B 1 A n (byteCells p)) (hB:B≤W.heap.size)=>Lib.hid (Bd s.c.q s.c.a s.c.ns o nn t A n c p X W hX hs B hr hB fl fv fr (by omega))
 have HS:Hid (rH s p=if(gX s.c p).2.2=0 then some { s with evs:=s.evs ++ [(gX s.c p).1],c:=(gX s.c p).2.1 } else none):=rfl
 have HC:=Lib.hid (@pZ s.c p)
 rw[show(⟨s.c.q,s.c.a,s.c.ns⟩:Cx)=s.c from rfl]at HD
 unfold sP at HD
 generalize rH s p=r at HS ⊢
 generalize hd:gX s.c p=d at HD HS HC
 clear hd hr
 have fb:Hid (aq w (Exs [.box g 115 (aX s ve o nn t),bZ ve s.evs]) X w [.box (g) 115 (aX s ve o nn t),.row 44 7 (ve) (s.evs.length) (aH s.evs)] []):=(aq.startG hX hG)
 have u:Hid (aq w (Exs [.box g 115 (aX s ve o nn t),bZ ve s.evs]) X w [.box (g) 115 (aX s ve o nn t),.row 44 7 (ve) (s.evs.length) (aH s.evs)] [Sl.fact af o nn t s.c.ns]):=fb.out.know0 (Sl.fact af o nn t s.c.ns) hs
 clear fb
 clear hG hs
 have fi:=Lib.hid (show ∀ g' ∈ Exs [.box g 115 (aX s ve o nn t),bZ ve s.evs],B≤g' from by
  intro g' h;obtain⟨x,hx,e⟩:=bh.1 h
  rcases List.mem_cons.1 hx with rfl | hx
  ·injection e with e;omega
  ·rw[List.mem_singleton]at hx;subst hx;exact fk g' e)
 have ad:w.cell? ⟨g,0,none⟩=some (.int .i64 s.num):=u.out.cell 0 rfl 0
 have ac:w.cell? ⟨g,1,none⟩=some (.int .i64 s.bq):=u.out.cell 0 rfl 1
 have Q:w.cell? ⟨g,2,none⟩=some (.int .i64 s.ba):=u.out.cell 0 rfl 2
 have ab:w.cell? ⟨g,3,none⟩=some (.slice none 0 0):=u.out.cell 0 rfl 3
 have V:w.cell? ⟨g,4,none⟩=some (ve):=u.out.cell 0 rfl 4
 have Y:w.cell? ⟨g,5,none⟩=some (.int .i64 s.c.q):=u.out.cell 0 rfl 5
 have ae:w.cell? ⟨g,6,none⟩=some (.int .i64 s.c.a):=u.out.cell 0 rfl 6
 have I:w.cell? ⟨g,7,none⟩=some (.slice o nn t):=u.out.cell 0 rfl 7
 have L:w.cell? ⟨g,8,none⟩=some (.int .i64 0):=u.out.cell 0 rfl 8
 have H:w.cell? ⟨g,9,none⟩=some (.int .i64 s.size):=u.out.cell 0 rfl 9
 have F:w.cell? ⟨g,10,none⟩=some (.bool s.sealed):=u.out.cell 0 rfl 10
 go_enter Tryz.func112,Tryz.ntmps112
 go_wp2_with fail
 with_reducible refine((HD _ _ u.out.xok' (u.out.sl 0 rfl) (HR.out.below (u.out.belowB hB fi.out)) (Nat.le_trans hB u.out.size)).out).mono ?_
 rintro e R ⟨hb,h1 | h1⟩
 ·skip
  obtain⟨he,rfl⟩:=h1
  have b1:(d.2.2 != 0)=true:=by rw[bne_iff_ne];exact he
  rw[if_neg he]at HS
  clear he
  clear ad ac Q ab V Y ae I L H F
  have U:Hid (aq w (Exs [.box g 115 (aX s ve o nn t),bZ ve s.evs]) X R [.box (g) 115 (aX s ve o nn t),.row 44 7 (ve) (s.evs.length) (aH s.evs)] [Sl.fact af o nn t s.c.ns]):=(u.out.on hb)
  clear u
  clear hb
  go_wp2
  have J:Hid (aq w (Exs [.box g 115 (aX s ve o nn t),bZ ve s.evs]) X (R.alloc (.cells #[.int .i64 0,.int .i64 0,.int .i64 0,.string ⟨#[]⟩,.int .i64 0,.int .i64 0,.int .i64 0] 44)) [.box (R.heap.size) 44 #[.int .i64 0,.int .i64 0,.int .i64 0,.string ⟨#[]⟩,.int .i64 0,.int .i64 0,.int .i64 0],.box (g) 115 (aX s ve o nn t),.row 44 7 (ve) (s.evs.length) (aH s.evs)] [Sl.fact af o nn t s.c.ns]):=U.out.alloc_at 44 #[.int .i64 0,.int .i64 0,.int .i64 0,.string ⟨#[]⟩,.int .i64 0,.int .i64 0,.int .i64 0] (R.heap.size) (by simp)
  clear U
  generalize R.alloc (.cells #[.int .i64 0,.int .i64 0,.int .i64 0,.string ⟨#[]⟩,.int .i64 0,.int .i64 0,.int .i64 0] 44)=w2 at J ⊢
  have v:Hid (aq w (Exs [.box g 115 (aX s ve o nn t),bZ ve s.evs]) X (w2.alloc (.cells #[.int .i64 s.c.q,.int .i64 s.c.a,.slice o nn t] 34)) [.box (w2.heap.size) 34 #[.int .i64 s.c.q,.int .i64 s.c.a,.slice o nn t],.box (R.heap.size) 44 #[.int .i64 0,.int .i64 0,.int .i64 0,.string ⟨#[]⟩,.int .i64 0,.int .i64 0,.int .i64 0],.box (g) 115 (aX s ve o nn t),.row 44 7 (ve) (s.evs.length) (aH s.evs)] [Sl.fact af o nn t s.c.ns]):=J.out.alloc_at 34 #[.int .i64 s.c.q,.int .i64 s.c.a,.slice o nn t] (w2.heap.size) (by simp)
  clear J
  go_ret
  exact⟨v.out.only,.inl ⟨HS.out,rfl,v.out.blk 2 rfl,v.out.ent 3 rfl⟩⟩
 obtain⟨he,P,M,O,rfl,et⟩:=h1
 obtain⟨hq,ha,fs,fd,fp,fa⟩:=HC.out he
 have fn:M≤1000:=by have h1:=ji fd;rw[←fa]at h1;have h2:=nN (show cK d.2.1.ns=true from by unfold aN at h1;simp only[Bool.and_eq_true]at h1;exact h1.2);have h3:=et.len;omega
 obtain⟨d0,⟨C,a1,T⟩,er⟩:=d
 obtain⟨q,a,k,N,x,y,z⟩:=d0
 simp only at he hq ha et HS
 subst he hq ha
 rw[if_pos rfl]at HS
 clear HC fs fd fp fa
 clear ad ac Q ab V Y ae I L H F
 have U:Hid (aq w (Exs [.box g 115 (aX s ve o nn t),bZ ve s.evs]) X R [.box (g) 115 (aX s ve o nn t),.row 44 7 (ve) (s.evs.length) (aH s.evs)] [Sl.fact af P M O T,Sl.fact af o nn t s.c.ns]):=((u.out.on hb).know (Sl.fact af P M O T) et)
 clear u
 clear hb
 go_upto_region 4 with(fail)
 have J:Hid (aq w (Exs [.box g 115 (aX s ve o nn t),bZ ve s.evs]) X (R.alloc (.cells #[.int .i64 C,.int .i64 a1,.int .i64 k,.string N,.int .i64 x,.int .i64 y,.int .i64 z] 44)) [.box (R.heap.size) 44 #[.int .i64 C,.int .i64 a1,.int .i64 k,.string N,.int .i64 x,.int .i64 y,.int .i64 z],.box (g) 115 (aX s ve o nn t),.row 44 7 (ve) (s.evs.length) (aH s.evs)] [Sl.fact af P M O T,Sl.fact af o nn t s.c.ns]):=U.out.alloc_at 44 #[.int .i64 C,.int .i64 a1,.int .i64 k,.string N,.int .i64 x,.int .i64 y,.int .i64 z] (R.heap.size) (by simp)
 clear U
 have v:Hid (aq w (Exs [.box g 115 (aX s ve o nn t),bZ ve s.evs]) X ((R.alloc (.cells #[.int .i64 C,.int .i64 a1,.int .i64 k,.string N,.int .i64 x,.int .i64 y,.int .i64 z] 44)).alloc (.cells #[.int .i64 C,.int .i64 a1,.slice P M O] 34)) [.box (R.heap.size+1) 34 #[.int .i64 C,.int .i64 a1,.slice P M O],.box (R.heap.size) 44 #[.int .i64 C,.int .i64 a1,.int .i64 k,.string N,.int .i64 x,.int .i64 y,.int .i64 z],.box (g) 115 (aX s ve o nn t),.row 44 7 (ve) (s.evs.length) (aH s.evs)] [Sl.fact af P M O T,Sl.fact af o nn t s.c.ns]):=J.out.alloc_at 34 #[.int .i64 C,.int .i64 a1,.slice P M O] (R.heap.size+1) (by simp)
 clear J
 generalize (R.alloc (.cells #[.int .i64 C,.int .i64 a1,.int .i64 k,.string N,.int .i64 x,.int .i64 y,.int .i64 z] 44)).alloc (.cells #[.int .i64 C,.int .i64 a1,.slice P M O] 34)=w3 at v ⊢
 generalize ft:R.heap.size+1=gb at v ⊢
 clear ft
 generalize R.heap.size=ge at v ⊢
 refine wp_region_noPanic ?_
 refine wp_region_held_drew (S:=fun W'=>Blk W' (ge) 44 #[.int .i64 C,.int .i64 a1,.int .i64 k,.string N,.int .i64 x,.int .i64 y,.int .i64 z]) (by kernel_rfl) (v.out.blk 1 rfl).drew (fun hHeld=>?_)
 have m:Hid (aq w (Exs [.box g 115 (aX s ve o nn t),bZ ve s.evs]) X w3.drew [.box (gb) 34 #[.int .i64 C,.int .i64 a1,.slice P M O],.box (ge) 44 #[.int .i64 C,.int .i64 a1,.int .i64 k,.string N,.int .i64 x,.int .i64 y,.int .i64 z],.box (g) 115 (aX s ve o nn t),.row 44 7 (ve) (s.evs.length) (aH s.evs)] [Sl.fact af P M O T,Sl.fact af o nn t s.c.ns]):=v.out.drew
 clear v
 generalize w3.drew=wd at hHeld m ⊢
 have bz:wd.cell? ⟨g,0,none⟩=some (.int .i64 s.num):=m.out.cell 2 rfl 0
 have cl:wd.frozen? ⟨g,0,none⟩=false:=m.out.frozen 2 rfl 0
 have bp:wd.cell? ⟨g,1,none⟩=some (.int .i64 s.bq):=m.out.cell 2 rfl 1
 have dp:wd.frozen? ⟨g,1,none⟩=false:=m.out.frozen 2 rfl 1
 have df:wd.cell? ⟨g,2,none⟩=some (.int .i64 s.ba):=m.out.cell 2 rfl 2
 have dk:wd.frozen? ⟨g,2,none⟩=false:=m.out.frozen 2 rfl 2
 have be:wd.cell? ⟨g,3,none⟩=some (.slice none 0 0):=m.out.cell 2 rfl 3
 have eh:wd.frozen? ⟨g,3,none⟩=false:=m.out.frozen 2 rfl 3
 have br:wd.cell? ⟨g,4,none⟩=some (ve):=m.out.cell 2 rfl 4
 have bi:wd.frozen? ⟨g,4,none⟩=false:=m.out.frozen 2 rfl 4
 have cd:wd.cell? ⟨g,5,none⟩=some (.int .i64 s.c.q):=m.out.cell 2 rfl 5
 have ek:wd.frozen? ⟨g,5,none⟩=false:=m.out.frozen 2 rfl 5
 have ee:wd.cell? ⟨g,6,none⟩=some (.int .i64 s.c.a):=m.out.cell 2 rfl 6
 have db:wd.frozen? ⟨g,6,none⟩=false:=m.out.frozen 2 rfl 6
 have bd:wd.cell? ⟨g,7,none⟩=some (.slice o nn t):=m.out.cell 2 rfl 7
 have cr:wd.frozen? ⟨g,7,none⟩=false:=m.out.frozen 2 rfl 7
 have dt:wd.cell? ⟨g,8,none⟩=some (.int .i64 0):=m.out.cell 2 rfl 8
 have ar:wd.frozen? ⟨g,8,none⟩=false:=m.out.frozen 2 rfl 8
 have bb:wd.cell? ⟨g,9,none⟩=some (.int .i64 s.size):=m.out.cell 2 rfl 9
 have ds:wd.frozen? ⟨g,9,none⟩=false:=m.out.frozen 2 rfl 9
 have am:wd.cell? ⟨g,10,none⟩=some (.bool s.sealed):=m.out.cell 2 rfl 10
 have ah:wd.frozen? ⟨g,10,none⟩=false:=m.out.frozen 2 rfl 10
 have ex:¬ (g=ge):=m.out.ne 2 1 (by decide) rfl rfl
 have ev:¬ (ge=g):=m.out.ne 1 2 (by decide) rfl rfl
 refine tS 0 hHeld ?_
 refine tS 1 hHeld ?_
 refine tS 2 hHeld ?_
 refine tS 3 hHeld ?_
 refine tS 4 hHeld ?_
 refine tS 6 hHeld ?_ (hy:=by(intro W Z;(try dsimp only at Z);have q0:W.cell? ⟨ge,0,none⟩=some (.int .i64 C):=Z.cell 0;have C:W.cell? ⟨ge,1,none⟩=some (.int .i64 a1):=Z.cell 1;have q2:W.cell? ⟨ge,2,none⟩=some (.int .i64 k):=Z.cell 2;have q3:W.cell? ⟨ge,3,none⟩=some (.string N):=Z.cell 3;have q4:W.cell? ⟨ge,4,none⟩=some (.int .i64 x):=Z.cell 4;have q5:W.cell? ⟨ge,5,none⟩=some (.int .i64 y):=Z.cell 5;have q6:W.cell? ⟨ge,6,none⟩=some (.int .i64 z):=Z.cell 6;go_simp;try with_reducible rfl))
 refine Ef (G:=?G) ?main ?key
 case main=>
  intro hkey
  refine wpAnyH_ready (rs:=[5,7]) (by kernel_rfl) (by simp) ?_
  refine AllReadyH.cons rfl (fun K hK=>?_) (AllReadyH.cons rfl (fun K hK=>?_) AllReadyH.nil)
  ·go_simp
   refine hK.out _ _ hHeld (fun hHeld=>?_)
   clear hK K
   try simp only[Act.put,sI,sZ,sS]
   refine wpAnyH_ready (rs:=[7]) (by kernel_rfl) (by simp) ?_
   refine AllReadyH.cons rfl (fun K hK=>?_) AllReadyH.nil
   go_simp
   refine hK.out _ _ (hHeld.alloc (.cells #[.int .i64 C,.int .i64 a1,.int .i64 k,.string N,.int .i64 x,.int .i64 y,.int .i64 z] 44)) (fun hHeld=>?_)
   clear hK K
   try simp only[Act.put,sI,sZ,sS]
   clear hHeld
   exact hkey.out
  ·go_simp
   refine hK.out _ _ (hHeld.alloc (.cells #[.int .i64 C,.int .i64 a1,.int .i64 k,.string N,.int .i64 x,.int .i64 y,.int .i64 z] 44)) (fun hHeld=>?_)
   clear hK K
   try simp only[Act.put,sI,sZ,sS]
   have c8:(wd.alloc (.cells #[.int .i64 C,.int .i64 a1,.int .i64 k,.string N,.int .i64 x,.int .i64 y,.int .i64 z] 44)).cell? ⟨g,4,none⟩=some ve:=(m.out.alloc_off (.cells #[.int .i64 C,.int .i64 a1,.int .i64 k,.string N,.int .i64 x,.int .i64 y,.int .i64 z] 44)).cell 2 rfl 4
   refine wpAnyH_ready (rs:=[5]) (by kernel_rfl) (by simp) ?_
   refine AllReadyH.cons rfl (fun K hK=>?_) AllReadyH.nil
   go_simp
   refine hK.out _ _ hHeld (fun hHeld=>?_)
   clear hK K
   try simp only[Act.put,sI,sZ,sS]
   clear hHeld
   exact hkey.out
 case key=>
  clear bz cl bp dp df dk be eh br bi cd ek ee db bd cr dt ar bb ds am ah ex ev
  replace hHeld:=(hHeld.alloc (.cells #[.int .i64 C,.int .i64 a1,.int .i64 k,.string N,.int .i64 x,.int .i64 y,.int .i64 z] 44))
  refine wpAnyH_ready (rs:=[8]) (by kernel_rfl) (by simp) ?_
  refine AllReadyH.cons rfl (fun K hK=>?_) AllReadyH.nil
  refine nS m.out 3 rfl (.tmp 26) (.tmp 28) 24 rfl GB rfl rfl rfl (cs:=#[.int .i64 C,.int .i64 a1,.int .i64 k,.string N,.int .i64 x,.int .i64 y,.int .i64 z]) rfl (by simp[Value.oneCell']) (by unfold maxLen;omega) (by omega) ?_
  intro v2 D fg
  have l:Hid (aq w (Exs [.box g 115 (aX s ve o nn t),bZ ve s.evs]) X D [.box (gb) 34 #[.int .i64 C,.int .i64 a1,.slice P M O],.box (ge) 44 #[.int .i64 C,.int .i64 a1,.int .i64 k,.string N,.int .i64 x,.int .i64 y,.int .i64 z],.box (g) 115 (aX s ve o nn t),.row 44 7 (v2) (s.evs.length+1) (aH s.evs++#[.int .i64 C,.int .i64 a1,.int .i64 k,.string N,.int .i64 x,.int .i64 y,.int .i64 z].toList)] [Sl.fact af P M O T,Sl.fact af o nn t s.c.ns]):=fg
  clear m
  clear fg
  refine hK.out _ _ (l.out.blk 1 rfl) (fun hHeld=>?_)
  clear hK K
  try simp only[Act.put,sI,sZ,sS]
  refine tS 9 hHeld ?_
  refine tS 10 hHeld ?_
  refine tS 11 hHeld ?_
  obtain⟨Av,cv,rfl⟩:=vO (l.out.row 3 rfl)
  have el:D.cell? ⟨g,0,none⟩=some (.int .i64 s.num):=l.out.cell 2 rfl 0
  have dg:D.frozen? ⟨g,0,none⟩=false:=l.out.frozen 2 rfl 0
  have dd:D.cell? ⟨g,1,none⟩=some (.int .i64 s.bq):=l.out.cell 2 rfl 1
  have ce:D.frozen? ⟨g,1,none⟩=false:=l.out.frozen 2 rfl 1
  have bj:D.cell? ⟨g,2,none⟩=some (.int .i64 s.ba):=l.out.cell 2 rfl 2
  have cf:D.frozen? ⟨g,2,none⟩=false:=l.out.frozen 2 rfl 2
  have ed:D.cell? ⟨g,3,none⟩=some (.slice none 0 0):=l.out.cell 2 rfl 3
  have bv:D.frozen? ⟨g,3,none⟩=false:=l.out.frozen 2 rfl 3
  have de:D.cell? ⟨g,4,none⟩=some (ve):=l.out.cell 2 rfl 4
  have ec:D.frozen? ⟨g,4,none⟩=false:=l.out.frozen 2 rfl 4
  have eg:D.cell? ⟨g,5,none⟩=some (.int .i64 s.c.q):=l.out.cell 2 rfl 5
  have cb:D.frozen? ⟨g,5,none⟩=false:=l.out.frozen 2 rfl 5
  have eb:D.cell? ⟨g,6,none⟩=some (.int .i64 s.c.a):=l.out.cell 2 rfl 6
  have du:D.frozen? ⟨g,6,none⟩=false:=l.out.frozen 2 rfl 6
  have cp:D.cell? ⟨g,7,none⟩=some (.slice o nn t):=l.out.cell 2 rfl 7
  have dm:D.frozen? ⟨g,7,none⟩=false:=l.out.frozen 2 rfl 7
  have ca:D.cell? ⟨g,8,none⟩=some (.int .i64 0):=l.out.cell 2 rfl 8
  have bk:D.frozen? ⟨g,8,none⟩=false:=l.out.frozen 2 rfl 8
  have dl:D.cell? ⟨g,9,none⟩=some (.int .i64 s.size):=l.out.cell 2 rfl 9
  have bm:D.frozen? ⟨g,9,none⟩=false:=l.out.frozen 2 rfl 9
  have ag:D.cell? ⟨g,10,none⟩=some (.bool s.sealed):=l.out.cell 2 rfl 10
  have ap:D.frozen? ⟨g,10,none⟩=false:=l.out.frozen 2 rfl 10
  have eq:¬ (g=ge):=l.out.ne 2 1 (by decide) rfl rfl
  have ey:¬ (ge=g):=l.out.ne 1 2 (by decide) rfl rfl
  refine wpAnyH_ready (rs:=[12]) (by kernel_rfl) (by simp) ?_
  refine AllReadyH.cons rfl (fun K hK=>?_) AllReadyH.nil
  go_simp
  refine hK.out _ _ (hHeld.far (p:=⟨g,4,none⟩) (l.out.ne 1 2 (by decide) rfl rfl) (.slice Av (s.evs.length+1) cv)) (fun hHeld=>?_)
  clear hK K
  try simp only[Act.put,sI,sZ,sS]
  refine wpAnyH_done (by kernel_rfl) ?_ _
  refine NoPanic.normal ?_
  clear hHeld
  clear el dg dd ce bj cf ed bv de ec eg cb eb du cp dm ca bk dl bm ag ap eq ey
  have f:Hid (aq w (Exs [.box g 115 (aX s ve o nn t),bZ ve s.evs]) X (D.setCell ⟨g,4,none⟩ (.slice Av (s.evs.length+1) cv)) [.box (gb) 34 #[.int .i64 C,.int .i64 a1,.slice P M O],.box (ge) 44 #[.int .i64 C,.int .i64 a1,.int .i64 k,.string N,.int .i64 x,.int .i64 y,.int .i64 z],.box (g) 115 #[.int .i64 s.num,.int .i64 s.bq,.int .i64 s.ba,.slice none 0 0,.slice Av (s.evs.length+1) cv,.int .i64 s.c.q,.int .i64 s.c.a,.slice o nn t,.int .i64 0,.int .i64 s.size,.bool s.sealed],.row 44 7 ((.slice Av (s.evs.length+1) cv)) (s.evs.length+1) (aH s.evs++#[.int .i64 C,.int .i64 a1,.int .i64 k,.string N,.int .i64 x,.int .i64 y,.int .i64 z].toList)] [Sl.fact af P M O T,Sl.fact af o nn t s.c.ns]):=l.out.set_ 2 rfl 4 (.slice Av (s.evs.length+1) cv)
  clear l
  generalize D.setCell ⟨g,4,none⟩ (.slice Av (s.evs.length+1) cv)=E at f ⊢
  have bl:E.cell? ⟨gb,0,none⟩=some (.int .i64 C):=f.out.cell 0 rfl 0
  have co:E.cell? ⟨gb,1,none⟩=some (.int .i64 a1):=f.out.cell 0 rfl 1
  have dy:E.cell? ⟨gb,2,none⟩=some (.slice P M O):=f.out.cell 0 rfl 2
  have bc:E.cell? ⟨g,0,none⟩=some (.int .i64 s.num):=f.out.cell 2 rfl 0
  have cw:E.frozen? ⟨g,0,none⟩=false:=f.out.frozen 2 rfl 0
  have ck:E.cell? ⟨g,1,none⟩=some (.int .i64 s.bq):=f.out.cell 2 rfl 1
  have dq:E.frozen? ⟨g,1,none⟩=false:=f.out.frozen 2 rfl 1
  have bo:E.cell? ⟨g,2,none⟩=some (.int .i64 s.ba):=f.out.cell 2 rfl 2
  have dc:E.frozen? ⟨g,2,none⟩=false:=f.out.frozen 2 rfl 2
  have da:E.cell? ⟨g,3,none⟩=some (.slice none 0 0):=f.out.cell 2 rfl 3
  have cc:E.frozen? ⟨g,3,none⟩=false:=f.out.frozen 2 rfl 3
  have bt:E.cell? ⟨g,4,none⟩=some (.slice Av (s.evs.length+1) cv):=f.out.cell 2 rfl 4
  have aw:E.frozen? ⟨g,4,none⟩=false:=f.out.frozen 2 rfl 4
  have bn:E.cell? ⟨g,5,none⟩=some (.int .i64 s.c.q):=f.out.cell 2 rfl 5
  have ct:E.frozen? ⟨g,5,none⟩=false:=f.out.frozen 2 rfl 5
  have em:E.cell? ⟨g,6,none⟩=some (.int .i64 s.c.a):=f.out.cell 2 rfl 6
  have dv:E.frozen? ⟨g,6,none⟩=false:=f.out.frozen 2 rfl 6
  have ci:E.cell? ⟨g,7,none⟩=some (.slice o nn t):=f.out.cell 2 rfl 7
  have bs:E.frozen? ⟨g,7,none⟩=false:=f.out.frozen 2 rfl 7
  have bx:E.cell? ⟨g,8,none⟩=some (.int .i64 0):=f.out.cell 2 rfl 8
  have ea:E.frozen? ⟨g,8,none⟩=false:=f.out.frozen 2 rfl 8
  have ch:E.cell? ⟨g,9,none⟩=some (.int .i64 s.size):=f.out.cell 2 rfl 9
  have cz:E.frozen? ⟨g,9,none⟩=false:=f.out.frozen 2 rfl 9
  have ao:E.cell? ⟨g,10,none⟩=some (.bool s.sealed):=f.out.cell 2 rfl 10
  have al:E.frozen? ⟨g,10,none⟩=false:=f.out.frozen 2 rfl 10
  have ez:¬ (g=gb):=f.out.ne 2 0 (by decide) rfl rfl
  have es:¬ (gb=g):=f.out.ne 0 2 (by decide) rfl rfl
  go_wp2
  clear bl co dy bc cw ck dq bo dc da cc bt aw bn ct em dv ci bs bx ea ch cz ao al ez es
  have en:=Lib.hid (((f.out.set_ 2 rfl 5 (.int .i64 C)).set_ 2 rfl 6 (.int .i64 a1)).set_ 2 rfl 7 (.slice P M O))
  go_ret
  exact⟨en.out.only,.inr ⟨_,_,P,M,O,HS.out,rfl,en.out.blk 2 rfl,by have h1:=en.out.ent 3 rfl;simpa [bZ,oy,aH] using h1,en.out.row_near (i:=2) (j:=3) (by decide) rfl rfl,((Sl.fact af P M O T).more (en.out.fact 0 rfl) (fun b _=>xR 2 3 rfl rfl (by rfl) (by rfl) b)),fn⟩⟩
end
section
open Go.RowKit
theorem iU {w w':World} {p:Addr} {u:Value} (a:Below w.heap.size w w') (h:w.cell? p=some u):w'.cell? p=some u:=(a.cell (World.block_lt_of_cell? _ _ h)).trans h
def cM (s:Scn) (kind:Int) (p:List UInt8):Option Scn:=
 if s.sealed=true then none else if s.num=0 then(if kind=1 then gO s p else none)
 else if kind=2 then rH s p else if kind=3 then(if(p == aS (s.evs.length:Int) s.c.q s.c.a)=true then some { s with sealed:=true } else none) else none
theorem nK {s s':Scn} {p:List UInt8} (h:gO s p=some s'):s'.evs=s.evs∧s'.c.ns = []:=by
 unfold gO at h
 split at h
 ·simp only at h
  split at h
  ·cases h
  ·injection h with h;subst h;exact⟨rfl,rfl⟩
 ·cases h
set_option maxHeartbeats 8000000 in
theorem FT (s:Scn) (ve:Value) (F:Option Addr) (nn G g:Nat) (kind:Int) (A:Option Addr) (n c B:Nat) (p:List UInt8) (X:List Nat) (w:World) (hX:XOk X w) (hG:ru w X [.box g 115 (aX s ve F nn G),bZ ve s.evs]) (hs:Sl af w X F nn G s.c.ns) (cp:nn≤1000) (hr:Reads w B 1 A n (byteCells p)) (hB:B≤w.heap.size) (hBg:B≤g) (ci:∀ b,ve.ownBlock=some b→B≤b) (ck:n≤c) (cs:c≤9223372036854775807) (hn:n≤200) (cl:s.evs.length≤100000) (cc:s.num≠0→aN s.c=true):
 Calls Tryz.prog 51 #[.pointer (some ⟨g,0,none⟩),.int .i64 kind,.slice A n c] w (yu (cM s kind p) s ve F nn G g X w):=by
 have HR:=Lib.hid hr
 obtain⟨num,I,ba,evs,⟨q,a,ns⟩,size,V⟩:=s
 simp only at hs cl cc
 obtain⟨o,m,rfl⟩:=vO (hG.ok (.row 44 7 ve evs.length (aH evs)) (by simp[bZ])).1
 have N:=Lib.hid (Cy ⟨num,I,ba,evs,⟨q,a,ns⟩,size,V⟩ (.slice o evs.length m) F nn G g A n c B p X w hX hG hs cp hr hB hBg ci ck cs hn cl)
 cases V
 rotate_left
 ·skip
  clear N
  have P:Hid (cM ⟨num,I,ba,evs,⟨q,a,ns⟩,size,true⟩ kind p=none):=by unfold Hid cM;rw[if_pos rfl]
  have J:Hid (aq w (Exs [.box g 115 (aX ⟨num,I,ba,evs,⟨q,a,ns⟩,size,true⟩ (.slice o evs.length m) F nn G),bZ (.slice o evs.length m) evs]) X w [.box (g) 115 (aX ⟨num,I,ba,evs,⟨q,a,ns⟩,size,true⟩ (.slice o evs.length m) F nn G),.row 44 7 ((.slice o evs.length m)) (evs.length) (aH evs)] []):=(aq.startG hX hG)
  have d:Hid (aq w (Exs [.box g 115 (aX ⟨num,I,ba,evs,⟨q,a,ns⟩,size,true⟩ (.slice o evs.length m) F nn G),bZ (.slice o evs.length m) evs]) X w [.box (g) 115 (aX ⟨num,I,ba,evs,⟨q,a,ns⟩,size,true⟩ (.slice o evs.length m) F nn G),.row 44 7 ((.slice o evs.length m)) (evs.length) (aH evs)] [Sl.fact af F nn G ns]):=J.out.know0 (Sl.fact af F nn G ns) hs
  clear J
  have D:w.cell? ⟨g,0,none⟩=some (.int .i64 num):=d.out.cell 0 rfl 0
  have C:w.cell? ⟨g,1,none⟩=some (.int .i64 I):=d.out.cell 0 rfl 1
  have u:w.cell? ⟨g,2,none⟩=some (.int .i64 ba):=d.out.cell 0 rfl 2
  have z:w.cell? ⟨g,3,none⟩=some (.slice none 0 0):=d.out.cell 0 rfl 3
  have v:w.cell? ⟨g,4,none⟩=some (.slice o evs.length m):=d.out.cell 0 rfl 4
  have y:w.cell? ⟨g,5,none⟩=some (.int .i64 q):=d.out.cell 0 rfl 5
  have E:w.cell? ⟨g,6,none⟩=some (.int .i64 a):=d.out.cell 0 rfl 6
  have k:w.cell? ⟨g,7,none⟩=some (.slice F nn G):=d.out.cell 0 rfl 7
  have l:w.cell? ⟨g,8,none⟩=some (.int .i64 0):=d.out.cell 0 rfl 8
  have j:w.cell? ⟨g,9,none⟩=some (.int .i64 size):=d.out.cell 0 rfl 9
  have i:w.cell? ⟨g,10,none⟩=some (.bool true):=d.out.cell 0 rfl 10
  go_enter Tryz.func51,Tryz.ntmps51
  go_wp2
  clear D C u z v y E k l j i
  go_ret
  exact⟨d.out.only,.inl ⟨P.out,rfl,d.out.blk 0 rfl,d.out.ent 1 rfl⟩⟩
 by_cases O:num=0
 ·skip
  clear N
  subst O
  by_cases hk:kind=1
  ·skip
   subst hk
   have P:Hid (cM ⟨0,I,ba,evs,⟨q,a,ns⟩,size,false⟩ 1 p=gO ⟨0,I,ba,evs,⟨q,a,ns⟩,size,false⟩ p):=by unfold Hid cM;rw[if_neg (by simp),if_pos rfl,if_pos rfl]
   have J:Hid (aq w (Exs [.box g 115 (aX ⟨0,I,ba,evs,⟨q,a,ns⟩,size,false⟩ (.slice o evs.length m) F nn G),bZ (.slice o evs.length m) evs]) X w [.box (g) 115 (aX ⟨0,I,ba,evs,⟨q,a,ns⟩,size,false⟩ (.slice o evs.length m) F nn G),.row 44 7 ((.slice o evs.length m)) (evs.length) (aH evs)] []):=(aq.startG hX hG)
   have d:Hid (aq w (Exs [.box g 115 (aX ⟨0,I,ba,evs,⟨q,a,ns⟩,size,false⟩ (.slice o evs.length m) F nn G),bZ (.slice o evs.length m) evs]) X w [.box (g) 115 (aX ⟨0,I,ba,evs,⟨q,a,ns⟩,size,false⟩ (.slice o evs.length m) F nn G),.row 44 7 ((.slice o evs.length m)) (evs.length) (aH evs)] [Sl.fact af F nn G ns]):=J.out.know0 (Sl.fact af F nn G ns) hs
   clear J
   have D:w.cell? ⟨g,0,none⟩=some (.int .i64 0):=d.out.cell 0 rfl 0
   have C:w.cell? ⟨g,1,none⟩=some (.int .i64 I):=d.out.cell 0 rfl 1
   have u:w.cell? ⟨g,2,none⟩=some (.int .i64 ba):=d.out.cell 0 rfl 2
   have z:w.cell? ⟨g,3,none⟩=some (.slice none 0 0):=d.out.cell 0 rfl 3
   have v:w.cell? ⟨g,4,none⟩=some (.slice o evs.length m):=d.out.cell 0 rfl 4
   have y:w.cell? ⟨g,5,none⟩=some (.int .i64 q):=d.out.cell 0 rfl 5
   have E:w.cell? ⟨g,6,none⟩=some (.int .i64 a):=d.out.cell 0 rfl 6
   have k:w.cell? ⟨g,7,none⟩=some (.slice F nn G):=d.out.cell 0 rfl 7
   have l:w.cell? ⟨g,8,none⟩=some (.int .i64 0):=d.out.cell 0 rfl 8
   have j:w.cell? ⟨g,9,none⟩=some (.int .i64 size):=d.out.cell 0 rfl 9
   have i:w.cell? ⟨g,10,none⟩=some (.bool false):=d.out.cell 0 rfl 10
   have cd:=Lib.hid (FK ⟨0,I,ba,evs,⟨q,a,ns⟩,size,false⟩ (.slice o evs.length m) F nn G g A n c B p _ w d.out.xok' (d.out.give1 0 rfl) hr hB hBg ck cs hn)
   have ca:=Lib.hid (fun s'=>@nK ⟨0,I,ba,evs,⟨q,a,ns⟩,size,false⟩ s' p)
   generalize gO _ p=r at P cd ca
   go_enter Tryz.func51,Tryz.ntmps51
   go_wp2_with fail
   with_reducible refine(cd.out).mono ?_
   clear cd
   rintro e L (⟨rfl,rfl,ho,Y⟩ | ⟨s',rfl,rfl,ho,Y⟩)
   clear D C u z v y E k l j i
   ·skip
    clear ca
    have M:Hid (aq w (Exs [.box g 115 (aX ⟨0,I,ba,evs,⟨q,a,ns⟩,size,false⟩ (.slice o evs.length m) F nn G),bZ (.slice o evs.length m) evs]) X L [.box (g) 115 (aX ⟨0,I,ba,evs,⟨q,a,ns⟩,size,false⟩ (.slice o evs.length m) F nn G),.row 44 7 ((.slice o evs.length m)) (evs.length) (aH evs)] [Sl.fact af F nn G ns]):=d.out.wrote1 0 rfl ho Y
    clear d
    go_wp2
    go_ret
    exact⟨M.out.only,.inl ⟨P.out,rfl,M.out.blk 0 rfl,M.out.ent 1 rfl⟩⟩
   ·skip
    obtain⟨da,Q⟩:=ca.out _ rfl
    have cf:=Lib.hid (d.out.wrote1 0 rfl ho Y)
    clear ca
    go_wp2
    go_ret
    exact⟨cf.out.only,.inr ⟨s',(.slice o evs.length m),none,0,0,P.out,rfl,cf.out.blk 0 rfl,(show(bZ (.slice o evs.length m) s'.evs).ok L from by rw[da];exact cf.out.ent 1 rfl),fun b Y=>.inl Y,by rw[Q];exact Sl.nil_,by omega⟩⟩
  ·skip
   have P:Hid (cM ⟨0,I,ba,evs,⟨q,a,ns⟩,size,false⟩ kind p=none):=by unfold Hid cM;rw[if_neg (by simp),if_pos rfl,if_neg hk]
   have b1:(kind == 1)=false:=by rw[beq_eq_false_iff_ne];exact hk
   have J:Hid (aq w (Exs [.box g 115 (aX ⟨0,I,ba,evs,⟨q,a,ns⟩,size,false⟩ (.slice o evs.length m) F nn G),bZ (.slice o evs.length m) evs]) X w [.box (g) 115 (aX ⟨0,I,ba,evs,⟨q,a,ns⟩,size,false⟩ (.slice o evs.length m) F nn G),.row 44 7 ((.slice o evs.length m)) (evs.length) (aH evs)] []):=(aq.startG hX hG)
   have d:Hid (aq w (Exs [.box g 115 (aX ⟨0,I,ba,evs,⟨q,a,ns⟩,size,false⟩ (.slice o evs.length m) F nn G),bZ (.slice o evs.length m) evs]) X w [.box (g) 115 (aX ⟨0,I,ba,evs,⟨q,a,ns⟩,size,false⟩ (.slice o evs.length m) F nn G),.row 44 7 ((.slice o evs.length m)) (evs.length) (aH evs)] [Sl.fact af F nn G ns]):=J.out.know0 (Sl.fact af F nn G ns) hs
   clear J
   have D:w.cell? ⟨g,0,none⟩=some (.int .i64 0):=d.out.cell 0 rfl 0
   have C:w.cell? ⟨g,1,none⟩=some (.int .i64 I):=d.out.cell 0 rfl 1
   have u:w.cell? ⟨g,2,none⟩=some (.int .i64 ba):=d.out.cell 0 rfl 2
   have z:w.cell? ⟨g,3,none⟩=some (.slice none 0 0):=d.out.cell 0 rfl 3
   have v:w.cell? ⟨g,4,none⟩=some (.slice o evs.length m):=d.out.cell 0 rfl 4
   have y:w.cell? ⟨g,5,none⟩=some (.int .i64 q):=d.out.cell 0 rfl 5
   have E:w.cell? ⟨g,6,none⟩=some (.int .i64 a):=d.out.cell 0 rfl 6
   have k:w.cell? ⟨g,7,none⟩=some (.slice F nn G):=d.out.cell 0 rfl 7
   have l:w.cell? ⟨g,8,none⟩=some (.int .i64 0):=d.out.cell 0 rfl 8
   have j:w.cell? ⟨g,9,none⟩=some (.int .i64 size):=d.out.cell 0 rfl 9
   have i:w.cell? ⟨g,10,none⟩=some (.bool false):=d.out.cell 0 rfl 10
   go_enter Tryz.func51,Tryz.ntmps51
   go_wp2
   clear D C u z v y E k l j i
   go_ret
   exact⟨d.out.only,.inl ⟨P.out,rfl,d.out.blk 0 rfl,d.out.ent 1 rfl⟩⟩
 have b0:(num == 0)=false:=by rw[beq_eq_false_iff_ne];exact O
 have cc:=cc O
 by_cases Q:kind=2
 ·skip
  subst Q
  have P:Hid (cM ⟨num,I,ba,evs,⟨q,a,ns⟩,size,false⟩ 2 p=rH ⟨num,I,ba,evs,⟨q,a,ns⟩,size,false⟩ p):=by unfold Hid cM;rw[if_neg (by simp),if_neg O,if_pos rfl]
  rw[←P.out]at N
  clear P O
  have J:Hid (aq w (Exs [.box g 115 (aX ⟨num,I,ba,evs,⟨q,a,ns⟩,size,false⟩ (.slice o evs.length m) F nn G),bZ (.slice o evs.length m) evs]) X w [.box (g) 115 (aX ⟨num,I,ba,evs,⟨q,a,ns⟩,size,false⟩ (.slice o evs.length m) F nn G),.row 44 7 ((.slice o evs.length m)) (evs.length) (aH evs)] []):=(aq.startG hX hG)
  have d:Hid (aq w (Exs [.box g 115 (aX ⟨num,I,ba,evs,⟨q,a,ns⟩,size,false⟩ (.slice o evs.length m) F nn G),bZ (.slice o evs.length m) evs]) X w [.box (g) 115 (aX ⟨num,I,ba,evs,⟨q,a,ns⟩,size,false⟩ (.slice o evs.length m) F nn G),.row 44 7 ((.slice o evs.length m)) (evs.length) (aH evs)] [Sl.fact af F nn G ns]):=J.out.know0 (Sl.fact af F nn G ns) hs
  clear J
  have D:w.cell? ⟨g,0,none⟩=some (.int .i64 num):=d.out.cell 0 rfl 0
  have C:w.cell? ⟨g,1,none⟩=some (.int .i64 I):=d.out.cell 0 rfl 1
  have u:w.cell? ⟨g,2,none⟩=some (.int .i64 ba):=d.out.cell 0 rfl 2
  have z:w.cell? ⟨g,3,none⟩=some (.slice none 0 0):=d.out.cell 0 rfl 3
  have v:w.cell? ⟨g,4,none⟩=some (.slice o evs.length m):=d.out.cell 0 rfl 4
  have y:w.cell? ⟨g,5,none⟩=some (.int .i64 q):=d.out.cell 0 rfl 5
  have E:w.cell? ⟨g,6,none⟩=some (.int .i64 a):=d.out.cell 0 rfl 6
  have k:w.cell? ⟨g,7,none⟩=some (.slice F nn G):=d.out.cell 0 rfl 7
  have l:w.cell? ⟨g,8,none⟩=some (.int .i64 0):=d.out.cell 0 rfl 8
  have j:w.cell? ⟨g,9,none⟩=some (.int .i64 size):=d.out.cell 0 rfl 9
  have i:w.cell? ⟨g,10,none⟩=some (.bool false):=d.out.cell 0 rfl 10
  skip
  go_enter Tryz.func51,Tryz.ntmps51
  go_wp2_with fail
  with_reducible refine(N.out).mono ?_
  clear N
  intro e L hp
  clear D C u z v y E k l j i
  rcases hp with⟨ho,⟨h1,rfl,h2⟩ | ⟨s',cw,A2,n2,c2,h1,rfl,h2⟩⟩
  ·go_wp2
   go_ret
   exact⟨ho,.inl ⟨h1,rfl,h2⟩⟩
  ·go_wp2
   go_ret
   exact⟨ho,.inr ⟨s',cw,A2,n2,c2,h1,rfl,h2⟩⟩
 have b2:(kind == 2)=false:=by rw[beq_eq_false_iff_ne];exact Q
 clear N
 by_cases cb:kind=3
 rotate_left
 ·skip
  have P:Hid (cM ⟨num,I,ba,evs,⟨q,a,ns⟩,size,false⟩ kind p=none):=by unfold Hid cM;rw[if_neg (by simp),if_neg O,if_neg Q,if_neg cb]
  have b3:(kind == 3)=false:=by rw[beq_eq_false_iff_ne];exact cb
  clear O Q cb
  have J:Hid (aq w (Exs [.box g 115 (aX ⟨num,I,ba,evs,⟨q,a,ns⟩,size,false⟩ (.slice o evs.length m) F nn G),bZ (.slice o evs.length m) evs]) X w [.box (g) 115 (aX ⟨num,I,ba,evs,⟨q,a,ns⟩,size,false⟩ (.slice o evs.length m) F nn G),.row 44 7 ((.slice o evs.length m)) (evs.length) (aH evs)] []):=(aq.startG hX hG)
  have d:Hid (aq w (Exs [.box g 115 (aX ⟨num,I,ba,evs,⟨q,a,ns⟩,size,false⟩ (.slice o evs.length m) F nn G),bZ (.slice o evs.length m) evs]) X w [.box (g) 115 (aX ⟨num,I,ba,evs,⟨q,a,ns⟩,size,false⟩ (.slice o evs.length m) F nn G),.row 44 7 ((.slice o evs.length m)) (evs.length) (aH evs)] [Sl.fact af F nn G ns]):=J.out.know0 (Sl.fact af F nn G ns) hs
  clear J
  have D:w.cell? ⟨g,0,none⟩=some (.int .i64 num):=d.out.cell 0 rfl 0
  have C:w.cell? ⟨g,1,none⟩=some (.int .i64 I):=d.out.cell 0 rfl 1
  have u:w.cell? ⟨g,2,none⟩=some (.int .i64 ba):=d.out.cell 0 rfl 2
  have z:w.cell? ⟨g,3,none⟩=some (.slice none 0 0):=d.out.cell 0 rfl 3
  have v:w.cell? ⟨g,4,none⟩=some (.slice o evs.length m):=d.out.cell 0 rfl 4
  have y:w.cell? ⟨g,5,none⟩=some (.int .i64 q):=d.out.cell 0 rfl 5
  have E:w.cell? ⟨g,6,none⟩=some (.int .i64 a):=d.out.cell 0 rfl 6
  have k:w.cell? ⟨g,7,none⟩=some (.slice F nn G):=d.out.cell 0 rfl 7
  have l:w.cell? ⟨g,8,none⟩=some (.int .i64 0):=d.out.cell 0 rfl 8
  have j:w.cell? ⟨g,9,none⟩=some (.int .i64 size):=d.out.cell 0 rfl 9
  have i:w.cell? ⟨g,10,none⟩=some (.bool false):=d.out.cell 0 rfl 10
  go_enter Tryz.func51,Tryz.ntmps51
  go_wp2
  clear D C u z v y E k l j i
  go_ret
  exact⟨d.out.only,.inl ⟨P.out,rfl,d.out.blk 0 rfl,d.out.ent 1 rfl⟩⟩
 subst cb
 have P:Hid (cM ⟨num,I,ba,evs,⟨q,a,ns⟩,size,false⟩ 3 p=if(p == aS (evs.length:Int) q a)=true then some ⟨num,I,ba,evs,⟨q,a,ns⟩,size,true⟩ else none):=by unfold Hid cM;rw[if_neg (by simp),if_neg O,if_neg Q,if_pos rfl]
 clear O Q b2
 obtain⟨cm,ch,ct,co⟩:=eR cc
 simp only at cm ch ct co
 have J:Hid (aq w (Exs [.box g 115 (aX ⟨num,I,ba,evs,⟨q,a,ns⟩,size,false⟩ (.slice o evs.length m) F nn G),bZ (.slice o evs.length m) evs]) X w [.box (g) 115 (aX ⟨num,I,ba,evs,⟨q,a,ns⟩,size,false⟩ (.slice o evs.length m) F nn G),.row 44 7 ((.slice o evs.length m)) (evs.length) (aH evs)] []):=(aq.startG hX hG)
 have d:Hid (aq w (Exs [.box g 115 (aX ⟨num,I,ba,evs,⟨q,a,ns⟩,size,false⟩ (.slice o evs.length m) F nn G),bZ (.slice o evs.length m) evs]) X w [.box (g) 115 (aX ⟨num,I,ba,evs,⟨q,a,ns⟩,size,false⟩ (.slice o evs.length m) F nn G),.row 44 7 ((.slice o evs.length m)) (evs.length) (aH evs)] [Sl.fact af F nn G ns]):=J.out.know0 (Sl.fact af F nn G ns) hs
 clear J
 have cz:=Lib.hid (show ∀ g' ∈ (Exs [.box g 115 (aX ⟨num,I,ba,evs,⟨q,a,ns⟩,size,false⟩ (.slice o evs.length m) F nn G),bZ (.slice o evs.length m) evs]),B≤g' from by
  intro g' h;obtain⟨x,hx,e⟩:=bh.1 h
  rcases List.mem_cons.1 hx with rfl | hx
  ·injection e with e;omega
  ·rw[List.mem_singleton]at hx;subst hx;exact ci g' e)
 have D:w.cell? ⟨g,0,none⟩=some (.int .i64 num):=d.out.cell 0 rfl 0
 have C:w.cell? ⟨g,1,none⟩=some (.int .i64 I):=d.out.cell 0 rfl 1
 have u:w.cell? ⟨g,2,none⟩=some (.int .i64 ba):=d.out.cell 0 rfl 2
 have z:w.cell? ⟨g,3,none⟩=some (.slice none 0 0):=d.out.cell 0 rfl 3
 have v:w.cell? ⟨g,4,none⟩=some (.slice o evs.length m):=d.out.cell 0 rfl 4
 have y:w.cell? ⟨g,5,none⟩=some (.int .i64 q):=d.out.cell 0 rfl 5
 have E:w.cell? ⟨g,6,none⟩=some (.int .i64 a):=d.out.cell 0 rfl 6
 have k:w.cell? ⟨g,7,none⟩=some (.slice F nn G):=d.out.cell 0 rfl 7
 have l:w.cell? ⟨g,8,none⟩=some (.int .i64 0):=d.out.cell 0 rfl 8
 have j:w.cell? ⟨g,9,none⟩=some (.int .i64 size):=d.out.cell 0 rfl 9
 have i:w.cell? ⟨g,10,none⟩=some (.bool false):=d.out.cell 0 rfl 10
 go_enter Tryz.func51,Tryz.ntmps51
 go_upto_region 8 with(fail)
 clear D C u z v y E k l j i
 have k4:=d.out.cell 0 rfl 4
 have k5:=d.out.cell 0 rfl 5
 have k6:=d.out.cell 0 rfl 6
 have k7:=d.out.cell 0 rfl 7
 refine wp_region_noPanic ?_
 refine wp_region_held_drew (S:=fun W'=>W'.cell? ⟨g,4,none⟩=some (.slice o evs.length m)∧W'.cell? ⟨g,5,none⟩=some (.int .i64 q)∧W'.cell? ⟨g,6,none⟩=some (.int .i64 a)∧W'.cell? ⟨g,7,none⟩=some (.slice F nn G)) (by kernel_rfl) ⟨k4,k5,k6,k7⟩ (fun f=>?_)
 clear k4 k5 k6 k7
 have M:Hid (aq w (Exs [.box g 115 (aX ⟨num,I,ba,evs,⟨q,a,ns⟩,size,false⟩ (.slice o evs.length m) F nn G),bZ (.slice o evs.length m) evs]) X w.drew [.box (g) 115 (aX ⟨num,I,ba,evs,⟨q,a,ns⟩,size,false⟩ (.slice o evs.length m) F nn G),.row 44 7 ((.slice o evs.length m)) (evs.length) (aH evs)] [Sl.fact af F nn G ns]):=d.out.drew
 clear d
 generalize w.drew=wd at f M ⊢
 refine tS 0 f ?_
 refine tS 1 f ?_
 refine tS 2 f ?_
 refine tS 3 f ?_
 refine tS 4 f ?_
 refine tS 5 f ?_
 refine tS 6 f ?_ (hy:=by(intro W bz;(try dsimp only at bz);obtain⟨q4,q5,q6,q7⟩:=bz;go_simp;try with_reducible rfl))
 refine tS 7 f ?_
 refine tS 8 f ?_
 refine tS 9 f ?_
 refine tS 10 f ?_
 refine tS 11 f ?_
 refine tS 12 f ?_ (hy:=by(intro W bz;(try dsimp only at bz);obtain⟨q4,q5,q6,q7⟩:=bz;go_simp;try with_reducible rfl))
 refine wpAnyH_ready (rs:=[13]) (by kernel_rfl) (by simp) ?_
 refine AllReadyH.cons rfl (fun K hK=>?_) AllReadyH.nil
 go_simp
 with_reducible refine(BZ none 0 0 [] (evs.length:Int) q a (.slice F nn G) _ wd M.out.xok' Sl.nil_ (by omega) (by omega) (by omega) cm ch ct co).mono ?_
 rintro e L ⟨A1,c1,rfl,ce,Y⟩
 have HL:=Lib.hid (jG (n:=(evs.length:Int)) (q:=q) (a:=a) (by omega) (by omega) (by omega))
 generalize aS (evs.length:Int) q a=pl at P ce HL ⊢
 rw[Nat.zero_add,List.nil_append]at ce
 have cr:=(⟨(iU Y f.1),(iU Y f.2.1),(iU Y f.2.2.1),(iU Y f.2.2.2)⟩:_∧_∧_∧_)
 have t:Hid (aq w (Exs [.box g 115 (aX ⟨num,I,ba,evs,⟨q,a,ns⟩,size,false⟩ (.slice o evs.length m) F nn G),bZ (.slice o evs.length m) evs]) X L [.box (g) 115 (aX ⟨num,I,ba,evs,⟨q,a,ns⟩,size,false⟩ (.slice o evs.length m) F nn G),.row 44 7 ((.slice o evs.length m)) (evs.length) (aH evs)] [Sl.fact ak A1 pl.length c1 pl,Sl.fact af F nn G ns]):=((M.out.on Y).know (Sl.fact ak A1 pl.length c1 pl) ce)
 clear M
 clear Y
 refine hK.out _ _ cr (fun f=>?_)
 clear hK K
 try simp only[Act.put,sI,sZ,sS]
 clear cr
 refine wpAnyH_ready (rs:=[14]) (by kernel_rfl) (by simp) ?_
 refine AllReadyH.cons rfl (fun K hK=>?_) AllReadyH.nil
 go_simp
 with_reducible refine(oo A A1 n c pl.length c1 B L.heap.size p pl L (HR.out.below (t.out.belowB hB cz.out)) (t.out.sl 0 rfl).bytes).mono ?_
 rintro e w' ⟨rfl,rfl⟩
 refine hK.out _ _ f (fun f=>?_)
 clear hK K
 try simp only[Act.put,sI,sZ,sS]
 generalize (p == pl)=pb at P ⊢
 refine tS 15 f ?_
 refine tS 16 f ?_
 have br:L.cell? ⟨g,0,none⟩=some (.int .i64 num):=t.out.cell 0 rfl 0
 have ad:L.frozen? ⟨g,0,none⟩=false:=t.out.frozen 0 rfl 0
 have bk:L.cell? ⟨g,1,none⟩=some (.int .i64 I):=t.out.cell 0 rfl 1
 have bx:L.frozen? ⟨g,1,none⟩=false:=t.out.frozen 0 rfl 1
 have bi:L.cell? ⟨g,2,none⟩=some (.int .i64 ba):=t.out.cell 0 rfl 2
 have bo:L.frozen? ⟨g,2,none⟩=false:=t.out.frozen 0 rfl 2
 have bb:L.cell? ⟨g,3,none⟩=some (.slice none 0 0):=t.out.cell 0 rfl 3
 have ar:L.frozen? ⟨g,3,none⟩=false:=t.out.frozen 0 rfl 3
 have al:L.cell? ⟨g,4,none⟩=some (.slice o evs.length m):=t.out.cell 0 rfl 4
 have bd:L.frozen? ⟨g,4,none⟩=false:=t.out.frozen 0 rfl 4
 have bl:L.cell? ⟨g,5,none⟩=some (.int .i64 q):=t.out.cell 0 rfl 5
 have Z:L.frozen? ⟨g,5,none⟩=false:=t.out.frozen 0 rfl 5
 have bp:L.cell? ⟨g,6,none⟩=some (.int .i64 a):=t.out.cell 0 rfl 6
 have ae:L.frozen? ⟨g,6,none⟩=false:=t.out.frozen 0 rfl 6
 have be:L.cell? ⟨g,7,none⟩=some (.slice F nn G):=t.out.cell 0 rfl 7
 have bc:L.frozen? ⟨g,7,none⟩=false:=t.out.frozen 0 rfl 7
 have ah:L.cell? ⟨g,8,none⟩=some (.int .i64 0):=t.out.cell 0 rfl 8
 have ab:L.frozen? ⟨g,8,none⟩=false:=t.out.frozen 0 rfl 8
 have bm:L.cell? ⟨g,9,none⟩=some (.int .i64 size):=t.out.cell 0 rfl 9
 have bs:L.frozen? ⟨g,9,none⟩=false:=t.out.frozen 0 rfl 9
 have U:L.cell? ⟨g,10,none⟩=some (.bool false):=t.out.cell 0 rfl 10
 have T:L.frozen? ⟨g,10,none⟩=false:=t.out.frozen 0 rfl 10
 refine wpAnyH_ready (rs:=[17]) (by kernel_rfl) (by simp) ?_
 refine AllReadyH.cons rfl (fun K hK=>?_) AllReadyH.nil
 go_simp
 refine hK.out _ _ ⟨by rw[World.cell?_setCell_other _ _ _ _ (by simp)];exact f.1,by rw[World.cell?_setCell_other _ _ _ _ (by simp)];exact f.2.1,by rw[World.cell?_setCell_other _ _ _ _ (by simp)];exact f.2.2.1,by rw[World.cell?_setCell_other _ _ _ _ (by simp)];exact f.2.2.2⟩ (fun f=>?_)
 clear hK K
 try simp only[Act.put,sI,sZ,sS]
 refine wpAnyH_done (by kernel_rfl) ?_ _
 refine NoPanic.normal ?_
 clear f
 clear br ad bk bx bi bo bb ar al bd bl Z bp ae be bc ah ab bm bs U T
 have H:Hid (aq w (Exs [.box g 115 (aX ⟨num,I,ba,evs,⟨q,a,ns⟩,size,false⟩ (.slice o evs.length m) F nn G),bZ (.slice o evs.length m) evs]) X (L.setCell ⟨g,10,none⟩ (.bool pb)) [.box (g) 115 ((aX ⟨num,I,ba,evs,⟨q,a,ns⟩,size,false⟩ (.slice o evs.length m) F nn G).setIfInBounds 10 (.bool pb)),.row 44 7 ((.slice o evs.length m)) (evs.length) (aH evs)] [Sl.fact ak A1 pl.length c1 pl,Sl.fact af F nn G ns]):=t.out.set_ 0 rfl 10 (.bool pb)
 clear t
 generalize L.setCell ⟨g,10,none⟩ (.bool pb)=w2 at H ⊢
 have ag:w2.cell? ⟨g,0,none⟩=some (.int .i64 num):=H.out.cell 0 rfl 0
 have bt:w2.cell? ⟨g,1,none⟩=some (.int .i64 I):=H.out.cell 0 rfl 1
 have ap:w2.cell? ⟨g,2,none⟩=some (.int .i64 ba):=H.out.cell 0 rfl 2
 have am:w2.cell? ⟨g,3,none⟩=some (.slice none 0 0):=H.out.cell 0 rfl 3
 have bj:w2.cell? ⟨g,4,none⟩=some (.slice o evs.length m):=H.out.cell 0 rfl 4
 have aw:w2.cell? ⟨g,5,none⟩=some (.int .i64 q):=H.out.cell 0 rfl 5
 have ao:w2.cell? ⟨g,6,none⟩=some (.int .i64 a):=H.out.cell 0 rfl 6
 have ac:w2.cell? ⟨g,7,none⟩=some (.slice F nn G):=H.out.cell 0 rfl 7
 have bv:w2.cell? ⟨g,8,none⟩=some (.int .i64 0):=H.out.cell 0 rfl 8
 have bn:w2.cell? ⟨g,9,none⟩=some (.int .i64 size):=H.out.cell 0 rfl 9
 have R:w2.cell? ⟨g,10,none⟩=some (.bool pb):=H.out.cell 0 rfl 10
 go_wp2
 clear ag bt ap am bj aw ao ac bv bn R
 cases pb
 ·go_ret
  exact⟨H.out.only,.inl ⟨P.out,rfl,H.out.blk 0 rfl,H.out.ent 1 rfl⟩⟩
 ·go_ret
  exact⟨H.out.only,.inr ⟨_,(.slice o evs.length m),F,nn,G,P.out,rfl,H.out.blk 0 rfl,H.out.ent 1 rfl,fun b Y=>.inl Y,((Sl.fact af F nn G ns).more (H.out.fact 1 rfl) (fun b _=>xR 0 1 rfl rfl (by rfl) (by rfl) b)),cp⟩⟩
end
section
open Go.RowKit
theorem vE {s s':Scn} {p:List UInt8} (h:rH s p=some s'):s'.size=s.size∧s'.evs.length=s.evs.length+1∧s'.num=s.num∧s'.sealed=s.sealed∧aN s'.c=true:=by
 unfold rH at h
 split at h
 ·rename_i b
  obtain⟨f,g,e,a,i,d⟩:=pZ b
  injection h with h
  subst h
  exact⟨rfl,by simp,rfl,rfl,by rw[d];exact ji a⟩
 ·cases h
theorem vr {s s':Scn} {p:List UInt8} (h:gO s p=some s'):s'.size=s.size∧s'.sealed=s.sealed∧aN s'.c=true:=by
 unfold gO at h
 split at h
 ·simp only at h
  split at h
  ·cases h
  ·rename_i b
   injection h with h
   subst h
   exact⟨rfl,rfl,by
    rw[←Bool.not_eq_false]
    exact fun a=>b (.inr (.inr (.inr a)))⟩
 ·cases h
theorem uG {s s':Scn} {kind:Int} {p:List UInt8} (h:cM s kind p=some s') (d:s.num≠0→aN s.c=true):s'.size=s.size∧s'.evs.length≤s.evs.length+1∧(s'.num≠0→aN s'.c=true):=by
 unfold cM at h
 split at h
 ·cases h
 split at h
 ·split at h
  ·have a:=vr h
   have b:=nK h
   exact⟨a.1,by rw[b.1];omega,fun _=>a.2.2⟩
  ·cases h
 rename_i e
 split at h
 ·have a:=vE h
  exact⟨a.1,by omega,fun _=>a.2.2.2.2⟩
 split at h
 ·split at h
  ·injection h with h
   subst h
   exact⟨rfl,by simp,d⟩
  ·cases h
 ·cases h
def aT (bs:List UInt8) (s:Scn):Scn×Int:=
 match h:dQ bs s.size with
 | .inl what=>(s,cE (what:Int) s.sealed)
 | .inr (x,p)=>match cM s (x.toNat:Int) p with
   | none=>(s,cE 0 s.sealed)
   | some s'=>aT bs { s' with size:=s.size+((p.length:Int)+7) }
termination_by ((bs.length:Int)+1-s.size).toNat
decreasing_by
 have h1:=jV _ _ _ _ h
 omega
theorem gE {bs:List UInt8} {s:Scn} {what:Nat} (h:dQ bs s.size = .inl what):aT bs s=(s,cE (what:Int) s.sealed):=by
 rw[aT]
 split
 ·rename_i w a;rw[h]at a;injection a with a;rw[a]
 ·rename_i x p a;rw[h]at a;cases a
theorem kP {bs:List UInt8} {s:Scn} {x:UInt8} {p:List UInt8} (h:dQ bs s.size = .inr (x,p)) (c:cM s (x.toNat:Int) p=none):aT bs s=(s,cE 0 s.sealed):=by
 rw[aT]
 split
 ·rename_i w a;rw[h]at a;cases a
 ·rename_i x' p' a;rw[h]at a;injection a with a;injection a with a b;subst a b;rw[c]
theorem iH {bs:List UInt8} {s s':Scn} {x:UInt8} {p:List UInt8} (h:dQ bs s.size = .inr (x,p)) (c:cM s (x.toNat:Int) p=some s'):aT bs s=aT bs { s' with size:=s.size+((p.length:Int)+7) }:=by
 rw[aT]
 split
 ·rename_i w a;rw[h]at a;cases a
 ·rename_i x' p' a;rw[h]at a;injection a with a;injection a with a b;subst a b;rw[c]
def bP:Scn:=⟨0,0,0,[],⟨0,0,[]⟩,0,false⟩
theorem ya {W:World} {g:Nat} {x0 x1 x2 x3 x4 x5 x6 x7 x8 x9:Value} (h:Blk W g 54 #[x0,x1,x2,x3,x4,x5,x6,x7,x8,x9]) (tmps:Array Value) (e:tmps[2]?.getD undef = .pointer (some ⟨g,0,none⟩)):(results Tryz.f14 tmps).run Tryz.prog W = .ok (.agg #[x0,x1,x2,x3,x4,x5,x6,x7,x8,x9]) W:=by
 have c0:W.cell? ⟨g,0,none⟩=some x0:=h.cell 0
 have a:W.cell? ⟨g,1,none⟩=some x1:=h.cell 1
 have c:W.cell? ⟨g,2,none⟩=some x2:=h.cell 2
 have k:W.cell? ⟨g,3,none⟩=some x3:=h.cell 3
 have i:W.cell? ⟨g,4,none⟩=some x4:=h.cell 4
 have b:W.cell? ⟨g,5,none⟩=some x5:=h.cell 5
 have l:W.cell? ⟨g,6,none⟩=some x6:=h.cell 6
 have f:W.cell? ⟨g,7,none⟩=some x7:=h.cell 7
 have d:W.cell? ⟨g,8,none⟩=some x8:=h.cell 8
 have j:W.cell? ⟨g,9,none⟩=some x9:=h.cell 9
 simp[results,Tryz.results14,go_sem,e,c0,a,c,k,i,b,l,f,d,j]
end
end Go.Proofs.YtpokkciheejeiaaGreatDoor
