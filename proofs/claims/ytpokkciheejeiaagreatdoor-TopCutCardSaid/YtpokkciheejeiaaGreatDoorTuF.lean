/- Lemmas and contracts that the proof of TopCut uses, part 6 of 16: each is a theorem for every input that its premises allow. -/
import Derived.Shelf.Spec.SlicesInsertGrow
import Derived.Shelf.Spec.SlicesGrow
import Derived.Lib.SlBytesConst
import Derived.Laws.IdiomStrings
import Derived.Test.YtpokkciheejeiaaGreatDoorTuE
set_option linter.unusedVariables false
set_option linter.unusedSimpArgs false
set_option maxRecDepth 100000
namespace Go.Proofs.YtpokkciheejeiaaGreatDoor
section
open Go.RowKit
def cV (l:List Value) (o:Nat) (vs:List Value):List Value:=l.take o++vs++l.drop (o+vs.length)
theorem zL (l:List Value) (o:Nat) (v:Value) (vs:List Value) (h:o<l.length):cV (l.set o v) (o+1) vs=cV l o (v::vs):=by
 unfold cV
 rw[List.length_cons,show o+1+vs.length=o+(vs.length+1) from by omega,List.drop_set_of_lt (by omega),List.take_set,List.take_succ_eq_append_getElem h,List.set_append_right _ _ (by rw[List.length_take];omega)]
 simp[Nat.min_eq_left (Nat.le_of_lt h)]
theorem Blk.sets {g:Nat} {t:TypeId}:∀ {vs:List Value} {cs:Array Value} {o:Nat} {W:World},Blk W g t cs→o+vs.length≤cs.size→Blk (W.setCells g o vs) g t (cV cs.toList o vs).toArray
 | [],cs,o,W,h,ho=>by
   have:(cV cs.toList o []).toArray=cs:=by unfold cV;simp
   rw[this]
   exact h
 | v::vs,cs,o,W,h,ho=>by
   have a:=Blk.sets (vs:=vs) (o:=o+1) (h.set_ o v) (by simp at ho ⊢;omega)
   rw[Array.toList_setIfInBounds,zL _ _ _ _ (by simp at ho ⊢;omega)]at a
   exact a
theorem cG {W0:World} {g:Nat}:∀ {vs:List Value} {o:Nat} {W:World},W0.grownBy W (some g)→W0.grownBy (W.setCells g o vs) (some g)
 | [],_,_,h=>h
 | v::vs,o,W,h=>cG (vs:=vs) (sB h (.inl rfl) v)
theorem fq {P:Program} (w:World) (dT sT ty elem:TypeId) (b o dLen dCap:Nat) (a:Addr) (sLen sCap s k:Nat) (cs:List Value)
 (p:P.underlying dT=some (.slice elem)) (d:(P.info? elem).map (·.size)=some s) (g:Nat.min sLen dLen=k) (n:cs.length=k*s)
 (hsrc:At w a cs) (h:∀ j,j<cs.length→(w.cell? ⟨b,o+j,none⟩).isSome=true) (l:∀ j,j<cs.length→w.frozen? ⟨b,o+j,none⟩=false) (m:∀ v ∈ cs,v.oneCell'=true):
 (Builtin.copy_ #[dT,sT] ty #[.slice (some ⟨b,o,none⟩) dLen dCap,.slice (some a) sLen sCap]).run P w = .ok (goInt k) (w.setCells b o cs):=by
 have e:=run_loadCells_list (P:=P) w a cs hsrc
 have c:=run_storeCells_cells (P:=P) b o cs 0 w (by simpa using h) (by simpa using l) m
 cases hq:P.info? elem with
 | none=>simp[hq]at d
 | some i=>
   have f:i.size=s:=by simpa [hq] using d
   rw[n]at e
   simp[Builtin.copy_,run_underlying p,Builtin.lenOf,Builtin.firstCells,sizeOf,typeInfo,hq,f,g,e,c]
theorem Cj {cur ns:List Value} {a s m k:Nat} (c:ns.length=s) (g:a≤m) (h:m+s≤cur.length):
 (cV (cV cur (a+s) ((cur.take m).drop a)) a ns).take (m+s)=(cur.take m).take a++ns++(cur.take m).drop a:=by
 unfold cV
 have f:(cur.take (a+s)).length=a+s:=by rw[List.length_take];omega
 have b:((cur.take m).drop a).length=m-a:=by rw[List.length_drop,List.length_take];omega
 generalize hY:(cur.take m).drop a=Y at b ⊢
 generalize cur.drop (a+s+Y.length)=Z
 have e:(cur.take (a+s)++Y++Z).take a=cur.take a:=by rw[List.append_assoc,List.take_append_of_le_length (by omega),List.take_take,Nat.min_eq_left (by omega)]
 have d:(cur.take (a+s)++Y++Z).drop (a+s)=Y++Z:=by rw[List.append_assoc];exact List.drop_left' f
 rw[c,e,d,←List.append_assoc,List.take_left' (by simp only[List.length_append,List.length_take,c,b];omega),List.take_take,Nat.min_eq_left g]
theorem xY {R ns Y:List Value} {a s m:Nat} (e:ns.length=s) (c:m=a+s+Y.length) (hR:a+s≤R.length):(cV (cV R a ns) (a+s) Y).take m=R.take a++ns++Y:=by
 unfold cV
 have b:(R.take a++ns).length=a+s:=by rw[List.length_append,List.length_take,e];omega
 have d:(R.take a++ns++R.drop (a+ns.length)).take (a+s)=R.take a++ns:=List.take_left' b
 rw[d]
 exact List.take_left' (by rw[List.length_append,b,c])
theorem aK {W:World} {base:Nat} {e:TypeId} {size n:Nat} {v:Value} {xs:List Value} (h:W.ownsRow base e size v n xs):∃ A c,v = .slice A n c∧n≤c:=by
 rcases h.2 with⟨rfl,rfl⟩ | ⟨g,cap,cur,rfl,b,d,a,f⟩
 ·exact⟨none,0,rfl,Nat.le_refl _⟩
 ·exact⟨_,cap,rfl,a⟩
end
section
open Go.RowKit
section
variable {w0 W W' w1:World} {M X:List Nat} {L L':List Itm} {F:List Fact} {P:Program}
theorem HH.nrow {e:TypeId} {size n:Nat} {v:Value} {xs:List Value} (K:HH w0 M X W L F) (a:Below W.heap.size W W') (b:W'.ownsRow W.heap.size e size v n xs):HH w0 M X W' (.row e size v n xs::L) F:=K.out.new_row a b
theorem HH.kra {α:Type} {s:Sh α} {vs:List Value} {xs:List α} (K:HH w0 M X W L F) (h:aC s W (Exs L++X) vs xs):HH w0 M X W L (Ra.fact s vs xs::F):=K.out.know (Ra.fact s vs xs) h
theorem HH.ra {α:Type} {s:Sh α} {vs:List Value} {xs:List α} (K:HH w0 M X W L F) (i:Nat) (a:F[i]?=some (Ra.fact s vs xs)):aC s W (Exs L++X) vs xs:=K.out.ra i a
theorem HH.row {e:TypeId} {size n:Nat} {v:Value} {xs:List Value} (K:HH w0 M X W L F) (i:Nat) (a:L[i]?=some (.row e size v n xs)):W.ownsRow 0 e size v n xs:=K.out.row i a
theorem HH.app {e:TypeId} {size n n' base:Nat} {v v':Value} {xs xs':List Value} (K:HH w0 M X W L F) (i:Nat) (c:L[i]?=some (.row e size v n xs)) (d:W'.ownsRow base e size v' n' xs') (b:W.grownBy W' v.ownBlock) (a:v'.ownBlock=v.ownBlock∨v'.ownBlock=some W.heap.size)
 (hL:L.set i (.row e size v' n' xs')=L':=by(first | (simp only[ai,aj];done) | (simp only[ai,aj];exact rfl))):HH w0 M X W' L' F:=hL ▸ K.out.appended i c d b a
theorem HH.don {α:Type} {s:Sh α} {e:TypeId} {n:Nat} {v:Value} {vs:List Value} {xs:List α} (K:HH w0 [] X W (.row e s.size v n vs::L) F) (a:aC s W (Exs (.row e s.size v n vs::L)++X) vs xs) (b:0<s.size):
 ∃ A c,v = .slice A n c∧HH w0 [] X W L (Sl.fact s A n c xs::F):=K.out.done_row 0 rfl a b (by simp)
theorem HH.apart {i j:Nat} {x y:Itm} (K:HH w0 M X W L F) (a:i≠j) (c:L[i]?=some x) (b:L[j]?=some y):∀ g,x.blk=some g→y.blk≠some g:=K.out.apart_ a c b
theorem aq.row_sets (h:aq w0 M X W L F) (i:Nat) {e:TypeId} {size n g cap:Nat} {xs:List Value} (m:L[i]?=some (.row e size (.slice (some ⟨g,0,none⟩) n cap) n xs)) (o:Nat) (vs:List Value) (C:o+vs.length≤xs.length):
 aq w0 M X (W.setCells g o vs) (L.set i (.row e size (.slice (some ⟨g,0,none⟩) n cap) n (cV xs o vs))) F:=by
 obtain⟨p,A | ⟨g',cap',cur,B,w,q,u,z,D,k⟩⟩:=h.row i m
 ·cases A.1
 ·injection B with c y d
  injection c with c
  injection c with c
  subst c
  subst d
  have j:=Blk.lt (t:=e) q
  have r:xs.length≤cur.size:=by rw[←k,List.length_take,Array.length_toList];omega
  have a:=cG (W0:=W) (vs:=vs) (o:=o) (W:=W) (g:=g) (bR (Below.refl _ _) _)
  have hB:=Blk.sets (t:=e) (vs:=vs) (o:=o) q (by omega)
  have f:(cV xs o vs).length=xs.length:=by simp only[cV,List.length_append,List.length_take,List.length_drop];omega
  refine h.turn i m a.size ⟨a.os,a.tape,a.output⟩ (fun b s l=>a.block b s (fun e'=>l e'.symm)) ⟨by rw[f];exact p,.inr ⟨g,cap,_,rfl,w,hB,u,z,?_,?_⟩⟩ (fun g' e'=>⟨.inl e',by injection e' with e';subst e';exact Nat.lt_of_lt_of_le j a.size⟩)
  ·simp only[cV,List.size_toArray,List.length_append,List.length_take,List.length_drop,Array.length_toList];omega
  ·have x:n*size=xs.length:=p.symm
   rw[x]at k ⊢
   simp only[cV]
   have v:(cur.toList.take o++vs).length=o+vs.length:=by rw[List.length_append,List.length_take,Array.length_toList];omega
   conv=>rhs;rw[←k]
   rw[List.take_take,Nat.min_eq_left (by omega),List.take_append,v,List.take_of_length_le (by omega),List.drop_take]
theorem HH.rs {ops:Array Oper} {rest:List Oper} {o:Oper} {a:Act} {Q:Exit→Act→World→Prop} {e ty:TypeId} {size n g cap k:Nat} {xs:List Value} {cells:Array Value} {x y:Operand} (K:HH w0 M X W L F) (i:Nat) (f:L[i]?=some (.row e size (.slice (some ⟨g,0,none⟩) n cap) n xs)) (p:k+cells.size≤xs.length)
 (kk:∀ U,HH w0 M X U L' F→wpList P ops Q rest a U) (d:o.guard=none:=by rfl) (ho:o.op = .store ty x y:=by rfl) (hd:o.dst=none:=by rfl)
 (hx:a.eval x = .pointer (some ⟨g,k,none⟩):=by rfl) (hy:a.eval y = .agg cells:=by rfl) (hT:((P.info? ty).map (·.size) == some cells.size)=true:=by kernel_rfl) (h1:cells.toList.all (·.oneCell')=true:=by rfl)
 (hL:L.set i (.row e size (.slice (some ⟨g,0,none⟩) n cap) n (cV xs k cells.toList))=L':=by(first | (simp only[ai,aj];done) | (simp only[ai,aj];exact rfl))):
 wpList P ops Q (o::rest) a W:=by
 have hown:=K.row i f
 have c:=K.out.row_sets i f k cells.toList (by simpa using p)
 obtain⟨q,s | ⟨g',cap',cur,u,z,h,w,A,C,v⟩⟩:=hown
 ·cases s.1
 ·injection u with b r l
  injection b with b
  injection b with b
  subst b
  have m:xs.length≤cur.size:=by rw[←v,List.length_take,Array.length_toList];omega
  refine wpList_store_mid d ty x y ho g k cells hx hy (fun j B=>⟨?_,Blk.frozen (t:=e) h _⟩) (beq_iff_eq.1 hT) (by rw[←Array.all_toList];exact h1) ?_
  ·rw[Blk.cell (t:=e) h,Array.getElem?_eq_getElem (by omega)];rfl
  ·rw[hd]
   exact kk _ (hL ▸ c)
end
end
section
open Go.RowKit
section
variable {w0 W W' w1:World} {M X X':List Nat} {L L':List Itm} {F:List Fact} {P:Program}
theorem rowAt {α:Type} {s:Sh α} {e:TypeId} {n g cap:Nat} {vs:List Value} {xs:List α} (h:aC s W X vs xs) {j:Nat} {x:α} (q:xs[j]?=some x):
 ∃ r,s.rep W X r x ∧ ∀ U:World,U.ownsRow 0 e s.size (.slice (some ⟨g,0,none⟩) n cap) n vs→At U ⟨g,j*s.size,none⟩ r:=by
 obtain⟨r,f,o⟩:=h.get q
 refine⟨r,f,fun U d k u v=>?_⟩
 obtain⟨y,⟨i,_⟩ | ⟨g',cap',cur,p,w,m,A,z,h9,b⟩⟩:=d
 ·cases i
 ·injection p with a l c
  injection a with a
  injection a with a
  subst a
  rw[add_plain,Blk.cell (t:=e) m]
  have:=o k u v
  rw[←b,List.getElem?_take]at this
  split at this
  ·simpa using this
  ·cases this
theorem aC.put {α:Type} {s:Sh α} {vs new:List Value} {xs:List α} (a:aC s W X vs xs) {i:Nat} {x c:α} (e:xs[i]?=some x) (b:s.rep W X new c):aC s W X (cV vs (i*s.size) new) (xs.set i c):=by
 obtain⟨f,-⟩:=List.getElem?_eq_some_iff.1 e
 have h:=((a.take i).append (.single b)).append (a.drop (i+1))
 have d:xs.take i ++ [c]++xs.drop (i+1)=xs.set i c:=by
  rw[List.set_eq_take_append_cons_drop,if_pos f]
  simp
 rw[d]at h
 unfold cV
 rw[s.len b,←Nat.succ_mul]
 exact h
end
theorem Et {α β γ δ ε:Type} {G:α→β→γ→δ→ε→Prop} {T:Prop} (a:Hid (∀ x y z u v,G x y z u v)→T) (key:∀ x y z u v,G x y z u v):T:=a key
theorem tC2 {P:Program} {ops:Array Oper} {Q:Exit→Act→World→Prop} {md:Region.Mode} {S:World→Prop} (i j:Nat) {o o2:Oper} {fuel:Nat} {listed:Array Bool} {a:Act} {w:World}
 (h:∀ K':Act→World→Prop,Shut (∀ a w,S w→(S w→wpAnyH P md ops Q S fuel (listed.setIfInBounds i true) a w)→K' a w)→if Region.wanted o (yielded ops a.tmps)=true then Oper.wp P o a w K' Q else K' (a.put o.dst undef) w)
 (b:∀ K':Act→World→Prop,Shut (∀ a w,S w→(S w→wpAnyH P md ops Q S fuel (listed.setIfInBounds j true) a w)→K' a w)→if Region.wanted o2 (yielded ops a.tmps)=true then Oper.wp P o2 a w K' Q else K' (a.put o2.dst undef) w)
 (c:Region.ready md ops listed = [i,j]:=by kernel_rfl) (ho:ops[i]?=some o:=by exact rfl) (ho2:ops[j]?=some o2:=by exact rfl):wpAnyH P md ops Q S (fuel+1) listed a w:=wpAnyH_ready c (by simp) (AllReadyH.cons ho h (AllReadyH.cons ho2 b AllReadyH.nil))
theorem tSt {P:Program} {ops:Array Oper} {Q:Exit→Act→World→Prop} {md:Region.Mode} {S:World→Prop} {c w:World} {M X:List Nat} {L L':List Itm} {F:List Fact} {o:Oper} {fuel:Nat} {listed:Array Bool} {a:Act} {g:Nat} {t ty:TypeId} {old cells:Array Value} {x y:Operand}
 (i:Nat) (K:HH c M X w L F) (b:Nat) (d:L[b]?=some (.box g t old)) (hS:∀ U,HH c M X U L' F→S U) (k:∀ U,HH c M X U L' F→wpAnyH P md ops Q S fuel (listed.setIfInBounds i true) a U)
 (f:Region.ready md ops listed = [i]:=by kernel_rfl) (ho:ops[i]?=some o:=by exact rfl) (hw:Region.wanted o (yielded ops a.tmps)=true:=by rfl) (hop:o.op = .store ty x y:=by rfl) (hd:o.dst=none:=by rfl)
 (hx:a.eval x = .pointer (some ⟨g,0,none⟩):=by rfl) (hy:a.eval y = .agg cells:=by rfl) (hT:((P.info? ty).map (·.size) == some cells.size)=true:=by kernel_rfl) (hz:old.size=cells.size:=by rfl) (h1:cells.toList.all (·.oneCell')=true:=by rfl)
 (hL:L.set b (.box g t cells)=L':=by(first | (simp only[ai,aj];done) | (simp only[ai,aj];exact rfl))):wpAnyH P md ops Q S (fuel+1) listed a w:=
 tC (o:=o) i (fun K' hK=>by
  rw[if_pos hw]
  refine wp_store_row ty x y hop g cells hx hy t old (K.out.blk b d) (beq_iff_eq.1 hT) hz (by rw[←Array.all_toList];exact h1) ?_
  have e:HH c M X (w.setRow g cells) L' F:=hL ▸ K.out.setRow b d cells
  rw[hd]
  exact hK.out _ _ (hS _ e) fun _=>k _ e) f ho
end
section
structure Fil where
 nm:ByteArray
 su:List UInt8
 lo:List UInt8
def Fil.all (f:Fil):List UInt8:=f.su++f.lo
abbrev kR (f:Fil) (A:Option Addr) (n c:Nat) (B:Option Addr) (m d:Nat):List Value:=[.string f.nm,.slice A n c,.slice B m d]
def ax:Sh Fil where
 size:=3
 rep w X vs f := ∃ A n c B m d,vs=kR f A n c B m d∧Sl ak w X A n c f.su∧Sl ak w X B m d f.lo∧f.nm.size≤maxLen
 len:=by rintro w X vs a ⟨A,n,c,B,m,d,rfl,_⟩;rfl
 one:=by
  rintro w X vs a ⟨A,n,c,B,m,d,rfl,_⟩ u hu
  simp only[kR,List.mem_cons,List.not_mem_nil,or_false]at hu
  rcases hu with rfl | rfl | rfl<;>rfl
 keep:=by rintro w w' X vs a ⟨A,n,c,B,m,d,rfl,h,h2,r⟩ k;exact⟨A,n,c,B,m,d,rfl,h.keep k,h2.keep k,r⟩
 more:=by rintro w X X' vs a ⟨A,n,c,B,m,d,rfl,h,h2,r⟩ k;exact⟨A,n,c,B,m,d,rfl,h.more k,h2.more k,r⟩
def aA (fs:List Fil):Nat:=(fs.map (fun f=>f.all.length)).sum
theorem Bz {fs:List Fil} {i:Nat} {f:Fil} (h:fs[i]?=some f):aA (fs.take (i+1))=aA (fs.take i)+f.all.length:=by
 obtain⟨a,rfl⟩:=List.getElem?_eq_some_iff.1 h
 unfold aA
 rw[List.take_succ_eq_append_getElem a,List.map_append,List.sum_append]
 simp
theorem jY {fs:List Fil} {f:Fil} (h:f ∈ fs):f.all.length≤aA fs:=by
 unfold aA
 induction fs with
 | nil=>cases h
 | cons g l ih=>
   simp only[List.map_cons,List.sum_cons]
   rcases List.mem_cons.1 h with rfl | h
   ·omega
   ·have:=ih h;omega
theorem wO (fs:List Fil) (i:Nat):aA (fs.take i)≤aA fs:=by
 unfold aA
 conv=>rhs;rw[←List.take_append_drop i fs]
 rw[List.map_append,List.sum_append]
 omega
def qw (b:UInt8):Bool:=decide (97≤b.toNat∧b.toNat≤122∨48≤b.toNat∧b.toNat≤57∨b.toNat=46)
def fnB (s:ByteArray):Bool:=decide (1≤s.size∧s.size≤16)&&s.toList.all qw
structure Dk where
 fs:List Fil
 room:Int
def cj (d:Dk):Prop:=d.fs.length≤64∧0≤d.room∧d.room≤65536∧(∀ f ∈ d.fs,fnB f.nm=true)∧Srt Fil.nm d.fs∧(aA d.fs:Int)≤d.room
end
section
open Go.RowKit
theorem sV (s:ByteArray) (A:Option Addr) (n c:Nat) (B:Option Addr) (m d:Nat) (b:n+m≤100000) (w:World):
 Calls Tryz.prog 68 #[.agg #[.string s,.slice A n c,.slice B m d]] w fun e w'=>e = .returned (.int .i64 ((n:Int)+m))∧Below w.heap.size w w':=by
 have a:=IntWalk.i64_in ((n:Int)+m) (by omega)
 go_enter Tryz.func68,Tryz.ntmps68
 go_wp2
 go_ret
 exact⟨rfl,(Below.refl _ _).alloc (Nat.le_refl _) _⟩
set_option maxHeartbeats 1000000 in
theorem fY (fs:List Fil) (A:Option Addr) (n h:Nat) (room:Int) (X:List Nat) (w:World) (hX:XOk X w) (c:Sl ax w X A n h fs) (P:n≤64) (Q:aA fs≤65536):
 Calls Tryz.prog 46 #[.agg #[.slice A n h,.int .i64 room,.int .i64 (-1),.bool false]] w fun e w'=>e = .returned (.int .i64 (aA fs:Int))∧Below w.heap.size w w':=by
 have p:=Lib.hid c.len
 go_enter Tryz.func46,Tryz.ntmps46
 go_upto_region 1 with(fail)
 refine(hstart hX).cw fun W K=>?_
 have K:=K.ksl0 c
 clear c
 have c0:=K.r 0 rfl
 go_wp2
 clear c0
 go_loopw [9,3] (fun i u wr => ∃ (k:Nat),k≤n∧i = .int .i64 k∧u = .int .i64 (aA (fs.take k):Int)∧HH w [] X wr [] [Sl.fact ax A n h fs]) (fun i _ _=>n-(intOf i).toNat)
 case atStart=>exact⟨0,Nat.zero_le _,rfl,rfl,K.tl⟩
 case round=>
  obtain⟨k,L,rfl,rfl,K⟩:=hrel
  by_cases H:k<n
  ·obtain⟨x,l⟩:∃ x,fs[k]?=some x:=⟨_,List.getElem?_eq_getElem (by have:=p.out;omega)⟩
   obtain⟨ad,r,rfl,f,d,⟨F,m,z,I,g,B,rfl,v,y,C⟩,j⟩:=(K.sl 0 rfl).at' l
   have q:=Lib.hid (Bz l)
   have b:=Lib.hid (wO fs (k+1))
   have s:=Lib.hid v.len
   have a:=Lib.hid y.len
   have t:Hid (x.all.length=x.su.length+x.lo.length):=Lib.hid (by unfold Fil.all;rw[List.length_append])
   have G:m+g≤100000:=by have:=s.out;have:=a.out;have:=t.out;have:=q.out;have:=b.out;omega
   have N:(aA (fs.take k):Int)+((m:Int)+(g:Int))=(aA (fs.take (k+1)):Int):=by have:=s.out;have:=a.out;have:=t.out;have:=q.out;omega
   have E:wrap64 (aA (fs.take (k+1)):Int)=(aA (fs.take (k+1)):Int):=by unfold wrap64;have:=b.out;omega
   have O:(0:Int)≤(k:Int):=by omega
   have M:(k:Int)<(n:Int):=by omega
   clear l f d v y C
   go_upto_region 5 with(first | (refine bF j ?_) | (refine K.lw fun W K=>?_;refine K.sr 0 rfl fun W K=>?_))
   go_wp2_with (first | refine K.ld 0 rfl ?_ | (go_at_call 68;refine K.cl fun W K=>?_;refine(sV x.nm F m z I g B G W).mono ?_;rintro e J ⟨rfl,o⟩;have K:=K.on o;clear o))
   all_goals go_roundw
   case rel=>exact⟨k+1,by omega,by go_num,by rw[E],K.tl⟩
   case measure=>simp[intOf];omega
  ·obtain rfl:k=n:=by omega
   have D:fs.take k=fs:=List.take_of_length_le (by have:=p.out;omega)
   rw[D]at *
   go_wp2
   go_ret
   exact⟨rfl,K.below⟩
end
section
open Go.RowKit
theorem uL {b:UInt8} (h:qw b=true):(97≤b.toNat∧b.toNat≤122)∨(48≤b.toNat∧b.toNat≤57)∨b.toNat=46:=by
 unfold qw at h
 exact of_decide_eq_true h
set_option maxHeartbeats 1000000 in
theorem ye (s:ByteArray) (X:List Nat) (w:World) (hX:XOk X w) (c:fnB s=true):
 Calls Tryz.prog 74 #[.string s] w fun e w'=>e = .returned (.bool true)∧Below w.heap.size w w':=by
 unfold fnB at c
 rw[Bool.and_eq_true,decide_eq_true_eq]at c
 obtain⟨⟨r,x⟩,d⟩:=c
 have m:Hid (∀ (k:Nat) (hk:k<s.size),qw (s[k]'hk)=true):=Lib.hid (fun k hk=>by
  rw[List.all_eq_true]at d
  refine d _ ?_
  rw[ByteArray.toList_eq,ByteArray.getElem_eq_getElem_data]
  simp)
 clear d
 have u:(1:Int)≤(s.size:Int):=by omega
 have p:(s.size:Int)≤16:=by omega
 go_enter Tryz.func74,Tryz.ntmps74
 go_wp2
 go_loopw [16] (fun i wr => ∃ (k:Nat),k≤s.size∧i = .int .i64 k∧HH w [] X wr [] []) (fun i _=>s.size-(intOf i).toNat)
 case atStart=>exact⟨0,Nat.zero_le _,rfl,hstart hX⟩
 case round=>
  obtain⟨k,hk,rfl,K⟩:=hrel
  by_cases hlt:k<s.size
  ·have f:=uL (m.out k hlt)
   have v:(0:Int)≤(k:Int):=by omega
   have o:(k:Int)<(s.size:Int):=by omega
   generalize n:s[k]'hlt=b at f
   go_upto_region 6 with(fail)
   rcases f with⟨a,l⟩ | ⟨a,l⟩ | a
   ·have h:(97:Int)≤(b.toNat:Int):=by omega
    have q:(b.toNat:Int)≤122:=by omega
    have g:(48:Int)≤(b.toNat:Int):=by omega
    have j:¬ (b.toNat:Int)≤57:=by omega
    refine K.rg fun W K=>?_
    first | refine tK 0 K ?_ | refine tN 0 K ?_
    first | refine tK 1 K ?_ | refine tN 1 K ?_
    first | refine tK 2 K ?_ | refine tN 2 K ?_
    first | refine tK 3 K ?_ | refine tN 3 K ?_
    first | refine tK 4 K ?_ | refine tN 4 K ?_
    first | refine tK 5 K ?_ | refine tN 5 K ?_
    first | refine tK 6 K ?_ | refine tN 6 K ?_
    first | refine tK 7 K ?_ | refine tN 7 K ?_
    first | refine tK 8 K ?_ | refine tN 8 K ?_
    first | refine tK 9 K ?_ | refine tN 9 K ?_
    first | refine tK 10 K ?_ | refine tN 10 K ?_
    first | refine tK 11 K ?_ | refine tN 11 K ?_
    first | refine tK 12 K ?_ | refine tN 12 K ?_
    first | refine tK 13 K ?_ | refine tN 13 K ?_
    first | refine tK 14 K ?_ | refine tN 14 K ?_
    first | refine tK 15 K ?_ | refine tN 15 K ?_
    first | refine tK 16 K ?_ | refine tN 16 K ?_
    first | refine tK 17 K ?_ | refine tN 17 K ?_
    first | refine tK 18 K ?_ | refine tN 18 K ?_
    first | refine tK 19 K ?_ | refine tN 19 K ?_
    first | refine tK 20 K ?_ | refine tN 20 K ?_
    first | refine tK 21 K ?_ | refine tN 21 K ?_
    refine tE ?_
    go_wp2
    go_roundw
    case rel=>exact⟨k+1,by omega,by go_num,K⟩
    case measure=>simp[intOf];omega
   ·have h:¬ (97:Int)≤(b.toNat:Int):=by omega
    have g:(48:Int)≤(b.toNat:Int):=by omega
    have j:(b.toNat:Int)≤57:=by omega
    refine K.rg fun W K=>?_
    first | refine tK 0 K ?_ | refine tN 0 K ?_
    first | refine tK 1 K ?_ | refine tN 1 K ?_
    first | refine tK 2 K ?_ | refine tN 2 K ?_
    first | refine tK 3 K ?_ | refine tN 3 K ?_
    first | refine tK 4 K ?_ | refine tN 4 K ?_
    first | refine tK 5 K ?_ | refine tN 5 K ?_
    first | refine tK 6 K ?_ | refine tN 6 K ?_
    first | refine tK 7 K ?_ | refine tN 7 K ?_
    first | refine tK 8 K ?_ | refine tN 8 K ?_
    first | refine tK 9 K ?_ | refine tN 9 K ?_
    first | refine tK 10 K ?_ | refine tN 10 K ?_
    first | refine tK 11 K ?_ | refine tN 11 K ?_
    first | refine tK 12 K ?_ | refine tN 12 K ?_
    first | refine tK 13 K ?_ | refine tN 13 K ?_
    first | refine tK 14 K ?_ | refine tN 14 K ?_
    first | refine tK 15 K ?_ | refine tN 15 K ?_
    first | refine tK 16 K ?_ | refine tN 16 K ?_
    first | refine tK 17 K ?_ | refine tN 17 K ?_
    first | refine tK 18 K ?_ | refine tN 18 K ?_
    first | refine tK 19 K ?_ | refine tN 19 K ?_
    first | refine tK 20 K ?_ | refine tN 20 K ?_
    first | refine tK 21 K ?_ | refine tN 21 K ?_
    refine tE ?_
    go_wp2
    go_roundw
    case rel=>exact⟨k+1,by omega,by go_num,K⟩
    case measure=>simp[intOf];omega
   ·have h:¬ (97:Int)≤(b.toNat:Int):=by omega
    have g:¬ (48:Int)≤(b.toNat:Int):=by omega
    have t:((b.toNat:Int) != 46)=false:=by rw[a];rfl
    refine K.rg fun W K=>?_
    first | refine tK 0 K ?_ | refine tN 0 K ?_
    first | refine tK 1 K ?_ | refine tN 1 K ?_
    first | refine tK 2 K ?_ | refine tN 2 K ?_
    first | refine tK 3 K ?_ | refine tN 3 K ?_
    first | refine tK 4 K ?_ | refine tN 4 K ?_
    first | refine tK 5 K ?_ | refine tN 5 K ?_
    first | refine tK 6 K ?_ | refine tN 6 K ?_
    first | refine tK 7 K ?_ | refine tN 7 K ?_
    first | refine tK 8 K ?_ | refine tN 8 K ?_
    first | refine tK 9 K ?_ | refine tN 9 K ?_
    first | refine tK 10 K ?_ | refine tN 10 K ?_
    first | refine tK 11 K ?_ | refine tN 11 K ?_
    first | refine tK 12 K ?_ | refine tN 12 K ?_
    first | refine tK 13 K ?_ | refine tN 13 K ?_
    first | refine tK 14 K ?_ | refine tN 14 K ?_
    first | refine tK 15 K ?_ | refine tN 15 K ?_
    first | refine tK 16 K ?_ | refine tN 16 K ?_
    first | refine tK 17 K ?_ | refine tN 17 K ?_
    first | refine tK 18 K ?_ | refine tN 18 K ?_
    first | refine tK 19 K ?_ | refine tN 19 K ?_
    first | refine tK 20 K ?_ | refine tN 20 K ?_
    first | refine tK 21 K ?_ | refine tN 21 K ?_
    refine tE ?_
    go_wp2
    go_roundw
    case rel=>exact⟨k+1,by omega,by go_num,K⟩
    case measure=>simp[intOf];omega
  ·obtain rfl:k=s.size:=by omega
   go_wp2
   go_ret
   exact⟨rfl,K.below⟩
end
section
open Go.RowKit
def findD (fs:List Fil) (nm:ByteArray):Int:=if fI Fil.nm fs nm<fs.length then(fI Fil.nm fs nm:Int) else -1
theorem uu (c:Fil) (A:Option Addr) (n f:Nat) (B:Option Addr) (m d g:Nat) (nm:ByteArray) (w:World) (j:w.cell? ⟨g,0,none⟩=some (.string nm)) (a:g<w.heap.size):
 Calls Tryz.prog 106 #[.agg (kR c A n f B m d).toArray,.pointer (some ⟨g,0,none⟩)] w fun e w'=>e = .returned (.bool (decide (c.nm=nm)))∧Below w.heap.size w w':=by
 have i:(c.nm.toList == nm.toList)=decide (c.nm=nm):=by
  rw[Bool.eq_iff_iff,beq_iff_eq,decide_eq_true_eq]
  exact⟨pF,fun h=>by rw[h]⟩
 have b:¬ g=w.heap.size:=by omega
 simp only[kR]
 go_enter Tryz.func106,Tryz.ntmps106
 go_wp2
 go_ret
 exact⟨rfl,(Below.refl _ _).alloc (Nat.le_refl _) _⟩
theorem BL (fs:List Fil) (nm:ByteArray) (A:Option Addr) (n C g:Nat) (X:List Nat) (w:World) (hX:XOk X w) (q:Sl ax w X A n C fs) (U:n≤64) (F:w.cell? ⟨g,0,none⟩=some (.string nm)) (c:g<w.heap.size):
 Calls Tryz.prog 105 #[.slice A n C,.func (.func 106) #[] #[.pointer (some ⟨g,0,none⟩)]] w fun e w'=>e = .returned (.int .i64 (findD fs nm))∧Below w.heap.size w w':=by
 have P:=Lib.hid q
 have u:=Lib.hid q.len
 have G:=Lib.hid F
 clear q F
 go_enter Tryz.func105,Tryz.ntmps105
 go_wp2
 go_loopw [8,5] (fun i _ wr => ∃ (k:Nat),k≤n∧i = .int .i64 k∧HH w [] X wr [] [Sl.fact ax A n C fs]∧Hid (∀ (j:Nat) d,j<k→fs[j]?=some d→d.nm≠nm)) (fun i _ _=>n-(intOf i).toNat)
 case atStart=>exact⟨0,Nat.zero_le _,rfl,(hstart hX).ksl0 P.out,Lib.hid (fun j d p=>absurd p (Nat.not_lt_zero _))⟩
 case round=>
  obtain⟨k,R,rfl,K,t⟩:=hrel
  by_cases I:k<n
  ·obtain⟨x,E⟩:∃ x,fs[k]?=some x:=⟨_,List.getElem?_eq_getElem (by have:=u.out;omega)⟩
   obtain⟨ad,r,rfl,B,v,⟨H,L,l,M,J,m,rfl,s,o,Q⟩,b⟩:=(K.sl 0 rfl).at' E
   have N:=Lib.hid E
   have T:(0:Int)≤(k:Int):=by omega
   have S:(k:Int)<(n:Int):=by omega
   clear E B v s o
   by_cases f:x.nm=nm
   ·have a:decide (x.nm=nm)=true:=decide_eq_true f
    have y:=Lib.hid f
    clear f
    go_wp2_with (first | (refine bF b ?_) | (go_at_call 106;refine(uu x H L l M J m g nm _ ((K.below.cell c).trans G.out) (Nat.lt_of_lt_of_le c K.out.size)).mono ?_;rw[a];rintro e O ⟨rfl,h⟩;have K:=K.on h;clear h b))
    go_ret
    refine⟨lW ?_,K.below⟩
    have z:fI Fil.nm fs nm=k:=oe N.out y.out t.out
    unfold findD
    rw[z,if_pos (by have:=u.out;omega)]
   ·have a:decide (x.nm=nm)=false:=decide_eq_false f
    have y:=Lib.hid f
    clear f
    go_wp2_with (first | (refine bF b ?_) | (go_at_call 106;refine(uu x H L l M J m g nm _ ((K.below.cell c).trans G.out) (Nat.lt_of_lt_of_le c K.out.size)).mono ?_;rw[a];rintro e O ⟨rfl,h⟩;have K:=K.on h;clear h b))
    go_roundw
    case rel=>
     refine⟨k+1,by omega,by go_num,K,Lib.hid (fun j d p a=>?_)⟩
     by_cases D:j<k
     ·exact t.out j d D a
     ·obtain rfl:j=k:=by omega
      rw[N.out]at a
      injection a with a
      subst a
      exact y.out
    case measure=>simp[intOf];omega
  ·obtain rfl:k=n:=by omega
   go_wp2
   go_ret
   refine⟨lW ?_,K.below⟩
   have z:fI Fil.nm fs nm=fs.length:=lY (fun d a=>by
    obtain⟨j,p,rfl⟩:=List.mem_iff_getElem.1 a
    exact t.out j _ (by have:=u.out;omega) (List.getElem?_eq_getElem p))
   unfold findD
   rw[z,if_neg (by omega)]
theorem fy (fs:List Fil) (room:Int) (nm:ByteArray) (A:Option Addr) (n a:Nat) (X:List Nat) (w:World) (hX:XOk X w) (b:Sl ax w X A n a fs) (d:n≤64):
 Calls Tryz.prog 48 #[.agg #[.slice A n a,.int .i64 room,.int .i64 (-1),.bool false],.string nm] w fun e w'=>e = .returned (.int .i64 (findD fs nm))∧Below w.heap.size w w':=by
 go_enter Tryz.func48,Tryz.ntmps48
 go_wp2_with fail
 refine(hstart hX).cl fun W K=>?_
 have K:=K.ksl0 b
 clear b
 refine(BL fs nm A n a _ _ W K.xok (K.sl 0 rfl) d (K.r 0 rfl 0) (K.out.lt 0 rfl)).mono ?_
 rintro e f ⟨rfl,c⟩
 have K:=K.on c
 go_wp2
 go_ret
 exact⟨rfl,K.below⟩
theorem nj (c:Fil) (A:Option Addr) (n a:Nat) (B:Option Addr) (m d:Nat) (nm:ByteArray) (w:World):
 Calls Tryz.prog 250 #[.agg (kR c A n a B m d).toArray,.string nm] w fun e w'=>e = .returned (.int .i64 (kS c.nm nm))∧Below w.heap.size w w':=by
 simp only[kR]
 go_enter Tryz.func250,Tryz.ntmps250
 go_wp2_with (go_at_call 97;refine(qS _ _ _).mono ?_;rintro e w' ⟨rfl,rfl⟩)
 go_ret
 exact⟨rfl,(Below.refl _ _).alloc (Nat.le_refl _) _⟩
set_option maxHeartbeats 1000000 in
theorem Gq (fs:List Fil) (nm:ByteArray) (A:Option Addr) (n I:Nat) (X:List Nat) (w:World) (hX:XOk X w) (F:Sl ax w X A n I fs) (p:Srt Fil.nm fs) (S:n≤64):
 Calls Tryz.prog 249 #[.slice A n I,.string nm,.func (.func 250) #[] #[]] w fun e w' => ∃ (i:Nat) (b:Bool),e = .returned (.tuple #[.int .i64 (i:Int),.bool b])∧i≤n∧(∀ (j:Nat) d,j<i→fs[j]?=some d→ltB d.nm nm=true)∧(∀ d,fs[i]?=some d→ltB d.nm nm=false)∧Below w.heap.size w w':=by
 have M:=Lib.hid F
 have H:=Lib.hid F.len
 clear F
 go_enter Tryz.func249,Tryz.ntmps249
 go_wp2
 go_loopw [9,10,11] (fun i j _ wr => ∃ (a b:Nat),a≤b∧b≤n∧i = .int .i64 a∧j = .int .i64 b∧HH w [] X wr [] [Sl.fact ax A n I fs]∧Hid ((∀ (j:Nat) d,j<a→fs[j]?=some d→ltB d.nm nm=true)∧(∀ (j:Nat) d,b≤j→fs[j]?=some d→ltB d.nm nm=false))) (fun i j _ _=>(intOf j).toNat-(intOf i).toNat)
 case atStart=>exact⟨0,n,Nat.zero_le _,Nat.le_refl _,rfl,rfl,(hstart hX).ksl0 M.out,Lib.hid ⟨fun j d B=>absurd B (Nat.not_lt_zero _),fun j d B c=>by have:=(List.getElem?_eq_some_iff.1 c).1;have:=H.out;omega⟩⟩
 case round=>
  obtain⟨a,b,P,G,rfl,rfl,K,t⟩:=hrel
  by_cases R:a<b
  ·obtain⟨h,hh,O,T⟩:∃ h:Nat,((a:Int)+(b:Int))/2=(h:Int)∧a≤h∧h<b:=⟨(a+b)/2,by omega,by omega,by omega⟩
   obtain⟨x,u⟩:∃ x,fs[h]?=some x:=⟨_,List.getElem?_eq_getElem (by have:=H.out;omega)⟩
   obtain⟨ad,r,rfl,K,⟨y,C,k,D,z,l,rfl,q,g,s⟩⟩:=K.elem 0 rfl u
   have E:=Lib.hid u
   have Q:(0:Int)≤(h:Int):=by omega
   have N:(h:Int)<(n:Int):=by omega
   clear u q g s
   cases hl:ltB x.nm nm with
   | true=>
     have v:=xu hl
     go_wp2_with (first | (refine bF (K.at' 0 rfl) ?_) | (go_at_call 250;refine(nj x y C k D z l nm _).mono ?_;rw[v];rintro e J ⟨rfl,o⟩;have K:=K.on o;clear o v))
     go_roundw
     case rel=>
      refine⟨h+1,b,by omega,G,by go_num,rfl,K.ft,Lib.hid ⟨fun j d B c=>?_,t.out.2⟩⟩
      rcases Nat.lt_or_ge j h with f | f
      ·exact gF (p.lt f c E.out) hl
      ·obtain rfl:j=h:=by omega
       rw[E.out]at c
       injection c with c
       subst c
       exact hl
     case measure=>simp[intOf];omega
   | false=>
     have v:=yg hl
     go_wp2_with (first | (refine bF (K.at' 0 rfl) ?_) | (go_at_call 250;refine(nj x y C k D z l nm _).mono ?_;generalize kS x.nm nm=m at v;rintro e J ⟨rfl,o⟩;have K:=K.on o;clear o))
     go_roundw
     case rel=>
      refine⟨a,h,O,by omega,rfl,by go_num,K.ft,Lib.hid ⟨t.out.1,fun j d B c=>?_⟩⟩
      rcases Nat.lt_or_ge h j with f | f
      ·cases hk:ltB d.nm nm with
       | false=>rfl
       | true=>rw[gF (p.lt f E.out c) hk]at hl;cases hl
      ·obtain rfl:j=h:=by omega
       rw[E.out]at c
       injection c with c
       subst c
       exact hl
     case measure=>simp[intOf];omega
  ·obtain rfl:a=b:=by omega
   by_cases L:a<n
   ·obtain⟨x,u⟩:∃ x,fs[a]?=some x:=⟨_,List.getElem?_eq_getElem (by have:=H.out;omega)⟩
    obtain⟨ad,r,rfl,K,⟨y,C,k,D,z,l,rfl,q,g,s⟩⟩:=K.elem 0 rfl u
    have Q:(0:Int)≤(a:Int):=by omega
    have N:(a:Int)<(n:Int):=by omega
    clear u q g s
    go_wp2_with (first | (refine bF (K.at' 0 rfl) ?_) | (go_at_call 250;refine(nj x y C k D z l nm _).mono ?_;generalize kS x.nm nm=m;rintro e J ⟨rfl,o⟩;have K:=K.on o;clear o))
    go_ret2
    exact⟨a,_,rfl,by omega,t.out.1,fun d c=>t.out.2 a d (Nat.le_refl _) c,K.below⟩
   ·obtain rfl:a=n:=by omega
    go_wp2
    go_ret2
    exact⟨a,_,rfl,by omega,t.out.1,fun d c=>t.out.2 a d (Nat.le_refl _) c,K.below⟩
end
section
open Go.RowKit
theorem FH {W:World} {X:List Nat} {ad:Addr} {n b i:Nat} {fs:List Fil} {y:Fil} (h:Sl ax W X (some ad) n b fs) (hy:fs[i]?=some y):W.cell? (ad.add (i*3))=some (.string y.nm):=by
 obtain⟨c,r,e,_,_,⟨g,k,d,l,j,f,rfl,_⟩,a⟩:=h.at' hy
 injection e with e
 subst e
 exact a 0 _ rfl
set_option maxHeartbeats 1000000 in
theorem eZ (d:Dk) (A:Option Addr) (n b:Nat) (X:List Nat) (w:World) (hX:XOk X w) (g:Sl ax w X A n b d.fs) (o:cj d):
 Calls Tryz.prog 26 #[.agg #[.slice A n b,.int .i64 d.room,.int .i64 (-1),.bool false]] w fun e w'=>e = .returned (.bool true)∧Below w.heap.size w w':=by
 obtain⟨fs,room⟩:=d
 obtain⟨Z,Q,R,B,u,S⟩:=o
 simp only at *
 have Y:(n:Int)≤64:=by have:=g.len;omega
 have I:aA fs≤65536:=by omega
 have D:=Lib.hid g
 have t:=Lib.hid g.len
 have E:=Lib.hid u
 have F:=Lib.hid B
 clear g u B
 go_enter Tryz.func26,Tryz.ntmps26
 go_upto_region 1 with(fail)
 refine(hstart hX).cw fun W K=>?_
 have K:=K.ksl0 D.out
 have c0:=K.r 0 rfl
 go_upto_region 4 with(fail)
 clear c0
 go_loopw [27] (fun i wr => ∃ (k:Nat),k≤n∧i = .int .i64 k∧HH w [] X wr [.box w.heap.size 30 #[.slice A n b,.int .i64 room,.int .i64 (-1),.bool false]] [Sl.fact ax A n b fs]) (fun i _=>n-(intOf i).toNat)
 case atStart=>exact⟨0,Nat.zero_le _,rfl,K⟩
 case round=>
  obtain⟨k,N,rfl,K⟩:=hrel
  by_cases H:k<n
  ·obtain⟨x,q⟩:∃ x,fs[k]?=some x:=⟨_,List.getElem?_eq_getElem (by have:=t.out;omega)⟩
   obtain⟨ad,r,rfl,p,l,⟨T,n1,L,A2,U,O,rfl,j,f,J⟩,c⟩:=(K.sl 0 rfl).at' q
   have z:=Lib.hid q
   have V:(0:Int)≤(k:Int):=by omega
   have P:(k:Int)<(n:Int):=by omega
   clear q p l j f
   go_upto_region 6 with(first | (refine bF c ?_) | (refine K.lw fun W K=>?_;refine K.sr 0 rfl fun W K=>?_))
   clear c
   refine K.rg fun W K=>?_
   refine tK 0 K ?_
   refine tL 1 (fun _ h=>h.r 0 rfl) K ?_
   refine tC 2 fun K' hK=>?_
   go_simp
   refine(ye x.nm _ _ K.xok (F.out x (List.mem_of_getElem? z.out))).mono ?_
   rintro e C ⟨rfl,a⟩
   refine hK.out _ _ (K.on a) fun K=>?_
   clear hK K' a
   try simp only[Act.put,an,ai,aj]
   refine tK 3 K ?_
   refine tK 4 K ?_
   refine tK 5 K ?_
   cases k with
   | zero=>
     refine tK 6 K ?_
     refine tK 7 K ?_
     refine tN 8 K ?_
     refine tN 9 K ?_
     refine tN 10 K ?_
     refine tN 11 K ?_
     refine tN 12 K ?_
     refine tN 13 K ?_
     refine tN 14 K ?_
     refine tN 15 K ?_
     refine tN 16 K ?_
     refine tN 17 K ?_
     refine tK 18 K ?_
     refine tK 19 K ?_
     refine tE ?_
     go_wp2
     go_roundw
     case rel=>exact⟨1,by omega,by go_num,K.tl⟩
     case measure=>simp[intOf];omega
   | succ m=>
     obtain⟨y,hy⟩:∃ y,fs[m]?=some y:=⟨_,List.getElem?_eq_getElem (by have:=t.out;omega)⟩
     have v:Op.bytesLess y.nm.toList x.nm.toList=true:=E.out.lt (Nat.lt_succ_self m) hy z.out
     have G:=Lib.hid hy
     clear hy
     have i3:(m:Int)<(n:Int):=by omega
     have M:(0:Int)≤(m:Int):=by omega
     have i5:(0:Int)<(m:Int)+1:=by omega
     refine tK 6 K ?_
     refine tK 7 K ?_
     refine tK 8 K ?_
     refine tL 9 (fun _ h=>h.r 1 rfl) K ?_
     refine tK 10 K ?_
     refine tK 11 K ?_ (hy:=by(intro W _;have s:=IntWalk.i64_in (m:Int) (by omega);go_simp;try with_reducible rfl))
     refine tK 12 K ?_
     refine tK 13 K ?_
     refine tL 14 (fun _ h=>FH (h.sl 0 rfl) G.out) K ?_
     refine tK 15 K ?_
     refine tL 16 (fun _ h=>h.r 0 rfl) K ?_
     refine tK 17 K ?_
     refine tK 18 K ?_
     refine tK 19 K ?_
     refine tE ?_
     go_wp2
     go_roundw
     case rel=>exact⟨m+1+1,by omega,by go_num,K.tl⟩
     case measure=>simp[intOf];omega
  ·obtain rfl:k=n:=by omega
   go_upto_region 9 with(fail)
   refine K.rg fun W K=>?_
   refine tL 0 (fun _ h=>h) K ?_ (hy:=fun w s=>aM (s.at_ 0 rfl))
   refine tK 2 K ?_
   refine tL 3 (fun _ h=>h.r 0 rfl) K ?_
   refine tC 1 fun K' hK=>?_
   go_simp
   refine(fY fs A k b room _ _ K.xok (K.sl 0 rfl) (by omega) I).mono ?_
   rintro e C ⟨rfl,a⟩
   refine hK.out _ _ (K.on a) fun K=>?_
   clear hK K' a
   try simp only[Act.put,an,ai,aj]
   refine tK 4 K ?_
   refine tK 5 K ?_
   refine tE ?_
   go_wp2
   go_ret
   exact⟨rfl,K.below⟩
end
section
open Go.RowKit
theorem HH.notin {f W:World} {X:List Nat} {x:Itm} {L:List Itm} {F:List Fact} {g:Nat} (K:HH f [] X W (x::L) F) (c:x.blk=some g):g ∉ Exs L++X:=by
 intro d
 have h:=K.out
 rcases List.mem_append.1 d with a | a
 ·unfold Exs at a
  obtain⟨y,hy,e⟩:=List.mem_filterMap.1 a
  exact(List.rel_of_pairwise_cons h.apart hy) g c e
 ·have i:=h.xok g a
  rcases((h.ents x (by simp)).2 g c).1 with b | b
  ·omega
  ·cases b
theorem HH.one {α:Type} {s:Sh α} {a W:World} {X:List Nat} {L:List Itm} {F:List Fact} {g:Nat} {t:TypeId} {cs:Array Value} {x:α} (K:HH a [] X W (.box g t cs::L) F) (b:s.rep W (Exs L++X) cs.toList x):HH a [] X W L (Sl.fact s (some ⟨g,0,none⟩) 1 1 [x]::F):=by
 refine K.tl.kn (f:=Sl.fact s (some ⟨g,0,none⟩) 1 1 [x]) ⟨rfl,Nat.le_refl _,by unfold maxLen;omega,(fun e=>by cases e),cs.toList,⟨by rw[s.len b,Nat.one_mul],fun _=>⟨_,rfl,K.out.lt 0 rfl,fun j u d=>?_⟩⟩,fun _ ad e c=>?_,aC.single b⟩
 ·have:=K.r 0 rfl (0+j)
  rw[add_plain,this]
  simpa using d
 ·injection e with e
  subst e
  exact K.notin rfl c
theorem HH.many {α:Type} {s:Sh α} {b W:World} {X:List Nat} {L:List Itm} {F:List Fact} {g n:Nat} {t:TypeId} {cs:Array Value} {xs:List α} (K:HH b [] X W (.box g t cs::L) F) (d:aC s W (Exs L++X) cs.toList xs) (c:n=xs.length) (a:n≤100000):HH b [] X W L (Sl.fact s (some ⟨g,0,none⟩) n n xs::F):=by
 refine K.tl.kn (f:=Sl.fact s (some ⟨g,0,none⟩) n n xs) ⟨c,Nat.le_refl _,by unfold maxLen;omega,(fun e=>by cases e),cs.toList,⟨by rw[d.length,c],fun _=>⟨_,rfl,K.out.lt 0 rfl,fun j u h=>?_⟩⟩,fun _ ad e a=>?_,d⟩
 ·have:=K.r 0 rfl (0+j)
  rw[add_plain,this]
  simpa using h
 ·injection e with e
  subst e
  exact K.notin rfl a
theorem Sl.cap {α:Type} {s:Sh α} {w:World} {X:List Nat} {A:Option Addr} {n c c':Nat} {xs:List α} (h:Sl s w X A n c xs) (a:n≤c') (f:c'≤c):Sl s w X A n c' xs:=by
 obtain⟨a1,i,g,d,b⟩:=h
 exact⟨a1,a,by omega,fun e=>by have:=d e;omega,b⟩
theorem At.one {W:World} {ad:Addr} {k n:Nat} {r:List Value} {v:Value} (h:At W (ad.add (k*n)) r) (b:n=1) (a:r[0]?=some v):W.cell? (ad.add k)=some v:=by
 subst b
 have:=h 0 v a
 rwa [Nat.mul_one]at this
theorem rN {α:Type} {ls:List (List α)} {k:Nat} {x:List α} (h:ls[k]?=some x):(ls.take (k+1)).flatten=(ls.take k).flatten++x:=by
 obtain⟨a,rfl⟩:=List.getElem?_eq_some_iff.1 h
 rw[List.take_succ_eq_append_getElem a,List.flatten_append]
 simp
def yH (P:Program) (ty e:TypeId) (size bytes:Nat):Bool:=(match P.underlying ty with | some (.slice e')=>e' == e | _=>false)&&(match P.info? e with | some i=>i.size == size&&i.bytes == bytes&&(match i.zero with | some z=>z.cells.size == size | none=>false) | none=>false)
theorem iE {P:Program} {ty e:TypeId} {size bytes:Nat} (h:yH P ty e size bytes=true):P.underlying ty=some (.slice e) ∧ ∃ i z,P.info? e=some i∧i.zero=some z∧i.size=size∧i.bytes=bytes∧z.cells.size=size:=by
 unfold yH at h
 rw[Bool.and_eq_true]at h
 obtain⟨b,a⟩:=h
 refine⟨?_,?_⟩
 ·split at b
  ·next e' he=>rw[he,beq_iff_eq.1 b]
  ·cases b
 ·split at a
  ·next i hi=>
   rw[Bool.and_eq_true,Bool.and_eq_true,beq_iff_eq,beq_iff_eq]at a
   obtain⟨⟨d,f⟩,c⟩:=a
   split at c
   ·next z hz=>exact⟨i,z,hi,hz,d,f,beq_iff_eq.1 c⟩
   ·cases c
  ·cases a
section
variable {w0 W W' w1:World} {M X:List Nat} {L:List Itm} {F:List Fact} {P:Program}
theorem HH.rgt {id:Nat} {ops:Array Oper} {Q:Exit→Act→World→Prop} {a:Act} (K:HH w0 M X W L F) {L2 L':List Itm} {F2:List Fact} [h:Adv W W' L L'] (hT:∀ V,HH w0 M X V L' F→HH w0 M X V L2 F2)
 (k:∀ U,HH w0 M X U L' F→wpAnyH P .any ops (NoPanic Q) (fun V=>HH w0 M X V L2 F2) ops.size (Array.replicate ops.size false) a U) (b:P.follows .mixedOrders=true:=by kernel_rfl):(Code.region id ops true).wp P Q a W':=
 wp_region_noPanic (wp_region_held_drew (S:=fun V=>HH w0 M X V L2 F2) b (hT _ (h.go K.out).drew) fun _=>k _ (h.go K.out).drew)
theorem HH.ap1 {ops:Array Oper} {rest:List Oper} {o:Oper} {a:Act} {Q:Exit→Act→World→Prop} {e t ty:TypeId} {size n b c:Nat} {xs:List Value} {v:Value} {ns:Array Value} {s x:Operand} {L':Value→List Itm} (K:HH w0 M X W (.box b t ns::L) F) (bytes i:Nat) (g:L[i]?=some (.row e size v n xs)) (E:n≤100000)
 (k:∀ v' U,HH w0 M X U (L' v') F→wpList P ops Q rest (a.put o.dst v') U) (d:o.guard=none:=by rfl) (ho:o.op = .call { callee := .builtin .append,args:=#[s,x],argTypes:=#[ty,ty] }:=by rfl)
 (hs:a.eval s=v:=by rfl) (hx:a.eval x = .slice (some ⟨b,0,none⟩) 1 c:=by rfl) (hT:yH P ty e size bytes=true:=by kernel_rfl) (hz:ns.size=size:=by rfl) (h0:(0<size∧bytes≤1000):=by decide) (h1:ns.toList.all (·.oneCell')=true:=by rfl)
 (hL:∀ v',L.set i (.row e size v' (n+1) (xs++ns.toList))=L' v':=by(intro v';first | (simp only[ai,aj];done) | (simp only[ai,aj];exact rfl))):
 wpList P ops Q (o::rest) a W:=by
 obtain⟨w,m,z,q,p,B,l,y⟩:=iE hT
 have hR:Reads W W.heap.size size (some ⟨b,0,none⟩) 1 ns.toList:=⟨by rw[Array.length_toList,hz,Nat.one_mul],fun _=>⟨_,rfl,K.out.lt 0 rfl,fun j u f=>by
  rw[add_plain,K.r 0 rfl]
  simpa using f⟩⟩
 have D:(n+1)*bytes≤100001*1000:=Nat.mul_le_mul (by omega) h0.2
 refine bf W d s x ty ho 0 e m z size bytes w q p B l y h0.1 v n xs hs (K.row (i+1) (by simpa using g)) W.heap.size _ 1 c ns.toList hx hR (fun u f=>List.all_eq_true.1 h1 u f) (by unfold maxLen;omega) (by omega) (Nat.zero_le _) fun v' w' C h A=>k v' w' ?_
 have:=K.tl.out.appended i g C h A
 rw[hL]at this
 exact this
theorem HH.apS {α:Type} {sh:Sh α} {ops:Array Oper} {rest:List Oper} {o:Oper} {a:Act} {Q:Exit→Act→World→Prop} {e ty:TypeId} {n m c:Nat} {A:Option Addr} {ys:List α} {xs:List Value} {v:Value} {s x:Operand} {L':Value→List Value→List Itm} (K:HH w0 M X W L F) (bytes i:Nat) (f:L[i]?=some (.row e sh.size v n xs)) (b:Sl sh W (Exs L++X) A m c ys) (y:n+m≤100000)
 (k:∀ v' vs U,HH w0 M X U (L' v' vs) (Ra.fact sh vs ys::F)→wpList P ops Q rest (a.put o.dst v') U) (d:o.guard=none:=by rfl) (ho:o.op = .call { callee := .builtin .append,args:=#[s,x],argTypes:=#[ty,ty] }:=by rfl)
 (hs:a.eval s=v:=by rfl) (hx:a.eval x = .slice A m c:=by rfl) (hT:yH P ty e sh.size bytes=true:=by kernel_rfl) (h0:(0<sh.size∧bytes≤1000):=by decide)
 (hL:∀ v' vs,L.set i (.row e sh.size v' (n+m) (xs++vs))=L' v' vs:=by(intro v' vs;first | (simp only[ai,aj];done) | (simp only[ai,aj];exact rfl))):
 wpList P ops Q (o::rest) a W:=by
 obtain⟨r,l,z,q,p,w,j,t⟩:=iE hT
 obtain⟨vs,hR,-,g⟩:=b.reads
 have C:(n+m)*bytes≤100000*1000:=Nat.mul_le_mul y h0.2
 refine bf W d s x ty ho 0 e l z sh.size bytes r q p w j t h0.1 v n xs hs (K.row i f) W.heap.size _ m c vs hx hR (aC.one_ g) (by unfold maxLen;omega) (by omega) (Nat.zero_le _) fun v' w' B h u=>k v' vs w' ?_
 have:=(K.kra g).out.appended i f B h u
 rw[hL]at this
 exact this
theorem mk0 {ty e:TypeId} {size bytes:Nat} (hT:yH P ty e size bytes=true) (l:bytes≤1000) (n:Nat) (h:n≤100000) (W:World):∃ Z,(Instr.makeSlice ty (.int .i64 0) (.int .i64 (n:Int))).run P W = .ok (.slice (some ⟨W.heap.size,0,none⟩) 0 n) (W.alloc (.cells Z e)) ∧
 (W.alloc (.cells Z e)).ownsRow W.heap.size e size (.slice (some ⟨W.heap.size,0,none⟩) 0 n) 0 []∧Below W.heap.size W (W.alloc (.cells Z e)):=by
 obtain⟨f,b,z,d,c,g,j,k⟩:=iE hT
 have i:b.bytes*n≤1000*100000:=Nat.mul_le_mul (by omega) h
 have a:=lu (P:=P) ty e b z f d c .i64 .i64 0 n (Nat.zero_le _) (by omega) (by omega) W
 exact⟨_,a,World.ownsRow_made W _ n (Nat.le_refl _) (by unfold maxLen;omega) (by rw[size_madeCells,g]),(Below.refl _ W).alloc (Nat.le_refl _) _⟩
end
theorem tRs {P:Program} {ops:Array Oper} {Q:Exit→Act→World→Prop} {md:Region.Mode} {S:World→Prop} {d w:World} {M X:List Nat} {L L':List Itm} {F:List Fact} {o:Oper} {fuel:Nat} {listed:Array Bool} {a:Act} {e ty:TypeId} {size n g cap k:Nat} {xs:List Value} {cells:Array Value} {x y:Operand}
 (i:Nat) (K:HH d M X w L F) (b:Nat) (f:L[b]?=some (.row e size (.slice (some ⟨g,0,none⟩) n cap) n xs)) (q:k+cells.size≤xs.length) (hS:∀ U,HH d M X U L' F→S U) (kk:∀ U,HH d M X U L' F→wpAnyH P md ops Q S fuel (listed.setIfInBounds i true) a U)
 (u:Region.ready md ops listed = [i]:=by kernel_rfl) (ho:ops[i]?=some o:=by exact rfl) (hw:Region.wanted o (yielded ops a.tmps)=true:=by rfl) (hop:o.op = .store ty x y:=by rfl) (hd:o.dst=none:=by rfl)
 (hx:a.eval x = .pointer (some ⟨g,k,none⟩):=by rfl) (hy:a.eval y = .agg cells:=by rfl) (hT:((P.info? ty).map (·.size) == some cells.size)=true:=by kernel_rfl) (h1:cells.toList.all (·.oneCell')=true:=by rfl)
 (hL:L.set b (.row e size (.slice (some ⟨g,0,none⟩) n cap) n (cV xs k cells.toList))=L':=by(first | (simp only[ai,aj];done) | (simp only[ai,aj];exact rfl))):wpAnyH P md ops Q S (fuel+1) listed a w:=
 tC (o:=o) i (fun K' hK=>by
  rw[if_pos hw]
  have h:HH d M X (w.setCells g k cells.toList) L' F:=hL ▸ K.out.row_sets b f k cells.toList (by simpa using q)
  obtain⟨r,v | ⟨g',cap',cur,z,C,l,B,D,G,A⟩⟩:=K.row b f
  ·cases v.1
  ·injection z with c s m
   injection c with c
   injection c with c
   subst c
   have p:xs.length≤cur.size:=by rw[←A,List.length_take,Array.length_toList];omega
   refine wp_store_mid ty x y hop g k cells hx hy (fun j E=>⟨?_,Blk.frozen (t:=e) l _⟩) (beq_iff_eq.1 hT) (by rw[←Array.all_toList];exact h1) ?_
   ·rw[Blk.cell (t:=e) l,Array.getElem?_eq_getElem (by omega)];rfl
   ·rw[hd]
    exact hK.out _ _ (hS _ h) fun _=>kk _ h) u ho
end
section
open Go.RowKit
theorem Cq (s:ByteArray) (X:List Nat) (w:World) (hX:XOk X w) (b:fnB s=true):
 Calls Tryz.prog 104 #[.string s] w fun e w'=>e = .returned (.bool false)∧Below w.heap.size w w':=by
 go_enter Tryz.func104,Tryz.ntmps104
 go_wp2_with fail
 refine(ye s X _ hX b).mono ?_
 rintro e c ⟨rfl,a⟩
 go_wp2
 go_ret
 exact⟨rfl,a⟩
theorem AV (l:List ByteArray) (A:Option Addr) (n g:Nat) (X:List Nat) (w:World) (hX:XOk X w) (c:Sl dx w X A n g l) (C:n≤64) (u:∀ s ∈ l,fnB s=true):
 Calls Tryz.prog 172 #[.slice A n g,.func (.func 104) #[] #[]] w fun e w'=>e = .returned (.int .i64 (-1))∧Below w.heap.size w w':=by
 have p:=Lib.hid c
 have q:=Lib.hid c.len
 clear c
 go_enter Tryz.func172,Tryz.ntmps172
 go_wp2
 go_loopw [8,5] (fun i _ wr => ∃ (k:Nat),k≤n∧i = .int .i64 k∧HH w [] X wr [] [Sl.fact dx A n g l]) (fun i _ _=>n-(intOf i).toNat)
 case atStart=>exact⟨0,Nat.zero_le _,rfl,(hstart hX).ksl0 p.out⟩
 case round=>
  obtain⟨k,y,rfl,K⟩:=hrel
  by_cases o:k<n
  ·obtain⟨x,j⟩:∃ x,l[k]?=some x:=⟨_,List.getElem?_eq_getElem (by have:=q.out;omega)⟩
   obtain⟨ad,r,rfl,f,d,⟨rfl,t⟩,b⟩:=(K.sl 0 rfl).at' j
   have a:wr.cell? (ad.add k)=some (.string x):=by
    have:=b 0 _ rfl
    rwa [show(ad.add (k*dx.size)).add 0=ad.add k from by show(ad.add (k*1)).add 0=_;rw[Nat.mul_one];rfl]at this
   have h:=u x (List.mem_of_getElem? j)
   have B:(0:Int)≤(k:Int):=by omega
   have z:(k:Int)<(n:Int):=by omega
   clear j f d b
   go_wp2_with (go_at_call 104;refine(Cq x _ _ K.xok h).mono ?_;rintro e v ⟨rfl,m⟩;have K:=K.on m;clear m a)
   go_roundw
   case rel=>exact⟨k+1,by omega,by go_num,K⟩
   case measure=>simp[intOf];omega
  ·obtain rfl:k=n:=by omega
   go_wp2
   go_ret
   exact⟨rfl,K.below⟩
theorem vj (l:List ByteArray) (A:Option Addr) (n a:Nat) (X:List Nat) (w:World) (hX:XOk X w) (c:Sl dx w X A n a l) (f:n≤64) (d:∀ s ∈ l,fnB s=true):
 Calls Tryz.prog 103 #[.slice A n a,.func (.func 104) #[] #[]] w fun e w'=>e = .returned (.bool false)∧Below w.heap.size w w':=by
 go_enter Tryz.func103,Tryz.ntmps103
 go_wp2_with fail
 refine(AV l A n a X _ hX c f d).mono ?_
 rintro e g ⟨rfl,b⟩
 go_wp2
 go_ret
 exact⟨rfl,b⟩
theorem fj (d:Dk) (A:Option Addr) (n g:Nat) (l:List ByteArray) (B:Option Addr) (m c:Nat) (X:List Nat) (w:World) (hX:XOk X w) (h:Sl ax w X A n g d.fs) (b:Sl dx w X B m c l) (i:m≤64) (j:∀ s ∈ l,fnB s=true) (f:cj d):
 Calls Tryz.prog 47 #[.agg #[.slice A n g,.int .i64 d.room,.int .i64 (-1),.bool false],.slice B m c] w fun e w'=>e = .returned (.int .i64 0)∧Below w.heap.size w w':=by
 go_enter Tryz.func47,Tryz.ntmps47
 go_upto_region 1 with(fail)
 refine(hstart hX).cw fun W K=>?_
 have K:=(K.ksl0 b).ksl0 h
 clear h b
 have c0:=K.r 0 rfl
 go_wp2_with (go_at_call 26;refine(eZ d A n g _ _ K.xok (K.sl 0 rfl) f).mono ?_;rintro e k ⟨rfl,a⟩;have K:=K.on a;clear a c0;have c0:=K.r 0 rfl)
 refine(vj l B m c _ _ K.xok (K.sl 1 rfl) i j).mono ?_
 rintro e o ⟨rfl,a⟩
 have K:=K.on a
 clear c0 a
 go_wp2
 go_ret
 exact⟨rfl,K.below⟩
theorem uf {α β:Type} {l:List α} {k:Nat} {x:α} (h:l[k]?=some x) (f:α→β):(l.take (k+1)).map f=(l.take k).map f ++ [f x]:=by
 obtain⟨a,rfl⟩:=List.getElem?_eq_some_iff.1 h
 rw[List.take_succ_eq_append_getElem a,List.map_append]
 rfl
set_option maxHeartbeats 1000000 in
theorem tD (fs:List Fil) (room:Int) (A:Option Addr) (n l:Nat) (X:List Nat) (w:World) (hX:XOk X w) (a:Sl ax w X A n l fs) (O:n≤64) (z:∀ f ∈ fs,f.nm.size≤maxLen):
 Calls Tryz.prog 12 #[.agg #[.slice A n l,.int .i64 room,.int .i64 (-1),.bool false]] w fun e w' => ∃ B c,e = .returned (.slice B n c)∧Sl dx w' X B n c (fs.map Fil.nm)∧Below w.heap.size w w':=by
 have q:=Lib.hid a.len
 go_enter Tryz.func12,Tryz.ntmps12
 go_upto_region 1 with(fail)
 refine(hstart hX).cw fun W K=>?_
 have K:=K.ksl0 a
 clear a
 have c0:=K.r 0 rfl
 obtain⟨Z,o,hrow,p⟩:=mk0 (P:=Tryz.prog) (ty:=32) (e:=9) (size:=1) (bytes:=16) (by kernel_rfl) (by decide) n (by omega) W
 go_upto_region 2 with(fail)
 have K:=K.nrow p hrow
 clear c0 o hrow p
 generalize W.alloc (.cells Z 9)=I at K ⊢
 have c0:=K.r 1 rfl
 go_upto_region 3 with(fail)
 clear c0
 go_loopw [13,3] (fun i v wr => ∃ (k:Nat),k≤n∧i = .int .i64 k∧HH w [] X wr [.row 9 1 v k ((fs.take k).map (fun f=>.string f.nm))] [Sl.fact ax A n l fs]) (fun i _ _=>n-(intOf i).toNat)
 case atStart=>exact⟨0,Nat.zero_le _,rfl,K.drop (List.Sublist.cons_cons _ (List.Sublist.cons _ List.Sublist.slnil))⟩
 case round=>
  obtain⟨k,G,rfl,K⟩:=hrel
  by_cases C:k<n
  ·obtain⟨x,m⟩:∃ x,fs[k]?=some x:=⟨_,List.getElem?_eq_getElem (by have:=q.out;omega)⟩
   obtain⟨ad,r,rfl,j,h,⟨L,Q,F,R,M,H,rfl,g,d,E⟩,b⟩:=(K.sl 0 rfl).at' m
   have D:=Lib.hid m
   have N:(0:Int)≤(k:Int):=by omega
   have J:(k:Int)<(n:Int):=by omega
   clear m j h g d
   go_upto_region 5 with(first | (refine bF b ?_) | (refine K.lw fun W K=>?_;refine K.sr 0 rfl fun W K=>?_))
   clear b
   have c0:=K.r 0 rfl
   go_wp2_with (at_builtin;refine K.lw fun W K=>?_;refine K.ap1 16 1 rfl (by omega) fun v' U K=>?_)
   go_roundw
   case rel=>
    refine⟨k+1,by omega,by go_num,?_⟩
    rw[uf D.out]
    exact K.tl
   case measure=>simp[intOf];omega
  ·obtain rfl:k=n:=by omega
   go_wp2
   go_ret
   have u:fs.take k=fs:=List.take_of_length_le (by have:=q.out;omega)
   rw[u]at K
   obtain⟨B,c,rfl,t⟩:=K.out.done_row (s:=dx) (xs:=fs.map Fil.nm) 0 rfl (aO.2 ⟨by rw[List.flatMap_map,List.map_eq_flatMap],fun s a=>by obtain⟨f,y,rfl⟩:=List.mem_map.1 a;exact z f y⟩) (by decide) (by simp)
   exact⟨B,c,rfl,(t.hh).slb 0 rfl,t.below⟩
end
section
open Go.RowKit Go.Shelf
def Tryz.growB_ren:Go.Shelf.Ren:=⟨fun | 4=>107 | n=>n,fun | 22=>50 | 25=>5 | 3=>3 | 4=>4 | 9=>9 | 20=>20 | 0=>0 | n=>n,fun | n=>n⟩
theorem Tryz.growB:Go.Proofs.Lays8.n4 Tryz.prog Tryz.growB_ren:={
 mixed:=by kernel_rfl
 f4:=⟨Tryz.f107.name,by decide,Tryz.func107.trans (congrArg some (by kernel_rfl))⟩
 t0:=Tryz.underlying0
 a0:=Tryz.isAgg0
 z0:=Tryz.sizeOf0
 v0:=Tryz.zeroValue0
 t3:=Tryz.underlying3
 a3:=Tryz.isAgg3
 z3:=Tryz.sizeOf3
 v3:=Tryz.zeroValue3
 t4:=Tryz.underlying4
 a4:=Tryz.isAgg4
 z4:=Tryz.sizeOf4
 v4:=Tryz.zeroValue4
 t9:=Tryz.underlying9
 a9:=Tryz.isAgg9
 z9:=Tryz.sizeOf9
 v9:=Tryz.zeroValue9
 t20:=Tryz.underlying20
 a20:=Tryz.isAgg20
 z20:=Tryz.sizeOf20
 v20:=Tryz.zeroValue20
 t22:=Tryz.underlying50
 a22:=Tryz.isAgg50
 z22:=Tryz.sizeOf50
 v22:=Tryz.zeroValue50 }
theorem ED (n:Nat) (w:World) (k:n≤100000):Calls Tryz.prog 107 #[.slice none 0 0,.int .i64 (n:Int)] w fun e w' => ∃ v,e = .returned v∧w'.ownsRow w.heap.size 5 1 v 0 []∧Below w.heap.size w w':=by
 by_cases f:n=0
 ·subst f
  refine(Any8.slices_Grow_room Tryz.growB none 0 0 0 w (by omega) (by omega) (by omega) (by omega)).mono ?_
  rintro e w' ⟨rfl,rfl⟩
  exact⟨_,rfl,⟨rfl,.inl ⟨rfl,rfl⟩⟩,Below.refl _ _⟩
 ·obtain⟨-,g,z,b,h,j,c,d⟩:=iE (P:=Tryz.prog) (ty:=50) (e:=5) (size:=1) (bytes:=1) (by kernel_rfl)
  refine(Any8.slices_Grow_grow Tryz.growB g z b h (by omega) none 0 0 n [] w (by omega) (by omega) (by rw[c];omega) (by omega) (by simp) (fun _=>rfl) (fun a e=>by cases e)).mono ?_
  rintro e w' ⟨rfl,rfl⟩
  refine⟨_,rfl,?_,((Below.refl _ w).drew).alloc (Nat.le_refl _) _⟩
  have hG:grownCap w (0+n) 0 (Tryz.growB_ren.t 25)≤maxLen:=grownCap_le_maxLen w _ _ _ (by unfold maxLen;omega)
  have i:0+n≤grownCap w (0+n) 0 (Tryz.growB_ren.t 25):=grownCap_ge w _ _ _
  exact World.ownsRow_made w.drew _ _ (Nat.le_refl _) hG (by simp only[Array.size_append,size_zeroCells,d,List.size_toArray,List.length_nil];omega)
def jF (ls:List (List UInt8)) (k:Nat):List UInt8:=(ls.take k).flatten
theorem xQ {ls:List (List UInt8)} {k:Nat} {x:List UInt8} (h:ls[k]?=some x):jF ls (k+1)=jF ls k++x:=rN h
theorem BW (ls:List (List UInt8)) (k:Nat):(jF ls k).length≤ls.flatten.length:=by
 unfold jF
 conv=>rhs;rw[←List.take_append_drop k ls,List.flatten_append,List.length_append]
 omega
theorem Az {ls:List (List UInt8)} {k:Nat} (h:k=ls.length):jF ls k=ls.flatten:=by unfold jF;rw[List.take_of_length_le (by omega)]
theorem Cb {w:World} {X:List Nat} {vs:List Value} {l:List UInt8} (h:aC ak w X vs l):vs=byteCells l:=by
 rw[(aO.1 h).1];unfold byteCells;rw[List.map_eq_flatMap]
theorem zU (w:World) (X:List Nat) (l:List UInt8):aC ak w X (byteCells l) l:=aO.2 ⟨by unfold byteCells;rw[List.map_eq_flatMap],fun _ _=>trivial⟩
set_option maxHeartbeats 1000000 in
theorem BH (ls:List (List UInt8)) (A:Option Addr) (m c:Nat) (X:List Nat) (w:World) (hX:XOk X w) (n:Sl (uS ak) w X A m c ls) (R:m≤8) (V:ls.flatten.length≤90000):
 Calls Tryz.prog 49 #[.slice A m c] w fun e w' => ∃ B k,e = .returned (.slice B ls.flatten.length k)∧Sl ak w' X B ls.flatten.length k ls.flatten∧Below w.heap.size w w':=by
 have z:=Lib.hid n.len
 have I:=Lib.hid n
 have D:=fun k=>Lib.hid (BW ls k)
 have F:=Lib.hid (Az (ls:=ls) (k:=m) n.len)
 have O:=fun k x (h:ls[k]?=some x)=>Lib.hid (xQ h)
 generalize ls.flatten=T at *
 clear n
 go_enter Tryz.func49,Tryz.ntmps49
 go_upto_region 3 with(fail)
 go_loopw [11,3] (fun i u wr => ∃ (k:Nat),k≤m∧i = .int .i64 k∧u = .int .i64 ((jF ls k).length:Nat)∧HH w [] X wr [] [Sl.fact (uS ak) A m c ls]) (fun i _ _=>m-(intOf i).toNat)
 case atStart=>exact⟨0,Nat.zero_le _,rfl,rfl,(hstart hX).ksl0 I.out⟩
 case round=>
  obtain⟨k,Q,rfl,rfl,K⟩:=hrel
  by_cases t:k<m
  ·obtain⟨x,f⟩:∃ x,ls[k]?=some x:=⟨_,List.getElem?_eq_getElem (by have:=z.out;omega)⟩
   obtain⟨ad,r,rfl,d,b,⟨M,p,G,rfl,g⟩,a⟩:=(K.sl 0 rfl).at' f
   have l:=At.one a rfl rfl
   have o:Hid ((jF ls (k+1)).length=(jF ls k).length+p):=Lib.hid (by rw[xQ f,List.length_append,g.len])
   have N:(0:Int)≤(k:Int):=by omega
   have L:(k:Int)<(m:Int):=by omega
   have S:((jF ls k).length:Int)+(p:Int)=((jF ls (k+1)).length:Int):=by have:=o.out;omega
   have J:wrap64 ((jF ls (k+1)).length:Int)=((jF ls (k+1)).length:Int):=by unfold wrap64;have:=(D (k+1)).out;omega
   have W:¬ ((jF ls (k+1)).length:Int)<0:=by omega
   clear f d b g a
   go_wp2
   go_roundw
   case rel=>exact⟨k+1,by omega,by go_num,by simp only[J],K⟩
   case measure=>simp[intOf];omega
  ·obtain rfl:k=m:=by omega
   rw[F.out]
   go_wp2_with fail
   refine(ED T.length wr (by omega)).mono ?_
   rintro e P ⟨v,rfl,hown,y⟩
   have K:=K.nrow y hown
   clear hown y
   go_upto_region 11 with(fail)
   go_loopw [27,6] (fun i u wr => ∃ (j:Nat),j≤k∧i = .int .i64 j∧HH w [] X wr [.row 5 1 u (jF ls j).length (byteCells (jF ls j))] [Sl.fact (uS ak) A k c ls]) (fun i _ _=>k-(intOf i).toNat)
   case atStart=>exact⟨0,Nat.zero_le _,rfl,K⟩
   case round=>
    obtain⟨j,Y,rfl,K⟩:=hrel
    by_cases t:j<k
    ·obtain⟨x,f⟩:∃ x,ls[j]?=some x:=⟨_,List.getElem?_eq_getElem (by have:=z.out;omega)⟩
     obtain⟨ad,r,rfl,d,b,⟨M,p,G,rfl,g⟩,a⟩:=(K.sl 0 rfl).at' f
     have l:=At.one a rfl rfl
     have K:=K.ksl g
     have o:=O j x f
     have C:=Lib.hid g.len
     have q:(jF ls j).length+p≤100000:=by have:=(D (j+1)).out;rw[o.out,List.length_append]at this;have:=C.out;omega
     have N:(0:Int)≤(j:Int):=by omega
     have L:(j:Int)<(k:Int):=by omega
     clear f d b g a
     go_wp2_with (at_builtin;refine K.apS 1 0 rfl (K.sl 0 rfl) q fun v' vs U K=>?_)
     go_roundw
     case rel=>
      refine⟨j+1,by omega,by go_num,?_⟩
      have H:=Cb (K.ra 0 rfl)
      subst H
      rw[o.out,List.length_append,←C.out]
      unfold byteCells at K ⊢
      rw[List.map_append]
      exact K.ft.ft
     case measure=>simp[intOf];omega
    ·obtain rfl:j=k:=by omega
     go_wp2
     go_ret
     rw[F.out]at K
     obtain⟨B,c,rfl,E⟩:=K.out.done_row (s:=ak) 0 rfl (zU _ _ T) (by decide) (by simp)
     exact⟨B,c,rfl,(E.hh).slb 0 rfl,E.below⟩
end
section
open Go.RowKit
theorem kG:(Tryz.prog.info? 110).map (fun i=>(i.zero,i.size,i.bytes))=some (some (.agg #[.string ⟨#[]⟩,.slice none 0 0,.slice none 0 0]),3,64):=by kernel_rfl
theorem AX (vs ns:List Value) (n b base:Nat) (v:Value) (w:World) (B:n≤1000) (hown:w.ownsRow base 110 3 v n vs) (hbase:base≤w.heap.size) (g:Blk w b 110 ns.toArray) (s:ns.length=3) (r:∀ u ∈ ns,u.oneCell'=true):
 Calls Tryz.prog 251 #[v,.int .i64 (n:Int),.slice (some ⟨b,0,none⟩) 1 1] w fun e w' => ∃ v',e = .returned v'∧w'.ownsRow base 110 3 v' (n+1) (vs++ns)∧w.grownBy w' v.ownBlock∧(v'.ownBlock=v.ownBlock∨v'.ownBlock=some w.heap.size):=by
 obtain⟨p,k,l,h,i⟩:=info_parts kG
 have o:Reads w w.heap.size 3 (some ⟨b,0,none⟩) 1 ns:=⟨by rw[s],fun _=>⟨_,rfl,g.lt,fun j u x=>by rw[add_plain,Nat.zero_add,g.cell j];simpa using x⟩⟩
 have q:=Lib.hid hown
 have z:=Lib.hid g
 obtain⟨A,c,rfl,m⟩:=aK hown
 have C:(0:Int)≤(n:Int):=by omega
 clear hown g
 go_enter Tryz.func251,Tryz.ntmps251
 go_wp2_with (at_builtin;go_must (refine bf _ rfl _ _ 28 rfl base 110 p _ 3 64 Tryz.underlying28 k l h i rfl (by omega) (.slice A n c) n vs rfl q.out w.heap.size _ 1 _ ns rfl o r (by unfold maxLen;omega) (by omega) hbase ?_);intro t y d f a)
 all_goals
  go_ret
  exact⟨t,rfl,d,by first | exact f | (subst_vars;exact f),by first | exact a | (subst_vars;exact a)⟩
theorem EE (vs ns:List Value) (n i b base g cap:Nat) (w:World) (hi:i<n) (hn:n≤1000) (hown:w.ownsRow base 110 3 (.slice (some ⟨g,0,none⟩) n cap) n vs) (hroom:n+1≤cap) (z:Blk w b 110 ns.toArray) (v:ns.length=3) (D:¬ b=g) (V:∀ u ∈ ns,u.oneCell'=true) (U:∀ u ∈ vs,u.oneCell'=true):
 Calls Tryz.prog 251 #[.slice (some ⟨g,0,none⟩) n cap,.int .i64 (i:Int),.slice (some ⟨b,0,none⟩) 1 1] w fun e w'=>e = .returned (.slice (some ⟨g,0,none⟩) (n+1) cap)∧w'.ownsRow base 110 3 (.slice (some ⟨g,0,none⟩) (n+1) cap) (n+1) (vs.take (i*3)++ns++vs.drop (i*3))∧w.grownBy w' (some g):=by
 obtain⟨i0,B,Y,A,O⟩:=info_parts kG
 obtain⟨p,K⟩:=hown
 rcases K with⟨K,_⟩ | ⟨g',cap',cur,P,N,M,h5,T,r,L⟩
 ·cases K
 injection P with d X F
 injection d with d
 injection d with d
 subst d F
 have hG:Blk w g 110 cur:=M
 have y:(Tryz.prog.info? 110).map (·.size)=some 3:=by rw[B];simp[A]
 have q:(vs.drop (i*3)).length=(n-i)*3:=by rw[List.length_drop,p,Nat.sub_mul]
 have J:∀ lb cb,(callFunc 269 #[.slice (some ⟨b,0,none⟩) 1 1,.slice (some ⟨g,(i+1)*3,none⟩) lb cb]).run Tryz.prog w = .ok (.value (.bool false)) w:=fun lb cb=>by
  rw[run_callFunc_extern Tryz.func269 (by kernel_rfl) (by kernel_rfl) (by kernel_rfl) (e:=Extern.SlicesOverlaps.overlaps #[28,28] #[4]) (by kernel_rfl),
   Lib.run_overlaps_apart w 28 4 110 Tryz.underlying28 3 (fun w=>by simp[sizeOf,typeInfo,B,A]) ⟨b,0,none⟩ ⟨g,(i+1)*3,none⟩ 1 1 lb cb D 110 110 3 cur.size
    (by simp[World.shape?,show w.heap[b]?=some (.cells ns.toArray 110 (0,0)) from z,v]) (by simp[World.shape?,M]) (by rw[r];omega) (z.frozen 0) (z.frozen _)]
  rfl
 have G:=fun(W:World) (hW:Blk W g 110 cur)=>Blk.sets (vs:=vs.drop (i*3)) (o:=(i+1)*3) hW (by rw[q,r,←Nat.add_mul];exact Nat.mul_le_mul_right _ (by omega))
 have hsrc:∀ (W:World),Blk W g 110 cur→At W ⟨g,i*3,none⟩ (vs.drop (i*3)):=fun W hW j u h=>by
  rw[add_plain,hW.cell]
  rw[List.getElem?_drop,←L,List.getElem?_take]at h
  split at h
  ·simpa using h
  ·cases h
 have x:∀ (W:World) ty t sc,Blk W g 110 cur→(Builtin.copy_ #[28,28] ty #[.slice (some ⟨g,(i+1)*3,none⟩) (n-i) t,.slice (some ⟨g,i*3,none⟩) (n+1-i) sc]).run Tryz.prog W = .ok (goInt (n-i:Nat)) (W.setCells g ((i+1)*3) (vs.drop (i*3))):=fun W ty t sc hW=>
  fq W _ _ ty 110 g ((i+1)*3) (n-i) t ⟨g,i*3,none⟩ (n+1-i) sc 3 (n-i) (vs.drop (i*3)) Tryz.underlying28 y (by simp only[Nat.min_def];split<;>omega) q (hsrc W hW)
   (fun j h=>by rw[hW.cell,Array.getElem?_eq_getElem (by have I:=h;rw[q]at I;rw[r];omega)];rfl) (fun j _=>hW.frozen _) (fun u Q=>U u (List.mem_of_mem_drop Q))
 obtain⟨H,c⟩:∃ H,H=(cV cur.toList ((i+1)*3) (vs.drop (i*3))).toArray:=⟨_,rfl⟩
 have E:∀ (W:World) ty t,Blk W g 110 H→Blk W b 110 ns.toArray→(Builtin.copy_ #[28,28] ty #[.slice (some ⟨g,i*3,none⟩) (n+1-i) t,.slice (some ⟨b,0,none⟩) 1 1]).run Tryz.prog W = .ok (goInt 1) (W.setCells g (i*3) ns):=fun W ty t hW l=>
  fq W _ _ ty 110 g (i*3) (n+1-i) t ⟨b,0,none⟩ 1 1 3 1 ns Tryz.underlying28 y (by simp only[Nat.min_def];split<;>omega) (by rw[v])
   (fun j u h=>by rw[add_plain,Nat.zero_add,l.cell];simpa using h)
   (fun j h=>by rw[hW.cell,Array.getElem?_eq_getElem (by rw[c];simp only[cV,List.size_toArray,List.length_append,List.length_take,List.length_drop,Array.length_toList,q,r];omega)];rfl) (fun j _=>hW.frozen _) V
 have i1:(0:Int)≤(i:Int):=by omega
 have i2:(i:Int)≤(n:Int):=by omega
 have i3:¬ (i:Int)=(n:Int):=by omega
 have Z:¬ (cap:Int)<(n:Int)+1:=by omega
 have i5:¬ cap=i:=by omega
 have i6:¬ cap=i+1:=by omega
 go_enter Tryz.func251,Tryz.ntmps251
 go_wp2_with (simp only[J])
 refine wp_region_noPanic ?_
 refine wp_region_held_drew (S:=fun W=>W=w.drew∨W=w.drew.setCells g ((i+1)*3) (vs.drop (i*3))) (by kernel_rfl) (.inl rfl) (fun hH=>?_)
 refine tK 0 hH ?_
 refine tK 1 hH ?_
 refine tK 2 hH ?_
 have R:((i:Int)+1).toNat=i+1:=by omega
 have j1:(0:Int)≤(i:Int)+1:=by omega
 have j2:(i:Int)+1≤(n:Int)+1:=by omega
 have j3:(i:Int)≤(n:Int)+1:=by omega
 refine tK 3 hH ?_ (hy:=by(intro W _;have hw:=IntWalk.i64_in ((i:Int)+1) (by omega);go_simp;try with_reducible rfl))
 refine tK 4 hH ?_
 refine tK 5 hH ?_
 refine tK 6 hH ?_
 refine tK 7 hH ?_
 refine tC 8 fun K' hK=>step_copy_runI rfl _ _ 28 28 rfl _ _ rfl rfl (x _ _ _ _ hG.drew) ?_
 refine hK.out _ _ (.inr rfl) fun hH=>?_
 clear hK K' hH
 try simp only[Act.put,an,ai,aj]
 refine tE ?_
 have f:=G w.drew hG.drew
 rw[←c]at f
 have l:Blk (w.drew.setCells g ((i+1)*3) (vs.drop (i*3))) b 110 ns.toArray:=(cG (W0:=w.drew) (bR (Below.refl _ _) _)).block b z.lt (by simpa using D) |>.trans z
 have C:w.grownBy (w.drew.setCells g ((i+1)*3) (vs.drop (i*3))) (some g):=cG (gH (bR (Below.refl _ _) _))
 generalize w.drew.setCells g ((i+1)*3) (vs.drop (i*3))=W1 at f l C ⊢
 go_wp2_with (refine wpList_copy_runI _ rfl _ _ 28 28 rfl _ _ rfl rfl (E _ _ _ f l) ?_)
 go_ret
 refine⟨rfl,⟨?_,.inr ⟨g,cap,_,rfl,N,Blk.sets f ?_,by omega,T,?_,?_⟩⟩,cG C⟩
 ·simp only[List.length_append,List.length_take,List.length_drop,v,p];omega
 ·rw[c];simp only[cV,List.size_toArray,List.length_append,List.length_take,List.length_drop,Array.length_toList,v,p,r];omega
 ·rw[c];simp only[cV,List.size_toArray,List.length_append,List.length_take,List.length_drop,Array.length_toList,v,p,r];omega
 ·rw[c,←L]
  have:=Cj (cur:=cur.toList) (ns:=ns) (a:=i*3) (s:=3) (m:=n*3) (k:=0) v (by omega) (by rw[Array.length_toList,r];omega)
  rw[show i*3+3=(i+1)*3 from by omega,show n*3+3=(n+1)*3 from by omega,List.append_assoc]at this
  exact this
set_option maxHeartbeats 1000000 in
theorem zB (vs ns:List Value) (n i b base g cap:Nat) (w:World) (hi:i<n) (hn:n≤1000) (hown:w.ownsRow base 110 3 (.slice (some ⟨g,0,none⟩) n cap) n vs) (hbase:base≤w.heap.size) (hroom:cap<n+1) (hb:Blk w b 110 ns.toArray) (hl:ns.length=3) (h1:∀ u ∈ ns,u.oneCell'=true) (h2:∀ u ∈ vs,u.oneCell'=true):
 Calls Tryz.prog 251 #[.slice (some ⟨g,0,none⟩) n cap,.int .i64 (i:Int),.slice (some ⟨b,0,none⟩) 1 1] w fun e w' => ∃ G,e = .returned (.slice (some ⟨w.heap.size,0,none⟩) (n+1) G)∧w'.ownsRow base 110 3 (.slice (some ⟨w.heap.size,0,none⟩) (n+1) G) (n+1) (vs.take (i*3)++ns++vs.drop (i*3))∧w.grownBy w' (some g):=by
 obtain⟨i0,U,am,O,H⟩:=info_parts kG
 obtain⟨A,hc⟩:=hown
 rcases hc with⟨hc,_⟩ | ⟨g',cap',cur,K,h3,h4,h5,h6,h7,h8⟩
 ·cases hc
 injection K with r bb ab
 injection r with r
 injection r with r
 subst r ab
 have hG:Blk w g 110 cur:=h4
 have N:(Tryz.prog.info? 110).map (·.size)=some 3:=by rw[U];simp[O]
 have y:(vs.drop (i*3)).length=(n-i)*3:=by rw[List.length_drop,A,Nat.sub_mul]
 have x:(vs.take (i*3)).length=i*3:=by rw[List.length_take,A];omega
 have hold:(Builtin.firstCells i0.size i (.slice (some ⟨g,0,none⟩) i cap)).run Tryz.prog w.drew = .ok (vs.take (i*3)).toArray w.drew:=by
  have:=run_loadCells_list (P:=Tryz.prog) w.drew ⟨g,0,none⟩ (vs.take (i*3)) (fun j u h=>by
   rw[add_plain,Nat.zero_add,hG.drew.cell]
   rw[←h8,List.take_take,List.getElem?_take]at h
   split at h
   ·simpa using h
   ·cases h)
  rw[x]at this
  simpa [Builtin.firstCells,O] using this
 have p:=Lib.run_append_grow_zeros w 28 3 28 110 i0 _ .i64 .i64 Tryz.underlying28 Tryz.underlying3 U am (some ⟨g,0,none⟩) i cap (vs.take (i*3)) hold (n+1-i) (by omega) (by omega) (by omega) (by omega) (by rw[H];omega) (by rw[H];exact growslice_fits (by omega) (by omega))
 rw[show i+(n+1-i)=n+1 from by omega,show((n+1-i:Nat):Int)=(n:Int)+1-(i:Int) from by omega]at p
 have I:=grownCap_ge w (n+1) cap 110
 have M:=grownCap_le_maxLen w (n+1) cap 110 (by unfold maxLen;omega)
 generalize grownCap w (n+1) cap 110=G at p I M
 generalize z:(vs.take (i*3)).toArray++Builtin.zeroCells _ (n+1-i)++Builtin.zeroCells _ (G-(n+1))=ROW at p
 have ae:ROW.size=G*3:=by
  rw[←z]
  simp only[Array.size_append,List.size_toArray,size_zeroCells,x,Value.cells,List.length_cons,List.length_nil]
  omega
 have ah:ROW.toList.take (i*3)=vs.take (i*3):=by
  rw[←z,Array.toList_append,Array.toList_append,List.append_assoc]
  exact List.take_left' x
 have v:Blk (w.drew.alloc (.cells ROW 110)) w.heap.size 110 ROW:=Blk.new w.drew 110 ROW
 have B:Blk (w.drew.alloc (.cells ROW 110)) g 110 cur:=hG.drew.alloc _
 have T:Blk (w.drew.alloc (.cells ROW 110)) b 110 ns.toArray:=hb.drew.alloc _
 have l:w.grownBy (w.drew.alloc (.cells ROW 110)) (some g):=lF (gH (bR (Below.refl _ _) _)) _
 have bc:=hG.lt
 have ba:=hb.lt
 have Q:¬ g=w.heap.size:=by omega
 have ar:¬ b=w.heap.size:=by omega
 have L:∀ (W:World) ty D,Blk W w.heap.size 110 ROW→Blk W b 110 ns.toArray→(Builtin.copy_ #[28,28] ty #[.slice (some ⟨w.heap.size,i*3,none⟩) (n+1-i) D,.slice (some ⟨b,0,none⟩) 1 1]).run Tryz.prog W = .ok (goInt 1) (W.setCells w.heap.size (i*3) ns):=fun W ty D hW ag=>
  fq W _ _ ty 110 w.heap.size (i*3) (n+1-i) D ⟨b,0,none⟩ 1 1 3 1 ns Tryz.underlying28 N (by simp only[Nat.min_def];split<;>omega) (by rw[hl])
   (fun j u h=>by rw[add_plain,Nat.zero_add,ag.cell];simpa using h)
   (fun j h=>by rw[hW.cell,Array.getElem?_eq_getElem (by omega)];rfl) (fun j _=>hW.frozen _) h1
 obtain⟨Z,t⟩:∃ Z,Z=(cV ROW.toList (i*3) ns).toArray:=⟨_,rfl⟩
 have V:Z.size=G*3:=by
  rw[t]
  simp only[cV,List.size_toArray,List.length_append,List.length_take,List.length_drop,Array.length_toList,hl,ae]
  omega
 have X:∀ (W:World) ty D sc,Blk W w.heap.size 110 Z→Blk W g 110 cur→(Builtin.copy_ #[28,28] ty #[.slice (some ⟨w.heap.size,(i+1)*3,none⟩) (n-i) D,.slice (some ⟨g,i*3,none⟩) (n-i) sc]).run Tryz.prog W = .ok (goInt (n-i:Nat)) (W.setCells w.heap.size ((i+1)*3) (vs.drop (i*3))):=fun W ty D sc hW ac=>
  fq W _ _ ty 110 w.heap.size ((i+1)*3) (n-i) D ⟨g,i*3,none⟩ (n-i) sc 3 (n-i) (vs.drop (i*3)) Tryz.underlying28 N (by simp only[Nat.min_def];split<;>omega) y
   (fun j u h=>by
    rw[add_plain,ac.cell]
    rw[List.getElem?_drop,←h8,List.getElem?_take]at h
    split at h
    ·simpa using h
    ·cases h)
   (fun j h=>by rw[hW.cell,Array.getElem?_eq_getElem (by have ad:=h;rw[y]at ad;omega)];rfl) (fun j _=>hW.frozen _) (fun u hu=>h2 u (List.mem_of_mem_drop hu))
 have i1:(0:Int)≤(i:Int):=by omega
 have i2:(i:Int)≤(n:Int):=by omega
 have i3:¬ (i:Int)=(n:Int):=by omega
 have i4:(cap:Int)<(n:Int)+1:=by omega
 have i5:¬ cap=i:=by omega
 have i6:¬ G=i:=by omega
 have i7:¬ G=i+1:=by omega
 have aw:((i:Int)+1).toNat=i+1:=by omega
 have j1:(0:Int)≤(i:Int)+1:=by omega
 have j2:(i:Int)+1≤(n:Int)+1:=by omega
 have j3:(i:Int)≤(n:Int)+1:=by omega
 have j4:(i:Int)≤(cap:Int):=by omega
 go_enter Tryz.func251,Tryz.ntmps251
 go_upto_region 10 with(at_builtin;go_must (refine Lib.wpList_append_run _ rfl _ _ _ _ rfl _ _ rfl rfl _ _ p ?_))
 clear p hold
 have K:(w.alloc (.cells ROW 110)).drew=w.drew.alloc (.cells ROW 110):=rfl
 try rw[K]
 generalize w.drew.alloc (.cells ROW 110)=E at v B T l K ⊢
 clear K
 go_upto_region 11 with(refine wpList_copy_runI _ rfl _ _ 28 28 rfl _ _ rfl rfl (L _ _ _ v T) ?_)
 have q:=Blk.sets (vs:=ns) (o:=i*3) v (by omega)
 rw[←t]at q
 have d:E.grownBy (E.setCells w.heap.size (i*3) ns) (some w.heap.size):=cG (bR (Below.refl _ _) _)
 have F:Blk (E.setCells w.heap.size (i*3) ns) g 110 cur:=(d.block g B.lt (by simpa using Q)).trans B
 have ap:w.heap.size<E.heap.size:=v.lt
 have c:w.grownBy (E.setCells w.heap.size (i*3) ns) (some g):=⟨d.os.trans l.os,d.tape.trans l.tape,d.output.trans l.output,Nat.le_trans l.size d.size,fun k hk C=>(d.block k (by omega) (by simp;omega)).trans (l.block k hk C)⟩
 generalize E.setCells w.heap.size (i*3) ns=J at q F c ⊢
 refine wp_region_noPanic ?_
 refine wp_region_held_drew (S:=fun W=>W=J.drew∨W=J.drew.setCells w.heap.size ((i+1)*3) (vs.drop (i*3))) (by kernel_rfl) (.inl rfl) (fun hH=>?_)
 refine tK 0 hH ?_
 refine tK 1 hH ?_
 refine tK 2 hH ?_
 refine tK 3 hH ?_ (hy:=by(intro W _;have hw:=IntWalk.i64_in ((i:Int)+1) (by omega);go_simp;try with_reducible rfl))
 refine tK 4 hH ?_
 refine tK 5 hH ?_
 refine tK 6 hH ?_
 refine tK 7 hH ?_
 refine tC 8 fun K' hK=>step_copy_runI rfl _ _ 28 28 rfl _ _ rfl rfl (X _ _ _ _ q.drew F.drew) ?_
 refine hK.out _ _ (.inr rfl) fun hH=>?_
 clear hK K' hH
 try simp only[Act.put,an,ai,aj]
 refine tE ?_
 have ao:w.heap.size<J.heap.size:=q.lt
 have f:J.grownBy (J.drew.setCells w.heap.size ((i+1)*3) (vs.drop (i*3))) (some w.heap.size):=cG (gH (bR (Below.refl _ _) _))
 have al:=Blk.sets (vs:=vs.drop (i*3)) (o:=(i+1)*3) q.drew (by omega)
 go_wp2
 go_ret
 refine⟨G,rfl,⟨?_,.inr ⟨w.heap.size,G,_,rfl,hbase,al,I,M,?_,?_⟩⟩,⟨f.os.trans c.os,f.tape.trans c.tape,f.output.trans c.output,Nat.le_trans c.size f.size,fun k hk C=>(f.block k (by omega) (by simp;omega)).trans (c.block k hk C)⟩⟩
 ·simp only[List.length_append,x,y,hl];omega
 ·simp only[cV,List.size_toArray,List.length_append,List.length_take,List.length_drop,Array.length_toList,A,V];omega
 ·rw[t]
  have:=xY (R:=ROW.toList) (ns:=ns) (Y:=vs.drop (i*3)) (a:=i*3) (s:=3) (m:=(n+1)*3) hl (by rw[y];omega) (by rw[Array.length_toList];omega)
  rw[show i*3+3=(i+1)*3 from by omega,ah,List.append_assoc]at this
  exact this
theorem Fy (vs ns:List Value) (n i b base:Nat) (v:Value) (w:World) (x:i≤n) (o:n≤1000) (hown:w.ownsRow base 110 3 v n vs) (hbase:base≤w.heap.size) (d:Blk w b 110 ns.toArray) (k:v.ownBlock≠some b) (m:ns.length=3) (l:∀ u ∈ ns,u.oneCell'=true) (p:∀ u ∈ vs,u.oneCell'=true):
 Calls Tryz.prog 251 #[v,.int .i64 (i:Int),.slice (some ⟨b,0,none⟩) 1 1] w fun e w' => ∃ v',e = .returned v'∧w'.ownsRow base 110 3 v' (n+1) (vs.take (i*3)++ns++vs.drop (i*3))∧w.grownBy w' v.ownBlock∧(v'.ownBlock=v.ownBlock∨v'.ownBlock=some w.heap.size):=by
 rcases Nat.lt_or_ge i n with c | t
 ·rcases hown.2 with⟨y,r⟩ | ⟨g,cap,cur,rfl,r⟩
  ·omega
  ·have a:¬ b=g:=fun e=>k (by rw[e];rfl)
   rcases Nat.lt_or_ge cap (n+1) with j | j
   ·refine(zB vs ns n i b base g cap w c o hown hbase j d m l p).mono ?_
    rintro e w' ⟨G,rfl,h,f⟩
    exact⟨_,rfl,h,f,.inr rfl⟩
   ·refine(EE vs ns n i b base g cap w c o hown j d m a l p).mono ?_
    rintro e w' ⟨rfl,h,f⟩
    exact⟨_,rfl,h,f,.inl rfl⟩
 ·obtain rfl:i=n:=by omega
  have q:vs.take (i*3)=vs:=List.take_of_length_le (by rw[hown.1];exact Nat.le_refl _)
  have s:vs.drop (i*3) = []:=List.drop_of_length_le (by rw[hown.1];exact Nat.le_refl _)
  rw[q,s,List.append_nil]
  exact AX vs ns i b base v w o hown hbase d m l
end
section
open Go.RowKit
theorem kK:(Tryz.prog.info? 95).map (fun i=>(i.zero,i.size,i.bytes))=some (some (.agg #[.string ⟨#[]⟩,.int .i64 0,.int .i64 0,.int .i64 0,.int .i64 0,.slice none 0 0,.int .i64 0,.int .i64 0,.int .i64 0,.int .i64 0,.int .i64 0,.int .i64 0,.int .i64 0,.int .i64 0,.int .i64 0,.int .i64 0,.int .i64 0,.int .i64 0,.int .i64 0,.int .i64 0,.int .i64 0]),21,192):=by kernel_rfl
theorem CA (vs ns:List Value) (n b base:Nat) (v:Value) (w:World) (B:n≤1000) (hown:w.ownsRow base 95 21 v n vs) (hbase:base≤w.heap.size) (g:Blk w b 95 ns.toArray) (s:ns.length=21) (r:∀ u ∈ ns,u.oneCell'=true):
 Calls Tryz.prog 98 #[v,.int .i64 (n:Int),.slice (some ⟨b,0,none⟩) 1 1] w fun e w' => ∃ v',e = .returned v'∧w'.ownsRow base 95 21 v' (n+1) (vs++ns)∧w.grownBy w' v.ownBlock∧(v'.ownBlock=v.ownBlock∨v'.ownBlock=some w.heap.size):=by
 obtain⟨p,k,l,h,i⟩:=info_parts kK
 have o:Reads w w.heap.size 21 (some ⟨b,0,none⟩) 1 ns:=⟨by rw[s],fun _=>⟨_,rfl,g.lt,fun j u x=>by rw[add_plain,Nat.zero_add,g.cell j];simpa using x⟩⟩
 have q:=Lib.hid hown
 have z:=Lib.hid g
 obtain⟨A,c,rfl,m⟩:=aK hown
 have C:(0:Int)≤(n:Int):=by omega
 clear hown g
 go_enter Tryz.func98,Tryz.ntmps98
 go_wp2_with (at_builtin;go_must (refine bf _ rfl _ _ 35 rfl base 95 p _ 21 192 Tryz.underlying35 k l h i rfl (by omega) (.slice A n c) n vs rfl q.out w.heap.size _ 1 _ ns rfl o r (by unfold maxLen;omega) (by omega) hbase ?_);intro t y d f a)
 all_goals
  go_ret
  exact⟨t,rfl,d,by first | exact f | (subst_vars;exact f),by first | exact a | (subst_vars;exact a)⟩
theorem En (vs ns:List Value) (n i b base g cap:Nat) (w:World) (hi:i<n) (hn:n≤1000) (hown:w.ownsRow base 95 21 (.slice (some ⟨g,0,none⟩) n cap) n vs) (hroom:n+1≤cap) (z:Blk w b 95 ns.toArray) (v:ns.length=21) (D:¬ b=g) (V:∀ u ∈ ns,u.oneCell'=true) (U:∀ u ∈ vs,u.oneCell'=true):
 Calls Tryz.prog 98 #[.slice (some ⟨g,0,none⟩) n cap,.int .i64 (i:Int),.slice (some ⟨b,0,none⟩) 1 1] w fun e w'=>e = .returned (.slice (some ⟨g,0,none⟩) (n+1) cap)∧w'.ownsRow base 95 21 (.slice (some ⟨g,0,none⟩) (n+1) cap) (n+1) (vs.take (i*21)++ns++vs.drop (i*21))∧w.grownBy w' (some g):=by
 obtain⟨i0,B,Y,A,O⟩:=info_parts kK
 obtain⟨p,K⟩:=hown
 rcases K with⟨K,_⟩ | ⟨g',cap',cur,P,N,M,h5,T,r,L⟩
 ·cases K
 injection P with d X F
 injection d with d
 injection d with d
 subst d F
 have hG:Blk w g 95 cur:=M
 have y:(Tryz.prog.info? 95).map (·.size)=some 21:=by rw[B];simp[A]
 have q:(vs.drop (i*21)).length=(n-i)*21:=by rw[List.length_drop,p,Nat.sub_mul]
 have J:∀ lb cb,(callFunc 160 #[.slice (some ⟨b,0,none⟩) 1 1,.slice (some ⟨g,(i+1)*21,none⟩) lb cb]).run Tryz.prog w = .ok (.value (.bool false)) w:=fun lb cb=>by
  rw[run_callFunc_extern Tryz.func160 (by kernel_rfl) (by kernel_rfl) (by kernel_rfl) (e:=Extern.SlicesOverlaps.overlaps #[35,35] #[4]) (by kernel_rfl),
   Lib.run_overlaps_apart w 35 4 95 Tryz.underlying35 21 (fun w=>by simp[sizeOf,typeInfo,B,A]) ⟨b,0,none⟩ ⟨g,(i+1)*21,none⟩ 1 1 lb cb D 95 95 21 cur.size
    (by simp[World.shape?,show w.heap[b]?=some (.cells ns.toArray 95 (0,0)) from z,v]) (by simp[World.shape?,M]) (by rw[r];omega) (z.frozen 0) (z.frozen _)]
  rfl
 have G:=fun(W:World) (hW:Blk W g 95 cur)=>Blk.sets (vs:=vs.drop (i*21)) (o:=(i+1)*21) hW (by rw[q,r,←Nat.add_mul];exact Nat.mul_le_mul_right _ (by omega))
 have hsrc:∀ (W:World),Blk W g 95 cur→At W ⟨g,i*21,none⟩ (vs.drop (i*21)):=fun W hW j u h=>by
  rw[add_plain,hW.cell]
  rw[List.getElem?_drop,←L,List.getElem?_take]at h
  split at h
  ·simpa using h
  ·cases h
 have x:∀ (W:World) ty t sc,Blk W g 95 cur→(Builtin.copy_ #[35,35] ty #[.slice (some ⟨g,(i+1)*21,none⟩) (n-i) t,.slice (some ⟨g,i*21,none⟩) (n+1-i) sc]).run Tryz.prog W = .ok (goInt (n-i:Nat)) (W.setCells g ((i+1)*21) (vs.drop (i*21))):=fun W ty t sc hW=>
  fq W _ _ ty 95 g ((i+1)*21) (n-i) t ⟨g,i*21,none⟩ (n+1-i) sc 21 (n-i) (vs.drop (i*21)) Tryz.underlying35 y (by simp only[Nat.min_def];split<;>omega) q (hsrc W hW)
   (fun j h=>by rw[hW.cell,Array.getElem?_eq_getElem (by have I:=h;rw[q]at I;rw[r];omega)];rfl) (fun j _=>hW.frozen _) (fun u Q=>U u (List.mem_of_mem_drop Q))
 obtain⟨H,c⟩:∃ H,H=(cV cur.toList ((i+1)*21) (vs.drop (i*21))).toArray:=⟨_,rfl⟩
 have E:∀ (W:World) ty t,Blk W g 95 H→Blk W b 95 ns.toArray→(Builtin.copy_ #[35,35] ty #[.slice (some ⟨g,i*21,none⟩) (n+1-i) t,.slice (some ⟨b,0,none⟩) 1 1]).run Tryz.prog W = .ok (goInt 1) (W.setCells g (i*21) ns):=fun W ty t hW l=>
  fq W _ _ ty 95 g (i*21) (n+1-i) t ⟨b,0,none⟩ 1 1 21 1 ns Tryz.underlying35 y (by simp only[Nat.min_def];split<;>omega) (by rw[v])
   (fun j u h=>by rw[add_plain,Nat.zero_add,l.cell];simpa using h)
   (fun j h=>by rw[hW.cell,Array.getElem?_eq_getElem (by rw[c];simp only[cV,List.size_toArray,List.length_append,List.length_take,List.length_drop,Array.length_toList,q,r];omega)];rfl) (fun j _=>hW.frozen _) V
 have i1:(0:Int)≤(i:Int):=by omega
 have i2:(i:Int)≤(n:Int):=by omega
 have i3:¬ (i:Int)=(n:Int):=by omega
 have Z:¬ (cap:Int)<(n:Int)+1:=by omega
 have i5:¬ cap=i:=by omega
 have i6:¬ cap=i+1:=by omega
 go_enter Tryz.func98,Tryz.ntmps98
 go_wp2_with (simp only[J])
 refine wp_region_noPanic ?_
 refine wp_region_held_drew (S:=fun W=>W=w.drew∨W=w.drew.setCells g ((i+1)*21) (vs.drop (i*21))) (by kernel_rfl) (.inl rfl) (fun hH=>?_)
 refine tK 0 hH ?_
 refine tK 1 hH ?_
 refine tK 2 hH ?_
 have R:((i:Int)+1).toNat=i+1:=by omega
 have j1:(0:Int)≤(i:Int)+1:=by omega
 have j2:(i:Int)+1≤(n:Int)+1:=by omega
 have j3:(i:Int)≤(n:Int)+1:=by omega
 refine tK 3 hH ?_ (hy:=by(intro W _;have hw:=IntWalk.i64_in ((i:Int)+1) (by omega);go_simp;try with_reducible rfl))
 refine tK 4 hH ?_
 refine tK 5 hH ?_
 refine tK 6 hH ?_
 refine tK 7 hH ?_
 refine tC 8 fun K' hK=>step_copy_runI rfl _ _ 35 35 rfl _ _ rfl rfl (x _ _ _ _ hG.drew) ?_
 refine hK.out _ _ (.inr rfl) fun hH=>?_
 clear hK K' hH
 try simp only[Act.put,an,ai,aj]
 refine tE ?_
 have f:=G w.drew hG.drew
 rw[←c]at f
 have l:Blk (w.drew.setCells g ((i+1)*21) (vs.drop (i*21))) b 95 ns.toArray:=(cG (W0:=w.drew) (bR (Below.refl _ _) _)).block b z.lt (by simpa using D) |>.trans z
 have C:w.grownBy (w.drew.setCells g ((i+1)*21) (vs.drop (i*21))) (some g):=cG (gH (bR (Below.refl _ _) _))
 generalize w.drew.setCells g ((i+1)*21) (vs.drop (i*21))=W1 at f l C ⊢
 go_wp2_with (refine wpList_copy_runI _ rfl _ _ 35 35 rfl _ _ rfl rfl (E _ _ _ f l) ?_)
 go_ret
 refine⟨rfl,⟨?_,.inr ⟨g,cap,_,rfl,N,Blk.sets f ?_,by omega,T,?_,?_⟩⟩,cG C⟩
 ·simp only[List.length_append,List.length_take,List.length_drop,v,p];omega
 ·rw[c];simp only[cV,List.size_toArray,List.length_append,List.length_take,List.length_drop,Array.length_toList,v,p,r];omega
 ·rw[c];simp only[cV,List.size_toArray,List.length_append,List.length_take,List.length_drop,Array.length_toList,v,p,r];omega
 ·rw[c,←L]
  have:=Cj (cur:=cur.toList) (ns:=ns) (a:=i*21) (s:=21) (m:=n*21) (k:=0) v (by omega) (by rw[Array.length_toList,r];omega)
  rw[show i*21+21=(i+1)*21 from by omega,show n*21+21=(n+1)*21 from by omega,List.append_assoc]at this
  exact this
set_option maxHeartbeats 1000000 in
theorem yJ (vs ns:List Value) (n i b base g cap:Nat) (w:World) (hi:i<n) (hn:n≤1000) (hown:w.ownsRow base 95 21 (.slice (some ⟨g,0,none⟩) n cap) n vs) (hbase:base≤w.heap.size) (hroom:cap<n+1) (hb:Blk w b 95 ns.toArray) (hl:ns.length=21) (h1:∀ u ∈ ns,u.oneCell'=true) (h2:∀ u ∈ vs,u.oneCell'=true):
 Calls Tryz.prog 98 #[.slice (some ⟨g,0,none⟩) n cap,.int .i64 (i:Int),.slice (some ⟨b,0,none⟩) 1 1] w fun e w' => ∃ G,e = .returned (.slice (some ⟨w.heap.size,0,none⟩) (n+1) G)∧w'.ownsRow base 95 21 (.slice (some ⟨w.heap.size,0,none⟩) (n+1) G) (n+1) (vs.take (i*21)++ns++vs.drop (i*21))∧w.grownBy w' (some g):=by
 obtain⟨i0,U,am,O,H⟩:=info_parts kK
 obtain⟨A,hc⟩:=hown
 rcases hc with⟨hc,_⟩ | ⟨g',cap',cur,K,h3,h4,h5,h6,h7,h8⟩
 ·cases hc
 injection K with r bb ab
 injection r with r
 injection r with r
 subst r ab
 have hG:Blk w g 95 cur:=h4
 have N:(Tryz.prog.info? 95).map (·.size)=some 21:=by rw[U];simp[O]
 have y:(vs.drop (i*21)).length=(n-i)*21:=by rw[List.length_drop,A,Nat.sub_mul]
 have x:(vs.take (i*21)).length=i*21:=by rw[List.length_take,A];omega
 have hold:(Builtin.firstCells i0.size i (.slice (some ⟨g,0,none⟩) i cap)).run Tryz.prog w.drew = .ok (vs.take (i*21)).toArray w.drew:=by
  have:=run_loadCells_list (P:=Tryz.prog) w.drew ⟨g,0,none⟩ (vs.take (i*21)) (fun j u h=>by
   rw[add_plain,Nat.zero_add,hG.drew.cell]
   rw[←h8,List.take_take,List.getElem?_take]at h
   split at h
   ·simpa using h
   ·cases h)
  rw[x]at this
  simpa [Builtin.firstCells,O] using this
 have p:=Lib.run_append_grow_zeros w 35 3 35 95 i0 _ .i64 .i64 Tryz.underlying35 Tryz.underlying3 U am (some ⟨g,0,none⟩) i cap (vs.take (i*21)) hold (n+1-i) (by omega) (by omega) (by omega) (by omega) (by rw[H];omega) (by rw[H];exact growslice_fits (by omega) (by omega))
 rw[show i+(n+1-i)=n+1 from by omega,show((n+1-i:Nat):Int)=(n:Int)+1-(i:Int) from by omega]at p
 have I:=grownCap_ge w (n+1) cap 95
 have M:=grownCap_le_maxLen w (n+1) cap 95 (by unfold maxLen;omega)
 generalize grownCap w (n+1) cap 95=G at p I M
 generalize z:(vs.take (i*21)).toArray++Builtin.zeroCells _ (n+1-i)++Builtin.zeroCells _ (G-(n+1))=ROW at p
 have ae:ROW.size=G*21:=by
  rw[←z]
  simp only[Array.size_append,List.size_toArray,size_zeroCells,x,Value.cells,List.length_cons,List.length_nil]
  omega
 have ah:ROW.toList.take (i*21)=vs.take (i*21):=by
  rw[←z,Array.toList_append,Array.toList_append,List.append_assoc]
  exact List.take_left' x
 have v:Blk (w.drew.alloc (.cells ROW 95)) w.heap.size 95 ROW:=Blk.new w.drew 95 ROW
 have B:Blk (w.drew.alloc (.cells ROW 95)) g 95 cur:=hG.drew.alloc _
 have T:Blk (w.drew.alloc (.cells ROW 95)) b 95 ns.toArray:=hb.drew.alloc _
 have l:w.grownBy (w.drew.alloc (.cells ROW 95)) (some g):=lF (gH (bR (Below.refl _ _) _)) _
 have bc:=hG.lt
 have ba:=hb.lt
 have Q:¬ g=w.heap.size:=by omega
 have ar:¬ b=w.heap.size:=by omega
 have L:∀ (W:World) ty D,Blk W w.heap.size 95 ROW→Blk W b 95 ns.toArray→(Builtin.copy_ #[35,35] ty #[.slice (some ⟨w.heap.size,i*21,none⟩) (n+1-i) D,.slice (some ⟨b,0,none⟩) 1 1]).run Tryz.prog W = .ok (goInt 1) (W.setCells w.heap.size (i*21) ns):=fun W ty D hW ag=>
  fq W _ _ ty 95 w.heap.size (i*21) (n+1-i) D ⟨b,0,none⟩ 1 1 21 1 ns Tryz.underlying35 N (by simp only[Nat.min_def];split<;>omega) (by rw[hl])
   (fun j u h=>by rw[add_plain,Nat.zero_add,ag.cell];simpa using h)
   (fun j h=>by rw[hW.cell,Array.getElem?_eq_getElem (by omega)];rfl) (fun j _=>hW.frozen _) h1
 obtain⟨Z,t⟩:∃ Z,Z=(cV ROW.toList (i*21) ns).toArray:=⟨_,rfl⟩
 have V:Z.size=G*21:=by
  rw[t]
  simp only[cV,List.size_toArray,List.length_append,List.length_take,List.length_drop,Array.length_toList,hl,ae]
  omega
 have X:∀ (W:World) ty D sc,Blk W w.heap.size 95 Z→Blk W g 95 cur→(Builtin.copy_ #[35,35] ty #[.slice (some ⟨w.heap.size,(i+1)*21,none⟩) (n-i) D,.slice (some ⟨g,i*21,none⟩) (n-i) sc]).run Tryz.prog W = .ok (goInt (n-i:Nat)) (W.setCells w.heap.size ((i+1)*21) (vs.drop (i*21))):=fun W ty D sc hW ac=>
  fq W _ _ ty 95 w.heap.size ((i+1)*21) (n-i) D ⟨g,i*21,none⟩ (n-i) sc 21 (n-i) (vs.drop (i*21)) Tryz.underlying35 N (by simp only[Nat.min_def];split<;>omega) y
   (fun j u h=>by
    rw[add_plain,ac.cell]
    rw[List.getElem?_drop,←h8,List.getElem?_take]at h
    split at h
    ·simpa using h
    ·cases h)
   (fun j h=>by rw[hW.cell,Array.getElem?_eq_getElem (by have ad:=h;rw[y]at ad;omega)];rfl) (fun j _=>hW.frozen _) (fun u hu=>h2 u (List.mem_of_mem_drop hu))
 have i1:(0:Int)≤(i:Int):=by omega
 have i2:(i:Int)≤(n:Int):=by omega
 have i3:¬ (i:Int)=(n:Int):=by omega
 have i4:(cap:Int)<(n:Int)+1:=by omega
 have i5:¬ cap=i:=by omega
 have i6:¬ G=i:=by omega
 have i7:¬ G=i+1:=by omega
 have aw:((i:Int)+1).toNat=i+1:=by omega
 have j1:(0:Int)≤(i:Int)+1:=by omega
 have j2:(i:Int)+1≤(n:Int)+1:=by omega
 have j3:(i:Int)≤(n:Int)+1:=by omega
 have j4:(i:Int)≤(cap:Int):=by omega
 go_enter Tryz.func98,Tryz.ntmps98
 go_upto_region 10 with(at_builtin;go_must (refine Lib.wpList_append_run _ rfl _ _ _ _ rfl _ _ rfl rfl _ _ p ?_))
 clear p hold
 have K:(w.alloc (.cells ROW 95)).drew=w.drew.alloc (.cells ROW 95):=rfl
 try rw[K]
 generalize w.drew.alloc (.cells ROW 95)=E at v B T l K ⊢
 clear K
 go_upto_region 11 with(refine wpList_copy_runI _ rfl _ _ 35 35 rfl _ _ rfl rfl (L _ _ _ v T) ?_)
 have q:=Blk.sets (vs:=ns) (o:=i*21) v (by omega)
 rw[←t]at q
 have d:E.grownBy (E.setCells w.heap.size (i*21) ns) (some w.heap.size):=cG (bR (Below.refl _ _) _)
 have F:Blk (E.setCells w.heap.size (i*21) ns) g 95 cur:=(d.block g B.lt (by simpa using Q)).trans B
 have ap:w.heap.size<E.heap.size:=v.lt
 have c:w.grownBy (E.setCells w.heap.size (i*21) ns) (some g):=⟨d.os.trans l.os,d.tape.trans l.tape,d.output.trans l.output,Nat.le_trans l.size d.size,fun k hk C=>(d.block k (by omega) (by simp;omega)).trans (l.block k hk C)⟩
 generalize E.setCells w.heap.size (i*21) ns=J at q F c ⊢
 refine wp_region_noPanic ?_
 refine wp_region_held_drew (S:=fun W=>W=J.drew∨W=J.drew.setCells w.heap.size ((i+1)*21) (vs.drop (i*21))) (by kernel_rfl) (.inl rfl) (fun hH=>?_)
 refine tK 0 hH ?_
 refine tK 1 hH ?_
 refine tK 2 hH ?_
 refine tK 3 hH ?_ (hy:=by(intro W _;have hw:=IntWalk.i64_in ((i:Int)+1) (by omega);go_simp;try with_reducible rfl))
 refine tK 4 hH ?_
 refine tK 5 hH ?_
 refine tK 6 hH ?_
 refine tK 7 hH ?_
 refine tC 8 fun K' hK=>step_copy_runI rfl _ _ 35 35 rfl _ _ rfl rfl (X _ _ _ _ q.drew F.drew) ?_
 refine hK.out _ _ (.inr rfl) fun hH=>?_
 clear hK K' hH
 try simp only[Act.put,an,ai,aj]
 refine tE ?_
 have ao:w.heap.size<J.heap.size:=q.lt
 have f:J.grownBy (J.drew.setCells w.heap.size ((i+1)*21) (vs.drop (i*21))) (some w.heap.size):=cG (gH (bR (Below.refl _ _) _))
 have al:=Blk.sets (vs:=vs.drop (i*21)) (o:=(i+1)*21) q.drew (by omega)
 go_wp2
 go_ret
 refine⟨G,rfl,⟨?_,.inr ⟨w.heap.size,G,_,rfl,hbase,al,I,M,?_,?_⟩⟩,⟨f.os.trans c.os,f.tape.trans c.tape,f.output.trans c.output,Nat.le_trans c.size f.size,fun k hk C=>(f.block k (by omega) (by simp;omega)).trans (c.block k hk C)⟩⟩
 ·simp only[List.length_append,x,y,hl];omega
 ·simp only[cV,List.size_toArray,List.length_append,List.length_take,List.length_drop,Array.length_toList,A,V];omega
 ·rw[t]
  have:=xY (R:=ROW.toList) (ns:=ns) (Y:=vs.drop (i*21)) (a:=i*21) (s:=21) (m:=(n+1)*21) hl (by rw[y];omega) (by rw[Array.length_toList];omega)
  rw[show i*21+21=(i+1)*21 from by omega,ah,List.append_assoc]at this
  exact this
theorem Fz (vs ns:List Value) (n i b base:Nat) (v:Value) (w:World) (x:i≤n) (o:n≤1000) (hown:w.ownsRow base 95 21 v n vs) (hbase:base≤w.heap.size) (d:Blk w b 95 ns.toArray) (k:v.ownBlock≠some b) (m:ns.length=21) (l:∀ u ∈ ns,u.oneCell'=true) (p:∀ u ∈ vs,u.oneCell'=true):
 Calls Tryz.prog 98 #[v,.int .i64 (i:Int),.slice (some ⟨b,0,none⟩) 1 1] w fun e w' => ∃ v',e = .returned v'∧w'.ownsRow base 95 21 v' (n+1) (vs.take (i*21)++ns++vs.drop (i*21))∧w.grownBy w' v.ownBlock∧(v'.ownBlock=v.ownBlock∨v'.ownBlock=some w.heap.size):=by
 rcases Nat.lt_or_ge i n with c | t
 ·rcases hown.2 with⟨y,r⟩ | ⟨g,cap,cur,rfl,r⟩
  ·omega
  ·have a:¬ b=g:=fun e=>k (by rw[e];rfl)
   rcases Nat.lt_or_ge cap (n+1) with j | j
   ·refine(yJ vs ns n i b base g cap w c o hown hbase j d m l p).mono ?_
    rintro e w' ⟨G,rfl,h,f⟩
    exact⟨_,rfl,h,f,.inr rfl⟩
   ·refine(En vs ns n i b base g cap w c o hown j d m a l p).mono ?_
    rintro e w' ⟨rfl,h,f⟩
    exact⟨_,rfl,h,f,.inl rfl⟩
 ·obtain rfl:i=n:=by omega
  have q:vs.take (i*21)=vs:=List.take_of_length_le (by rw[hown.1];exact Nat.le_refl _)
  have s:vs.drop (i*21) = []:=List.drop_of_length_le (by rw[hown.1];exact Nat.le_refl _)
  rw[q,s,List.append_nil]
  exact CA vs ns i b base v w o hown hbase d m l
end
section
open Go.RowKit Go.ChangeShapes
theorem oC {xs:List Cmp} (A:Option Addr) (n c:Nat) (X:List Nat) (w:World) (hX:XOk X w) (d:Sl aI w X A n c xs) (D:n≤100000):
 Calls Tryz.prog 93 #[.slice A n c] w fun e w' => ∃ v vs,e = .returned v∧aC aI w X vs xs∧w'.ownsRow w.heap.size 95 21 v n vs∧Below w.heap.size w w':=by
 have q:∀ (w:World) (a:Option Addr) (n c n' c':Nat),(binOp .eql 35 (.slice a n c) (.slice none n' c')).run Tryz.prog w = .ok (.bool a.isNone) w:=fun w a n c n' c'=>Lib.run_eql_slice_nil w _ _ a n c n' c' Tryz.underlying35
 obtain⟨y,l,m,g,h⟩:=info_parts kK
 obtain⟨vs,f,-,r⟩:=d.reads
 have hnil:=d.none_
 have x:=d.le
 have i:=Lib.hid r
 clear d r
 rcases A with _ | ad
 ·have j:n=0:=by have:=hnil rfl;omega
  subst j
  have o:vs = []:=List.eq_nil_of_length_eq_zero (by simpa using f.1)
  have s:=Lib.hid o
  clear f hnil o
  go_enter Tryz.func93,Tryz.ntmps93
  go_wp2
  go_ret
  exact⟨_,vs,rfl,i.out,⟨by rw[s.out];rfl,.inl ⟨rfl,rfl⟩⟩,Below.refl _ _⟩
 ·have z:=Lib.hid f;clear f
  have t:=Lib.hid (aC.one_ i.out)
  go_enter Tryz.func93,Tryz.ntmps93
  go_wp2_with (at_builtin;go_must (refine bf _ rfl _ _ 35 rfl w.heap.size 95 y _ 21 192 Tryz.underlying35 l m g h rfl (by omega) _ 0 [] rfl (cY w 95 w.heap.size (Nat.le_refl _) 21) w.heap.size (some ad) n c _ rfl (z.out.alloc (Nat.le_refl _) _) t.out (by unfold maxLen;omega) (by omega) (by simp) ?_);intro B C b k p)
  go_ret
  have u:=cX ((Below.refl w.heap.size w).alloc (Nat.le_refl _) _) k (cY w 95 w.heap.size (Nat.le_refl _) 21) (Nat.le_refl _) (by simp)
  exact⟨B,vs,rfl,i.out,by simpa using b,u⟩
theorem wI (s:St) (b:Evt):iQ s b (cH s b):=by
 unfold cH
 by_cases d:dz b=0
 ·rw[if_neg (by simpa using d)]
  by_cases f:b.q=s.q+1
  ·rw[if_neg (by simpa using f)]
   by_cases g:b.a<s.a
   ·rw[if_pos g];exact yW d rfl f g
   ·rw[if_neg g]
    cases hc:s.cs[iF s.cs b.cm]? with
    | none=>
      have h:ga s.cs b.cm = -1:=by unfold ga;rw[if_neg (show ¬ fI Cmp.nm s.cs b.cm<s.cs.length from Nat.not_lt.2 (List.getElem?_eq_none_iff.1 hc))]
      by_cases e:b.k=1
      ·simp only[e,if_true]
       by_cases i:s.cs.length=12
       ·rw[if_pos i];exact yY d h f g e i
       ·rw[if_neg i];exact Dp d h f g e i
      ·simp only[e,if_false];exact Bi d h f g e
    | some c=>
      have h:ga s.cs b.cm=(iF s.cs b.cm:Int):=by unfold ga;rw[if_pos (show fI Cmp.nm s.cs b.cm<s.cs.length from(List.getElem?_eq_some_iff.1 hc).1)]
      by_cases e:b.k=1
      ·simp only[e,if_true];exact vK d h f g e
      ·simp only[e,if_false];exact yF d h hc f g e
  ·rw[if_pos (by simpa using f)];exact AN d rfl f
 ·rw[if_pos (by simpa using d)];exact CJ d
def rK (s:St) (er:Int) (X:List Nat) (w:World) (e:Ending) (w':World):Prop := ∃ A n cp,e = .returned (.tuple #[.agg #[.slice A n cp,.int .i64 s.q,.int .i64 s.a],.int .i64 er])∧Below w.heap.size w w'∧Sl aI w' X A n cp s.cs
theorem zT (s:St) (b:Evt) (A:Option Addr) (n f:Nat) (X:List Nat) (w:World) (hX:XOk X w) (j:Sl aI w X A n f s.cs) (h:bD s) (g:b.cm.size≤maxLen) (k:cH s b≠0):
 Calls Tryz.prog 38 #[.agg #[.slice A n f,.int .i64 s.q,.int .i64 s.a],.agg (evA b)] w (rK s (cH s b) X w):=by
 simp only[evA]
 go_enter Tryz.func38,Tryz.ntmps38
 go_wp2_with fail
 refine(hstart hX).cl fun W K=>?_
 have K:=K.ksl0 j
 clear j
 refine(wI s b A n f _ W K.xok (K.sl 0 rfl) h g).mono ?_
 generalize d:cH s b=m at k ⊢
 have l:=Lib.hid d
 clear d
 rintro e p ⟨rfl,i⟩
 have K:=K.on i
 clear i
 have o:=K.r 2 rfl
 have c0:=K.c 0 rfl
 go_wp2_with (refine K.lw fun W K=>?_;refine K.sr 0 rfl fun W K=>?_)
 exact K.rc2 0 rfl rfl ⟨A,n,f,by rw[l.out];rfl,K.below,K.slb 0 rfl⟩
end
section
open Go.RowKit
theorem vY {xs:List _} (A:Option Addr) (n c:Nat) (X:List Nat) (w:World) (hX:XOk X w) (d:Sl ax w X A n c xs) (D:n≤100000):
 Calls Tryz.prog 138 #[.slice A n c] w fun e w' => ∃ v vs,e = .returned v∧aC ax w X vs xs∧w'.ownsRow w.heap.size 110 3 v n vs∧Below w.heap.size w w':=by
 have q:∀ (w:World) (a:Option Addr) (n c n' c':Nat),(binOp .eql 28 (.slice a n c) (.slice none n' c')).run Tryz.prog w = .ok (.bool a.isNone) w:=fun w a n c n' c'=>Lib.run_eql_slice_nil w _ _ a n c n' c' Tryz.underlying28
 obtain⟨y,l,m,g,h⟩:=info_parts kG
 obtain⟨vs,f,-,r⟩:=d.reads
 have hnil:=d.none_
 have x:=d.le
 have i:=Lib.hid r
 clear d r
 rcases A with _ | ad
 ·have j:n=0:=by have:=hnil rfl;omega
  subst j
  have o:vs = []:=List.eq_nil_of_length_eq_zero (by simpa using f.1)
  have s:=Lib.hid o
  clear f hnil o
  go_enter Tryz.func138,Tryz.ntmps138
  go_wp2
  go_ret
  exact⟨_,vs,rfl,i.out,⟨by rw[s.out];rfl,.inl ⟨rfl,rfl⟩⟩,Below.refl _ _⟩
 ·have z:=Lib.hid f;clear f
  have t:=Lib.hid (aC.one_ i.out)
  go_enter Tryz.func138,Tryz.ntmps138
  go_wp2_with (at_builtin;go_must (refine bf _ rfl _ _ 28 rfl w.heap.size 110 y _ 3 64 Tryz.underlying28 l m g h rfl (by omega) _ 0 [] rfl (cY w 110 w.heap.size (Nat.le_refl _) 3) w.heap.size (some ad) n c _ rfl (z.out.alloc (Nat.le_refl _) _) t.out (by unfold maxLen;omega) (by omega) (by simp) ?_);intro B C b k p)
  go_ret
  have u:=cX ((Below.refl w.heap.size w).alloc (Nat.le_refl _) _) k (cY w 110 w.heap.size (Nat.le_refl _) 3) (Nat.le_refl _) (by simp)
  exact⟨B,vs,rfl,i.out,by simpa using b,u⟩
end
section
open Go.RowKit
set_option maxHeartbeats 1000000 in
theorem sv (nm:ByteArray) (l:List UInt8) (A:Option Addr) (n c k:Nat) (X:List Nat) (w:World) (hX:XOk X w) (f:Sl ak w X A n c l) (g:k≤n):
 Calls Tryz.prog 71 #[.string nm,.slice A n c,.int .i64 (k:Int)] w fun e w' => ∃ A1 c1 A2 c2,e = .returned (.agg #[.string nm,.slice A1 k c1,.slice A2 (n-k) c2])∧Sl ak w' X A1 k c1 (l.take k)∧Sl ak w' X A2 (n-k) c2 (l.drop k)∧Below w.heap.size w w':=by
 have b:=f.le
 have o:(0:Int)≤(k:Int):=by omega
 have m:(k:Int)≤(n:Int):=by omega
 have p:(n:Int)≤(c:Int):=by omega
 have j:(k:Int)≤(c:Int):=by omega
 have i:=Lib.hid f
 clear f
 go_enter Tryz.func71,Tryz.ntmps71
 go_upto_region 1 with(fail)
 refine(hstart hX).cw fun W K=>?_
 have K:=K.ksl0 i.out
 refine K.rgt (fun V h=>h.tl) fun W K=>?_
 refine tK 0 K.tl ?_
 refine tK 1 K.tl ?_
 refine tK 2 K.tl ?_
 refine tK 3 K.tl ?_
 refine tK 4 K.tl ?_
 refine tK 5 K.tl ?_
 refine tK 6 K.tl ?_
 refine tK 7 K.tl ?_
 refine tK 8 K.tl ?_
 refine tK 9 K.tl ?_
 refine tK 10 K.tl ?_
 refine tK 11 K.tl ?_
 refine tK 12 K.tl ?_
 have d:=((K.sl 0 rfl).pre g).cap (Nat.le_refl k) (Nat.le_trans g b)
 have a:=((K.sl 0 rfl).cap (Nat.le_refl n) b).suf g
 rw[show k*ak.size=k from Nat.mul_one k]at a
 have K:=(K.ksl a).ksl d
 clear d a
 generalize (if n=k then A else Option.map (fun x=>x.add k) A)=A2 at K ⊢
 refine tSt 13 K 0 rfl (fun U h=>h.tl.ft.ft) fun U K=>?_
 refine tE ?_
 go_wp2
 exact K.rc1 0 rfl rfl ⟨A,k,A2,n-k,rfl,K.slb 0 rfl,K.slb 1 rfl,K.below⟩
end
section
open Go.RowKit
theorem jN {α:Type} {f:α→ByteArray} (c:α):∀ l:List α,(fO f c l).length=l.length+1
 | []=>rfl
 | d::l=>by
   unfold fO
   split
   ·rw[List.length_cons,jN c l,List.length_cons]
   ·rfl
set_option maxHeartbeats 1000000 in
theorem uC (f:Fil) (c:Option Addr) (g a:Nat) (h:Option Addr) (d b:Nat) (fs:List Fil) (G w:World) (X:List Nat) (L:List Itm) (F:List Fact) (v:Value) (n:Nat) (vs:List Value) (K:HH G [] X w (.row 110 3 v n vs::L) (Ra.fact ax vs fs::F)) (O:n≤64) (k:Srt Fil.nm fs)
 (D:Sl ak w (Exs (.row 110 3 v n vs::L)++X) c g a f.su) (H:Sl ak w (Exs (.row 110 3 v n vs::L)++X) h d b f.lo) (C:f.nm.size≤maxLen):
 Calls Tryz.prog 201 #[v,.agg (kR f c g a h d b).toArray] w fun e w' => ∃ v' vs',e = .returned v'∧HH G [] X w' (.row 110 3 v' (n+1) vs'::L) (Ra.fact ax vs' (fO Fil.nm f fs)::F):=by
 obtain⟨A,E,rfl,-⟩:=aK (K.row 0 rfl)
 have hlen:n=fs.length:=by
  have M:=(K.ra 0 rfl).length
  have S:=(K.row 0 rfl).1
  have l:ax.size=3:=rfl
  rw[l]at M
  omega
 have x:=Lib.hid hlen
 have K:=(K.kn (f:=Sl.fact ak h d b f.lo) H).kn (f:=Sl.fact ak c g a f.su) D
 clear D H hlen
 simp only[kR]
 go_enter Tryz.func201,Tryz.ntmps201
 go_wp2_with fail
 refine K.cl fun W K=>?_
 obtain⟨R,P,l,q⟩:=K.out.done_row (s:=ax) 1 rfl (K.ra 2 rfl) (by decide) (by simp)
 injection l with l N J
 subst l J
 refine(Gq fs f.nm A n E _ W q.xok' (q.sl 0 rfl) k O).mono ?_
 rintro e Q ⟨i,bb,rfl,I,t,r,y⟩
 have K:=K.on y
 clear q y N
 go_upto_region 2 with(fail)
 generalize Value.slice A n E=v at K ⊢
 go_wp2_with (refine K.ld 0 rfl ?_)
 refine K.cl fun W K=>?_
 have hone:∀ u ∈ kR f c g a h d b,u.oneCell'=true:=ax.one (w:=W) (X:=Exs _++X) ⟨c,g,a,h,d,b,rfl,K.sl 0 rfl,K.sl 1 rfl,C⟩
 refine(Fy vs (kR f c g a h d b) n i _ 0 v W I (by omega) (K.row 2 rfl) (Nat.zero_le _) (K.out.blk 0 rfl) (fun e=>K.apart (i:=2) (j:=0) (by decide) rfl rfl _ e rfl) rfl hone (aC.one_ (K.ra 2 rfl))).mono ?_
 rintro e T ⟨v',rfl,B,z,o⟩
 have K:=K.app 2 rfl B z o
 have m:=(((K.ra 2 rfl).take i).append (aC.single (s:=ax) ⟨c,g,a,h,d,b,rfl,K.sl 0 rfl,K.sl 1 rfl,C⟩)).append ((K.ra 2 rfl).drop i)
 have K:=K.kra m
 clear m B z o hone
 go_wp2
 go_ret
 have p:fO Fil.nm f fs=fs.take i ++ [f]++fs.drop i:=by rw[mN (i:=i) (by have:=x.out;omega) t r];simp
 rw[p]
 exact⟨v',_,rfl,(K.tl.tl.out.forget (List.Sublist.cons_cons _ (List.Sublist.cons _ (List.Sublist.cons _ (List.Sublist.cons _ (List.Sublist.refl _)))))).hh⟩
end
section
open Go.RowKit
theorem HH.rm {c W:World} {M X:List Nat} {L:List Itm} {F:List Fact} {g:Nat} {t:TypeId} {cs:Array Value} (K:HH c M X W L F) (a:Itm.box g t cs ∈ L):∀ j,W.cell? ⟨g,j,none⟩=cs[j]?:=by
 obtain⟨i,b⟩:=List.getElem?_of_mem a
 exact K.r i b
def kW (fid:FuncId) (caps:Array Value) (L:List Itm) (F:List Fact) (fs fs':List Fil):Prop:=
 ∀ (w0 W:World) (X:List Nat) (L1:List Itm) (F1:List Fact) (v:Value) (vs:List Value),HH w0 [] X W (.row 110 3 v fs.length vs::L1) (Ra.fact ax vs fs::F1)→(∀ x ∈ L,x ∈ L1)→(∀ f ∈ F,f ∈ F1) →
   Calls Tryz.prog fid (#[v]++caps) W fun e W' => ∃ v' vs',e = .returned v'∧HH w0 [] X W' (.row 110 3 v' fs'.length vs'::L1) (Ra.fact ax vs' fs'::F1)
theorem kW.more {fid:FuncId} {caps:Array Value} {L L2:List Itm} {F F2:List Fact} {fs fs':List Fil} (h:kW fid caps L F fs fs') (b:∀ x ∈ L,x ∈ L2) (f:∀ x ∈ F,x ∈ F2):kW fid caps L2 F2 fs fs':=
 fun c W X d e v vs K hL hF=>h c W X d e v vs K (fun x a=>hL x (b x a)) (fun x a=>hF x (f x a))
theorem wo (nm:ByteArray) (g:Nat) (t:TypeId) (fs:List Fil) (f:fs.length≤64) (a:Srt Fil.nm fs) (b:nm.size≤maxLen):kW 200 #[.pointer (some ⟨g,0,none⟩)] [.box g t #[.string nm]] [] fs (fO Fil.nm ⟨nm,[],[]⟩ fs):=by
 intro d w X L F v vs K hL hF
 have c0:=K.rm (List.mem_cons_of_mem _ (hL _ (List.mem_singleton.2 rfl)))
 show Calls _ _ #[v,.pointer (some ⟨g,0,none⟩)] _ _
 go_enter Tryz.func200,Tryz.ntmps200
 go_wp2_with fail
 refine(uC ⟨nm,[],[]⟩ none 0 0 none 0 0 fs d _ X L F v fs.length vs K.to f a Sl.nil_ Sl.nil_ b).mono ?_
 rintro e h ⟨v',vs',rfl,K⟩
 go_wp2
 go_ret
 have c:(fO Fil.nm ⟨nm,[],[]⟩ fs).length=fs.length+1:=jN _ _
 rw[c]
 exact⟨v',vs',rfl,K⟩
set_option maxHeartbeats 1000000 in
theorem gG (fid:FuncId) (caps:Array Value) (L:List Itm) (F:List Fact) (fs fs':List Fil) (room:Int) (A:Option Addr) (n b:Nat) (g w:World) (X:List Nat) (K:HH g [] X w L (Sl.fact ax A n b fs::F)) (z:n≤64) (hact:kW fid caps L F fs fs') (t:∀ args w,(callFunc fid args).run Tryz.prog w = .ok (.enter fid args) w):
 Calls Tryz.prog 69 #[.agg #[.slice A n b,.int .i64 room,.int .i64 (-1),.bool false],.func (.func fid) #[] caps] w fun e w' => ∃ B c,e = .returned (.tuple #[.agg #[.slice B fs'.length c,.int .i64 room,.int .i64 (-1),.bool false],.int .i64 0])∧HH g [] X w' L (Sl.fact ax B fs'.length c fs'::Sl.fact ax A n b fs::F):=by
 have m:=Lib.hid (K.sl 0 rfl).len
 go_enter Tryz.func69,Tryz.ntmps69
 go_upto_region 1 with(fail)
 refine K.cw fun W K=>?_
 have j:=K.r 1 rfl
 go_wp2_with fail
 refine(vY A n b _ W K.xok (K.sl 0 rfl) (by omega)).mono ?_
 rintro e k ⟨v,vs,rfl,a,i,h⟩
 have K:=(K.kra a).nrow h i
 clear h a i j
 obtain rfl:n=fs.length:=m.out
 go_wp2_with fail
 refine(hact g k X _ _ v vs K (fun x u=>by simp[u]) (fun f q=>by simp[q])).mono ?_
 rintro e E ⟨v',vs',rfl,K⟩
 obtain⟨B,c,rfl,-⟩:=aK (K.row 0 rfl)
 have o:=K.c 2 rfl
 go_upto_region 7 with(fail)
 refine K.cw fun W K=>?_
 clear o
 go_wp2_with (first | refine K.ld 2 rfl ?_ | (refine K.lw fun W K=>?_;refine K.sr 1 rfl fun W K=>?_))
 obtain⟨D,y,d,p⟩:=K.out.done_row (s:=ax) 0 rfl (K.ra 0 rfl) (by decide) (by simp)
 injection d with d C l
 subst d l
 refine K.rc2 1 rfl rfl ⟨_,_,rfl,?_⟩
 exact((p.hh).tl.tl.out.forget (List.Sublist.cons_cons _ (List.Sublist.cons _ (List.Sublist.refl _)))).hh
set_option maxHeartbeats 1000000 in
theorem oU (d:Dk) (nm:ByteArray) (A:Option Addr) (n h:Nat) (X:List Nat) (w:World) (hX:XOk X w) (j:Sl ax w X A n h d.fs) (g:cj d) (a:fnB nm=true) (i:findD d.fs nm = -1) (p:n<64):
 Calls Tryz.prog 131 #[.agg #[.slice A n h,.int .i64 d.room,.int .i64 (-1),.bool false],.string nm] w fun e w' => ∃ B c,e = .returned (.tuple #[.agg #[.slice B (n+1) c,.int .i64 d.room,.int .i64 (-1),.bool false],.int .i64 0])∧Sl ax w' X B (n+1) c (fO Fil.nm ⟨nm,[],[]⟩ d.fs)∧Below w.heap.size w w':=by
 have f:nm.size≤maxLen:=by unfold fnB at a;simp at a;unfold maxLen;omega
 have m:=Lib.hid j.len
 have l:=Lib.hid i
 have t:¬ (n:Int)=64:=by omega
 clear i
 go_enter Tryz.func131,Tryz.ntmps131
 go_wp2_with fail
 refine(hstart hX).cl fun W K=>?_
 have K:=(K.ksl0 j).one (s:=dx) (x:=nm) ⟨rfl,f⟩
 clear j
 refine(fj d A n h [nm] _ 1 1 _ W K.xok (K.sl 1 rfl) (K.sl 0 rfl) (by omega) (by simp[a]) g).mono ?_
 rintro e q ⟨rfl,b⟩
 have K:=(K.on b).ft
 clear b
 have k:=K.r 2 rfl
 have o:=K.r 1 rfl
 go_wp2_with fail
 refine(fy d.fs d.room nm A n h _ _ K.xok (K.sl 0 rfl) (by omega)).mono ?_
 rw[l.out]
 rintro e v ⟨rfl,b⟩
 have K:=K.on b
 clear b o k
 have k:=K.r 2 rfl
 go_wp2_with fail
 refine(gG 200 #[.pointer (some ⟨w.heap.size+1,0,none⟩)] _ _ d.fs (fO Fil.nm ⟨nm,[],[]⟩ d.fs) d.room A n h w _ X K (by omega) ((wo nm _ 9 d.fs (by have:=m.out;omega) g.2.2.2.2.1 f).more (by simp) (by simp)) Tryz.call200).mono ?_
 rw[jN,←m.out]
 rintro e u ⟨B,c,rfl,K⟩
 clear k
 go_wp2_with (refine K.lw fun W K=>?_;refine K.sr 0 rfl fun W K=>?_)
 exact K.rc2 0 rfl rfl ⟨_,_,rfl,K.slb 0 rfl,K.below⟩
end
section
open Go.RowKit
theorem nX (T:List UInt8) (ls:List (List UInt8)) (hT:ls.flatten=T) (A:Option Addr) (m c:Nat) (X:List Nat) (w:World) (hX:XOk X w) (a:Sl (uS ak) w X A m c ls) (b:m≤8) (d:T.length≤90000):
 Calls Tryz.prog 49 #[.slice A m c] w fun e w' => ∃ B k,e = .returned (.slice B T.length k)∧Sl ak w' X B T.length k T∧Below w.heap.size w w':=by
 subst hT
 exact BH ls A m c X w hX a b d
set_option maxHeartbeats 2000000 in
theorem vD (x:Fil) (bs:List UInt8) (i Q O Z:Nat) (t1 t2 t3:TypeId) (A:Option Addr) (n c:Nat) (fs:List Fil) (hn:fs.length≤64) (u:fs[i]?=some x) (hlen:x.all.length+bs.length≤90000) (H:x.nm.size≤maxLen):
 kW 202 #[.pointer (some ⟨Q,0,none⟩),.pointer (some ⟨O,0,none⟩),.pointer (some ⟨Z,0,none⟩)] [.box Q t1 #[.int .i64 (i:Int)],.box O t2 #[.string x.nm],.box Z t3 #[.slice A n c]] [Sl.fact ak A n c bs] fs (fs.set i ⟨x.nm,x.su,x.lo++bs⟩):=by
 intro w0 w X L F v vs K hL hF
 have c1:=K.rm (List.mem_cons_of_mem _ (hL _ (List.Mem.head _)))
 show Calls _ _ #[v,.pointer (some ⟨Q,0,none⟩),.pointer (some ⟨O,0,none⟩),.pointer (some ⟨Z,0,none⟩)] _ _
 obtain⟨B,cp,rfl,-⟩:=aK (K.row 0 rfl)
 have hi:=(List.getElem?_eq_some_iff.1 u).1
 obtain⟨g,rfl⟩:∃ g,B=some ⟨g,0,none⟩:=by
  rcases(K.row 0 rfl).2 with⟨h,_⟩ | ⟨g,cap,cur,h,_⟩
  ·injection h with o t z;omega
  ·injection h with o t z;exact⟨g,o⟩
 obtain⟨r,⟨C,d,S,R,E,M,rfl,o,t,z⟩,ab⟩:=rowAt (K.ra 0 rfl) (e:=110) (g:=g) (n:=fs.length) (cap:=cp) u
 have K:=(K.ksl t).ksl o
 have I:=Lib.hid (ab w (K.row 0 rfl))
 have i1:(0:Int)≤(i:Int):=by omega
 have i2:(i:Int)<(fs.length:Int):=by omega
 have ad:vs.length=fs.length*3:=(K.ra 2 rfl).length
 have f:=Lib.hid o.len
 have ac:=Lib.hid t.len
 clear o t z hi
 go_enter Tryz.func202,Tryz.ntmps202
 go_upto_region 2 with(first | refine bF I.out ?_ | (refine K.lw fun W K=>?_;refine K.sr 0 rfl fun W K=>?_))
 have D:=fun {a b:Itm} {l:List Itm}=>List.Sublist.cons_cons a (List.Sublist.cons b (List.Sublist.refl l))
 refine K.rgt (fun V h=>h.drop D) fun W K=>?_
 refine tK 0 (K.drop D) ?_
 refine tL 1 (fun _ h=>h.rm (List.mem_cons_of_mem _ (hL _ (List.Mem.head _)))) (K.drop D) ?_
 refine tL 2 (fun _ h=>h.rm (List.mem_cons_of_mem _ (hL _ (List.Mem.tail _ (List.Mem.head _))))) (K.drop D) ?_
 refine tK 3 (K.drop D) ?_
 refine tL 4 (fun _ h=>h.r 0 rfl) (K.drop D) ?_
 refine tK 5 (K.drop D) ?_
 refine tL 6 (fun _ h=>h.r 0 rfl) (K.drop D) ?_
 refine tL 7 (fun _ h=>h.rm (List.mem_cons_of_mem _ (hL _ (List.Mem.tail _ (List.Mem.tail _ (List.Mem.head _)))))) (K.drop D) ?_
 refine tK 10 (K.drop D) ?_
 refine tL 11 (fun _ h=>h.r 0 rfl) (K.drop D) ?_
 refine tK 12 (K.drop D) ?_
 refine tC 8 fun K' hK=>?_
 go_simp
 have K:=K.to (W':=W.alloc (.cells #[.slice C d S,.slice R E M,.slice A n c] 50))
 refine hK.out _ _ (K.tl.drop D) fun _=>?_
 clear hK K'
 try simp only[Act.put,an,ai,aj]
 have K:=K.many (s:=uS ak) (n:=3) (xs:=[x.su,x.lo,bs]) ⟨_,_,rfl,⟨C,d,S,rfl,K.tl.sl 0 rfl⟩,_,_,rfl,⟨R,E,M,rfl,K.tl.sl 1 rfl⟩,_,_,rfl,⟨A,n,c,rfl,K.tl.out.facts (Sl.fact ak A n c bs) (List.Mem.tail _ (List.Mem.tail _ (List.Mem.tail _ (hF _ (List.Mem.head _)))))⟩,rfl⟩ rfl (by omega)
 obtain⟨T,hT⟩:∃ T,T=x.su++(x.lo++bs):=⟨_,rfl⟩
 have y:T.length≤90000:=by rw[hT];unfold Fil.all at hlen;simp only[List.length_append]at hlen ⊢;omega
 have P:d≤T.length:=by rw[hT,List.length_append];have:=f.out;omega
 have N:=Lib.hid (show T.take d=x.su by rw[hT,f.out,List.take_left])
 have J:=Lib.hid (show T.drop d=x.lo++bs by rw[hT,f.out,List.drop_left])
 have G:=Lib.hid (show [x.su,x.lo,bs].flatten=T from by rw[hT];simp)
 clear hT
 generalize W.alloc (.cells #[.slice C d S,.slice R E M,.slice A n c] 50)=W1 at K ⊢
 refine tC 9 fun K' hK=>?_
 go_simp
 refine(nX T [x.su,x.lo,bs] G.out _ 3 3 _ _ K.xok (K.sl 0 rfl) (by omega) y).mono ?_
 rintro e w4 ⟨B,k,rfl,p,q⟩
 have K:=((K.on q).ft).ksl p
 refine hK.out _ _ ((K.ft).drop D) fun _=>?_
 clear hK K' q p
 try simp only[Act.put,an,ai,aj]
 refine tC 13 fun K' hK=>?_
 go_simp
 refine(sv x.nm T B _ k d _ _ K.xok (K.sl 0 rfl) P).mono ?_
 rintro e w5 ⟨B1,k1,B2,k2,rfl,j,m,q⟩
 rw[N.out]at j
 rw[J.out]at m
 have K:=(((K.on q).ft).ksl m).ksl j
 refine hK.out _ _ ((K.ft.ft).drop D) fun _=>?_
 clear hK K' q j m
 try simp only[Act.put,an,ai,aj]
 refine tK 14 (K.ft.ft.drop D) ?_
 refine tRs (k:=i*3) (cells:=(kR ⟨x.nm,x.su,x.lo++bs⟩ B1 d k1 B2 (T.length-d) k2).toArray) 15 K 1 rfl (by show i*3+3≤vs.length;have:=(List.getElem?_eq_some_iff.1 u).1;omega) (fun U h=>h.ft.ft.drop D) fun U K=>?_
 refine tE ?_
 go_wp2
 go_ret
 have Y:=aC.put (s:=ax) (c:=⟨x.nm,x.su,x.lo++bs⟩) (K.ra 4 rfl) u ⟨B1,d,k1,B2,T.length-d,k2,rfl,K.sl 0 rfl,K.sl 1 rfl,H⟩
 rw[List.length_set]
 exact⟨_,_,rfl,((K.kra Y).tl.out.forget (List.Sublist.cons_cons _ (List.Sublist.cons _ (List.Sublist.cons _ (List.Sublist.cons _ (List.Sublist.cons _ (List.Sublist.cons _ (List.Sublist.refl _)))))))).hh⟩
end
section
open Go.RowKit
set_option maxHeartbeats 2000000 in
theorem oH (d:Dk) (x:Fil) (i:Nat) (bs:List UInt8) (B:Option Addr) (m k:Nat) (A:Option Addr) (n f:Nat) (X:List Nat) (w:World) (hX:XOk X w) (j:Sl ax w X A n f d.fs) (a:Sl ak w X B m k bs) (l:cj d) (y:d.fs[i]?=some x) (q:findD d.fs x.nm=(i:Int)) (hroom:(aA d.fs:Int)+bs.length≤d.room):
 Calls Tryz.prog 132 #[.agg #[.slice A n f,.int .i64 d.room,.int .i64 (-1),.bool false],.string x.nm,.slice B m k] w fun e w' => ∃ B c,e = .returned (.tuple #[.agg #[.slice B n c,.int .i64 d.room,.int .i64 (-1),.bool false],.int .i64 0])∧Sl ax w' X B n c (d.fs.set i ⟨x.nm,x.su,x.lo++bs⟩)∧Below w.heap.size w w':=by
 obtain⟨u,G,H,z,F,I⟩:=l
 have hmem:=List.mem_of_getElem? y
 have b:=z x hmem
 have g:x.nm.size≤maxLen:=by unfold fnB at b;simp at b;unfold maxLen;omega
 have N:aA d.fs≤65536:=by omega
 have hlen:x.all.length+bs.length≤90000:=by have:=jY hmem;omega
 have t:n≤64:=by have:=j.len;omega
 have D:=Lib.hid j.len
 have J:=Lib.hid q
 have p:=a.len
 have R:IntKind.i64.wrap (d.room-(aA d.fs:Int))=d.room-(aA d.fs:Int):=IntWalk.i64_in _ (by omega)
 have Q:¬ (d.room-(aA d.fs:Int)<(m:Int)):=by omega
 have U:¬ (i:Int) = -1:=by omega
 have S:=Lib.hid p
 clear q hmem p
 go_enter Tryz.func132,Tryz.ntmps132
 go_wp2_with fail
 refine(hstart hX).cl fun W K=>?_
 have K:=((K.ksl0 a).ksl0 j).one (s:=dx) (x:=x.nm) ⟨rfl,g⟩
 clear j a
 refine(fj d A n f [x.nm] _ 1 1 _ W K.xok (K.sl 1 rfl) (K.sl 0 rfl) (by omega) (by simp[b]) ⟨u,G,H,z,F,I⟩).mono ?_
 rintro e O ⟨rfl,a⟩
 have K:=(K.on a).ft
 clear a
 have o:=K.r 3 rfl
 have E:=K.r 2 rfl
 go_wp2_with fail
 refine(fy d.fs d.room x.nm A n f _ _ K.xok (K.sl 0 rfl) (by omega)).mono ?_
 rw[J.out]
 rintro e M ⟨rfl,a⟩
 have K:=K.on a
 clear a o E
 have o:=K.r 3 rfl
 go_upto_region 5 with(fail)
 refine K.cw fun W K=>?_
 have c0:=K.r 0 rfl
 go_upto_region 7 with(fail)
 refine K.rg fun W K=>?_
 refine tL 0 (fun _ h=>h.r 2 rfl) K ?_
 refine tK 1 K ?_
 refine tK 2 K ?_
 refine tL 3 (fun _ h=>h.r 4 rfl) K ?_
 refine tL 4 (fun _ h=>h) K ?_ (hy:=fun w C=>aM (C.at_ 4 rfl))
 refine tC 5 fun K' hK=>?_
 go_simp
 refine(fY d.fs A n f d.room _ _ K.xok (K.sl 0 rfl) t N).mono ?_
 rintro e T ⟨rfl,a⟩
 refine hK.out _ _ (K.on a) fun K=>?_
 clear hK K' a
 try simp only[Act.put,an,ai,aj]
 refine tK 6 K ?_
 refine tK 7 K ?_ (v := .bool false) (hy:=by(intro W _;go_simp;try with_reducible rfl))
 refine tE ?_
 clear c0 o
 have L:=K.r 4 rfl
 go_wp2_with fail
 refine K.cl fun W K=>?_
 have hact:=(vD x bs i M.heap.size (w.heap.size+1) (w.heap.size+2) 3 9 50 B m k d.fs u y hlen g)
 refine(gG 202 _ _ _ d.fs (d.fs.set i ⟨x.nm,x.su,x.lo++bs⟩) d.room A n f w _ X K t (hact.more (by simp) (by simp)) Tryz.call202).mono ?_
 rw[List.length_set,←D.out]
 rintro e V ⟨Y,P,rfl,K⟩
 clear L
 go_wp2_with (first | refine K.ld 0 rfl ?_ | (refine K.lw fun W K=>?_;first | refine K.sr 0 rfl fun W K=>?_ | refine K.sr 2 rfl fun W K=>?_))
 exact K.rc2 2 rfl rfl ⟨_,_,rfl,K.slb 0 rfl,K.below⟩
end
section
open Go.RowKit
theorem tM (s:ByteArray) (A:Option Addr) (n c:Nat) (B:Option Addr) (m d:Nat) (a:n+m≤100000) (w:World):
 Calls Tryz.prog 68 #[.agg #[.string s,.slice A n c,.slice B m d]] w fun e w'=>e = .returned (.int .i64 ((n+m:Nat):Int))∧Below w.heap.size w w':=by
 have h:=sV s A n c B m d a w
 rwa [←Int.natCast_add]at h
set_option maxHeartbeats 2000000 in
theorem BP (x:Fil) (i Q O:Nat) (t1 t2:TypeId) (fs:List Fil) (hn:fs.length≤64) (y:fs[i]?=some x) (hlen:x.all.length≤90000) (M:x.nm.size≤maxLen):
 kW 203 #[.pointer (some ⟨Q,0,none⟩),.pointer (some ⟨O,0,none⟩)] [.box Q t1 #[.int .i64 (i:Int)],.box O t2 #[.string x.nm]] [] fs (fs.set i ⟨x.nm,x.su++x.lo,[]⟩):=by
 intro w0 w X L F v vs K hL hF
 have c1:=K.rm (List.mem_cons_of_mem _ (hL _ (List.Mem.head _)))
 show Calls _ _ #[v,.pointer (some ⟨Q,0,none⟩),.pointer (some ⟨O,0,none⟩)] _ _
 obtain⟨B,cp,rfl,-⟩:=aK (K.row 0 rfl)
 have hi:=(List.getElem?_eq_some_iff.1 y).1
 obtain⟨g,rfl⟩:∃ g,B=some ⟨g,0,none⟩:=by
  rcases(K.row 0 rfl).2 with⟨h,_⟩ | ⟨g,cap,cur,h,_⟩
  ·injection h with f t G;omega
  ·injection h with f t G;exact⟨g,f⟩
 obtain⟨r,⟨u,o,C,A,m,z,rfl,f,t,G⟩,S⟩:=rowAt (K.ra 0 rfl) (e:=110) (g:=g) (n:=fs.length) (cap:=cp) y
 have K:=(K.ksl t).ksl f
 have N:=Lib.hid (S w (K.row 0 rfl))
 have i1:(0:Int)≤(i:Int):=by omega
 have i2:(i:Int)<(fs.length:Int):=by omega
 have ab:vs.length=fs.length*3:=(K.ra 2 rfl).length
 have H:=Lib.hid f.len
 have I:=Lib.hid t.len
 clear f t G hi
 go_enter Tryz.func203,Tryz.ntmps203
 go_upto_region 2 with(first | refine bF N.out ?_ | (refine K.lw fun W K=>?_;refine K.sr 0 rfl fun W K=>?_))
 have D:=fun {a b:Itm} {l:List Itm}=>List.Sublist.cons_cons a (List.Sublist.cons b (List.Sublist.refl l))
 refine K.rgt (fun V h=>h.drop D) fun W K=>?_
 refine tK 0 (K.drop D) ?_
 refine tL 1 (fun _ h=>h.rm (List.mem_cons_of_mem _ (hL _ (List.Mem.head _)))) (K.drop D) ?_
 refine tL 2 (fun _ h=>h.rm (List.mem_cons_of_mem _ (hL _ (List.Mem.tail _ (List.Mem.head _))))) (K.drop D) ?_
 refine tK 3 (K.drop D) ?_
 refine tL 4 (fun _ h=>h.r 0 rfl) (K.drop D) ?_
 refine tK 5 (K.drop D) ?_
 refine tL 6 (fun _ h=>h.r 0 rfl) (K.drop D) ?_
 refine tL 9 (fun _ h=>h) (K.drop D) ?_ (hy:=fun w hw=>aM (hw.at_ 0 rfl))
 refine tC 7 fun K' hK=>?_
 go_simp
 have K:=K.to (W':=W.alloc (.cells #[.slice u o C,.slice A m z] 50))
 refine hK.out _ _ (K.tl.drop D) fun _=>?_
 clear hK K'
 try simp only[Act.put,an,ai,aj]
 have K:=K.many (s:=uS ak) (n:=2) (xs:=[x.su,x.lo]) ⟨_,_,rfl,⟨u,o,C,rfl,K.tl.sl 0 rfl⟩,_,_,rfl,⟨A,m,z,rfl,K.tl.sl 1 rfl⟩,rfl⟩ rfl (by omega)
 obtain⟨T,hT⟩:∃ T,T=x.su++x.lo:=⟨_,rfl⟩
 have E:T.length≤90000:=by rw[hT];unfold Fil.all at hlen;simp only[List.length_append]at hlen ⊢;omega
 have P:o+m=T.length:=by rw[hT,List.length_append];have:=H.out;have:=I.out;omega
 have HT:=Lib.hid hT
 have J:=Lib.hid (show [x.su,x.lo].flatten=T from by rw[hT];simp)
 clear hT
 generalize W.alloc (.cells #[.slice u o C,.slice A m z] 50)=W1 at K ⊢
 refine tC 8 fun K' hK=>?_
 go_simp
 refine(nX T [x.su,x.lo] J.out _ 2 2 _ _ K.xok (K.sl 0 rfl) (by omega) E).mono ?_
 rintro e w4 ⟨B,k,rfl,q,d⟩
 have K:=((K.on d).ft).ksl q
 refine hK.out _ _ ((K.ft).drop D) fun _=>?_
 clear hK K' d q
 try simp only[Act.put,an,ai,aj]
 refine tC 10 fun K' hK=>?_
 go_simp
 refine(tM x.nm u o C A m z (by omega) _).mono ?_
 rw[P]
 rintro e w6 ⟨rfl,d⟩
 have K:=K.on d
 refine hK.out _ _ ((K.ft).drop D) fun _=>?_
 clear hK K' d
 try simp only[Act.put,an,ai,aj]
 refine tC 11 fun K' hK=>?_
 go_simp
 refine(sv x.nm T B _ k T.length _ _ K.xok (K.sl 0 rfl) (Nat.le_refl _)).mono ?_
 rw[List.take_length,List.drop_length]
 rintro e w5 ⟨B1,Z,Y,k2,rfl,j,p,d⟩
 have K:=(((K.on d).ft).ksl p).ksl j
 refine hK.out _ _ ((K.ft.ft).drop D) fun _=>?_
 clear hK K' d j p
 try simp only[Act.put,an,ai,aj]
 refine tK 12 (K.ft.ft.drop D) ?_
 refine tRs (k:=i*3) (cells:=(kR ⟨x.nm,T,[]⟩ B1 T.length Z Y (T.length-T.length) k2).toArray) 13 K 1 rfl (by show i*3+3≤vs.length;have:=(List.getElem?_eq_some_iff.1 y).1;omega) (fun U h=>h.ft.ft.drop D) fun U K=>?_
 refine tE ?_
 go_wp2
 go_ret
 have R:=aC.put (s:=ax) (c:=⟨x.nm,T,[]⟩) (K.ra 4 rfl) y ⟨B1,T.length,Z,Y,T.length-T.length,k2,rfl,K.sl 0 rfl,K.sl 1 rfl,M⟩
 rw[List.length_set,←HT.out]
 exact⟨_,_,rfl,((K.kra R).tl.out.forget (List.Sublist.cons_cons _ (List.Sublist.cons _ (List.Sublist.cons _ (List.Sublist.cons _ (List.Sublist.cons _ (List.Sublist.cons _ (List.Sublist.refl _)))))))).hh⟩
set_option maxHeartbeats 2000000 in
theorem uz (d:Dk) (x:Fil) (i:Nat) (A:Option Addr) (n g:Nat) (X:List Nat) (w:World) (hX:XOk X w) (h:Sl ax w X A n g d.fs) (j:cj d) (m:d.fs[i]?=some x) (k:findD d.fs x.nm=(i:Int)):
 Calls Tryz.prog 133 #[.agg #[.slice A n g,.int .i64 d.room,.int .i64 (-1),.bool false],.string x.nm] w fun e w' => ∃ B c,e = .returned (.tuple #[.agg #[.slice B n c,.int .i64 d.room,.int .i64 (-1),.bool false],.int .i64 0])∧Sl ax w' X B n c (d.fs.set i ⟨x.nm,x.su++x.lo,[]⟩)∧Below w.heap.size w w':=by
 obtain⟨l,v,y,o,u,z⟩:=j
 have hmem:=List.mem_of_getElem? m
 have a:=o x hmem
 have f:x.nm.size≤maxLen:=by unfold fnB at a;simp at a;unfold maxLen;omega
 have L:aA d.fs≤65536:=by omega
 have hlen:x.all.length≤90000:=by have:=jY hmem;omega
 have D:n≤64:=by have:=h.len;omega
 have q:=Lib.hid h.len
 have C:=Lib.hid k
 have I:¬ (i:Int) = -1:=by omega
 clear k hmem
 go_enter Tryz.func133,Tryz.ntmps133
 go_wp2_with fail
 refine(hstart hX).cl fun W K=>?_
 have K:=(K.ksl0 h).one (s:=dx) (x:=x.nm) ⟨rfl,f⟩
 clear h
 refine(fj d A n g [x.nm] _ 1 1 _ W K.xok (K.sl 1 rfl) (K.sl 0 rfl) (by omega) (by simp[a]) ⟨l,v,y,o,u,z⟩).mono ?_
 rintro e G ⟨rfl,b⟩
 have K:=(K.on b).ft
 clear b
 have t:=K.r 2 rfl
 have p:=K.r 1 rfl
 go_wp2_with fail
 refine(fy d.fs d.room x.nm A n g _ _ K.xok (K.sl 0 rfl) (by omega)).mono ?_
 rw[C.out]
 rintro e E ⟨rfl,b⟩
 have K:=K.on b
 clear b t p
 go_upto_region 5 with(fail)
 refine K.cw fun W K=>?_
 have c0:=K.r 0 rfl
 have F:=K.r 3 rfl
 go_wp2_with fail
 refine K.cl fun W K=>?_
 have hact:=(BP x i E.heap.size (w.heap.size+1) 3 9 d.fs l m hlen f)
 refine(gG 203 _ _ _ d.fs (d.fs.set i ⟨x.nm,x.su++x.lo,[]⟩) d.room A n g w _ X K D (hact.more (by simp) (by simp)) Tryz.call203).mono ?_
 rw[List.length_set,←q.out]
 rintro e J ⟨M,H,rfl,K⟩
 clear c0 F
 go_wp2_with (refine K.lw fun W K=>?_;refine K.sr 1 rfl fun W K=>?_)
 exact K.rc2 1 rfl rfl ⟨_,_,rfl,K.slb 0 rfl,K.below⟩
end
section
open Go.RowKit
set_option maxHeartbeats 2000000 in
theorem oT (d:Dk) (x:Fil) (i:Nat) (A:Option Addr) (n p:Nat) (X:List Nat) (w:World) (hX:XOk X w) (j:Sl ax w X A n p d.fs) (v:cj d) (y:d.fs[i]?=some x) (C:findD d.fs x.nm=(i:Int)):
 Calls Tryz.prog 13 #[.agg #[.slice A n p,.int .i64 d.room,.int .i64 (-1),.bool false],.string x.nm] w fun e w' => ∃ B c,e = .returned (.tuple #[.slice B x.all.length c,.int .i64 0])∧Sl ak w' X B x.all.length c x.all∧Below w.heap.size w w':=by
 obtain⟨L,H,G,E,F,I⟩:=v
 have hmem:=List.mem_of_getElem? y
 have b:=E x hmem
 have u:x.nm.size≤maxLen:=by unfold fnB at b;simp at b;unfold maxLen;omega
 have hlen:x.all.length≤90000:=by have:=jY hmem;omega
 have Q:n≤64:=by have:=j.len;omega
 have O:i<n:=by have:=(List.getElem?_eq_some_iff.1 y).1;have:=j.len;omega
 have J:=Lib.hid C
 have U:¬ (i:Int) = -1:=by omega
 have N:(0:Int)≤(i:Int):=by omega
 have S:(i:Int)<(n:Int):=by omega
 clear C hmem
 go_enter Tryz.func13,Tryz.ntmps13
 go_wp2_with fail
 refine(hstart hX).cl fun W K=>?_
 have K:=(K.ksl0 j).one (s:=dx) (x:=x.nm) ⟨rfl,u⟩
 clear j
 refine(fj d A n p [x.nm] _ 1 1 _ W K.xok (K.sl 1 rfl) (K.sl 0 rfl) (by omega) (by simp[b]) ⟨L,H,G,E,F,I⟩).mono ?_
 rintro e M ⟨rfl,a⟩
 have K:=(K.on a).ft
 clear a
 have c0:=K.r 0 rfl
 go_wp2_with fail
 refine(fy d.fs d.room x.nm A n p _ _ K.xok (K.sl 0 rfl) (by omega)).mono ?_
 rw[J.out]
 rintro e V ⟨rfl,a⟩
 have K:=K.on a
 clear a c0
 obtain⟨ad,r,rfl,K,⟨m,q,g,t,o,l,rfl,z,D,-⟩⟩:=K.elem 0 rfl y
 have K:=(K.ksl D).ksl z
 clear z D
 go_upto_region 7 with(fail)
 refine K.rg fun W K=>?_
 refine tK 0 K ?_
 refine tL 1 (fun _ h=>h.r 0 rfl) K ?_
 refine tK 2 K ?_
 refine tK 3 K ?_
 refine tK 4 K ?_
 refine tL 5 (T:=fun W=>W.cell? ⟨(ad.add (i*3)).block,(ad.add (i*3)).off+1,none⟩=some (.slice m q g)) (fun _ h=>h.at' 2 rfl 1 _ rfl) K ?_
 refine tK 6 K ?_
 refine tL 7 (fun _ h=>h.r 0 rfl) K ?_
 refine tK 8 K ?_
 refine tK 9 K ?_
 refine tK 10 K ?_
 refine tL 11 (T:=fun W=>W.cell? ⟨(ad.add (i*3)).block,(ad.add (i*3)).off+2,none⟩=some (.slice t o l)) (fun _ h=>h.at' 2 rfl 2 _ rfl) K ?_
 refine tC 12 fun K' hK=>?_
 go_simp
 have K:=K.to (W':=W.alloc (.cells #[.slice m q g,.slice t o l] 50))
 refine hK.out _ _ K.tl fun _=>?_
 clear hK K'
 try simp only[Act.put,an,ai,aj]
 have K:=K.many (s:=uS ak) (n:=2) (xs:=[x.su,x.lo]) ⟨_,_,rfl,⟨m,q,g,rfl,K.tl.sl 0 rfl⟩,_,_,rfl,⟨t,o,l,rfl,K.tl.sl 1 rfl⟩,rfl⟩ rfl (by omega)
 generalize W.alloc (.cells #[.slice m q g,.slice t o l] 50)=P at K ⊢
 refine tC 13 fun K' hK=>?_
 go_simp
 refine(nX x.all [x.su,x.lo] (by unfold Fil.all;simp) _ 2 2 _ _ K.xok (K.sl 0 rfl) (by omega) hlen).mono ?_
 rintro e R ⟨B,k,rfl,f,a⟩
 have K:=((K.on a).ft).ksl f
 refine hK.out _ _ K.ft fun _=>?_
 clear hK K' a f
 try simp only[Act.put,an,ai,aj]
 refine tK 14 K.ft ?_
 refine tK 15 K.ft ?_
 refine tE ?_
 go_wp2
 go_ret2
 exact⟨B,k,rfl,K.slb 0 rfl,K.below⟩
end
section
open Go.RowKit
inductive Stp where
 | mk (nm:ByteArray)
 | wr (nm:ByteArray) (bs:List UInt8)
 | sy (nm:ByteArray)
def Stp.nm:Stp→ByteArray
 | .mk nm=>nm
 | .wr nm _=>nm
 | .sy nm=>nm
def zK (w:World) (X:List Nat) (v:Value) (st:Stp):Prop:=match st with
 | .mk nm => ∃ g,v = .func (.func 171) #[] #[.pointer (some ⟨g,0,none⟩)]∧(g<w.heap.size∧g ∉ X∧w.cell? ⟨g,0,none⟩=some (.string nm))
 | .wr nm bs => ∃ g g2 A n c,v = .func (.func 224) #[] #[.pointer (some ⟨g,0,none⟩),.pointer (some ⟨g2,0,none⟩)]∧(g<w.heap.size∧g ∉ X∧w.cell? ⟨g,0,none⟩=some (.string nm))∧(g2<w.heap.size∧g2 ∉ X∧w.cell? ⟨g2,0,none⟩=some (.slice A n c))∧Sl ak w X A n c bs
 | .sy nm => ∃ g,v = .func (.func 148) #[] #[.pointer (some ⟨g,0,none⟩)]∧(g<w.heap.size∧g ∉ X∧w.cell? ⟨g,0,none⟩=some (.string nm))
theorem eC {w w':World} {X:List Nat} {g:Nat} {v:Value} (h:g<w.heap.size∧g ∉ X∧w.cell? ⟨g,0,none⟩=some v) (k:jf X w w'):g<w'.heap.size∧g ∉ X∧w'.cell? ⟨g,0,none⟩=some v:=
 ⟨Nat.lt_of_lt_of_le h.1 k.size,h.2.1,(k.cell h.1 h.2.1).trans h.2.2⟩
theorem dD {w:World} {X X':List Nat} {g:Nat} {v:Value} (h:g<w.heap.size∧g ∉ X∧w.cell? ⟨g,0,none⟩=some v) (k:∀ b,b<w.heap.size→b ∈ X'→b ∈ X):g<w.heap.size∧g ∉ X'∧w.cell? ⟨g,0,none⟩=some v:=
 ⟨h.1,fun a=>h.2.1 (k _ h.1 a),h.2.2⟩
def cO:Sh Stp where
 size:=1
 rep w X vs st := ∃ v,vs = [v]∧zK w X v st
 len:=by rintro w X vs a ⟨v,rfl,_⟩;rfl
 one:=by
  rintro w X vs a ⟨v,rfl,h⟩ u hu
  rw[List.mem_singleton]at hu
  subst hu
  cases a with
  | mk nm=>obtain⟨g,rfl,_⟩:=h;rfl
  | wr nm bs=>obtain⟨g,g2,A,n,c,rfl,_⟩:=h;rfl
  | sy nm=>obtain⟨g,rfl,_⟩:=h;rfl
 keep:=by
  rintro w w' X vs a ⟨v,rfl,h⟩ k
  refine⟨v,rfl,?_⟩
  cases a with
  | mk nm=>obtain⟨g,rfl,h1⟩:=h;exact⟨g,rfl,eC h1 k⟩
  | wr nm bs=>obtain⟨g,g2,A,n,c,rfl,h1,h2,h3⟩:=h;exact⟨g,g2,A,n,c,rfl,eC h1 k,eC h2 k,h3.keep k⟩
  | sy nm=>obtain⟨g,rfl,h1⟩:=h;exact⟨g,rfl,eC h1 k⟩
 more:=by
  rintro w X X' vs a ⟨v,rfl,h⟩ k
  refine⟨v,rfl,?_⟩
  cases a with
  | mk nm=>obtain⟨g,rfl,h1⟩:=h;exact⟨g,rfl,dD h1 k⟩
  | wr nm bs=>obtain⟨g,g2,A,n,c,rfl,h1,h2,h3⟩:=h;exact⟨g,g2,A,n,c,rfl,dD h1 k,dD h2 k,h3.more k⟩
  | sy nm=>obtain⟨g,rfl,h1⟩:=h;exact⟨g,rfl,dD h1 k⟩
theorem HH.boxc {a W:World} {X:List Nat} {L:List Itm} {F:List Fact} {g:Nat} {t:TypeId} {v:Value} (K:HH a [] X W (.box g t #[v]::L) F):g<W.heap.size∧g ∉ Exs L++X∧W.cell? ⟨g,0,none⟩=some v:=⟨K.out.lt 0 rfl,K.notin rfl,K.r 0 rfl 0⟩
theorem qG (nm:ByteArray) (X:List Nat) (w:World) (hX:XOk X w):Calls Tryz.prog 102 #[.string nm] w fun e w' => ∃ v,e = .returned v∧zK w' X v (.mk nm)∧Below w.heap.size w w':=by
 go_enter Tryz.func102,Tryz.ntmps102
 go_wp2
 refine(hstart hX).bp fun W K=>?_
 go_ret
 exact⟨_,rfl,⟨_,rfl,K.boxc⟩,K.below⟩
theorem nW (nm:ByteArray) (X:List Nat) (w:World) (hX:XOk X w):Calls Tryz.prog 82 #[.string nm] w fun e w' => ∃ v,e = .returned v∧zK w' X v (.sy nm)∧Below w.heap.size w w':=by
 go_enter Tryz.func82,Tryz.ntmps82
 go_wp2
 refine(hstart hX).bp fun W K=>?_
 go_ret
 exact⟨_,rfl,⟨_,rfl,K.boxc⟩,K.below⟩
theorem Am (nm:ByteArray) (bs:List UInt8) (A:Option Addr) (n c:Nat) (X:List Nat) (w:World) (hX:XOk X w) (a:Sl ak w X A n c bs):Calls Tryz.prog 170 #[.string nm,.slice A n c] w fun e w' => ∃ v,e = .returned v∧zK w' X v (.wr nm bs)∧Below w.heap.size w w':=by
 go_enter Tryz.func170,Tryz.ntmps170
 go_wp2
 refine(hstart hX).bp fun W K=>?_
 have K:=K.ksl0 a
 go_ret
 exact⟨_,rfl,⟨_,_,A,n,c,rfl,K.tl.boxc,dD K.boxc (fun b _ h=>List.mem_append_right _ h),K.slb 0 rfl⟩,K.below⟩
end
section
open Go.RowKit
def fE (s:Stp) (fs:List Fil):List Fil:=match s with
 | .mk nm=>fO Fil.nm ⟨nm,[],[]⟩ fs
 | .wr nm bs=>match fs[fI Fil.nm fs nm]? with
   | some x=>fs.set (fI Fil.nm fs nm) ⟨nm,x.su,x.lo++bs⟩
   | none=>fs
 | .sy nm=>match fs[fI Fil.nm fs nm]? with
   | some x=>fs.set (fI Fil.nm fs nm) ⟨nm,x.su++x.lo,[]⟩
   | none=>fs
def nU (fs:List Fil) (nm:ByteArray):Prop := ∃ x,fs[fI Fil.nm fs nm]?=some x∧x.nm=nm
def jK (room:Int) (s:Stp) (fs:List Fil):Prop:=match s with
 | .mk nm=>fnB nm=true∧findD fs nm = -1∧fs.length<64
 | .wr nm bs=>nU fs nm∧(aA fs:Int)+bs.length≤room
 | .sy nm=>nU fs nm
def fG (room:Int):List Stp→List Fil→Prop
 | [],_=>True
 | s::l,fs=>cj ⟨fs,room⟩∧jK room s fs∧fG room l (fE s fs)
def cF (l:List Stp) (fs:List Fil):List Fil:=l.foldl (fun fs s=>fE s fs) fs
def eV (fs':List Fil) (room:Int) (X:List Nat) (w:World) (e:Ending) (w':World):Prop:=
 ∃ B c,e = .returned (.tuple #[.agg #[.slice B fs'.length c,.int .i64 room,.int .i64 (-1),.bool false],.int .i64 0])∧Sl ax w' X B fs'.length c fs'∧Below w.heap.size w w'
def yh (g:Nat) (v:Value):Fact:=⟨fun w X=>g<w.heap.size∧g ∉ X∧w.cell? ⟨g,0,none⟩=some v,fun h k=>eC h k,fun h k=>dD h k⟩
theorem nU.find {fs:List Fil} {nm:ByteArray} (h:nU fs nm):findD fs nm=(fI Fil.nm fs nm:Int):=by
 obtain⟨x,a,_⟩:=h
 unfold findD
 rw[if_pos (List.getElem?_eq_some_iff.1 a).1]
theorem GC (nm:ByteArray) (g:Nat) (fs:List Fil) (room:Int) (A:Option Addr) (n f:Nat) (X:List Nat) (w:World) (hX:XOk X w) (b:Sl ax w X A n f fs) (d:cj ⟨fs,room⟩) (l:jK room (.mk nm) fs) (i:(yh g (.string nm)).p w X):
 Calls Tryz.prog 171 #[.agg #[.slice A n f,.int .i64 room,.int .i64 (-1),.bool false],.pointer (some ⟨g,0,none⟩)] w (eV (fE (.mk nm) fs) room X w):=by
 obtain⟨o,m,u⟩:=l
 have j:=Lib.hid b.len
 have q:=i.1
 have r:¬ g=w.heap.size:=by omega
 have k:¬ g=w.heap.size+1:=by omega
 have t:=i.2.2
 go_enter Tryz.func171,Tryz.ntmps171
 go_wp2_with fail
 refine(hstart hX).cl fun W K=>?_
 have K:=K.ksl0 b
 clear b
 refine(oU ⟨fs,room⟩ nm A n f _ W K.xok (K.sl 0 rfl) d o m (by have:=j.out;omega)).mono ?_
 rintro e s ⟨B,c,rfl,a,h⟩
 have K:=(K.on h).ksl a
 clear h a
 go_wp2_with (refine K.lw fun W K=>?_;refine K.sr 0 rfl fun W K=>?_)
 unfold eV fE
 simp only
 rw[jN,←j.out]
 exact K.rc2 0 rfl rfl ⟨_,_,rfl,K.slb 0 rfl,K.below⟩
theorem Gh (nm:ByteArray) (bs:List UInt8) (g f:Nat) (B:Option Addr) (m j:Nat) (fs:List Fil) (room:Int) (A:Option Addr) (n l:Nat) (X:List Nat) (w:World) (hX:XOk X w) (h:Sl ax w X A n l fs) (k:cj ⟨fs,room⟩) (z:jK room (.wr nm bs) fs) (o:(yh g (.string nm)).p w X) (b:(yh f (.slice B m j)).p w X) (a:Sl ak w X B m j bs):
 Calls Tryz.prog 224 #[.agg #[.slice A n l,.int .i64 room,.int .i64 (-1),.bool false],.pointer (some ⟨g,0,none⟩),.pointer (some ⟨f,0,none⟩)] w (eV (fE (.wr nm bs) fs) room X w):=by
 obtain⟨s,C⟩:=z
 have i:=Lib.hid s.find
 obtain⟨x,t,rfl⟩:=s
 have y:=Lib.hid h.len
 have D:=o.1
 have r:=b.1
 have F:¬ g=w.heap.size:=by omega
 have v:¬ g=w.heap.size+1:=by omega
 have u:¬ f=w.heap.size:=by omega
 have q:¬ f=w.heap.size+1:=by omega
 have H:=o.2.2
 have E:=b.2.2
 go_enter Tryz.func224,Tryz.ntmps224
 go_wp2_with fail
 refine(hstart hX).cl fun W K=>?_
 have K:=(K.ksl0 a).ksl0 h
 clear h a
 refine(oH ⟨fs,room⟩ x _ bs B m j A n l _ W K.xok (K.sl 0 rfl) (K.sl 1 rfl) k t i.out C).mono ?_
 rintro e G ⟨I,c,rfl,d,a⟩
 have K:=(K.on a).ksl d
 clear a d
 go_wp2_with (refine K.lw fun W K=>?_;refine K.sr 0 rfl fun W K=>?_)
 unfold eV fE
 simp only[t]
 rw[List.length_set,←y.out]
 exact K.rc2 0 rfl rfl ⟨_,_,rfl,K.slb 0 rfl,K.below⟩
theorem Fb (nm:ByteArray) (g:Nat) (fs:List Fil) (room:Int) (A:Option Addr) (n h:Nat) (X:List Nat) (w:World) (hX:XOk X w) (b:Sl ax w X A n h fs) (f:cj ⟨fs,room⟩) (k:jK room (.sy nm) fs) (j:(yh g (.string nm)).p w X):
 Calls Tryz.prog 148 #[.agg #[.slice A n h,.int .i64 room,.int .i64 (-1),.bool false],.pointer (some ⟨g,0,none⟩)] w (eV (fE (.sy nm) fs) room X w):=by
 have d:=Lib.hid (nU.find k)
 obtain⟨x,l,rfl⟩:=k
 have o:=Lib.hid b.len
 have q:=j.1
 have r:¬ g=w.heap.size:=by omega
 have m:¬ g=w.heap.size+1:=by omega
 have t:=j.2.2
 go_enter Tryz.func148,Tryz.ntmps148
 go_wp2_with fail
 refine(hstart hX).cl fun W K=>?_
 have K:=K.ksl0 b
 clear b
 refine(uz ⟨fs,room⟩ x _ A n h _ W K.xok (K.sl 0 rfl) f l d.out).mono ?_
 rintro e s ⟨B,c,rfl,a,i⟩
 have K:=(K.on i).ksl a
 clear i a
 go_wp2_with (refine K.lw fun W K=>?_;refine K.sr 0 rfl fun W K=>?_)
 unfold eV fE
 simp only[l]
 rw[List.length_set,←o.out]
 exact K.rc2 0 rfl rfl ⟨_,_,rfl,K.slb 0 rfl,K.below⟩
end
section
open Go.RowKit
theorem zR {t:World} {r:List Nat} {v:Value} {st:Stp} (h:zK t r v st):∃ fid caps,v = .func (.func fid) #[] caps∧(∀ args w,(callFunc fid args).run Tryz.prog w = .ok (.enter fid args) w) ∧
 ∀ (W:World) (X:List Nat) (A:Option Addr) (n b:Nat) (fs:List Fil) (room:Int),XOk X W→zK W X v st→Sl ax W X A n b fs→cj ⟨fs,room⟩→jK room st fs →
   Calls Tryz.prog fid (#[.agg #[.slice A n b,.int .i64 room,.int .i64 (-1),.bool false]]++caps) W (eV (fE st fs) room X W):=by
 cases st with
 | mk nm=>
   obtain⟨g,rfl,_⟩:=h
   refine⟨_,_,rfl,Tryz.call171,fun W X A n b fs room hX d c a i=>?_⟩
   obtain⟨g',e,f⟩:=d
   injection e with _ _ e
   simp only[Array.mk.injEq,List.cons.injEq,and_true,Value.pointer.injEq,Option.some.injEq,Addr.mk.injEq]at e
   subst e
   exact GC nm g fs room A n b X W hX c a i f
 | wr nm bs=>
   obtain⟨g,o,B,m,u,rfl,_⟩:=h
   refine⟨_,_,rfl,Tryz.call224,fun W X A n b fs room hX d c a i=>?_⟩
   obtain⟨g',s,B',m',k,e,f,j,l⟩:=d
   injection e with _ _ e
   simp only[Array.mk.injEq,List.cons.injEq,and_true,Value.pointer.injEq,Option.some.injEq,Addr.mk.injEq]at e
   obtain⟨p,q⟩:=e
   subst p q
   exact Gh nm bs g o B' m' k fs room A n b X W hX c a i f j l
 | sy nm=>
   obtain⟨g,rfl,_⟩:=h
   refine⟨_,_,rfl,Tryz.call148,fun W X A n b fs room hX d c a i=>?_⟩
   obtain⟨g',e,f⟩:=d
   injection e with _ _ e
   simp only[Array.mk.injEq,List.cons.injEq,and_true,Value.pointer.injEq,Option.some.injEq,Addr.mk.injEq]at e
   subst e
   exact Fb nm g fs room A n b X W hX c a i f
theorem Ed {l:List Stp} {k:Nat} {s:Stp} {fs:List Fil} (h:l[k]?=some s):cF (l.take (k+1)) fs=fE s (cF (l.take k) fs):=by
 obtain⟨a,rfl⟩:=List.getElem?_eq_some_iff.1 h
 unfold cF
 rw[List.take_succ_eq_append_getElem a,List.foldl_append]
 rfl
theorem vl {room:Int}:∀ {l:List Stp} {k:Nat} {s:Stp} {fs:List Fil},fG room l fs→l[k]?=some s→cj ⟨cF (l.take k) fs,room⟩∧jK room s (cF (l.take k) fs)
 | [],k,s,fs,_,h=>by simp at h
 | x::l,0,s,fs,h,hk=>by simp at hk;subst hk;exact⟨h.1,h.2.1⟩
 | x::l,k+1,s,fs,h,hk=>by
   have:=vl (k:=k) (s:=s) h.2.2 (by simpa using hk)
   exact this
set_option maxHeartbeats 1000000 in
theorem lf (l:List Stp) (fs:List Fil) (room:Int) (S:Option Addr) (m o:Nat) (A:Option Addr) (n t:Nat) (X:List Nat) (w:World) (hX:XOk X w) (j:Sl ax w X A n t fs) (u:Sl cO w X S m o l) (q:fG room l fs) (P:m≤1000):
 Calls Tryz.prog 29 #[.agg #[.slice A n t,.int .i64 room,.int .i64 (-1),.bool false],.slice S m o] w (eV (cF l fs) room X w):=by
 obtain rfl:n=fs.length:=j.len
 have D:=Lib.hid u.len
 go_enter Tryz.func29,Tryz.ntmps29
 go_upto_region 2 with(fail)
 refine(hstart hX).cw fun W K=>?_
 have K:=(K.ksl0 u).ksl0 j
 clear j u
 go_loopw [11] (fun i wr => ∃ (k:Nat) (B:Option Addr) (c:Nat),k≤m∧i = .int .i64 k∧HH w [] X wr [.box (w.heap.size+1) 30 #[.slice none 0 0,.int .i64 0,.int .i64 0,.bool false],.box w.heap.size 30 #[.slice B (cF (l.take k) fs).length c,.int .i64 room,.int .i64 (-1),.bool false]] [Sl.fact ax B (cF (l.take k) fs).length c (cF (l.take k) fs),Sl.fact cO S m o l]) (fun i _=>m-(intOf i).toNat)
 case atStart=>exact⟨0,A,t,Nat.zero_le _,rfl,K⟩
 case round=>
  obtain⟨k,B,c,O,rfl,K⟩:=hrel
  by_cases M:k<m
  ·obtain⟨x,g⟩:∃ x,l[k]?=some x:=⟨_,List.getElem?_eq_getElem (by have:=D.out;omega)⟩
   obtain⟨ad,r,rfl,s,p,⟨v,rfl,h⟩,f⟩:=(K.sl 1 rfl).at' g
   have b:=At.one f rfl rfl
   obtain⟨fid,caps,rfl,L,a⟩:=zR h
   obtain⟨E,C⟩:=vl q g
   have G:=Lib.hid (Ed (fs:=fs) g)
   have R:(0:Int)≤(k:Int):=by omega
   have Q:(k:Int)<(m:Int):=by omega
   clear g s p f
   generalize cF (l.take k) fs=F at K E C G
   have z:=K.r 1 rfl
   go_wp2_with fail
   refine(a wr _ B F.length c F room K.xok h (K.sl 0 rfl) E C).mono ?_
   rintro e N ⟨H,I,rfl,d,y⟩
   have K:=(K.on y).ksl d
   clear z y d b h a
   go_wp2_with (refine K.lw fun W K=>?_;refine K.sr 1 rfl fun W K=>?_)
   go_roundw
   case rel=>
    refine⟨k+1,H,I,by omega,by go_num,?_⟩
    rw[G.out]
    exact(K.out.forget (List.Sublist.cons_cons _ (List.Sublist.cons _ (List.Sublist.refl _)))).hh
   case measure=>simp[intOf];omega
  ·obtain rfl:k=m:=by omega
   have J:l.take k=l:=List.take_of_length_le (by have:=D.out;omega)
   rw[J]at K
   have z:=K.r 1 rfl
   go_wp2_with (refine K.lw fun W K=>?_;refine K.sr 0 rfl fun W K=>?_)
   exact K.rc2 0 rfl rfl ⟨_,_,rfl,K.slb 0 rfl,K.below⟩
end
section
open Go.RowKit
def dH (b a:Int):Bool:=decide (64≤b)&&(decide (b≤65536)&&(decide (1≤a)&&decide (a≤1099511627776)))
theorem rI (b a:Int) (w:World):Calls Tryz.prog 27 #[.agg #[.int .i64 b,.int .i64 a]] w fun e w'=>e = .returned (.bool (dH b a))∧Below w.heap.size w w':=by
 unfold dH
 by_cases f:64≤b
 ·by_cases g:b≤65536
  ·by_cases i:1≤a
   ·have c:=decide_eq_true f
    have h:=decide_eq_true g
    have j:=decide_eq_true i
    rw[c,h,j]
    generalize k:decide (a≤1099511627776)=d
    go_enter Tryz.func27,Tryz.ntmps27
    go_wp2
    go_ret
    exact⟨by simp,(Below.refl _ _).alloc (Nat.le_refl _) _⟩
   ·rw[decide_eq_false i]
    have c:=decide_eq_true f
    have h:=decide_eq_true g
    rw[c,h]
    go_enter Tryz.func27,Tryz.ntmps27
    go_wp2
    go_ret
    exact⟨by simp,(Below.refl _ _).alloc (Nat.le_refl _) _⟩
  ·rw[decide_eq_false g]
   have c:=decide_eq_true f
   rw[c]
   go_enter Tryz.func27,Tryz.ntmps27
   go_wp2
   go_ret
   exact⟨by simp,(Below.refl _ _).alloc (Nat.le_refl _) _⟩
 ·rw[decide_eq_false f]
  go_enter Tryz.func27,Tryz.ntmps27
  go_wp2
  go_ret
  exact⟨by simp,(Below.refl _ _).alloc (Nat.le_refl _) _⟩
set_option maxHeartbeats 1000000 in
theorem Bp (l:List (List UInt8)) (A:Option Addr) (n f:Nat) (j:Option Addr) (n2 b:Nat) (X:List Nat) (w:World) (hX:XOk X w) (c:Sl af w X A n f l) (a:Sl af w X j n2 b l) (C:n≤1000):
 Calls Tryz.prog 207 #[.slice A n f,.slice j n2 b] w fun e w'=>e = .returned (.bool true)∧Below w.heap.size w w':=by
 obtain rfl:n2=n:=by rw[c.len,a.len]
 have p:=Lib.hid c.len
 have o:=Lib.hid c
 have d:=Lib.hid a
 clear c a
 go_enter Tryz.func207,Tryz.ntmps207
 go_wp2
 go_loopw [13] (fun i wr => ∃ (k:Nat),k≤n2∧i = .int .i64 k∧HH w [] X wr [] [Sl.fact af A n2 f l,Sl.fact af j n2 b l]) (fun i _=>n2-(intOf i).toNat)
 case atStart=>exact⟨0,Nat.zero_le _,rfl,((hstart hX).ksl0 d.out).ksl0 o.out⟩
 case round=>
  obtain⟨k,v,rfl,K⟩:=hrel
  by_cases t:k<n2
  ·obtain⟨x,g⟩:∃ x,l[k]?=some x:=⟨_,List.getElem?_eq_getElem (by have:=p.out;omega)⟩
   obtain⟨ad,r,rfl,K,⟨rfl,q⟩⟩:=K.elem 0 rfl g
   obtain⟨m,y,rfl,K,⟨rfl,s⟩⟩:=K.elem 2 rfl g
   have B:(0:Int)≤(k:Int):=by omega
   have z:(k:Int)<(n2:Int):=by omega
   generalize u:eX x=sx at K
   clear g q s
   go_upto_region 6 with(fail)
   refine K.rg fun W K=>?_
   refine tK 0 K ?_
   refine tK 1 K ?_
   refine tK 2 K ?_
   refine tL 3 (fun _ h=>At.one (h.at' 1 rfl) rfl rfl) K ?_
   refine tK 4 K ?_
   refine tK 5 K ?_
   refine tK 6 K ?_
   refine tL 7 (fun _ h=>At.one (h.at' 0 rfl) rfl rfl) K ?_
   refine tK 8 K ?_
   refine tE ?_
   go_wp2
   go_roundw
   case rel=>exact⟨k+1,by omega,by go_num,K.ft.ft⟩
   case measure=>simp[intOf];omega
  ·obtain rfl:k=n2:=by omega
   go_wp2
   go_ret
   exact⟨rfl,K.below⟩
theorem zJ (q a:Int) (l:List (List UInt8)) (A:Option Addr) (n d:Nat) (g:Option Addr) (f b:Nat) (X:List Nat) (w:World) (hX:XOk X w) (h:Sl af w X A n d l) (c:Sl af w X g f b l) (j:n≤1000):
 Calls Tryz.prog 137 #[.agg #[.int .i64 q,.int .i64 a,.slice A n d],.agg #[.int .i64 q,.int .i64 a,.slice g f b]] w fun e w'=>e = .returned (.bool true)∧Below w.heap.size w w':=by
 have o:(q == q)=true:=by simp
 have m:(a == a)=true:=by simp
 go_enter Tryz.func137,Tryz.ntmps137
 go_wp2_with fail
 refine(hstart hX).cl fun W K=>?_
 have K:=(K.ksl0 c).ksl0 h
 clear h c
 refine(Bp l A n d g f b _ W K.xok (K.sl 0 rfl) (K.sl 1 rfl) j).mono ?_
 rintro e k ⟨rfl,i⟩
 have K:=K.on i
 go_wp2
 go_ret
 exact⟨rfl,K.below⟩
end
section
open Go.RowKit
section
variable {w0 W W' w1:World} {M X:List Nat} {L:List Itm} {F:List Fact} {P:Program}
theorem HH.rowc {e:TypeId} {size n g cap:Nat} {xs:List Value} (K:HH w0 M X W L F) (i:Nat) (f:L[i]?=some (.row e size (.slice (some ⟨g,0,none⟩) n cap) n xs)) {o:Nat} {v:Value} (b:xs[o]?=some v):W.cell? ⟨g,o,none⟩=some v:=by
 obtain⟨p,⟨h,_⟩ | ⟨g',cap',cur,l,m,k,r,q,h9,c⟩⟩:=K.row i f
 ·cases h
 ·injection l with a j d
  injection a with a
  injection a with a
  subst a
  rw[Blk.cell (t:=e) k]
  rw[←c,List.getElem?_take]at b
  split at b
  ·simpa using b
  ·cases b
theorem HH.rowf {e:TypeId} {size n g cap:Nat} {xs:List Value} (K:HH w0 M X W L F) (i:Nat) (c:L[i]?=some (.row e size (.slice (some ⟨g,0,none⟩) n cap) n xs)) (o:Nat):W.frozen? ⟨g,o,none⟩=false:=by
 obtain⟨m,⟨d,_⟩ | ⟨g',cap',cur,j,l,h,q,p,h9,k⟩⟩:=K.row i c
 ·cases d
 ·injection j with a f b
  injection a with a
  injection a with a
  subst a
  exact Blk.frozen (t:=e) h _
theorem HH.row1 {e:TypeId} {size n g cap:Nat} {xs:List Value} (K:HH w0 M X W L F) (i:Nat) (c:L[i]?=some (.row e size (.slice (some ⟨g,0,none⟩) n cap) n xs)) (o:Nat) (v:Value) (b:o<xs.length):
 HH w0 M X (W.setCell ⟨g,o,none⟩ v) (L.set i (.row e size (.slice (some ⟨g,0,none⟩) n cap) n (xs.set o v))) F:=by
 have h:=K.out.row_sets i c o [v] (by simp;omega)
 have a:cV xs o [v]=xs.set o v:=by
  unfold cV
  rw[List.set_eq_take_append_cons_drop,if_pos b]
  simp
 rw[a]at h
 exact h
theorem tA {ops:Array Oper} {Q:Exit→Act→World→Prop} {md:Region.Mode} {S:World→Prop} {o:Oper} {fuel:Nat} {listed:Array Bool} {a:Act} {e t ty:TypeId} {size n b c:Nat} {xs:List Value} {v:Value} {ns:Array Value} {s x:Operand} {L':Value→List Itm}
 (i:Nat) (K:HH w0 M X W (.box b t ns::L) F) (bytes r:Nat) (f:L[r]?=some (.row e size v n xs)) (E:n≤100000) (hS:∀ v' U,HH w0 M X U (L' v') F→S U) (k:∀ v' U,HH w0 M X U (L' v') F→wpAnyH P md ops Q S fuel (listed.setIfInBounds i true) (a.put o.dst v') U)
 (B:Region.ready md ops listed = [i]:=by kernel_rfl) (ho:ops[i]?=some o:=by exact rfl) (hw:Region.wanted o (yielded ops a.tmps)=true:=by rfl) (hop:o.op = .call { callee := .builtin .append,args:=#[s,x],argTypes:=#[ty,ty] }:=by rfl)
 (hs:a.eval s=v:=by rfl) (hx:a.eval x = .slice (some ⟨b,0,none⟩) 1 c:=by rfl) (hT:yH P ty e size bytes=true:=by kernel_rfl) (hz:ns.size=size:=by rfl) (h0:(0<size∧bytes≤1000):=by decide) (h1:ns.toList.all (·.oneCell')=true:=by rfl)
 (hL:∀ v',L.set r (.row e size v' (n+1) (xs++ns.toList))=L' v':=by(intro v';first | (simp only[ai,aj];done) | (simp only[ai,aj];exact rfl))):
 wpAnyH P md ops Q S (fuel+1) listed a W:=
 tC (o:=o) i (fun K' hK=>by
  rw[if_pos hw]
  obtain⟨q,l,z,p,m,A,h,w⟩:=iE hT
  have hR:Reads W W.heap.size size (some ⟨b,0,none⟩) 1 ns.toList:=⟨by rw[Array.length_toList,hz,Nat.one_mul],fun _=>⟨_,rfl,K.out.lt 0 rfl,fun j u d=>by
   rw[add_plain,K.r 0 rfl]
   simpa using d⟩⟩
  have D:(n+1)*bytes≤100001*1000:=Nat.mul_le_mul (by omega) h0.2
  refine ir W s x ty hop 0 e l z size bytes q p m A h w h0.1 v n xs hs (K.row (r+1) (by simpa using f)) W.heap.size _ 1 c ns.toList hx hR (fun u d=>List.all_eq_true.1 h1 u d) (by unfold maxLen;omega) (by omega) (Nat.zero_le _) fun v' w' C g y=>?_
  have hA:=K.tl.out.appended r f C g y
  rw[hL]at hA
  exact hK.out _ _ (hS v' w' hA) fun _=>k v' w' hA) B ho
def Bo:Array Value→Nat→List Value→Array Value
 | cs,_,[]=>cs
 | cs,o,v::r=>Bo (cs.setIfInBounds o v) (o+1) r
theorem aq.box_sets:∀ (vs:List Value) (o:Nat) (W:World) (cs:Array Value) (L:List Itm),aq w0 M X W L F → ∀ (i:Nat) {g:Nat} {t:TypeId},L[i]?=some (.box g t cs)→aq w0 M X (W.setCells g o vs) (L.set i (.box g t (Bo cs o vs))) F
 | [],o,W,cs,L,h,i,g,t,hi=>by
   rw[show Bo cs o []=cs from rfl,show L.set i (.box g t cs)=L from ?_]
   ·exact h
   ·obtain⟨b,d⟩:=List.getElem?_eq_some_iff.1 hi
    rw[←d,List.set_getElem_self]
 | v::r,o,W,cs,L,h,i,g,t,hi=>by
   have c:=h.set_ i hi o v
   have b:=(List.getElem?_eq_some_iff.1 hi).1
   have a:=aq.box_sets r (o+1) _ _ _ c i (g:=g) (t:=t) (by rw[List.getElem?_set_self b])
   rw[List.set_set]at a
   exact a
theorem HH.sub (K:HH w0 M X W L F) (i:Nat) {g:Nat} {t:TypeId} {cs:Array Value} (b:L[i]?=some (.box g t cs)) (k:Nat) (l:List Value) (c:(cs.toList.drop k).take l.length=l:=by rfl):At W ⟨g,k,none⟩ l:=fun j v a=>by
 rw[add_plain,K.r i b]
 rw[←c,List.getElem?_take]at a
 split at a
 ·rw[List.getElem?_drop]at a
  simpa using a
 ·cases a
theorem HH.ss {L':List Itm} {ops:Array Oper} {rest:List Oper} {o:Oper} {a:Act} {Q:Exit→Act→World→Prop} {g k:Nat} {t ty:TypeId} {old cells new:Array Value} {x y:Operand} (K:HH w0 M X W L F) (i:Nat) (c:L[i]?=some (.box g t old))
 (kk:∀ U,HH w0 M X U L' F→wpList P ops Q rest a U) (d:o.guard=none:=by rfl) (ho:o.op = .store ty x y:=by rfl) (hd:o.dst=none:=by rfl)
 (hx:a.eval x = .pointer (some ⟨g,k,none⟩):=by rfl) (hy:a.eval y = .agg cells:=by rfl) (hT:((P.info? ty).map (·.size) == some cells.size)=true:=by kernel_rfl) (hz:decide (k+cells.size≤old.size)=true:=by rfl) (h1:cells.toList.all (·.oneCell')=true:=by rfl)
 (hn:Bo old k cells.toList=new:=by rfl) (hL:L.set i (.box g t new)=L':=by(first | (simp only[ai,aj];done) | (simp only[ai,aj];exact rfl))):wpList P ops Q (o::rest) a W:=by
 have b:=aq.box_sets cells.toList k W old L K.out i c
 rw[hn,hL]at b
 have e:=of_decide_eq_true hz
 refine wpList_store_mid d ty x y ho g k cells hx hy (fun j f=>⟨?_,K.out.frozen i c _⟩) (beq_iff_eq.1 hT) (by rw[←Array.all_toList];exact h1) ?_
 ·rw[K.r i c,Array.getElem?_eq_getElem (by omega)];rfl
 ·rw[hd]
  exact kk _ b
end
end
end Go.Proofs.YtpokkciheejeiaaGreatDoor
