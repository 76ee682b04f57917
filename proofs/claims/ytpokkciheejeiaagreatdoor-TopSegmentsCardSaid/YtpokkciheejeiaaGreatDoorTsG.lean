/- Lemmas and contracts that the proof of TopSegments uses, part 7 of 14: each is a theorem for every input that its premises allow. -/
import Derived.Shelf.Spec.SlicesInsertGrow
import Derived.Shelf.Spec.SlicesGrow
import Derived.Lib.SlBytesConst
import Derived.Laws.IdiomStrings
import Derived.Test.YtpokkciheejeiaaGreatDoorTsF
set_option linter.unusedVariables false
set_option linter.unusedSimpArgs false
set_option maxRecDepth 100000
namespace Go.Proofs.YtpokkciheejeiaaGreatDoor
section
open Go.RowKit
def dP (l:List Value) (o:Nat) (vs:List Value):List Value:=l.take o++vs++l.drop (o+vs.length)
theorem yL (l:List Value) (o:Nat) (v:Value) (vs:List Value) (h:o<l.length):dP (l.set o v) (o+1) vs=dP l o (v::vs):=by
 unfold dP
 rw[List.length_cons,show o+1+vs.length=o+(vs.length+1) from by omega,List.drop_set_of_lt (by omega),List.take_set,List.take_succ_eq_append_getElem h,List.set_append_right _ _ (by rw[List.length_take];omega)]
 simp[Nat.min_eq_left (Nat.le_of_lt h)]
theorem Blk.sets {g:Nat} {t:TypeId}:∀ {vs:List Value} {cs:Array Value} {o:Nat} {W:World},Blk W g t cs→o+vs.length≤cs.size→Blk (W.setCells g o vs) g t (dP cs.toList o vs).toArray
 | [],cs,o,W,h,ho=>by
   have:(dP cs.toList o []).toArray=cs:=by unfold dP;simp
   rw[this]
   exact h
 | v::vs,cs,o,W,h,ho=>by
   have a:=Blk.sets (vs:=vs) (o:=o+1) (h.set_ o v) (by simp at ho ⊢;omega)
   rw[Array.toList_setIfInBounds,yL _ _ _ _ (by simp at ho ⊢;omega)]at a
   exact a
theorem cV {W0:World} {g:Nat}:∀ {vs:List Value} {o:Nat} {W:World},W0.grownBy W (some g)→W0.grownBy (W.setCells g o vs) (some g)
 | [],_,_,h=>h
 | v::vs,o,W,h=>cV (vs:=vs) (qI h (.inl rfl) v)
theorem eU {P:Program} (w:World) (dT sT ty elem:TypeId) (b o dLen dCap:Nat) (a:Addr) (sLen sCap s k:Nat) (cs:List Value)
 (m:P.underlying dT=some (.slice elem)) (d:(P.info? elem).map (·.size)=some s) (g:Nat.min sLen dLen=k) (hn:cs.length=k*s)
 (hsrc:At w a cs) (f:∀ j,j<cs.length→(w.cell? ⟨b,o+j,none⟩).isSome=true) (l:∀ j,j<cs.length→w.frozen? ⟨b,o+j,none⟩=false) (h:∀ v ∈ cs,v.oneCell'=true):
 (Builtin.copy_ #[dT,sT] ty #[.slice (some ⟨b,o,none⟩) dLen dCap,.slice (some a) sLen sCap]).run P w = .ok (goInt k) (w.setCells b o cs):=by
 have e:=run_loadCells_list (P:=P) w a cs hsrc
 have c:=run_storeCells_cells (P:=P) b o cs 0 w (by simpa using f) (by simpa using l) h
 cases hq:P.info? elem with
 | none=>simp[hq]at d
 | some i=>
   have n:i.size=s:=by simpa [hq] using d
   rw[hn]at e
   simp[Builtin.copy_,run_underlying m,Builtin.lenOf,Builtin.firstCells,sizeOf,typeInfo,hq,n,g,e,c]
theorem Ai {cur ns:List Value} {a s m k:Nat} (b:ns.length=s) (e:a≤m) (h:m+s≤cur.length):
 (dP (dP cur (a+s) ((cur.take m).drop a)) a ns).take (m+s)=(cur.take m).take a++ns++(cur.take m).drop a:=by
 unfold dP
 have f:(cur.take (a+s)).length=a+s:=by rw[List.length_take];omega
 have c:((cur.take m).drop a).length=m-a:=by rw[List.length_drop,List.length_take];omega
 generalize hY:(cur.take m).drop a=Y at c ⊢
 generalize cur.drop (a+s+Y.length)=Z
 have g:(cur.take (a+s)++Y++Z).take a=cur.take a:=by rw[List.append_assoc,List.take_append_of_le_length (by omega),List.take_take,Nat.min_eq_left (by omega)]
 have d:(cur.take (a+s)++Y++Z).drop (a+s)=Y++Z:=by rw[List.append_assoc];exact List.drop_left' f
 rw[b,g,d,←List.append_assoc,List.take_left' (by simp only[List.length_append,List.length_take,b,c];omega),List.take_take,Nat.min_eq_left e]
theorem xb {R ns Y:List Value} {a s m:Nat} (e:ns.length=s) (d:m=a+s+Y.length) (hR:a+s≤R.length):(dP (dP R a ns) (a+s) Y).take m=R.take a++ns++Y:=by
 unfold dP
 have b:(R.take a++ns).length=a+s:=by rw[List.length_append,List.length_take,e];omega
 have c:(R.take a++ns++R.drop (a+ns.length)).take (a+s)=R.take a++ns:=List.take_left' b
 rw[c]
 exact List.take_left' (by rw[List.length_append,b,d])
theorem aE {W:World} {base:Nat} {e:TypeId} {size n:Nat} {v:Value} {xs:List Value} (h:W.ownsRow base e size v n xs):∃ A c,v = .slice A n c∧n≤c:=by
 rcases h.2 with⟨rfl,rfl⟩ | ⟨g,cap,cur,rfl,d,b,a,f⟩
 ·exact⟨none,0,rfl,Nat.le_refl _⟩
 ·exact⟨_,cap,rfl,a⟩
end
section
open Go.RowKit
section
variable {w0 W W' w1:World} {M X:List Nat} {L L':List Itm} {F:List Fact} {P:Program}
theorem HH.nrow {e:TypeId} {size n:Nat} {v:Value} {xs:List Value} (K:HH w0 M X W L F) (b:Below W.heap.size W W') (a:W'.ownsRow W.heap.size e size v n xs):HH w0 M X W' (.row e size v n xs::L) F:=K.out.new_row b a
theorem HH.kra {α:Type} {s:Sh α} {vs:List Value} {xs:List α} (K:HH w0 M X W L F) (h:aF s W (Exs L++X) vs xs):HH w0 M X W L (Ra.fact s vs xs::F):=K.out.know (Ra.fact s vs xs) h
theorem HH.ra {α:Type} {s:Sh α} {vs:List Value} {xs:List α} (K:HH w0 M X W L F) (i:Nat) (a:F[i]?=some (Ra.fact s vs xs)):aF s W (Exs L++X) vs xs:=K.out.ra i a
theorem HH.row {e:TypeId} {size n:Nat} {v:Value} {xs:List Value} (K:HH w0 M X W L F) (i:Nat) (a:L[i]?=some (.row e size v n xs)):W.ownsRow 0 e size v n xs:=K.out.row i a
theorem HH.app {e:TypeId} {size n n' base:Nat} {v v':Value} {xs xs':List Value} (K:HH w0 M X W L F) (i:Nat) (c:L[i]?=some (.row e size v n xs)) (b:W'.ownsRow base e size v' n' xs') (d:W.grownBy W' v.ownBlock) (a:v'.ownBlock=v.ownBlock∨v'.ownBlock=some W.heap.size)
 (hL:L.set i (.row e size v' n' xs')=L':=by(first | (simp only[aj,ai];done) | (simp only[aj,ai];exact rfl))):HH w0 M X W' L' F:=hL ▸ K.out.appended i c b d a
theorem HH.apart {i j:Nat} {x y:Itm} (K:HH w0 M X W L F) (a:i≠j) (c:L[i]?=some x) (b:L[j]?=some y):∀ g,x.blk=some g→y.blk≠some g:=K.out.apart_ a c b
theorem an.row_sets (h:an w0 M X W L F) (i:Nat) {e:TypeId} {size n g cap:Nat} {xs:List Value} (q:L[i]?=some (.row e size (.slice (some ⟨g,0,none⟩) n cap) n xs)) (o:Nat) (vs:List Value) (C:o+vs.length≤xs.length):
 an w0 M X (W.setCells g o vs) (L.set i (.row e size (.slice (some ⟨g,0,none⟩) n cap) n (dP xs o vs))) F:=by
 obtain⟨m,y | ⟨g',cap',cur,B,u,p,s,z,D,d⟩⟩:=h.row i q
 ·cases y.1
 ·injection B with c x j
  injection c with c
  injection c with c
  subst c
  subst j
  have f:=Blk.lt (t:=e) p
  have A:xs.length≤cur.size:=by rw[←d,List.length_take,Array.length_toList];omega
  have a:=cV (W0:=W) (vs:=vs) (o:=o) (W:=W) (g:=g) (bV (Below.refl _ _) _)
  have hB:=Blk.sets (t:=e) (vs:=vs) (o:=o) p (by omega)
  have l:(dP xs o vs).length=xs.length:=by simp only[dP,List.length_append,List.length_take,List.length_drop];omega
  refine h.turn i q a.size ⟨a.os,a.tape,a.output⟩ (fun b w k=>a.block b w (fun e'=>k e'.symm)) ⟨by rw[l];exact m,.inr ⟨g,cap,_,rfl,u,hB,s,z,?_,?_⟩⟩ (fun g' e'=>⟨.inl e',by injection e' with e';subst e';exact Nat.lt_of_lt_of_le f a.size⟩)
  ·simp only[dP,List.size_toArray,List.length_append,List.length_take,List.length_drop,Array.length_toList];omega
  ·have v:n*size=xs.length:=m.symm
   rw[v]at d ⊢
   simp only[dP]
   have r:(cur.toList.take o++vs).length=o+vs.length:=by rw[List.length_append,List.length_take,Array.length_toList];omega
   conv=>rhs;rw[←d]
   rw[List.take_take,Nat.min_eq_left (by omega),List.take_append,r,List.take_of_length_le (by omega),List.drop_take]
theorem HH.rs {ops:Array Oper} {rest:List Oper} {o:Oper} {a:Act} {Q:Exit→Act→World→Prop} {e ty:TypeId} {size n g cap k:Nat} {xs:List Value} {cells:Array Value} {x y:Operand} (K:HH w0 M X W L F) (i:Nat) (h:L[i]?=some (.row e size (.slice (some ⟨g,0,none⟩) n cap) n xs)) (l:k+cells.size≤xs.length)
 (kk:∀ U,HH w0 M X U L' F→wpList P ops Q rest a U) (c:o.guard=none:=by rfl) (ho:o.op = .store ty x y:=by rfl) (hd:o.dst=none:=by rfl)
 (hx:a.eval x = .pointer (some ⟨g,k,none⟩):=by rfl) (hy:a.eval y = .agg cells:=by rfl) (hT:((P.info? ty).map (·.size) == some cells.size)=true:=by kernel_rfl) (h1:cells.toList.all (·.oneCell')=true:=by rfl)
 (hL:L.set i (.row e size (.slice (some ⟨g,0,none⟩) n cap) n (dP xs k cells.toList))=L':=by(first | (simp only[aj,ai];done) | (simp only[aj,ai];exact rfl))):
 wpList P ops Q (o::rest) a W:=by
 have hown:=K.row i h
 have d:=K.out.row_sets i h k cells.toList (by simpa using l)
 obtain⟨q,r | ⟨g',cap',cur,v,z,f,w,A,C,p⟩⟩:=hown
 ·cases r.1
 ·injection v with b m s
  injection b with b
  injection b with b
  subst b
  have u:xs.length≤cur.size:=by rw[←p,List.length_take,Array.length_toList];omega
  refine wpList_store_mid c ty x y ho g k cells hx hy (fun j B=>⟨?_,Blk.frozen (t:=e) f _⟩) (beq_iff_eq.1 hT) (by rw[←Array.all_toList];exact h1) ?_
  ·rw[Blk.cell (t:=e) f,Array.getElem?_eq_getElem (by omega)];rfl
  ·rw[hd]
   exact kk _ (hL ▸ d)
end
end
section
open Go.RowKit
section
variable {w0 W W' w1:World} {M X X':List Nat} {L L':List Itm} {F:List Fact} {P:Program}
theorem rowAt {α:Type} {s:Sh α} {e:TypeId} {n g cap:Nat} {vs:List Value} {xs:List α} (m:aF s W X vs xs) {j:Nat} {x:α} (h:xs[j]?=some x):
 ∃ r,s.rep W X r x ∧ ∀ U:World,U.ownsRow 0 e s.size (.slice (some ⟨g,0,none⟩) n cap) n vs→At U ⟨g,j*s.size,none⟩ r:=by
 obtain⟨r,c,l⟩:=m.get h
 refine⟨r,c,fun U o k u i=>?_⟩
 obtain⟨y,⟨f,_⟩ | ⟨g',cap',cur,v,w,q,A,z,h9,b⟩⟩:=o
 ·cases f
 ·injection v with a d p
  injection a with a
  injection a with a
  subst a
  rw[add_plain,Blk.cell (t:=e) q]
  have:=l k u i
  rw[←b,List.getElem?_take]at this
  split at this
  ·simpa using this
  ·cases this
theorem aF.put {α:Type} {s:Sh α} {vs new:List Value} {xs:List α} (a:aF s W X vs xs) {i:Nat} {x c:α} (d:xs[i]?=some x) (b:s.rep W X new c):aF s W X (dP vs (i*s.size) new) (xs.set i c):=by
 obtain⟨e,-⟩:=List.getElem?_eq_some_iff.1 d
 have h:=((a.take i).append (.single b)).append (a.drop (i+1))
 have f:xs.take i ++ [c]++xs.drop (i+1)=xs.set i c:=by
  rw[List.set_eq_take_append_cons_drop,if_pos e]
  simp
 rw[f]at h
 unfold dP
 rw[s.len b,←Nat.succ_mul]
 exact h
end
theorem Dy {α β γ δ ε:Type} {G:α→β→γ→δ→ε→Prop} {T:Prop} (a:Hid (∀ x y z u v,G x y z u v)→T) (key:∀ x y z u v,G x y z u v):T:=a key
theorem tC2 {P:Program} {ops:Array Oper} {Q:Exit→Act→World→Prop} {md:Region.Mode} {S:World→Prop} (i j:Nat) {o o2:Oper} {fuel:Nat} {listed:Array Bool} {a:Act} {w:World}
 (h:∀ K':Act→World→Prop,Shut (∀ a w,S w→(S w→wpAnyH P md ops Q S fuel (listed.setIfInBounds i true) a w)→K' a w)→if Region.wanted o (yielded ops a.tmps)=true then Oper.wp P o a w K' Q else K' (a.put o.dst undef) w)
 (b:∀ K':Act→World→Prop,Shut (∀ a w,S w→(S w→wpAnyH P md ops Q S fuel (listed.setIfInBounds j true) a w)→K' a w)→if Region.wanted o2 (yielded ops a.tmps)=true then Oper.wp P o2 a w K' Q else K' (a.put o2.dst undef) w)
 (c:Region.ready md ops listed = [i,j]:=by kernel_rfl) (ho:ops[i]?=some o:=by exact rfl) (ho2:ops[j]?=some o2:=by exact rfl):wpAnyH P md ops Q S (fuel+1) listed a w:=wpAnyH_ready c (by simp) (AllReadyH.cons ho h (AllReadyH.cons ho2 b AllReadyH.nil))
theorem tSt {P:Program} {ops:Array Oper} {Q:Exit→Act→World→Prop} {md:Region.Mode} {S:World→Prop} {c w:World} {M X:List Nat} {L L':List Itm} {F:List Fact} {o:Oper} {fuel:Nat} {listed:Array Bool} {a:Act} {g:Nat} {t ty:TypeId} {old cells:Array Value} {x y:Operand}
 (i:Nat) (K:HH c M X w L F) (b:Nat) (d:L[b]?=some (.box g t old)) (hS:∀ U,HH c M X U L' F→S U) (k:∀ U,HH c M X U L' F→wpAnyH P md ops Q S fuel (listed.setIfInBounds i true) a U)
 (f:Region.ready md ops listed = [i]:=by kernel_rfl) (ho:ops[i]?=some o:=by exact rfl) (hw:Region.wanted o (yielded ops a.tmps)=true:=by rfl) (hop:o.op = .store ty x y:=by rfl) (hd:o.dst=none:=by rfl)
 (hx:a.eval x = .pointer (some ⟨g,0,none⟩):=by rfl) (hy:a.eval y = .agg cells:=by rfl) (hT:((P.info? ty).map (·.size) == some cells.size)=true:=by kernel_rfl) (hz:old.size=cells.size:=by rfl) (h1:cells.toList.all (·.oneCell')=true:=by rfl)
 (hL:L.set b (.box g t cells)=L':=by(first | (simp only[aj,ai];done) | (simp only[aj,ai];exact rfl))):wpAnyH P md ops Q S (fuel+1) listed a w:=
 tC (o:=o) i (fun K' hK=>by
  rw[if_pos hw]
  refine wp_store_row ty x y hop g cells hx hy t old (K.out.blk b d) (beq_iff_eq.1 hT) hz (by rw[←Array.all_toList];exact h1) ?_
  have e:HH c M X (w.setRow g cells) L' F:=hL ▸ K.out.setRow b d cells
  rw[hd]
  exact hK.out _ _ (hS _ e) fun _=>k _ e) f ho
end
section
structure Fil where
 nm:ByteArray
 su:List UInt8
 lo:List UInt8
def Fil.all (f:Fil):List UInt8:=f.su++f.lo
abbrev lM (f:Fil) (A:Option Addr) (n c:Nat) (B:Option Addr) (m d:Nat):List Value:=[.string f.nm,.slice A n c,.slice B m d]
def az:Sh Fil where
 size:=3
 rep w X vs f := ∃ A n c B m d,vs=lM f A n c B m d∧Sl au w X A n c f.su∧Sl au w X B m d f.lo∧f.nm.size≤maxLen
 len:=by rintro w X vs a ⟨A,n,c,B,m,d,rfl,_⟩;rfl
 one:=by
  rintro w X vs a ⟨A,n,c,B,m,d,rfl,_⟩ u hu
  simp only[lM,List.mem_cons,List.not_mem_nil,or_false]at hu
  rcases hu with rfl | rfl | rfl<;>rfl
 keep:=by rintro w w' X vs a ⟨A,n,c,B,m,d,rfl,h,h2,r⟩ k;exact⟨A,n,c,B,m,d,rfl,h.keep k,h2.keep k,r⟩
 more:=by rintro w X X' vs a ⟨A,n,c,B,m,d,rfl,h,h2,r⟩ k;exact⟨A,n,c,B,m,d,rfl,h.more k,h2.more k,r⟩
def aI (fs:List Fil):Nat:=(fs.map (fun f=>f.all.length)).sum
theorem BW {fs:List Fil} {i:Nat} {f:Fil} (h:fs[i]?=some f):aI (fs.take (i+1))=aI (fs.take i)+f.all.length:=by
 obtain⟨a,rfl⟩:=List.getElem?_eq_some_iff.1 h
 unfold aI
 rw[List.take_succ_eq_append_getElem a,List.map_append,List.sum_append]
 simp
theorem iI {fs:List Fil} {f:Fil} (h:f ∈ fs):f.all.length≤aI fs:=by
 unfold aI
 induction fs with
 | nil=>cases h
 | cons g l ih=>
   simp only[List.map_cons,List.sum_cons]
   rcases List.mem_cons.1 h with rfl | h
   ·omega
   ·have:=ih h;omega
theorem vi (fs:List Fil) (i:Nat):aI (fs.take i)≤aI fs:=by
 unfold aI
 conv=>rhs;rw[←List.take_append_drop i fs]
 rw[List.map_append,List.sum_append]
 omega
def qx (b:UInt8):Bool:=decide (97≤b.toNat∧b.toNat≤122∨48≤b.toNat∧b.toNat≤57∨b.toNat=46)
def fnB (s:ByteArray):Bool:=decide (1≤s.size∧s.size≤16)&&s.toList.all qx
structure Dk where
 fs:List Fil
 room:Int
def eO (d:Dk):Prop:=d.fs.length≤64∧0≤d.room∧d.room≤65536∧(∀ f ∈ d.fs,fnB f.nm=true)∧Srt Fil.nm d.fs∧(aI d.fs:Int)≤d.room
end
section
open Go.RowKit
theorem tr (s:ByteArray) (A:Option Addr) (n c:Nat) (B:Option Addr) (m d:Nat) (hn:n+m≤100000) (w:World):
 Calls Tryz.prog 68 #[.agg #[.string s,.slice A n c,.slice B m d]] w fun e w'=>e = .returned (.int .i64 ((n:Int)+m))∧Below w.heap.size w w':=by
 have a:=IntWalk.i64_in ((n:Int)+m) (by omega)
 go_enter Tryz.func68,Tryz.ntmps68
 go_wp2
 go_ret
 exact⟨rfl,(Below.refl _ _).alloc (Nat.le_refl _) _⟩
set_option maxHeartbeats 1000000 in
theorem fV (fs:List Fil) (A:Option Addr) (n g:Nat) (room:Int) (X:List Nat) (w:World) (hX:XOk X w) (h:Sl az w X A n g fs) (hn:n≤64) (N:aI fs≤65536):
 Calls Tryz.prog 46 #[.agg #[.slice A n g,.int .i64 room,.int .i64 (-1),.bool false]] w fun e w'=>e = .returned (.int .i64 (aI fs:Int))∧Below w.heap.size w w':=by
 have t:=Lib.hid h.len
 go_enter Tryz.func46,Tryz.ntmps46
 go_upto_region 1 with(fail)
 refine(hstart hX).cw fun W K=>?_
 have K:=K.ksl0 h
 clear h
 have c0:=K.r 0 rfl
 go_wp2
 clear c0
 go_loopw [9,3] (fun i u wr => ∃ (k:Nat),k≤n∧i = .int .i64 k∧u = .int .i64 (aI (fs.take k):Int)∧HH w [] X wr [] [Sl.fact az A n g fs]) (fun i _ _=>n-(intOf i).toNat)
 case atStart=>exact⟨0,Nat.zero_le _,rfl,rfl,K.tl⟩
 case round=>
  obtain⟨k,J,rfl,rfl,K⟩:=hrel
  by_cases F:k<n
  ·obtain⟨x,f⟩:∃ x,fs[k]?=some x:=⟨_,List.getElem?_eq_getElem (by have:=t.out;omega)⟩
   obtain⟨ad,r,rfl,m,l,⟨C,d,E,H,j,G,rfl,o,v,z⟩,c⟩:=(K.sl 0 rfl).at' f
   have s:=Lib.hid (BW f)
   have b:=Lib.hid (vi fs (k+1))
   have y:=Lib.hid o.len
   have a:=Lib.hid v.len
   have q:Hid (x.all.length=x.su.length+x.lo.length):=Lib.hid (by unfold Fil.all;rw[List.length_append])
   have I:d+j≤100000:=by have:=y.out;have:=a.out;have:=q.out;have:=s.out;have:=b.out;omega
   have O:(aI (fs.take k):Int)+((d:Int)+(j:Int))=(aI (fs.take (k+1)):Int):=by have:=y.out;have:=a.out;have:=q.out;have:=s.out;omega
   have D:wrap64 (aI (fs.take (k+1)):Int)=(aI (fs.take (k+1)):Int):=by unfold wrap64;have:=b.out;omega
   have L:(0:Int)≤(k:Int):=by omega
   have M:(k:Int)<(n:Int):=by omega
   clear f m l o v z
   go_upto_region 5 with(first | (refine bu c ?_) | (refine K.lw fun W K=>?_;refine K.sr 0 rfl fun W K=>?_))
   go_wp2_with (first | refine K.ld 0 rfl ?_ | (go_at_call 68;refine K.cl fun W K=>?_;refine(tr x.nm C d E H j G I W).mono ?_;rintro e P ⟨rfl,p⟩;have K:=K.on p;clear p))
   all_goals go_roundw
   case rel=>exact⟨k+1,by omega,by go_num,by rw[D],K.tl⟩
   case measure=>simp[intOf];omega
  ·obtain rfl:k=n:=by omega
   have B:fs.take k=fs:=List.take_of_length_le (by have:=t.out;omega)
   rw[B]at *
   go_wp2
   go_ret
   exact⟨rfl,K.below⟩
end
section
open Go.RowKit
theorem th {b:UInt8} (h:qx b=true):(97≤b.toNat∧b.toNat≤122)∨(48≤b.toNat∧b.toNat≤57)∨b.toNat=46:=by
 unfold qx at h
 exact of_decide_eq_true h
set_option maxHeartbeats 1000000 in
theorem wX (s:ByteArray) (X:List Nat) (w:World) (hX:XOk X w) (d:fnB s=true):
 Calls Tryz.prog 74 #[.string s] w fun e w'=>e = .returned (.bool true)∧Below w.heap.size w w':=by
 unfold fnB at d
 rw[Bool.and_eq_true,decide_eq_true_eq]at d
 obtain⟨⟨q,v⟩,a⟩:=d
 have j:Hid (∀ (k:Nat) (hk:k<s.size),qx (s[k]'hk)=true):=Lib.hid (fun k hk=>by
  rw[List.all_eq_true]at a
  refine a _ ?_
  rw[ByteArray.toList_eq,ByteArray.getElem_eq_getElem_data]
  simp)
 clear a
 have r:(1:Int)≤(s.size:Int):=by omega
 have u:(s.size:Int)≤16:=by omega
 go_enter Tryz.func74,Tryz.ntmps74
 go_wp2
 go_loopw [16] (fun i wr => ∃ (k:Nat),k≤s.size∧i = .int .i64 k∧HH w [] X wr [] []) (fun i _=>s.size-(intOf i).toNat)
 case atStart=>exact⟨0,Nat.zero_le _,rfl,hstart hX⟩
 case round=>
  obtain⟨k,hk,rfl,K⟩:=hrel
  by_cases hlt:k<s.size
  ·have f:=th (j.out k hlt)
   have n:(0:Int)≤(k:Int):=by omega
   have x:(k:Int)<(s.size:Int):=by omega
   generalize p:s[k]'hlt=b at f
   go_upto_region 6 with(fail)
   rcases f with⟨c,m⟩ | ⟨c,m⟩ | c
   ·have h:(97:Int)≤(b.toNat:Int):=by omega
    have o:(b.toNat:Int)≤122:=by omega
    have g:(48:Int)≤(b.toNat:Int):=by omega
    have l:¬ (b.toNat:Int)≤57:=by omega
    refine K.rg fun W K=>?_
    first | refine tK 0 K ?_ | refine tN 0 K ?_
    first | refine tK 1 K ?_ | refine tN 1 K ?_
    first | refine tK 2 K ?_ | refine tN 2 K ?_
    first | refine tK 3 K ?_ | refine tN 3 K ?_
    first | refine tK 4 K ?_ | refine tN 4 K ?_
    first | refine tK 5 K ?_ | refine tN 5 K ?_
    first | refine tK 6 K ?_ | refine tN 6 K ?_
    first | refine tK 7 K ?_ | refine tN 7 K ?_
    first | refine tK 8 K ?_ | refine tN 8 K ?_
    first | refine tK 9 K ?_ | refine tN 9 K ?_
    first | refine tK 10 K ?_ | refine tN 10 K ?_
    first | refine tK 11 K ?_ | refine tN 11 K ?_
    first | refine tK 12 K ?_ | refine tN 12 K ?_
    first | refine tK 13 K ?_ | refine tN 13 K ?_
    first | refine tK 14 K ?_ | refine tN 14 K ?_
    first | refine tK 15 K ?_ | refine tN 15 K ?_
    first | refine tK 16 K ?_ | refine tN 16 K ?_
    first | refine tK 17 K ?_ | refine tN 17 K ?_
    first | refine tK 18 K ?_ | refine tN 18 K ?_
    first | refine tK 19 K ?_ | refine tN 19 K ?_
    first | refine tK 20 K ?_ | refine tN 20 K ?_
    first | refine tK 21 K ?_ | refine tN 21 K ?_
    refine tE ?_
    go_wp2
    go_roundw
    case rel=>exact⟨k+1,by omega,by go_num,K⟩
    case measure=>simp[intOf];omega
   ·have h:¬ (97:Int)≤(b.toNat:Int):=by omega
    have g:(48:Int)≤(b.toNat:Int):=by omega
    have l:(b.toNat:Int)≤57:=by omega
    refine K.rg fun W K=>?_
    first | refine tK 0 K ?_ | refine tN 0 K ?_
    first | refine tK 1 K ?_ | refine tN 1 K ?_
    first | refine tK 2 K ?_ | refine tN 2 K ?_
    first | refine tK 3 K ?_ | refine tN 3 K ?_
    first | refine tK 4 K ?_ | refine tN 4 K ?_
    first | refine tK 5 K ?_ | refine tN 5 K ?_
    first | refine tK 6 K ?_ | refine tN 6 K ?_
    first | refine tK 7 K ?_ | refine tN 7 K ?_
    first | refine tK 8 K ?_ | refine tN 8 K ?_
    first | refine tK 9 K ?_ | refine tN 9 K ?_
    first | refine tK 10 K ?_ | refine tN 10 K ?_
    first | refine tK 11 K ?_ | refine tN 11 K ?_
    first | refine tK 12 K ?_ | refine tN 12 K ?_
    first | refine tK 13 K ?_ | refine tN 13 K ?_
    first | refine tK 14 K ?_ | refine tN 14 K ?_
    first | refine tK 15 K ?_ | refine tN 15 K ?_
    first | refine tK 16 K ?_ | refine tN 16 K ?_
    first | refine tK 17 K ?_ | refine tN 17 K ?_
    first | refine tK 18 K ?_ | refine tN 18 K ?_
    first | refine tK 19 K ?_ | refine tN 19 K ?_
    first | refine tK 20 K ?_ | refine tN 20 K ?_
    first | refine tK 21 K ?_ | refine tN 21 K ?_
    refine tE ?_
    go_wp2
    go_roundw
    case rel=>exact⟨k+1,by omega,by go_num,K⟩
    case measure=>simp[intOf];omega
   ·have h:¬ (97:Int)≤(b.toNat:Int):=by omega
    have g:¬ (48:Int)≤(b.toNat:Int):=by omega
    have t:((b.toNat:Int) != 46)=false:=by rw[c];rfl
    refine K.rg fun W K=>?_
    first | refine tK 0 K ?_ | refine tN 0 K ?_
    first | refine tK 1 K ?_ | refine tN 1 K ?_
    first | refine tK 2 K ?_ | refine tN 2 K ?_
    first | refine tK 3 K ?_ | refine tN 3 K ?_
    first | refine tK 4 K ?_ | refine tN 4 K ?_
    first | refine tK 5 K ?_ | refine tN 5 K ?_
    first | refine tK 6 K ?_ | refine tN 6 K ?_
    first | refine tK 7 K ?_ | refine tN 7 K ?_
    first | refine tK 8 K ?_ | refine tN 8 K ?_
    first | refine tK 9 K ?_ | refine tN 9 K ?_
    first | refine tK 10 K ?_ | refine tN 10 K ?_
    first | refine tK 11 K ?_ | refine tN 11 K ?_
    first | refine tK 12 K ?_ | refine tN 12 K ?_
    first | refine tK 13 K ?_ | refine tN 13 K ?_
    first | refine tK 14 K ?_ | refine tN 14 K ?_
    first | refine tK 15 K ?_ | refine tN 15 K ?_
    first | refine tK 16 K ?_ | refine tN 16 K ?_
    first | refine tK 17 K ?_ | refine tN 17 K ?_
    first | refine tK 18 K ?_ | refine tN 18 K ?_
    first | refine tK 19 K ?_ | refine tN 19 K ?_
    first | refine tK 20 K ?_ | refine tN 20 K ?_
    first | refine tK 21 K ?_ | refine tN 21 K ?_
    refine tE ?_
    go_wp2
    go_roundw
    case rel=>exact⟨k+1,by omega,by go_num,K⟩
    case measure=>simp[intOf];omega
  ·obtain rfl:k=s.size:=by omega
   go_wp2
   go_ret
   exact⟨rfl,K.below⟩
end
section
open Go.RowKit
def findD (fs:List Fil) (nm:ByteArray):Int:=if fF Fil.nm fs nm<fs.length then(fF Fil.nm fs nm:Int) else -1
theorem uj (c:Fil) (A:Option Addr) (n f:Nat) (B:Option Addr) (m d g:Nat) (nm:ByteArray) (w:World) (j:w.cell? ⟨g,0,none⟩=some (.string nm)) (a:g<w.heap.size):
 Calls Tryz.prog 106 #[.agg (lM c A n f B m d).toArray,.pointer (some ⟨g,0,none⟩)] w fun e w'=>e = .returned (.bool (decide (c.nm=nm)))∧Below w.heap.size w w':=by
 have i:(c.nm.toList == nm.toList)=decide (c.nm=nm):=by
  rw[Bool.eq_iff_iff,beq_iff_eq,decide_eq_true_eq]
  exact⟨fL,fun h=>by rw[h]⟩
 have b:¬ g=w.heap.size:=by omega
 simp only[lM]
 go_enter Tryz.func106,Tryz.ntmps106
 go_wp2
 go_ret
 exact⟨rfl,(Below.refl _ _).alloc (Nat.le_refl _) _⟩
theorem AZ (fs:List Fil) (nm:ByteArray) (A:Option Addr) (n v g:Nat) (X:List Nat) (w:World) (hX:XOk X w) (z:Sl az w X A n v fs) (hn:n≤64) (L:w.cell? ⟨g,0,none⟩=some (.string nm)) (c:g<w.heap.size):
 Calls Tryz.prog 105 #[.slice A n v,.func (.func 106) #[] #[.pointer (some ⟨g,0,none⟩)]] w fun e w'=>e = .returned (.int .i64 (findD fs nm))∧Below w.heap.size w w':=by
 have P:=Lib.hid z
 have u:=Lib.hid z.len
 have H:=Lib.hid L
 clear z L
 go_enter Tryz.func105,Tryz.ntmps105
 go_wp2
 go_loopw [8,5] (fun i _ wr => ∃ (k:Nat),k≤n∧i = .int .i64 k∧HH w [] X wr [] [Sl.fact az A n v fs]∧Hid (∀ (j:Nat) d,j<k→fs[j]?=some d→d.nm≠nm)) (fun i _ _=>n-(intOf i).toNat)
 case atStart=>exact⟨0,Nat.zero_le _,rfl,(hstart hX).ksl0 P.out,Lib.hid (fun j d p=>absurd p (Nat.not_lt_zero _))⟩
 case round=>
  obtain⟨k,R,rfl,K,q⟩:=hrel
  by_cases N:k<n
  ·obtain⟨x,t⟩:∃ x,fs[k]?=some x:=⟨_,List.getElem?_eq_getElem (by have:=u.out;omega)⟩
   obtain⟨ad,r,rfl,E,D,⟨G,F,l,I,M,o,rfl,C,m,O⟩,b⟩:=(K.sl 0 rfl).at' t
   have J:=Lib.hid t
   have S:(0:Int)≤(k:Int):=by omega
   have T:(k:Int)<(n:Int):=by omega
   clear t E D C m
   by_cases f:x.nm=nm
   ·have a:decide (x.nm=nm)=true:=decide_eq_true f
    have B:=Lib.hid f
    clear f
    go_wp2_with (first | (refine bu b ?_) | (go_at_call 106;refine(uj x G F l I M o g nm _ ((K.below.cell c).trans H.out) (Nat.lt_of_lt_of_le c K.out.size)).mono ?_;rw[a];rintro e Q ⟨rfl,h⟩;have K:=K.on h;clear h b))
    go_ret
    refine⟨jl ?_,K.below⟩
    have s:fF Fil.nm fs nm=k:=mG J.out B.out q.out
    unfold findD
    rw[s,if_pos (by have:=u.out;omega)]
   ·have a:decide (x.nm=nm)=false:=decide_eq_false f
    have B:=Lib.hid f
    clear f
    go_wp2_with (first | (refine bu b ?_) | (go_at_call 106;refine(uj x G F l I M o g nm _ ((K.below.cell c).trans H.out) (Nat.lt_of_lt_of_le c K.out.size)).mono ?_;rw[a];rintro e Q ⟨rfl,h⟩;have K:=K.on h;clear h b))
    go_roundw
    case rel=>
     refine⟨k+1,by omega,by go_num,K,Lib.hid (fun j d p a=>?_)⟩
     by_cases y:j<k
     ·exact q.out j d y a
     ·obtain rfl:j=k:=by omega
      rw[J.out]at a
      injection a with a
      subst a
      exact B.out
    case measure=>simp[intOf];omega
  ·obtain rfl:k=n:=by omega
   go_wp2
   go_ret
   refine⟨jl ?_,K.below⟩
   have s:fF Fil.nm fs nm=fs.length:=jF (fun d a=>by
    obtain⟨j,p,rfl⟩:=List.mem_iff_getElem.1 a
    exact q.out j _ (by have:=u.out;omega) (List.getElem?_eq_getElem p))
   unfold findD
   rw[s,if_neg (by omega)]
theorem gE (fs:List Fil) (room:Int) (nm:ByteArray) (A:Option Addr) (n a:Nat) (X:List Nat) (w:World) (hX:XOk X w) (b:Sl az w X A n a fs) (hn:n≤64):
 Calls Tryz.prog 48 #[.agg #[.slice A n a,.int .i64 room,.int .i64 (-1),.bool false],.string nm] w fun e w'=>e = .returned (.int .i64 (findD fs nm))∧Below w.heap.size w w':=by
 go_enter Tryz.func48,Tryz.ntmps48
 go_wp2_with fail
 refine(hstart hX).cl fun W K=>?_
 have K:=K.ksl0 b
 clear b
 refine(AZ fs nm A n a _ _ W K.xok (K.sl 0 rfl) hn (K.r 0 rfl 0) (K.out.lt 0 rfl)).mono ?_
 rintro e d ⟨rfl,c⟩
 have K:=K.on c
 go_wp2
 go_ret
 exact⟨rfl,K.below⟩
theorem nr (c:Fil) (A:Option Addr) (n a:Nat) (B:Option Addr) (m d:Nat) (nm:ByteArray) (w:World):
 Calls Tryz.prog 250 #[.agg (lM c A n a B m d).toArray,.string nm] w fun e w'=>e = .returned (.int .i64 (kT c.nm nm))∧Below w.heap.size w w':=by
 simp only[lM]
 go_enter Tryz.func250,Tryz.ntmps250
 go_wp2_with (go_at_call 97;refine(qG _ _ _).mono ?_;rintro e w' ⟨rfl,rfl⟩)
 go_ret
 exact⟨rfl,(Below.refl _ _).alloc (Nat.le_refl _) _⟩
set_option maxHeartbeats 1000000 in
theorem FI (fs:List Fil) (nm:ByteArray) (A:Option Addr) (n G:Nat) (X:List Nat) (w:World) (hX:XOk X w) (H:Sl az w X A n G fs) (p:Srt Fil.nm fs) (hn:n≤64):
 Calls Tryz.prog 249 #[.slice A n G,.string nm,.func (.func 250) #[] #[]] w fun e w' => ∃ (i:Nat) (b:Bool),e = .returned (.tuple #[.int .i64 (i:Int),.bool b])∧i≤n∧(∀ (j:Nat) d,j<i→fs[j]?=some d→ltB d.nm nm=true)∧(∀ d,fs[i]?=some d→ltB d.nm nm=false)∧Below w.heap.size w w':=by
 have Q:=Lib.hid H
 have F:=Lib.hid H.len
 clear H
 go_enter Tryz.func249,Tryz.ntmps249
 go_wp2
 go_loopw [9,10,11] (fun i j _ wr => ∃ (a b:Nat),a≤b∧b≤n∧i = .int .i64 a∧j = .int .i64 b∧HH w [] X wr [] [Sl.fact az A n G fs]∧Hid ((∀ (j:Nat) d,j<a→fs[j]?=some d→ltB d.nm nm=true)∧(∀ (j:Nat) d,b≤j→fs[j]?=some d→ltB d.nm nm=false))) (fun i j _ _=>(intOf j).toNat-(intOf i).toNat)
 case atStart=>exact⟨0,n,Nat.zero_le _,Nat.le_refl _,rfl,rfl,(hstart hX).ksl0 Q.out,Lib.hid ⟨fun j d E=>absurd E (Nat.not_lt_zero _),fun j d E c=>by have:=(List.getElem?_eq_some_iff.1 c).1;have:=F.out;omega⟩⟩
 case round=>
  obtain⟨a,b,M,I,rfl,rfl,K,t⟩:=hrel
  by_cases R:a<b
  ·obtain⟨h,hh,N,S⟩:∃ h:Nat,((a:Int)+(b:Int))/2=(h:Int)∧a≤h∧h<b:=⟨(a+b)/2,by omega,by omega,by omega⟩
   obtain⟨x,u⟩:∃ x,fs[h]?=some x:=⟨_,List.getElem?_eq_getElem (by have:=F.out;omega)⟩
   obtain⟨ad,r,rfl,K,⟨z,y,k,B,D,l,rfl,s,f,q⟩⟩:=K.elem 0 rfl u
   have C:=Lib.hid u
   have O:(0:Int)≤(h:Int):=by omega
   have P:(h:Int)<(n:Int):=by omega
   clear u s f q
   cases hl:ltB x.nm nm with
   | true=>
     have v:=vY hl
     go_wp2_with (first | (refine bu (K.at' 0 rfl) ?_) | (go_at_call 250;refine(nr x z y k B D l nm _).mono ?_;rw[v];rintro e J ⟨rfl,o⟩;have K:=K.on o;clear o v))
     go_roundw
     case rel=>
      refine⟨h+1,b,by omega,I,by go_num,rfl,K.ft,Lib.hid ⟨fun j d E c=>?_,t.out.2⟩⟩
      rcases Nat.lt_or_ge j h with g | g
      ·exact gF (p.lt g c C.out) hl
      ·obtain rfl:j=h:=by omega
       rw[C.out]at c
       injection c with c
       subst c
       exact hl
     case measure=>simp[intOf];omega
   | false=>
     have v:=xg hl
     go_wp2_with (first | (refine bu (K.at' 0 rfl) ?_) | (go_at_call 250;refine(nr x z y k B D l nm _).mono ?_;generalize kT x.nm nm=m at v;rintro e J ⟨rfl,o⟩;have K:=K.on o;clear o))
     go_roundw
     case rel=>
      refine⟨a,h,N,by omega,rfl,by go_num,K.ft,Lib.hid ⟨t.out.1,fun j d E c=>?_⟩⟩
      rcases Nat.lt_or_ge h j with g | g
      ·cases hk:ltB d.nm nm with
       | false=>rfl
       | true=>rw[gF (p.lt g C.out c) hk]at hl;cases hl
      ·obtain rfl:j=h:=by omega
       rw[C.out]at c
       injection c with c
       subst c
       exact hl
     case measure=>simp[intOf];omega
  ·obtain rfl:a=b:=by omega
   by_cases L:a<n
   ·obtain⟨x,u⟩:∃ x,fs[a]?=some x:=⟨_,List.getElem?_eq_getElem (by have:=F.out;omega)⟩
    obtain⟨ad,r,rfl,K,⟨z,y,k,B,D,l,rfl,s,f,q⟩⟩:=K.elem 0 rfl u
    have O:(0:Int)≤(a:Int):=by omega
    have P:(a:Int)<(n:Int):=by omega
    clear u s f q
    go_wp2_with (first | (refine bu (K.at' 0 rfl) ?_) | (go_at_call 250;refine(nr x z y k B D l nm _).mono ?_;generalize kT x.nm nm=m;rintro e J ⟨rfl,o⟩;have K:=K.on o;clear o))
    go_ret2
    exact⟨a,_,rfl,by omega,t.out.1,fun d c=>t.out.2 a d (Nat.le_refl _) c,K.below⟩
   ·obtain rfl:a=n:=by omega
    go_wp2
    go_ret2
    exact⟨a,_,rfl,by omega,t.out.1,fun d c=>t.out.2 a d (Nat.le_refl _) c,K.below⟩
end
section
open Go.RowKit
theorem EK {W:World} {X:List Nat} {ad:Addr} {n b i:Nat} {fs:List Fil} {y:Fil} (h:Sl az W X (some ad) n b fs) (hy:fs[i]?=some y):W.cell? (ad.add (i*3))=some (.string y.nm):=by
 obtain⟨c,r,e,_,_,⟨f,d,g,k,l,j,rfl,_⟩,a⟩:=h.at' hy
 injection e with e
 subst e
 exact a 0 _ rfl
set_option maxHeartbeats 1000000 in
theorem eT (d:Dk) (A:Option Addr) (n c:Nat) (X:List Nat) (w:World) (hX:XOk X w) (g:Sl az w X A n c d.fs) (j:eO d):
 Calls Tryz.prog 26 #[.agg #[.slice A n c,.int .i64 d.room,.int .i64 (-1),.bool false]] w fun e w'=>e = .returned (.bool true)∧Below w.heap.size w w':=by
 obtain⟨fs,room⟩:=d
 obtain⟨T,O,o3,t,s,S⟩:=j
 simp only at *
 have hn:(n:Int)≤64:=by have:=g.len;omega
 have E:aI fs≤65536:=by omega
 have F:=Lib.hid g
 have v:=Lib.hid g.len
 have I:=Lib.hid s
 have D:=Lib.hid t
 clear g s t
 go_enter Tryz.func26,Tryz.ntmps26
 go_upto_region 1 with(fail)
 refine(hstart hX).cw fun W K=>?_
 have K:=K.ksl0 F.out
 have c0:=K.r 0 rfl
 go_upto_region 4 with(fail)
 clear c0
 go_loopw [27] (fun i wr => ∃ (k:Nat),k≤n∧i = .int .i64 k∧HH w [] X wr [.box w.heap.size 30 #[.slice A n c,.int .i64 room,.int .i64 (-1),.bool false]] [Sl.fact az A n c fs]) (fun i _=>n-(intOf i).toNat)
 case atStart=>exact⟨0,Nat.zero_le _,rfl,K⟩
 case round=>
  obtain⟨k,N,rfl,K⟩:=hrel
  by_cases H:k<n
  ·obtain⟨x,l⟩:∃ x,fs[k]?=some x:=⟨_,List.getElem?_eq_getElem (by have:=v.out;omega)⟩
   obtain⟨ad,r,rfl,q,p,⟨P,M,U,Z,n2,V,rfl,o,f,C⟩,a⟩:=(K.sl 0 rfl).at' l
   have z:=Lib.hid l
   have Q:(0:Int)≤(k:Int):=by omega
   have R:(k:Int)<(n:Int):=by omega
   clear l q p o f
   go_upto_region 6 with(first | (refine bu a ?_) | (refine K.lw fun W K=>?_;refine K.sr 0 rfl fun W K=>?_))
   clear a
   refine K.rg fun W K=>?_
   refine tK 0 K ?_
   refine tL 1 (fun _ h=>h.r 0 rfl) K ?_
   refine tC 2 fun K' hK=>?_
   go_simp
   refine(wX x.nm _ _ K.xok (D.out x (List.mem_of_getElem? z.out))).mono ?_
   rintro e G ⟨rfl,b⟩
   refine hK.out _ _ (K.on b) fun K=>?_
   clear hK K' b
   try simp only[Act.put,aq,aj,ai]
   refine tK 3 K ?_
   refine tK 4 K ?_
   refine tK 5 K ?_
   cases k with
   | zero=>
     refine tK 6 K ?_
     refine tK 7 K ?_
     refine tN 8 K ?_
     refine tN 9 K ?_
     refine tN 10 K ?_
     refine tN 11 K ?_
     refine tN 12 K ?_
     refine tN 13 K ?_
     refine tN 14 K ?_
     refine tN 15 K ?_
     refine tN 16 K ?_
     refine tN 17 K ?_
     refine tK 18 K ?_
     refine tK 19 K ?_
     refine tE ?_
     go_wp2
     go_roundw
     case rel=>exact⟨1,by omega,by go_num,K.tl⟩
     case measure=>simp[intOf];omega
   | succ m=>
     obtain⟨y,hy⟩:∃ y,fs[m]?=some y:=⟨_,List.getElem?_eq_getElem (by have:=v.out;omega)⟩
     have B:Op.bytesLess y.nm.toList x.nm.toList=true:=I.out.lt (Nat.lt_succ_self m) hy z.out
     have J:=Lib.hid hy
     clear hy
     have L:(m:Int)<(n:Int):=by omega
     have Y:(0:Int)≤(m:Int):=by omega
     have i5:(0:Int)<(m:Int)+1:=by omega
     refine tK 6 K ?_
     refine tK 7 K ?_
     refine tK 8 K ?_
     refine tL 9 (fun _ h=>h.r 1 rfl) K ?_
     refine tK 10 K ?_
     refine tK 11 K ?_ (hy:=by(intro W _;have u:=IntWalk.i64_in (m:Int) (by omega);go_simp;try with_reducible rfl))
     refine tK 12 K ?_
     refine tK 13 K ?_
     refine tL 14 (fun _ h=>EK (h.sl 0 rfl) J.out) K ?_
     refine tK 15 K ?_
     refine tL 16 (fun _ h=>h.r 0 rfl) K ?_
     refine tK 17 K ?_
     refine tK 18 K ?_
     refine tK 19 K ?_
     refine tE ?_
     go_wp2
     go_roundw
     case rel=>exact⟨m+1+1,by omega,by go_num,K.tl⟩
     case measure=>simp[intOf];omega
  ·obtain rfl:k=n:=by omega
   go_upto_region 9 with(fail)
   refine K.rg fun W K=>?_
   refine tL 0 (fun _ h=>h) K ?_ (hy:=fun w u=>aD (u.at_ 0 rfl))
   refine tK 2 K ?_
   refine tL 3 (fun _ h=>h.r 0 rfl) K ?_
   refine tC 1 fun K' hK=>?_
   go_simp
   refine(fV fs A k c room _ _ K.xok (K.sl 0 rfl) (by omega) E).mono ?_
   rintro e G ⟨rfl,b⟩
   refine hK.out _ _ (K.on b) fun K=>?_
   clear hK K' b
   try simp only[Act.put,aq,aj,ai]
   refine tK 4 K ?_
   refine tK 5 K ?_
   refine tE ?_
   go_wp2
   go_ret
   exact⟨rfl,K.below⟩
end
section
open Go.RowKit
theorem HH.notin {f W:World} {X:List Nat} {x:Itm} {L:List Itm} {F:List Fact} {g:Nat} (K:HH f [] X W (x::L) F) (c:x.blk=some g):g ∉ Exs L++X:=by
 intro e
 have h:=K.out
 rcases List.mem_append.1 e with a | a
 ·unfold Exs at a
  obtain⟨y,hy,d⟩:=List.mem_filterMap.1 a
  exact(List.rel_of_pairwise_cons h.apart hy) g c d
 ·have i:=h.xok g a
  rcases((h.ents x (by simp)).2 g c).1 with b | b
  ·omega
  ·cases b
theorem HH.one {α:Type} {s:Sh α} {b W:World} {X:List Nat} {L:List Itm} {F:List Fact} {g:Nat} {t:TypeId} {cs:Array Value} {x:α} (K:HH b [] X W (.box g t cs::L) F) (a:s.rep W (Exs L++X) cs.toList x):HH b [] X W L (Sl.fact s (some ⟨g,0,none⟩) 1 1 [x]::F):=by
 refine K.tl.kn (f:=Sl.fact s (some ⟨g,0,none⟩) 1 1 [x]) ⟨rfl,Nat.le_refl _,by unfold maxLen;omega,(fun e=>by cases e),cs.toList,⟨by rw[s.len a,Nat.one_mul],fun _=>⟨_,rfl,K.out.lt 0 rfl,fun j u d=>?_⟩⟩,fun _ ad e c=>?_,aF.single a⟩
 ·have:=K.r 0 rfl (0+j)
  rw[add_plain,this]
  simpa using d
 ·injection e with e
  subst e
  exact K.notin rfl c
theorem HH.many {α:Type} {s:Sh α} {c W:World} {X:List Nat} {L:List Itm} {F:List Fact} {g n:Nat} {t:TypeId} {cs:Array Value} {xs:List α} (K:HH c [] X W (.box g t cs::L) F) (b:aF s W (Exs L++X) cs.toList xs) (hn:n=xs.length) (a:n≤100000):HH c [] X W L (Sl.fact s (some ⟨g,0,none⟩) n n xs::F):=by
 refine K.tl.kn (f:=Sl.fact s (some ⟨g,0,none⟩) n n xs) ⟨hn,Nat.le_refl _,by unfold maxLen;omega,(fun e=>by cases e),cs.toList,⟨by rw[b.length,hn],fun _=>⟨_,rfl,K.out.lt 0 rfl,fun j u d=>?_⟩⟩,fun _ ad e a=>?_,b⟩
 ·have:=K.r 0 rfl (0+j)
  rw[add_plain,this]
  simpa using d
 ·injection e with e
  subst e
  exact K.notin rfl a
theorem Sl.cap {α:Type} {s:Sh α} {w:World} {X:List Nat} {A:Option Addr} {n c c':Nat} {xs:List α} (h:Sl s w X A n c xs) (d:n≤c') (g:c'≤c):Sl s w X A n c' xs:=by
 obtain⟨f,i,j,a,b⟩:=h
 exact⟨f,d,by omega,fun e=>by have:=a e;omega,b⟩
theorem At.one {W:World} {ad:Addr} {k n:Nat} {r:List Value} {v:Value} (h:At W (ad.add (k*n)) r) (hn:n=1) (a:r[0]?=some v):W.cell? (ad.add k)=some v:=by
 subst hn
 have:=h 0 v a
 rwa [Nat.mul_one]at this
theorem rH {α:Type} {ls:List (List α)} {k:Nat} {x:List α} (h:ls[k]?=some x):(ls.take (k+1)).flatten=(ls.take k).flatten++x:=by
 obtain⟨a,rfl⟩:=List.getElem?_eq_some_iff.1 h
 rw[List.take_succ_eq_append_getElem a,List.flatten_append]
 simp
def yC (P:Program) (ty e:TypeId) (size bytes:Nat):Bool:=(match P.underlying ty with | some (.slice e')=>e' == e | _=>false)&&(match P.info? e with | some i=>i.size == size&&i.bytes == bytes&&(match i.zero with | some z=>z.cells.size == size | none=>false) | none=>false)
theorem jZ {P:Program} {ty e:TypeId} {size bytes:Nat} (h:yC P ty e size bytes=true):P.underlying ty=some (.slice e) ∧ ∃ i z,P.info? e=some i∧i.zero=some z∧i.size=size∧i.bytes=bytes∧z.cells.size=size:=by
 unfold yC at h
 rw[Bool.and_eq_true]at h
 obtain⟨c,a⟩:=h
 refine⟨?_,?_⟩
 ·split at c
  ·next e' he=>rw[he,beq_iff_eq.1 c]
  ·cases c
 ·split at a
  ·next i hi=>
   rw[Bool.and_eq_true,Bool.and_eq_true,beq_iff_eq,beq_iff_eq]at a
   obtain⟨⟨f,d⟩,b⟩:=a
   split at b
   ·next z hz=>exact⟨i,z,hi,hz,f,d,beq_iff_eq.1 b⟩
   ·cases b
  ·cases a
section
variable {w0 W W' w1:World} {M X:List Nat} {L:List Itm} {F:List Fact} {P:Program}
theorem HH.rgt {id:Nat} {ops:Array Oper} {Q:Exit→Act→World→Prop} {a:Act} (K:HH w0 M X W L F) {L2 L':List Itm} {F2:List Fact} [h:Adv W W' L L'] (hT:∀ V,HH w0 M X V L' F→HH w0 M X V L2 F2)
 (k:∀ U,HH w0 M X U L' F→wpAnyH P .any ops (NoPanic Q) (fun V=>HH w0 M X V L2 F2) ops.size (Array.replicate ops.size false) a U) (b:P.follows .mixedOrders=true:=by kernel_rfl):(Code.region id ops true).wp P Q a W':=
 wp_region_noPanic (wp_region_held_drew (S:=fun V=>HH w0 M X V L2 F2) b (hT _ (h.go K.out).drew) fun _=>k _ (h.go K.out).drew)
theorem HH.ap1 {ops:Array Oper} {rest:List Oper} {o:Oper} {a:Act} {Q:Exit→Act→World→Prop} {e t ty:TypeId} {size n b c:Nat} {xs:List Value} {v:Value} {ns:Array Value} {s x:Operand} {L':Value→List Itm} (K:HH w0 M X W (.box b t ns::L) F) (bytes i:Nat) (g:L[i]?=some (.row e size v n xs)) (hn:n≤100000)
 (k:∀ v' U,HH w0 M X U (L' v') F→wpList P ops Q rest (a.put o.dst v') U) (d:o.guard=none:=by rfl) (ho:o.op = .call { callee := .builtin .append,args:=#[s,x],argTypes:=#[ty,ty] }:=by rfl)
 (hs:a.eval s=v:=by rfl) (hx:a.eval x = .slice (some ⟨b,0,none⟩) 1 c:=by rfl) (hT:yC P ty e size bytes=true:=by kernel_rfl) (hz:ns.size=size:=by rfl) (h0:(0<size∧bytes≤1000):=by decide) (h1:ns.toList.all (·.oneCell')=true:=by rfl)
 (hL:∀ v',L.set i (.row e size v' (n+1) (xs++ns.toList))=L' v':=by(intro v';first | (simp only[aj,ai];done) | (simp only[aj,ai];exact rfl))):
 wpList P ops Q (o::rest) a W:=by
 obtain⟨w,h,z,B,q,y,m,C⟩:=jZ hT
 have hR:Reads W W.heap.size size (some ⟨b,0,none⟩) 1 ns.toList:=⟨by rw[Array.length_toList,hz,Nat.one_mul],fun _=>⟨_,rfl,K.out.lt 0 rfl,fun j u f=>by
  rw[add_plain,K.r 0 rfl]
  simpa using f⟩⟩
 have D:(n+1)*bytes≤100001*1000:=Nat.mul_le_mul (by omega) h0.2
 refine aP W d s x ty ho 0 e h z size bytes w B q y m C h0.1 v n xs hs (K.row (i+1) (by simpa using g)) W.heap.size _ 1 c ns.toList hx hR (fun u f=>List.all_eq_true.1 h1 u f) (by unfold maxLen;omega) (by omega) (Nat.zero_le _) fun v' w' A l p=>k v' w' ?_
 have:=K.tl.out.appended i g A l p
 rw[hL]at this
 exact this
theorem HH.apS {α:Type} {sh:Sh α} {ops:Array Oper} {rest:List Oper} {o:Oper} {a:Act} {Q:Exit→Act→World→Prop} {e ty:TypeId} {n m c:Nat} {A:Option Addr} {ys:List α} {xs:List Value} {v:Value} {s x:Operand} {L':Value→List Value→List Itm} (K:HH w0 M X W L F) (bytes i:Nat) (g:L[i]?=some (.row e sh.size v n xs)) (d:Sl sh W (Exs L++X) A m c ys) (hn:n+m≤100000)
 (k:∀ v' vs U,HH w0 M X U (L' v' vs) (Ra.fact sh vs ys::F)→wpList P ops Q rest (a.put o.dst v') U) (b:o.guard=none:=by rfl) (ho:o.op = .call { callee := .builtin .append,args:=#[s,x],argTypes:=#[ty,ty] }:=by rfl)
 (hs:a.eval s=v:=by rfl) (hx:a.eval x = .slice A m c:=by rfl) (hT:yC P ty e sh.size bytes=true:=by kernel_rfl) (h0:(0<sh.size∧bytes≤1000):=by decide)
 (hL:∀ v' vs,L.set i (.row e sh.size v' (n+m) (xs++vs))=L' v' vs:=by(intro v' vs;first | (simp only[aj,ai];done) | (simp only[aj,ai];exact rfl))):
 wpList P ops Q (o::rest) a W:=by
 obtain⟨r,h,z,w,q,t,l,y⟩:=jZ hT
 obtain⟨vs,hR,-,f⟩:=d.reads
 have B:(n+m)*bytes≤100000*1000:=Nat.mul_le_mul hn h0.2
 refine aP W b s x ty ho 0 e h z sh.size bytes r w q t l y h0.1 v n xs hs (K.row i g) W.heap.size _ m c vs hx hR (aF.one_ f) (by unfold maxLen;omega) (by omega) (Nat.zero_le _) fun v' w' u j p=>k v' vs w' ?_
 have:=(K.kra f).out.appended i g u j p
 rw[hL]at this
 exact this
theorem mk0 {ty e:TypeId} {size bytes:Nat} (hT:yC P ty e size bytes=true) (k:bytes≤1000) (n:Nat) (hn:n≤100000) (W:World):∃ Z,(Instr.makeSlice ty (.int .i64 0) (.int .i64 (n:Int))).run P W = .ok (.slice (some ⟨W.heap.size,0,none⟩) 0 n) (W.alloc (.cells Z e)) ∧
 (W.alloc (.cells Z e)).ownsRow W.heap.size e size (.slice (some ⟨W.heap.size,0,none⟩) 0 n) 0 []∧Below W.heap.size W (W.alloc (.cells Z e)):=by
 obtain⟨d,b,z,g,c,f,h,j⟩:=jZ hT
 have i:b.bytes*n≤1000*100000:=Nat.mul_le_mul (by omega) hn
 have a:=lg (P:=P) ty e b z d g c .i64 .i64 0 n (Nat.zero_le _) (by omega) (by omega) W
 exact⟨_,a,World.ownsRow_made W _ n (Nat.le_refl _) (by unfold maxLen;omega) (by rw[size_madeCells,f]),(Below.refl _ W).alloc (Nat.le_refl _) _⟩
end
theorem tRs {P:Program} {ops:Array Oper} {Q:Exit→Act→World→Prop} {md:Region.Mode} {S:World→Prop} {d w:World} {M X:List Nat} {L L':List Itm} {F:List Fact} {o:Oper} {fuel:Nat} {listed:Array Bool} {a:Act} {e ty:TypeId} {size n g cap k:Nat} {xs:List Value} {cells:Array Value} {x y:Operand}
 (i:Nat) (K:HH d M X w L F) (b:Nat) (f:L[b]?=some (.row e size (.slice (some ⟨g,0,none⟩) n cap) n xs)) (m:k+cells.size≤xs.length) (hS:∀ U,HH d M X U L' F→S U) (kk:∀ U,HH d M X U L' F→wpAnyH P md ops Q S fuel (listed.setIfInBounds i true) a U)
 (u:Region.ready md ops listed = [i]:=by kernel_rfl) (ho:ops[i]?=some o:=by exact rfl) (hw:Region.wanted o (yielded ops a.tmps)=true:=by rfl) (hop:o.op = .store ty x y:=by rfl) (hd:o.dst=none:=by rfl)
 (hx:a.eval x = .pointer (some ⟨g,k,none⟩):=by rfl) (hy:a.eval y = .agg cells:=by rfl) (hT:((P.info? ty).map (·.size) == some cells.size)=true:=by kernel_rfl) (h1:cells.toList.all (·.oneCell')=true:=by rfl)
 (hL:L.set b (.row e size (.slice (some ⟨g,0,none⟩) n cap) n (dP xs k cells.toList))=L':=by(first | (simp only[aj,ai];done) | (simp only[aj,ai];exact rfl))):wpAnyH P md ops Q S (fuel+1) listed a w:=
 tC (o:=o) i (fun K' hK=>by
  rw[if_pos hw]
  have l:HH d M X (w.setCells g k cells.toList) L' F:=hL ▸ K.out.row_sets b f k cells.toList (by simpa using m)
  obtain⟨r,s | ⟨g',cap',cur,A,C,h,B,D,G,q⟩⟩:=K.row b f
  ·cases s.1
  ·injection A with c p v
   injection c with c
   injection c with c
   subst c
   have z:xs.length≤cur.size:=by rw[←q,List.length_take,Array.length_toList];omega
   refine wp_store_mid ty x y hop g k cells hx hy (fun j E=>⟨?_,Blk.frozen (t:=e) h _⟩) (beq_iff_eq.1 hT) (by rw[←Array.all_toList];exact h1) ?_
   ·rw[Blk.cell (t:=e) h,Array.getElem?_eq_getElem (by omega)];rfl
   ·rw[hd]
    exact hK.out _ _ (hS _ l) fun _=>kk _ l) u ho
end
section
open Go.RowKit
theorem Bc (s:ByteArray) (X:List Nat) (w:World) (hX:XOk X w) (a:fnB s=true):
 Calls Tryz.prog 104 #[.string s] w fun e w'=>e = .returned (.bool false)∧Below w.heap.size w w':=by
 go_enter Tryz.func104,Tryz.ntmps104
 go_wp2_with fail
 refine(wX s X _ hX a).mono ?_
 rintro e c ⟨rfl,b⟩
 go_wp2
 go_ret
 exact⟨rfl,b⟩
theorem Ck (l:List ByteArray) (A:Option Addr) (n f:Nat) (X:List Nat) (w:World) (hX:XOk X w) (g:Sl fh w X A n f l) (hn:n≤64) (u:∀ s ∈ l,fnB s=true):
 Calls Tryz.prog 172 #[.slice A n f,.func (.func 104) #[] #[]] w fun e w'=>e = .returned (.int .i64 (-1))∧Below w.heap.size w w':=by
 have q:=Lib.hid g
 have t:=Lib.hid g.len
 clear g
 go_enter Tryz.func172,Tryz.ntmps172
 go_wp2
 go_loopw [8,5] (fun i _ wr => ∃ (k:Nat),k≤n∧i = .int .i64 k∧HH w [] X wr [] [Sl.fact fh A n f l]) (fun i _ _=>n-(intOf i).toNat)
 case atStart=>exact⟨0,Nat.zero_le _,rfl,(hstart hX).ksl0 q.out⟩
 case round=>
  obtain⟨k,v,rfl,K⟩:=hrel
  by_cases o:k<n
  ·obtain⟨x,d⟩:∃ x,l[k]?=some x:=⟨_,List.getElem?_eq_getElem (by have:=t.out;omega)⟩
   obtain⟨ad,r,rfl,j,h,⟨rfl,p⟩,a⟩:=(K.sl 0 rfl).at' d
   have b:wr.cell? (ad.add k)=some (.string x):=by
    have:=a 0 _ rfl
    rwa [show(ad.add (k*fh.size)).add 0=ad.add k from by show(ad.add (k*1)).add 0=_;rw[Nat.mul_one];rfl]at this
   have c:=u x (List.mem_of_getElem? d)
   have y:(0:Int)≤(k:Int):=by omega
   have z:(k:Int)<(n:Int):=by omega
   clear d j h a
   go_wp2_with (go_at_call 104;refine(Bc x _ _ K.xok c).mono ?_;rintro e B ⟨rfl,m⟩;have K:=K.on m;clear m b)
   go_roundw
   case rel=>exact⟨k+1,by omega,by go_num,K⟩
   case measure=>simp[intOf];omega
  ·obtain rfl:k=n:=by omega
   go_wp2
   go_ret
   exact⟨rfl,K.below⟩
theorem sj (l:List ByteArray) (A:Option Addr) (n a:Nat) (X:List Nat) (w:World) (hX:XOk X w) (b:Sl fh w X A n a l) (hn:n≤64) (d:∀ s ∈ l,fnB s=true):
 Calls Tryz.prog 103 #[.slice A n a,.func (.func 104) #[] #[]] w fun e w'=>e = .returned (.bool false)∧Below w.heap.size w w':=by
 go_enter Tryz.func103,Tryz.ntmps103
 go_wp2_with fail
 refine(Ck l A n a X _ hX b hn d).mono ?_
 rintro e f ⟨rfl,c⟩
 go_wp2
 go_ret
 exact⟨rfl,c⟩
theorem gC (d:Dk) (A:Option Addr) (n f:Nat) (l:List ByteArray) (B:Option Addr) (m g:Nat) (X:List Nat) (w:World) (hX:XOk X w) (h:Sl az w X A n f d.fs) (b:Sl fh w X B m g l) (i:m≤64) (j:∀ s ∈ l,fnB s=true) (c:eO d):
 Calls Tryz.prog 47 #[.agg #[.slice A n f,.int .i64 d.room,.int .i64 (-1),.bool false],.slice B m g] w fun e w'=>e = .returned (.int .i64 0)∧Below w.heap.size w w':=by
 go_enter Tryz.func47,Tryz.ntmps47
 go_upto_region 1 with(fail)
 refine(hstart hX).cw fun W K=>?_
 have K:=(K.ksl0 b).ksl0 h
 clear h b
 have c0:=K.r 0 rfl
 go_wp2_with (go_at_call 26;refine(eT d A n f _ _ K.xok (K.sl 0 rfl) c).mono ?_;rintro e k ⟨rfl,a⟩;have K:=K.on a;clear a c0;have c0:=K.r 0 rfl)
 refine(sj l B m g _ _ K.xok (K.sl 1 rfl) i j).mono ?_
 rintro e o ⟨rfl,a⟩
 have K:=K.on a
 clear c0 a
 go_wp2
 go_ret
 exact⟨rfl,K.below⟩
theorem tY {α β:Type} {l:List α} {k:Nat} {x:α} (h:l[k]?=some x) (f:α→β):(l.take (k+1)).map f=(l.take k).map f ++ [f x]:=by
 obtain⟨a,rfl⟩:=List.getElem?_eq_some_iff.1 h
 rw[List.take_succ_eq_append_getElem a,List.map_append]
 rfl
set_option maxHeartbeats 1000000 in
theorem oJ (fs:List Fil) (room:Int) (A:Option Addr) (n j:Nat) (X:List Nat) (w:World) (hX:XOk X w) (d:Sl az w X A n j fs) (hn:n≤64) (D:∀ f ∈ fs,f.nm.size≤maxLen):
 Calls Tryz.prog 12 #[.agg #[.slice A n j,.int .i64 room,.int .i64 (-1),.bool false]] w fun e w' => ∃ B c,e = .returned (.slice B n c)∧Sl fh w' X B n c (fs.map Fil.nm)∧Below w.heap.size w w':=by
 have t:=Lib.hid d.len
 go_enter Tryz.func12,Tryz.ntmps12
 go_upto_region 1 with(fail)
 refine(hstart hX).cw fun W K=>?_
 have K:=K.ksl0 d
 clear d
 have c0:=K.r 0 rfl
 obtain⟨Z,g,hrow,p⟩:=mk0 (P:=Tryz.prog) (ty:=32) (e:=9) (size:=1) (bytes:=16) (by kernel_rfl) (by decide) n (by omega) W
 go_upto_region 2 with(fail)
 have K:=K.nrow p hrow
 clear c0 g hrow p
 generalize W.alloc (.cells Z 9)=J at K ⊢
 have c0:=K.r 1 rfl
 go_upto_region 3 with(fail)
 clear c0
 go_loopw [13,3] (fun i v wr => ∃ (k:Nat),k≤n∧i = .int .i64 k∧HH w [] X wr [.row 9 1 v k ((fs.take k).map (fun f=>.string f.nm))] [Sl.fact az A n j fs]) (fun i _ _=>n-(intOf i).toNat)
 case atStart=>exact⟨0,Nat.zero_le _,rfl,K.drop (List.Sublist.cons_cons _ (List.Sublist.cons _ List.Sublist.slnil))⟩
 case round=>
  obtain⟨k,G,rfl,K⟩:=hrel
  by_cases C:k<n
  ·obtain⟨x,h⟩:∃ x,fs[k]?=some x:=⟨_,List.getElem?_eq_getElem (by have:=t.out;omega)⟩
   obtain⟨ad,r,rfl,o,m,⟨H,F,M,O,Q,N,rfl,l,b,u⟩,a⟩:=(K.sl 0 rfl).at' h
   have E:=Lib.hid h
   have I:(0:Int)≤(k:Int):=by omega
   have L:(k:Int)<(n:Int):=by omega
   clear h o m l b
   go_upto_region 5 with(first | (refine bu a ?_) | (refine K.lw fun W K=>?_;refine K.sr 0 rfl fun W K=>?_))
   clear a
   have c0:=K.r 0 rfl
   go_wp2_with (at_builtin;refine K.lw fun W K=>?_;refine K.ap1 16 1 rfl (by omega) fun v' U K=>?_)
   go_roundw
   case rel=>
    refine⟨k+1,by omega,by go_num,?_⟩
    rw[tY E.out]
    exact K.tl
   case measure=>simp[intOf];omega
  ·obtain rfl:k=n:=by omega
   go_wp2
   go_ret
   have y:fs.take k=fs:=List.take_of_length_le (by have:=t.out;omega)
   rw[y]at K
   obtain⟨B,c,rfl,q⟩:=K.out.done_row (s:=fh) (xs:=fs.map Fil.nm) 0 rfl (aM.2 ⟨by rw[List.flatMap_map,List.map_eq_flatMap],fun s d=>by obtain⟨f,z,rfl⟩:=List.mem_map.1 d;exact D f z⟩) (by decide) (by simp)
   exact⟨B,c,rfl,(q.hh).slb 0 rfl,q.below⟩
end
section
open Go.RowKit Go.Shelf
def Tryz.growB_ren:Go.Shelf.Ren:=⟨fun | 4=>107 | n=>n,fun | 22=>50 | 25=>5 | 3=>3 | 4=>4 | 9=>9 | 20=>20 | 0=>0 | n=>n,fun | n=>n⟩
theorem Tryz.growB:Go.Proofs.Lays8.n4 Tryz.prog Tryz.growB_ren:={
 mixed:=by kernel_rfl
 f4:=⟨Tryz.f107.name,by decide,Tryz.func107.trans (congrArg some (by kernel_rfl))⟩
 t0:=Tryz.underlying0
 a0:=Tryz.isAgg0
 z0:=Tryz.sizeOf0
 v0:=Tryz.zeroValue0
 t3:=Tryz.underlying3
 a3:=Tryz.isAgg3
 z3:=Tryz.sizeOf3
 v3:=Tryz.zeroValue3
 t4:=Tryz.underlying4
 a4:=Tryz.isAgg4
 z4:=Tryz.sizeOf4
 v4:=Tryz.zeroValue4
 t9:=Tryz.underlying9
 a9:=Tryz.isAgg9
 z9:=Tryz.sizeOf9
 v9:=Tryz.zeroValue9
 t20:=Tryz.underlying20
 a20:=Tryz.isAgg20
 z20:=Tryz.sizeOf20
 v20:=Tryz.zeroValue20
 t22:=Tryz.underlying50
 a22:=Tryz.isAgg50
 z22:=Tryz.sizeOf50
 v22:=Tryz.zeroValue50 }
theorem Dm (n:Nat) (w:World) (hn:n≤100000):Calls Tryz.prog 107 #[.slice none 0 0,.int .i64 (n:Int)] w fun e w' => ∃ v,e = .returned v∧w'.ownsRow w.heap.size 5 1 v 0 []∧Below w.heap.size w w':=by
 by_cases f:n=0
 ·subst f
  refine(Any8.slices_Grow_room Tryz.growB none 0 0 0 w (by omega) (by omega) (by omega) (by omega)).mono ?_
  rintro e w' ⟨rfl,rfl⟩
  exact⟨_,rfl,⟨rfl,.inl ⟨rfl,rfl⟩⟩,Below.refl _ _⟩
 ·obtain⟨-,d,z,b,g,j,h,c⟩:=jZ (P:=Tryz.prog) (ty:=50) (e:=5) (size:=1) (bytes:=1) (by kernel_rfl)
  refine(Any8.slices_Grow_grow Tryz.growB d z b g (by omega) none 0 0 n [] w (by omega) (by omega) (by rw[h];omega) (by omega) (by simp) (fun _=>rfl) (fun a e=>by cases e)).mono ?_
  rintro e w' ⟨rfl,rfl⟩
  refine⟨_,rfl,?_,((Below.refl _ w).drew).alloc (Nat.le_refl _) _⟩
  have hG:grownCap w (0+n) 0 (Tryz.growB_ren.t 25)≤maxLen:=grownCap_le_maxLen w _ _ _ (by unfold maxLen;omega)
  have i:0+n≤grownCap w (0+n) 0 (Tryz.growB_ren.t 25):=grownCap_ge w _ _ _
  exact World.ownsRow_made w.drew _ _ (Nat.le_refl _) hG (by simp only[Array.size_append,size_zeroCells,c,List.size_toArray,List.length_nil];omega)
def jN (ls:List (List UInt8)) (k:Nat):List UInt8:=(ls.take k).flatten
theorem wI {ls:List (List UInt8)} {k:Nat} {x:List UInt8} (h:ls[k]?=some x):jN ls (k+1)=jN ls k++x:=rH h
theorem Bx (ls:List (List UInt8)) (k:Nat):(jN ls k).length≤ls.flatten.length:=by
 unfold jN
 conv=>rhs;rw[←List.take_append_drop k ls,List.flatten_append,List.length_append]
 omega
theorem Ay {ls:List (List UInt8)} {k:Nat} (h:k=ls.length):jN ls k=ls.flatten:=by unfold jN;rw[List.take_of_length_le (by omega)]
theorem BS {w:World} {X:List Nat} {vs:List Value} {l:List UInt8} (h:aF au w X vs l):vs=byteCells l:=by
 rw[(aM.1 h).1];unfold byteCells;rw[List.map_eq_flatMap]
theorem xT (w:World) (X:List Nat) (l:List UInt8):aF au w X (byteCells l) l:=aM.2 ⟨by unfold byteCells;rw[List.map_eq_flatMap],fun _ _=>trivial⟩
set_option maxHeartbeats 1000000 in
theorem Cr (ls:List (List UInt8)) (A:Option Addr) (m c:Nat) (X:List Nat) (w:World) (hX:XOk X w) (o:Sl (vB au) w X A m c ls) (Q:m≤8) (W:ls.flatten.length≤90000):
 Calls Tryz.prog 49 #[.slice A m c] w fun e w' => ∃ B k,e = .returned (.slice B ls.flatten.length k)∧Sl au w' X B ls.flatten.length k ls.flatten∧Below w.heap.size w w':=by
 have E:=Lib.hid o.len
 have N:=Lib.hid o
 have C:=fun k=>Lib.hid (Bx ls k)
 have D:=Lib.hid (Ay (ls:=ls) (k:=m) o.len)
 have G:=fun k x (h:ls[k]?=some x)=>Lib.hid (wI h)
 generalize ls.flatten=T at *
 clear o
 go_enter Tryz.func49,Tryz.ntmps49
 go_upto_region 3 with(fail)
 go_loopw [11,3] (fun i u wr => ∃ (k:Nat),k≤m∧i = .int .i64 k∧u = .int .i64 ((jN ls k).length:Nat)∧HH w [] X wr [] [Sl.fact (vB au) A m c ls]) (fun i _ _=>m-(intOf i).toNat)
 case atStart=>exact⟨0,Nat.zero_le _,rfl,rfl,(hstart hX).ksl0 N.out⟩
 case round=>
  obtain⟨k,P,rfl,rfl,K⟩:=hrel
  by_cases t:k<m
  ·obtain⟨x,b⟩:∃ x,ls[k]?=some x:=⟨_,List.getElem?_eq_getElem (by have:=E.out;omega)⟩
   obtain⟨ad,r,rfl,f,d,⟨H,n,O,rfl,g⟩,a⟩:=(K.sl 0 rfl).at' b
   have l:=At.one a rfl rfl
   have p:Hid ((jN ls (k+1)).length=(jN ls k).length+n):=Lib.hid (by rw[wI b,List.length_append,g.len])
   have I:(0:Int)≤(k:Int):=by omega
   have J:(k:Int)<(m:Int):=by omega
   have R:((jN ls k).length:Int)+(n:Int)=((jN ls (k+1)).length:Int):=by have:=p.out;omega
   have L:wrap64 ((jN ls (k+1)).length:Int)=((jN ls (k+1)).length:Int):=by unfold wrap64;have:=(C (k+1)).out;omega
   have V:¬ ((jN ls (k+1)).length:Int)<0:=by omega
   clear b f d g a
   go_wp2
   go_roundw
   case rel=>exact⟨k+1,by omega,by go_num,by simp only[L],K⟩
   case measure=>simp[intOf];omega
  ·obtain rfl:k=m:=by omega
   rw[D.out]
   go_wp2_with fail
   refine(Dm T.length wr (by omega)).mono ?_
   rintro e S ⟨v,rfl,hown,y⟩
   have K:=K.nrow y hown
   clear hown y
   go_upto_region 11 with(fail)
   go_loopw [27,6] (fun i u wr => ∃ (j:Nat),j≤k∧i = .int .i64 j∧HH w [] X wr [.row 5 1 u (jN ls j).length (byteCells (jN ls j))] [Sl.fact (vB au) A k c ls]) (fun i _ _=>k-(intOf i).toNat)
   case atStart=>exact⟨0,Nat.zero_le _,rfl,K⟩
   case round=>
    obtain⟨j,Y,rfl,K⟩:=hrel
    by_cases t:j<k
    ·obtain⟨x,b⟩:∃ x,ls[j]?=some x:=⟨_,List.getElem?_eq_getElem (by have:=E.out;omega)⟩
     obtain⟨ad,r,rfl,f,d,⟨H,n,O,rfl,g⟩,a⟩:=(K.sl 0 rfl).at' b
     have l:=At.one a rfl rfl
     have K:=K.ksl g
     have p:=G j x b
     have F:=Lib.hid g.len
     have q:(jN ls j).length+n≤100000:=by have:=(C (j+1)).out;rw[p.out,List.length_append]at this;have:=F.out;omega
     have I:(0:Int)≤(j:Int):=by omega
     have J:(j:Int)<(k:Int):=by omega
     clear b f d g a
     go_wp2_with (at_builtin;refine K.apS 1 0 rfl (K.sl 0 rfl) q fun v' vs U K=>?_)
     go_roundw
     case rel=>
      refine⟨j+1,by omega,by go_num,?_⟩
      have M:=BS (K.ra 0 rfl)
      subst M
      rw[p.out,List.length_append,←F.out]
      unfold byteCells at K ⊢
      rw[List.map_append]
      exact K.ft.ft
     case measure=>simp[intOf];omega
    ·obtain rfl:j=k:=by omega
     go_wp2
     go_ret
     rw[D.out]at K
     obtain⟨B,c,rfl,z⟩:=K.out.done_row (s:=au) 0 rfl (xT _ _ T) (by decide) (by simp)
     exact⟨B,c,rfl,(z.hh).slb 0 rfl,z.below⟩
end
section
open Go.RowKit
theorem kJ:(Tryz.prog.info? 110).map (fun i=>(i.zero,i.size,i.bytes))=some (some (.agg #[.string ⟨#[]⟩,.slice none 0 0,.slice none 0 0]),3,64):=by kernel_rfl
theorem BA (vs ns:List Value) (n b base:Nat) (v:Value) (w:World) (hn:n≤1000) (hown:w.ownsRow base 110 3 v n vs) (hbase:base≤w.heap.size) (g:Blk w b 110 ns.toArray) (t:ns.length=3) (p:∀ u ∈ ns,u.oneCell'=true):
 Calls Tryz.prog 251 #[v,.int .i64 (n:Int),.slice (some ⟨b,0,none⟩) 1 1] w fun e w' => ∃ v',e = .returned v'∧w'.ownsRow base 110 3 v' (n+1) (vs++ns)∧w.grownBy w' v.ownBlock∧(v'.ownBlock=v.ownBlock∨v'.ownBlock=some w.heap.size):=by
 obtain⟨m,l,k,h,i⟩:=info_parts kJ
 have s:Reads w w.heap.size 3 (some ⟨b,0,none⟩) 1 ns:=⟨by rw[t],fun _=>⟨_,rfl,g.lt,fun j u q=>by rw[add_plain,Nat.zero_add,g.cell j];simpa using q⟩⟩
 have r:=Lib.hid hown
 have y:=Lib.hid g
 obtain⟨A,c,rfl,o⟩:=aE hown
 have z:(0:Int)≤(n:Int):=by omega
 clear hown g
 go_enter Tryz.func251,Tryz.ntmps251
 go_wp2_with (at_builtin;go_must (refine aP _ rfl _ _ 28 rfl base 110 m _ 3 64 Tryz.underlying28 l k h i rfl (by omega) (.slice A n c) n vs rfl r.out w.heap.size _ 1 _ ns rfl s p (by unfold maxLen;omega) (by omega) hbase ?_);intro x B d f a)
 all_goals
  go_ret
  exact⟨x,rfl,d,by first | exact f | (subst_vars;exact f),by first | exact a | (subst_vars;exact a)⟩
theorem Dv (vs ns:List Value) (n i b base g cap:Nat) (w:World) (hi:i<n) (hn:n≤1000) (hown:w.ownsRow base 110 3 (.slice (some ⟨g,0,none⟩) n cap) n vs) (hroom:n+1≤cap) (y:Blk w b 110 ns.toArray) (v:ns.length=3) (E:¬ b=g) (T:∀ u ∈ ns,u.oneCell'=true) (O:∀ u ∈ vs,u.oneCell'=true):
 Calls Tryz.prog 251 #[.slice (some ⟨g,0,none⟩) n cap,.int .i64 (i:Int),.slice (some ⟨b,0,none⟩) 1 1] w fun e w'=>e = .returned (.slice (some ⟨g,0,none⟩) (n+1) cap)∧w'.ownsRow base 110 3 (.slice (some ⟨g,0,none⟩) (n+1) cap) (n+1) (vs.take (i*3)++ns++vs.drop (i*3))∧w.grownBy w' (some g):=by
 obtain⟨Z,x,U,z,P⟩:=info_parts kJ
 obtain⟨l,I⟩:=hown
 rcases I with⟨I,_⟩ | ⟨g',cap',cur,Y,R,M,h5,Q,t,L⟩
 ·cases I
 injection Y with d V J
 injection d with d
 injection d with d
 subst d J
 have hG:Blk w g 110 cur:=M
 have A:(Tryz.prog.info? 110).map (·.size)=some 3:=by rw[x];simp[z]
 have h:(vs.drop (i*3)).length=(n-i)*3:=by rw[List.length_drop,l,Nat.sub_mul]
 have K:∀ lb cb,(callFunc 269 #[.slice (some ⟨b,0,none⟩) 1 1,.slice (some ⟨g,(i+1)*3,none⟩) lb cb]).run Tryz.prog w = .ok (.value (.bool false)) w:=fun lb cb=>by
  rw[run_callFunc_extern Tryz.func269 (by kernel_rfl) (by kernel_rfl) (by kernel_rfl) (e:=Extern.SlicesOverlaps.overlaps #[28,28] #[4]) (by kernel_rfl),
   Lib.run_overlaps_apart w 28 4 110 Tryz.underlying28 3 (fun w=>by simp[sizeOf,typeInfo,x,z]) ⟨b,0,none⟩ ⟨g,(i+1)*3,none⟩ 1 1 lb cb E 110 110 3 cur.size
    (by simp[World.shape?,show w.heap[b]?=some (.cells ns.toArray 110 (0,0)) from y,v]) (by simp[World.shape?,M]) (by rw[t];omega) (y.frozen 0) (y.frozen _)]
  rfl
 have F:=fun(W:World) (hW:Blk W g 110 cur)=>Blk.sets (vs:=vs.drop (i*3)) (o:=(i+1)*3) hW (by rw[h,t,←Nat.add_mul];exact Nat.mul_le_mul_right _ (by omega))
 have hsrc:∀ (W:World),Blk W g 110 cur→At W ⟨g,i*3,none⟩ (vs.drop (i*3)):=fun W hW j u q=>by
  rw[add_plain,hW.cell]
  rw[List.getElem?_drop,←L,List.getElem?_take]at q
  split at q
  ·simpa using q
  ·cases q
 have B:∀ (W:World) ty r sc,Blk W g 110 cur→(Builtin.copy_ #[28,28] ty #[.slice (some ⟨g,(i+1)*3,none⟩) (n-i) r,.slice (some ⟨g,i*3,none⟩) (n+1-i) sc]).run Tryz.prog W = .ok (goInt (n-i:Nat)) (W.setCells g ((i+1)*3) (vs.drop (i*3))):=fun W ty r sc hW=>
  eU W _ _ ty 110 g ((i+1)*3) (n-i) r ⟨g,i*3,none⟩ (n+1-i) sc 3 (n-i) (vs.drop (i*3)) Tryz.underlying28 A (by simp only[Nat.min_def];split<;>omega) h (hsrc W hW)
   (fun j q=>by rw[hW.cell,Array.getElem?_eq_getElem (by have G:=q;rw[h]at G;rw[t];omega)];rfl) (fun j _=>hW.frozen _) (fun u X=>O u (List.mem_of_mem_drop X))
 obtain⟨H,c⟩:∃ H,H=(dP cur.toList ((i+1)*3) (vs.drop (i*3))).toArray:=⟨_,rfl⟩
 have D:∀ (W:World) ty r,Blk W g 110 H→Blk W b 110 ns.toArray→(Builtin.copy_ #[28,28] ty #[.slice (some ⟨g,i*3,none⟩) (n+1-i) r,.slice (some ⟨b,0,none⟩) 1 1]).run Tryz.prog W = .ok (goInt 1) (W.setCells g (i*3) ns):=fun W ty r hW p=>
  eU W _ _ ty 110 g (i*3) (n+1-i) r ⟨b,0,none⟩ 1 1 3 1 ns Tryz.underlying28 A (by simp only[Nat.min_def];split<;>omega) (by rw[v])
   (fun j u q=>by rw[add_plain,Nat.zero_add,p.cell];simpa using q)
   (fun j q=>by rw[hW.cell,Array.getElem?_eq_getElem (by rw[c];simp only[dP,List.size_toArray,List.length_append,List.length_take,List.length_drop,Array.length_toList,h,t];omega)];rfl) (fun j _=>hW.frozen _) T
 have i1:(0:Int)≤(i:Int):=by omega
 have i2:(i:Int)≤(n:Int):=by omega
 have i3:¬ (i:Int)=(n:Int):=by omega
 have i4:¬ (cap:Int)<(n:Int)+1:=by omega
 have i5:¬ cap=i:=by omega
 have i6:¬ cap=i+1:=by omega
 go_enter Tryz.func251,Tryz.ntmps251
 go_wp2_with (simp only[K])
 refine wp_region_noPanic ?_
 refine wp_region_held_drew (S:=fun W=>W=w.drew∨W=w.drew.setCells g ((i+1)*3) (vs.drop (i*3))) (by kernel_rfl) (.inl rfl) (fun hH=>?_)
 refine tK 0 hH ?_
 refine tK 1 hH ?_
 refine tK 2 hH ?_
 have N:((i:Int)+1).toNat=i+1:=by omega
 have j1:(0:Int)≤(i:Int)+1:=by omega
 have j2:(i:Int)+1≤(n:Int)+1:=by omega
 have j3:(i:Int)≤(n:Int)+1:=by omega
 refine tK 3 hH ?_ (hy:=by(intro W _;have hw:=IntWalk.i64_in ((i:Int)+1) (by omega);go_simp;try with_reducible rfl))
 refine tK 4 hH ?_
 refine tK 5 hH ?_
 refine tK 6 hH ?_
 refine tK 7 hH ?_
 refine tC 8 fun K' hK=>step_copy_runI rfl _ _ 28 28 rfl _ _ rfl rfl (B _ _ _ _ hG.drew) ?_
 refine hK.out _ _ (.inr rfl) fun hH=>?_
 clear hK K' hH
 try simp only[Act.put,aq,aj,ai]
 refine tE ?_
 have f:=F w.drew hG.drew
 rw[←c]at f
 have p:Blk (w.drew.setCells g ((i+1)*3) (vs.drop (i*3))) b 110 ns.toArray:=(cV (W0:=w.drew) (bV (Below.refl _ _) _)).block b y.lt (by simpa using E) |>.trans y
 have C:w.grownBy (w.drew.setCells g ((i+1)*3) (vs.drop (i*3))) (some g):=cV (gB (bV (Below.refl _ _) _))
 generalize w.drew.setCells g ((i+1)*3) (vs.drop (i*3))=W1 at f p C ⊢
 go_wp2_with (refine wpList_copy_runI _ rfl _ _ 28 28 rfl _ _ rfl rfl (D _ _ _ f p) ?_)
 go_ret
 refine⟨rfl,⟨?_,.inr ⟨g,cap,_,rfl,R,Blk.sets f ?_,by omega,Q,?_,?_⟩⟩,cV C⟩
 ·simp only[List.length_append,List.length_take,List.length_drop,v,l];omega
 ·rw[c];simp only[dP,List.size_toArray,List.length_append,List.length_take,List.length_drop,Array.length_toList,v,l,t];omega
 ·rw[c];simp only[dP,List.size_toArray,List.length_append,List.length_take,List.length_drop,Array.length_toList,v,l,t];omega
 ·rw[c,←L]
  have:=Ai (cur:=cur.toList) (ns:=ns) (a:=i*3) (s:=3) (m:=n*3) (k:=0) v (by omega) (by rw[Array.length_toList,t];omega)
  rw[show i*3+3=(i+1)*3 from by omega,show n*3+3=(n+1)*3 from by omega,List.append_assoc]at this
  exact this
set_option maxHeartbeats 1000000 in
theorem xm (vs ns:List Value) (n i b base g cap:Nat) (w:World) (hi:i<n) (hn:n≤1000) (hown:w.ownsRow base 110 3 (.slice (some ⟨g,0,none⟩) n cap) n vs) (hbase:base≤w.heap.size) (hroom:cap<n+1) (hb:Blk w b 110 ns.toArray) (Z:ns.length=3) (h1:∀ u ∈ ns,u.oneCell'=true) (h2:∀ u ∈ vs,u.oneCell'=true):
 Calls Tryz.prog 251 #[.slice (some ⟨g,0,none⟩) n cap,.int .i64 (i:Int),.slice (some ⟨b,0,none⟩) 1 1] w fun e w' => ∃ G,e = .returned (.slice (some ⟨w.heap.size,0,none⟩) (n+1) G)∧w'.ownsRow base 110 3 (.slice (some ⟨w.heap.size,0,none⟩) (n+1) G) (n+1) (vs.take (i*3)++ns++vs.drop (i*3))∧w.grownBy w' (some g):=by
 obtain⟨i0,J,am,K,F⟩:=info_parts kJ
 obtain⟨B,hc⟩:=hown
 rcases hc with⟨hc,_⟩ | ⟨g',cap',cur,X,h3,h4,h5,h6,h7,h8⟩
 ·cases hc
 injection X with q bd al
 injection q with q
 injection q with q
 subst q al
 have hG:Blk w g 110 cur:=h4
 have L:(Tryz.prog.info? 110).map (·.size)=some 3:=by rw[J];simp[K]
 have v:(vs.drop (i*3)).length=(n-i)*3:=by rw[List.length_drop,B,Nat.sub_mul]
 have x:(vs.take (i*3)).length=i*3:=by rw[List.length_take,B];omega
 have hold:(Builtin.firstCells i0.size i (.slice (some ⟨g,0,none⟩) i cap)).run Tryz.prog w.drew = .ok (vs.take (i*3)).toArray w.drew:=by
  have:=run_loadCells_list (P:=Tryz.prog) w.drew ⟨g,0,none⟩ (vs.take (i*3)) (fun j u h=>by
   rw[add_plain,Nat.zero_add,hG.drew.cell]
   rw[←h8,List.take_take,List.getElem?_take]at h
   split at h
   ·simpa using h
   ·cases h)
  rw[x]at this
  simpa [Builtin.firstCells,K] using this
 have t:=Lib.run_append_grow_zeros w 28 3 28 110 i0 _ .i64 .i64 Tryz.underlying28 Tryz.underlying3 J am (some ⟨g,0,none⟩) i cap (vs.take (i*3)) hold (n+1-i) (by omega) (by omega) (by omega) (by omega) (by rw[F];omega) (by rw[F];exact growslice_fits (by omega) (by omega))
 rw[show i+(n+1-i)=n+1 from by omega,show((n+1-i:Nat):Int)=(n:Int)+1-(i:Int) from by omega]at t
 have H:=grownCap_ge w (n+1) cap 110
 have V:=grownCap_le_maxLen w (n+1) cap 110 (by unfold maxLen;omega)
 generalize grownCap w (n+1) cap 110=G at t H V
 generalize z:(vs.take (i*3)).toArray++Builtin.zeroCells _ (n+1-i)++Builtin.zeroCells _ (G-(n+1))=ROW at t
 have ag:ROW.size=G*3:=by
  rw[←z]
  simp only[Array.size_append,List.size_toArray,size_zeroCells,x,Value.cells,List.length_cons,List.length_nil]
  omega
 have ad:ROW.toList.take (i*3)=vs.take (i*3):=by
  rw[←z,Array.toList_append,Array.toList_append,List.append_assoc]
  exact List.take_left' x
 have y:Blk (w.drew.alloc (.cells ROW 110)) w.heap.size 110 ROW:=Blk.new w.drew 110 ROW
 have D:Blk (w.drew.alloc (.cells ROW 110)) g 110 cur:=hG.drew.alloc _
 have Q:Blk (w.drew.alloc (.cells ROW 110)) b 110 ns.toArray:=hb.drew.alloc _
 have l:w.grownBy (w.drew.alloc (.cells ROW 110)) (some g):=lV (gB (bV (Below.refl _ _) _)) _
 have bb:=hG.lt
 have bc:=hb.lt
 have O:¬ g=w.heap.size:=by omega
 have aw:¬ b=w.heap.size:=by omega
 have N:∀ (W:World) ty A,Blk W w.heap.size 110 ROW→Blk W b 110 ns.toArray→(Builtin.copy_ #[28,28] ty #[.slice (some ⟨w.heap.size,i*3,none⟩) (n+1-i) A,.slice (some ⟨b,0,none⟩) 1 1]).run Tryz.prog W = .ok (goInt 1) (W.setCells w.heap.size (i*3) ns):=fun W ty A hW ac=>
  eU W _ _ ty 110 w.heap.size (i*3) (n+1-i) A ⟨b,0,none⟩ 1 1 3 1 ns Tryz.underlying28 L (by simp only[Nat.min_def];split<;>omega) (by rw[Z])
   (fun j u h=>by rw[add_plain,Nat.zero_add,ac.cell];simpa using h)
   (fun j h=>by rw[hW.cell,Array.getElem?_eq_getElem (by omega)];rfl) (fun j _=>hW.frozen _) h1
 obtain⟨R2,r⟩:∃ R2,R2=(dP ROW.toList (i*3) ns).toArray:=⟨_,rfl⟩
 have U:R2.size=G*3:=by
  rw[r]
  simp only[dP,List.size_toArray,List.length_append,List.length_take,List.length_drop,Array.length_toList,Z,ag]
  omega
 have T:∀ (W:World) ty A sc,Blk W w.heap.size 110 R2→Blk W g 110 cur→(Builtin.copy_ #[28,28] ty #[.slice (some ⟨w.heap.size,(i+1)*3,none⟩) (n-i) A,.slice (some ⟨g,i*3,none⟩) (n-i) sc]).run Tryz.prog W = .ok (goInt (n-i:Nat)) (W.setCells w.heap.size ((i+1)*3) (vs.drop (i*3))):=fun W ty A sc hW ao=>
  eU W _ _ ty 110 w.heap.size ((i+1)*3) (n-i) A ⟨g,i*3,none⟩ (n-i) sc 3 (n-i) (vs.drop (i*3)) Tryz.underlying28 L (by simp only[Nat.min_def];split<;>omega) v
   (fun j u h=>by
    rw[add_plain,ao.cell]
    rw[List.getElem?_drop,←h8,List.getElem?_take]at h
    split at h
    ·simpa using h
    ·cases h)
   (fun j h=>by rw[hW.cell,Array.getElem?_eq_getElem (by have ae:=h;rw[v]at ae;omega)];rfl) (fun j _=>hW.frozen _) (fun u hu=>h2 u (List.mem_of_mem_drop hu))
 have i1:(0:Int)≤(i:Int):=by omega
 have i2:(i:Int)≤(n:Int):=by omega
 have i3:¬ (i:Int)=(n:Int):=by omega
 have i4:(cap:Int)<(n:Int)+1:=by omega
 have i5:¬ cap=i:=by omega
 have i6:¬ G=i:=by omega
 have i7:¬ G=i+1:=by omega
 have ba:((i:Int)+1).toNat=i+1:=by omega
 have j1:(0:Int)≤(i:Int)+1:=by omega
 have j2:(i:Int)+1≤(n:Int)+1:=by omega
 have j3:(i:Int)≤(n:Int)+1:=by omega
 have j4:(i:Int)≤(cap:Int):=by omega
 go_enter Tryz.func251,Tryz.ntmps251
 go_upto_region 10 with(at_builtin;go_must (refine Lib.wpList_append_run _ rfl _ _ _ _ rfl _ _ rfl rfl _ _ t ?_))
 clear t hold
 have X:(w.alloc (.cells ROW 110)).drew=w.drew.alloc (.cells ROW 110):=rfl
 try rw[X]
 generalize w.drew.alloc (.cells ROW 110)=E at y D Q l X ⊢
 clear X
 go_upto_region 11 with(refine wpList_copy_runI _ rfl _ _ 28 28 rfl _ _ rfl rfl (N _ _ _ y Q) ?_)
 have p:=Blk.sets (vs:=ns) (o:=i*3) y (by omega)
 rw[←r]at p
 have c:E.grownBy (E.setCells w.heap.size (i*3) ns) (some w.heap.size):=cV (bV (Below.refl _ _) _)
 have M:Blk (E.setCells w.heap.size (i*3) ns) g 110 cur:=(c.block g D.lt (by simpa using O)).trans D
 have ap:w.heap.size<E.heap.size:=y.lt
 have d:w.grownBy (E.setCells w.heap.size (i*3) ns) (some g):=⟨c.os.trans l.os,c.tape.trans l.tape,c.output.trans l.output,Nat.le_trans l.size c.size,fun k hk C=>(c.block k (by omega) (by simp;omega)).trans (l.block k hk C)⟩
 generalize E.setCells w.heap.size (i*3) ns=I at p M d ⊢
 refine wp_region_noPanic ?_
 refine wp_region_held_drew (S:=fun W=>W=I.drew∨W=I.drew.setCells w.heap.size ((i+1)*3) (vs.drop (i*3))) (by kernel_rfl) (.inl rfl) (fun hH=>?_)
 refine tK 0 hH ?_
 refine tK 1 hH ?_
 refine tK 2 hH ?_
 refine tK 3 hH ?_ (hy:=by(intro W _;have hw:=IntWalk.i64_in ((i:Int)+1) (by omega);go_simp;try with_reducible rfl))
 refine tK 4 hH ?_
 refine tK 5 hH ?_
 refine tK 6 hH ?_
 refine tK 7 hH ?_
 refine tC 8 fun K' hK=>step_copy_runI rfl _ _ 28 28 rfl _ _ rfl rfl (T _ _ _ _ p.drew M.drew) ?_
 refine hK.out _ _ (.inr rfl) fun hH=>?_
 clear hK K' hH
 try simp only[Act.put,aq,aj,ai]
 refine tE ?_
 have ar:w.heap.size<I.heap.size:=p.lt
 have f:I.grownBy (I.drew.setCells w.heap.size ((i+1)*3) (vs.drop (i*3))) (some w.heap.size):=cV (gB (bV (Below.refl _ _) _))
 have ab:=Blk.sets (vs:=vs.drop (i*3)) (o:=(i+1)*3) p.drew (by omega)
 go_wp2
 go_ret
 refine⟨G,rfl,⟨?_,.inr ⟨w.heap.size,G,_,rfl,hbase,ab,H,V,?_,?_⟩⟩,⟨f.os.trans d.os,f.tape.trans d.tape,f.output.trans d.output,Nat.le_trans d.size f.size,fun k hk C=>(f.block k (by omega) (by simp;omega)).trans (d.block k hk C)⟩⟩
 ·simp only[List.length_append,x,v,Z];omega
 ·simp only[dP,List.size_toArray,List.length_append,List.length_take,List.length_drop,Array.length_toList,B,U];omega
 ·rw[r]
  have:=xb (R:=ROW.toList) (ns:=ns) (Y:=vs.drop (i*3)) (a:=i*3) (s:=3) (m:=(n+1)*3) Z (by rw[v];omega) (by rw[Array.length_toList];omega)
  rw[show i*3+3=(i+1)*3 from by omega,ad,List.append_assoc]at this
  exact this
theorem Es (vs ns:List Value) (n i b base:Nat) (v:Value) (w:World) (x:i≤n) (hn:n≤1000) (hown:w.ownsRow base 110 3 v n vs) (hbase:base≤w.heap.size) (f:Blk w b 110 ns.toArray) (l:v.ownBlock≠some b) (j:ns.length=3) (h:∀ u ∈ ns,u.oneCell'=true) (o:∀ u ∈ vs,u.oneCell'=true):
 Calls Tryz.prog 251 #[v,.int .i64 (i:Int),.slice (some ⟨b,0,none⟩) 1 1] w fun e w' => ∃ v',e = .returned v'∧w'.ownsRow base 110 3 v' (n+1) (vs.take (i*3)++ns++vs.drop (i*3))∧w.grownBy w' v.ownBlock∧(v'.ownBlock=v.ownBlock∨v'.ownBlock=some w.heap.size):=by
 rcases Nat.lt_or_ge i n with c | q
 ·rcases hown.2 with⟨t,r⟩ | ⟨g,cap,cur,rfl,r⟩
  ·omega
  ·have a:¬ b=g:=fun e=>l (by rw[e];rfl)
   rcases Nat.lt_or_ge cap (n+1) with d | d
   ·refine(xm vs ns n i b base g cap w c hn hown hbase d f j h o).mono ?_
    rintro e w' ⟨G,rfl,m,k⟩
    exact⟨_,rfl,m,k,.inr rfl⟩
   ·refine(Dv vs ns n i b base g cap w c hn hown d f j a h o).mono ?_
    rintro e w' ⟨rfl,m,k⟩
    exact⟨_,rfl,m,k,.inl rfl⟩
 ·obtain rfl:i=n:=by omega
  have p:vs.take (i*3)=vs:=List.take_of_length_le (by rw[hown.1];exact Nat.le_refl _)
  have s:vs.drop (i*3) = []:=List.drop_of_length_le (by rw[hown.1];exact Nat.le_refl _)
  rw[p,s,List.append_nil]
  exact BA vs ns i b base v w hn hown hbase f j h
end
section
open Go.RowKit
theorem kD:(Tryz.prog.info? 95).map (fun i=>(i.zero,i.size,i.bytes))=some (some (.agg #[.string ⟨#[]⟩,.int .i64 0,.int .i64 0,.int .i64 0,.int .i64 0,.slice none 0 0,.int .i64 0,.int .i64 0,.int .i64 0,.int .i64 0,.int .i64 0,.int .i64 0,.int .i64 0,.int .i64 0,.int .i64 0,.int .i64 0,.int .i64 0,.int .i64 0,.int .i64 0,.int .i64 0,.int .i64 0]),21,192):=by kernel_rfl
theorem AW (vs ns:List Value) (n b base:Nat) (v:Value) (w:World) (hn:n≤1000) (hown:w.ownsRow base 95 21 v n vs) (hbase:base≤w.heap.size) (g:Blk w b 95 ns.toArray) (t:ns.length=21) (p:∀ u ∈ ns,u.oneCell'=true):
 Calls Tryz.prog 98 #[v,.int .i64 (n:Int),.slice (some ⟨b,0,none⟩) 1 1] w fun e w' => ∃ v',e = .returned v'∧w'.ownsRow base 95 21 v' (n+1) (vs++ns)∧w.grownBy w' v.ownBlock∧(v'.ownBlock=v.ownBlock∨v'.ownBlock=some w.heap.size):=by
 obtain⟨m,l,k,h,i⟩:=info_parts kD
 have s:Reads w w.heap.size 21 (some ⟨b,0,none⟩) 1 ns:=⟨by rw[t],fun _=>⟨_,rfl,g.lt,fun j u q=>by rw[add_plain,Nat.zero_add,g.cell j];simpa using q⟩⟩
 have r:=Lib.hid hown
 have y:=Lib.hid g
 obtain⟨A,c,rfl,o⟩:=aE hown
 have z:(0:Int)≤(n:Int):=by omega
 clear hown g
 go_enter Tryz.func98,Tryz.ntmps98
 go_wp2_with (at_builtin;go_must (refine aP _ rfl _ _ 35 rfl base 95 m _ 21 192 Tryz.underlying35 l k h i rfl (by omega) (.slice A n c) n vs rfl r.out w.heap.size _ 1 _ ns rfl s p (by unfold maxLen;omega) (by omega) hbase ?_);intro x B d f a)
 all_goals
  go_ret
  exact⟨x,rfl,d,by first | exact f | (subst_vars;exact f),by first | exact a | (subst_vars;exact a)⟩
theorem CZ (vs ns:List Value) (n i b base g cap:Nat) (w:World) (hi:i<n) (hn:n≤1000) (hown:w.ownsRow base 95 21 (.slice (some ⟨g,0,none⟩) n cap) n vs) (hroom:n+1≤cap) (y:Blk w b 95 ns.toArray) (v:ns.length=21) (E:¬ b=g) (T:∀ u ∈ ns,u.oneCell'=true) (O:∀ u ∈ vs,u.oneCell'=true):
 Calls Tryz.prog 98 #[.slice (some ⟨g,0,none⟩) n cap,.int .i64 (i:Int),.slice (some ⟨b,0,none⟩) 1 1] w fun e w'=>e = .returned (.slice (some ⟨g,0,none⟩) (n+1) cap)∧w'.ownsRow base 95 21 (.slice (some ⟨g,0,none⟩) (n+1) cap) (n+1) (vs.take (i*21)++ns++vs.drop (i*21))∧w.grownBy w' (some g):=by
 obtain⟨Z,x,U,z,P⟩:=info_parts kD
 obtain⟨l,I⟩:=hown
 rcases I with⟨I,_⟩ | ⟨g',cap',cur,Y,R,M,h5,Q,t,L⟩
 ·cases I
 injection Y with d V J
 injection d with d
 injection d with d
 subst d J
 have hG:Blk w g 95 cur:=M
 have A:(Tryz.prog.info? 95).map (·.size)=some 21:=by rw[x];simp[z]
 have h:(vs.drop (i*21)).length=(n-i)*21:=by rw[List.length_drop,l,Nat.sub_mul]
 have K:∀ lb cb,(callFunc 160 #[.slice (some ⟨b,0,none⟩) 1 1,.slice (some ⟨g,(i+1)*21,none⟩) lb cb]).run Tryz.prog w = .ok (.value (.bool false)) w:=fun lb cb=>by
  rw[run_callFunc_extern Tryz.func160 (by kernel_rfl) (by kernel_rfl) (by kernel_rfl) (e:=Extern.SlicesOverlaps.overlaps #[35,35] #[4]) (by kernel_rfl),
   Lib.run_overlaps_apart w 35 4 95 Tryz.underlying35 21 (fun w=>by simp[sizeOf,typeInfo,x,z]) ⟨b,0,none⟩ ⟨g,(i+1)*21,none⟩ 1 1 lb cb E 95 95 21 cur.size
    (by simp[World.shape?,show w.heap[b]?=some (.cells ns.toArray 95 (0,0)) from y,v]) (by simp[World.shape?,M]) (by rw[t];omega) (y.frozen 0) (y.frozen _)]
  rfl
 have F:=fun(W:World) (hW:Blk W g 95 cur)=>Blk.sets (vs:=vs.drop (i*21)) (o:=(i+1)*21) hW (by rw[h,t,←Nat.add_mul];exact Nat.mul_le_mul_right _ (by omega))
 have hsrc:∀ (W:World),Blk W g 95 cur→At W ⟨g,i*21,none⟩ (vs.drop (i*21)):=fun W hW j u q=>by
  rw[add_plain,hW.cell]
  rw[List.getElem?_drop,←L,List.getElem?_take]at q
  split at q
  ·simpa using q
  ·cases q
 have B:∀ (W:World) ty r sc,Blk W g 95 cur→(Builtin.copy_ #[35,35] ty #[.slice (some ⟨g,(i+1)*21,none⟩) (n-i) r,.slice (some ⟨g,i*21,none⟩) (n+1-i) sc]).run Tryz.prog W = .ok (goInt (n-i:Nat)) (W.setCells g ((i+1)*21) (vs.drop (i*21))):=fun W ty r sc hW=>
  eU W _ _ ty 95 g ((i+1)*21) (n-i) r ⟨g,i*21,none⟩ (n+1-i) sc 21 (n-i) (vs.drop (i*21)) Tryz.underlying35 A (by simp only[Nat.min_def];split<;>omega) h (hsrc W hW)
   (fun j q=>by rw[hW.cell,Array.getElem?_eq_getElem (by have G:=q;rw[h]at G;rw[t];omega)];rfl) (fun j _=>hW.frozen _) (fun u X=>O u (List.mem_of_mem_drop X))
 obtain⟨H,c⟩:∃ H,H=(dP cur.toList ((i+1)*21) (vs.drop (i*21))).toArray:=⟨_,rfl⟩
 have D:∀ (W:World) ty r,Blk W g 95 H→Blk W b 95 ns.toArray→(Builtin.copy_ #[35,35] ty #[.slice (some ⟨g,i*21,none⟩) (n+1-i) r,.slice (some ⟨b,0,none⟩) 1 1]).run Tryz.prog W = .ok (goInt 1) (W.setCells g (i*21) ns):=fun W ty r hW p=>
  eU W _ _ ty 95 g (i*21) (n+1-i) r ⟨b,0,none⟩ 1 1 21 1 ns Tryz.underlying35 A (by simp only[Nat.min_def];split<;>omega) (by rw[v])
   (fun j u q=>by rw[add_plain,Nat.zero_add,p.cell];simpa using q)
   (fun j q=>by rw[hW.cell,Array.getElem?_eq_getElem (by rw[c];simp only[dP,List.size_toArray,List.length_append,List.length_take,List.length_drop,Array.length_toList,h,t];omega)];rfl) (fun j _=>hW.frozen _) T
 have i1:(0:Int)≤(i:Int):=by omega
 have i2:(i:Int)≤(n:Int):=by omega
 have i3:¬ (i:Int)=(n:Int):=by omega
 have i4:¬ (cap:Int)<(n:Int)+1:=by omega
 have i5:¬ cap=i:=by omega
 have i6:¬ cap=i+1:=by omega
 go_enter Tryz.func98,Tryz.ntmps98
 go_wp2_with (simp only[K])
 refine wp_region_noPanic ?_
 refine wp_region_held_drew (S:=fun W=>W=w.drew∨W=w.drew.setCells g ((i+1)*21) (vs.drop (i*21))) (by kernel_rfl) (.inl rfl) (fun hH=>?_)
 refine tK 0 hH ?_
 refine tK 1 hH ?_
 refine tK 2 hH ?_
 have N:((i:Int)+1).toNat=i+1:=by omega
 have j1:(0:Int)≤(i:Int)+1:=by omega
 have j2:(i:Int)+1≤(n:Int)+1:=by omega
 have j3:(i:Int)≤(n:Int)+1:=by omega
 refine tK 3 hH ?_ (hy:=by(intro W _;have hw:=IntWalk.i64_in ((i:Int)+1) (by omega);go_simp;try with_reducible rfl))
 refine tK 4 hH ?_
 refine tK 5 hH ?_
 refine tK 6 hH ?_
 refine tK 7 hH ?_
 refine tC 8 fun K' hK=>step_copy_runI rfl _ _ 35 35 rfl _ _ rfl rfl (B _ _ _ _ hG.drew) ?_
 refine hK.out _ _ (.inr rfl) fun hH=>?_
 clear hK K' hH
 try simp only[Act.put,aq,aj,ai]
 refine tE ?_
 have f:=F w.drew hG.drew
 rw[←c]at f
 have p:Blk (w.drew.setCells g ((i+1)*21) (vs.drop (i*21))) b 95 ns.toArray:=(cV (W0:=w.drew) (bV (Below.refl _ _) _)).block b y.lt (by simpa using E) |>.trans y
 have C:w.grownBy (w.drew.setCells g ((i+1)*21) (vs.drop (i*21))) (some g):=cV (gB (bV (Below.refl _ _) _))
 generalize w.drew.setCells g ((i+1)*21) (vs.drop (i*21))=W1 at f p C ⊢
 go_wp2_with (refine wpList_copy_runI _ rfl _ _ 35 35 rfl _ _ rfl rfl (D _ _ _ f p) ?_)
 go_ret
 refine⟨rfl,⟨?_,.inr ⟨g,cap,_,rfl,R,Blk.sets f ?_,by omega,Q,?_,?_⟩⟩,cV C⟩
 ·simp only[List.length_append,List.length_take,List.length_drop,v,l];omega
 ·rw[c];simp only[dP,List.size_toArray,List.length_append,List.length_take,List.length_drop,Array.length_toList,v,l,t];omega
 ·rw[c];simp only[dP,List.size_toArray,List.length_append,List.length_take,List.length_drop,Array.length_toList,v,l,t];omega
 ·rw[c,←L]
  have:=Ai (cur:=cur.toList) (ns:=ns) (a:=i*21) (s:=21) (m:=n*21) (k:=0) v (by omega) (by rw[Array.length_toList,t];omega)
  rw[show i*21+21=(i+1)*21 from by omega,show n*21+21=(n+1)*21 from by omega,List.append_assoc]at this
  exact this
set_option maxHeartbeats 1000000 in
theorem yc (vs ns:List Value) (n i b base g cap:Nat) (w:World) (hi:i<n) (hn:n≤1000) (hown:w.ownsRow base 95 21 (.slice (some ⟨g,0,none⟩) n cap) n vs) (hbase:base≤w.heap.size) (hroom:cap<n+1) (hb:Blk w b 95 ns.toArray) (Z:ns.length=21) (h1:∀ u ∈ ns,u.oneCell'=true) (h2:∀ u ∈ vs,u.oneCell'=true):
 Calls Tryz.prog 98 #[.slice (some ⟨g,0,none⟩) n cap,.int .i64 (i:Int),.slice (some ⟨b,0,none⟩) 1 1] w fun e w' => ∃ G,e = .returned (.slice (some ⟨w.heap.size,0,none⟩) (n+1) G)∧w'.ownsRow base 95 21 (.slice (some ⟨w.heap.size,0,none⟩) (n+1) G) (n+1) (vs.take (i*21)++ns++vs.drop (i*21))∧w.grownBy w' (some g):=by
 obtain⟨i0,J,am,K,F⟩:=info_parts kD
 obtain⟨B,hc⟩:=hown
 rcases hc with⟨hc,_⟩ | ⟨g',cap',cur,X,h3,h4,h5,h6,h7,h8⟩
 ·cases hc
 injection X with q bd al
 injection q with q
 injection q with q
 subst q al
 have hG:Blk w g 95 cur:=h4
 have L:(Tryz.prog.info? 95).map (·.size)=some 21:=by rw[J];simp[K]
 have v:(vs.drop (i*21)).length=(n-i)*21:=by rw[List.length_drop,B,Nat.sub_mul]
 have x:(vs.take (i*21)).length=i*21:=by rw[List.length_take,B];omega
 have hold:(Builtin.firstCells i0.size i (.slice (some ⟨g,0,none⟩) i cap)).run Tryz.prog w.drew = .ok (vs.take (i*21)).toArray w.drew:=by
  have:=run_loadCells_list (P:=Tryz.prog) w.drew ⟨g,0,none⟩ (vs.take (i*21)) (fun j u h=>by
   rw[add_plain,Nat.zero_add,hG.drew.cell]
   rw[←h8,List.take_take,List.getElem?_take]at h
   split at h
   ·simpa using h
   ·cases h)
  rw[x]at this
  simpa [Builtin.firstCells,K] using this
 have t:=Lib.run_append_grow_zeros w 35 3 35 95 i0 _ .i64 .i64 Tryz.underlying35 Tryz.underlying3 J am (some ⟨g,0,none⟩) i cap (vs.take (i*21)) hold (n+1-i) (by omega) (by omega) (by omega) (by omega) (by rw[F];omega) (by rw[F];exact growslice_fits (by omega) (by omega))
 rw[show i+(n+1-i)=n+1 from by omega,show((n+1-i:Nat):Int)=(n:Int)+1-(i:Int) from by omega]at t
 have H:=grownCap_ge w (n+1) cap 95
 have V:=grownCap_le_maxLen w (n+1) cap 95 (by unfold maxLen;omega)
 generalize grownCap w (n+1) cap 95=G at t H V
 generalize z:(vs.take (i*21)).toArray++Builtin.zeroCells _ (n+1-i)++Builtin.zeroCells _ (G-(n+1))=ROW at t
 have ag:ROW.size=G*21:=by
  rw[←z]
  simp only[Array.size_append,List.size_toArray,size_zeroCells,x,Value.cells,List.length_cons,List.length_nil]
  omega
 have ad:ROW.toList.take (i*21)=vs.take (i*21):=by
  rw[←z,Array.toList_append,Array.toList_append,List.append_assoc]
  exact List.take_left' x
 have y:Blk (w.drew.alloc (.cells ROW 95)) w.heap.size 95 ROW:=Blk.new w.drew 95 ROW
 have D:Blk (w.drew.alloc (.cells ROW 95)) g 95 cur:=hG.drew.alloc _
 have Q:Blk (w.drew.alloc (.cells ROW 95)) b 95 ns.toArray:=hb.drew.alloc _
 have l:w.grownBy (w.drew.alloc (.cells ROW 95)) (some g):=lV (gB (bV (Below.refl _ _) _)) _
 have bb:=hG.lt
 have bc:=hb.lt
 have O:¬ g=w.heap.size:=by omega
 have aw:¬ b=w.heap.size:=by omega
 have N:∀ (W:World) ty A,Blk W w.heap.size 95 ROW→Blk W b 95 ns.toArray→(Builtin.copy_ #[35,35] ty #[.slice (some ⟨w.heap.size,i*21,none⟩) (n+1-i) A,.slice (some ⟨b,0,none⟩) 1 1]).run Tryz.prog W = .ok (goInt 1) (W.setCells w.heap.size (i*21) ns):=fun W ty A hW ac=>
  eU W _ _ ty 95 w.heap.size (i*21) (n+1-i) A ⟨b,0,none⟩ 1 1 21 1 ns Tryz.underlying35 L (by simp only[Nat.min_def];split<;>omega) (by rw[Z])
   (fun j u h=>by rw[add_plain,Nat.zero_add,ac.cell];simpa using h)
   (fun j h=>by rw[hW.cell,Array.getElem?_eq_getElem (by omega)];rfl) (fun j _=>hW.frozen _) h1
 obtain⟨R2,r⟩:∃ R2,R2=(dP ROW.toList (i*21) ns).toArray:=⟨_,rfl⟩
 have U:R2.size=G*21:=by
  rw[r]
  simp only[dP,List.size_toArray,List.length_append,List.length_take,List.length_drop,Array.length_toList,Z,ag]
  omega
 have T:∀ (W:World) ty A sc,Blk W w.heap.size 95 R2→Blk W g 95 cur→(Builtin.copy_ #[35,35] ty #[.slice (some ⟨w.heap.size,(i+1)*21,none⟩) (n-i) A,.slice (some ⟨g,i*21,none⟩) (n-i) sc]).run Tryz.prog W = .ok (goInt (n-i:Nat)) (W.setCells w.heap.size ((i+1)*21) (vs.drop (i*21))):=fun W ty A sc hW ao=>
  eU W _ _ ty 95 w.heap.size ((i+1)*21) (n-i) A ⟨g,i*21,none⟩ (n-i) sc 21 (n-i) (vs.drop (i*21)) Tryz.underlying35 L (by simp only[Nat.min_def];split<;>omega) v
   (fun j u h=>by
    rw[add_plain,ao.cell]
    rw[List.getElem?_drop,←h8,List.getElem?_take]at h
    split at h
    ·simpa using h
    ·cases h)
   (fun j h=>by rw[hW.cell,Array.getElem?_eq_getElem (by have ae:=h;rw[v]at ae;omega)];rfl) (fun j _=>hW.frozen _) (fun u hu=>h2 u (List.mem_of_mem_drop hu))
 have i1:(0:Int)≤(i:Int):=by omega
 have i2:(i:Int)≤(n:Int):=by omega
 have i3:¬ (i:Int)=(n:Int):=by omega
 have i4:(cap:Int)<(n:Int)+1:=by omega
 have i5:¬ cap=i:=by omega
 have i6:¬ G=i:=by omega
 have i7:¬ G=i+1:=by omega
 have ba:((i:Int)+1).toNat=i+1:=by omega
 have j1:(0:Int)≤(i:Int)+1:=by omega
 have j2:(i:Int)+1≤(n:Int)+1:=by omega
 have j3:(i:Int)≤(n:Int)+1:=by omega
 have j4:(i:Int)≤(cap:Int):=by omega
 go_enter Tryz.func98,Tryz.ntmps98
 go_upto_region 10 with(at_builtin;go_must (refine Lib.wpList_append_run _ rfl _ _ _ _ rfl _ _ rfl rfl _ _ t ?_))
 clear t hold
 have X:(w.alloc (.cells ROW 95)).drew=w.drew.alloc (.cells ROW 95):=rfl
 try rw[X]
 generalize w.drew.alloc (.cells ROW 95)=E at y D Q l X ⊢
 clear X
 go_upto_region 11 with(refine wpList_copy_runI _ rfl _ _ 35 35 rfl _ _ rfl rfl (N _ _ _ y Q) ?_)
 have p:=Blk.sets (vs:=ns) (o:=i*21) y (by omega)
 rw[←r]at p
 have c:E.grownBy (E.setCells w.heap.size (i*21) ns) (some w.heap.size):=cV (bV (Below.refl _ _) _)
 have M:Blk (E.setCells w.heap.size (i*21) ns) g 95 cur:=(c.block g D.lt (by simpa using O)).trans D
 have ap:w.heap.size<E.heap.size:=y.lt
 have d:w.grownBy (E.setCells w.heap.size (i*21) ns) (some g):=⟨c.os.trans l.os,c.tape.trans l.tape,c.output.trans l.output,Nat.le_trans l.size c.size,fun k hk C=>(c.block k (by omega) (by simp;omega)).trans (l.block k hk C)⟩
 generalize E.setCells w.heap.size (i*21) ns=I at p M d ⊢
 refine wp_region_noPanic ?_
 refine wp_region_held_drew (S:=fun W=>W=I.drew∨W=I.drew.setCells w.heap.size ((i+1)*21) (vs.drop (i*21))) (by kernel_rfl) (.inl rfl) (fun hH=>?_)
 refine tK 0 hH ?_
 refine tK 1 hH ?_
 refine tK 2 hH ?_
 refine tK 3 hH ?_ (hy:=by(intro W _;have hw:=IntWalk.i64_in ((i:Int)+1) (by omega);go_simp;try with_reducible rfl))
 refine tK 4 hH ?_
 refine tK 5 hH ?_
 refine tK 6 hH ?_
 refine tK 7 hH ?_
 refine tC 8 fun K' hK=>step_copy_runI rfl _ _ 35 35 rfl _ _ rfl rfl (T _ _ _ _ p.drew M.drew) ?_
 refine hK.out _ _ (.inr rfl) fun hH=>?_
 clear hK K' hH
 try simp only[Act.put,aq,aj,ai]
 refine tE ?_
 have ar:w.heap.size<I.heap.size:=p.lt
 have f:I.grownBy (I.drew.setCells w.heap.size ((i+1)*21) (vs.drop (i*21))) (some w.heap.size):=cV (gB (bV (Below.refl _ _) _))
 have ab:=Blk.sets (vs:=vs.drop (i*21)) (o:=(i+1)*21) p.drew (by omega)
 go_wp2
 go_ret
 refine⟨G,rfl,⟨?_,.inr ⟨w.heap.size,G,_,rfl,hbase,ab,H,V,?_,?_⟩⟩,⟨f.os.trans d.os,f.tape.trans d.tape,f.output.trans d.output,Nat.le_trans d.size f.size,fun k hk C=>(f.block k (by omega) (by simp;omega)).trans (d.block k hk C)⟩⟩
 ·simp only[List.length_append,x,v,Z];omega
 ·simp only[dP,List.size_toArray,List.length_append,List.length_take,List.length_drop,Array.length_toList,B,U];omega
 ·rw[r]
  have:=xb (R:=ROW.toList) (ns:=ns) (Y:=vs.drop (i*21)) (a:=i*21) (s:=21) (m:=(n+1)*21) Z (by rw[v];omega) (by rw[Array.length_toList];omega)
  rw[show i*21+21=(i+1)*21 from by omega,ad,List.append_assoc]at this
  exact this
theorem Fg (vs ns:List Value) (n i b base:Nat) (v:Value) (w:World) (x:i≤n) (hn:n≤1000) (hown:w.ownsRow base 95 21 v n vs) (hbase:base≤w.heap.size) (f:Blk w b 95 ns.toArray) (l:v.ownBlock≠some b) (j:ns.length=21) (h:∀ u ∈ ns,u.oneCell'=true) (o:∀ u ∈ vs,u.oneCell'=true):
 Calls Tryz.prog 98 #[v,.int .i64 (i:Int),.slice (some ⟨b,0,none⟩) 1 1] w fun e w' => ∃ v',e = .returned v'∧w'.ownsRow base 95 21 v' (n+1) (vs.take (i*21)++ns++vs.drop (i*21))∧w.grownBy w' v.ownBlock∧(v'.ownBlock=v.ownBlock∨v'.ownBlock=some w.heap.size):=by
 rcases Nat.lt_or_ge i n with c | q
 ·rcases hown.2 with⟨t,r⟩ | ⟨g,cap,cur,rfl,r⟩
  ·omega
  ·have a:¬ b=g:=fun e=>l (by rw[e];rfl)
   rcases Nat.lt_or_ge cap (n+1) with d | d
   ·refine(yc vs ns n i b base g cap w c hn hown hbase d f j h o).mono ?_
    rintro e w' ⟨G,rfl,m,k⟩
    exact⟨_,rfl,m,k,.inr rfl⟩
   ·refine(CZ vs ns n i b base g cap w c hn hown d f j a h o).mono ?_
    rintro e w' ⟨rfl,m,k⟩
    exact⟨_,rfl,m,k,.inl rfl⟩
 ·obtain rfl:i=n:=by omega
  have p:vs.take (i*21)=vs:=List.take_of_length_le (by rw[hown.1];exact Nat.le_refl _)
  have s:vs.drop (i*21) = []:=List.drop_of_length_le (by rw[hown.1];exact Nat.le_refl _)
  rw[p,s,List.append_nil]
  exact AW vs ns i b base v w hn hown hbase f j h
end
section
open Go.RowKit Go.ChangeShapes
theorem pJ {xs:List Cmp} (A:Option Addr) (n c:Nat) (X:List Nat) (w:World) (hX:XOk X w) (f:Sl aB w X A n c xs) (hn:n≤100000):
 Calls Tryz.prog 93 #[.slice A n c] w fun e w' => ∃ v vs,e = .returned v∧aF aB w X vs xs∧w'.ownsRow w.heap.size 95 21 v n vs∧Below w.heap.size w w':=by
 have q:∀ (w:World) (a:Option Addr) (n c n' c':Nat),(binOp .eql 35 (.slice a n c) (.slice none n' c')).run Tryz.prog w = .ok (.bool a.isNone) w:=fun w a n c n' c'=>Lib.run_eql_slice_nil w _ _ a n c n' c' Tryz.underlying35
 obtain⟨s,k,j,h,i⟩:=info_parts kD
 obtain⟨vs,d,-,p⟩:=f.reads
 have hnil:=f.none_
 have y:=f.le
 have g:=Lib.hid p
 clear f p
 rcases A with _ | ad
 ·have m:n=0:=by have:=hnil rfl;omega
  subst m
  have o:vs = []:=List.eq_nil_of_length_eq_zero (by simpa using d.1)
  have B:=Lib.hid o
  clear d hnil o
  go_enter Tryz.func93,Tryz.ntmps93
  go_wp2
  go_ret
  exact⟨_,vs,rfl,g.out,⟨by rw[B.out];rfl,.inl ⟨rfl,rfl⟩⟩,Below.refl _ _⟩
 ·have x:=Lib.hid d;clear d
  have t:=Lib.hid (aF.one_ g.out)
  go_enter Tryz.func93,Tryz.ntmps93
  go_wp2_with (at_builtin;go_must (refine aP _ rfl _ _ 35 rfl w.heap.size 95 s _ 21 192 Tryz.underlying35 k j h i rfl (by omega) _ 0 [] rfl (dj w 95 w.heap.size (Nat.le_refl _) 21) w.heap.size (some ad) n c _ rfl (x.out.alloc (Nat.le_refl _) _) t.out (by unfold maxLen;omega) (by omega) (by simp) ?_);intro z C b l r)
  go_ret
  have u:=cT ((Below.refl w.heap.size w).alloc (Nat.le_refl _) _) l (dj w 95 w.heap.size (Nat.le_refl _) 21) (Nat.le_refl _) (by simp)
  exact⟨z,vs,rfl,g.out,by simpa using b,u⟩
theorem uO (s:St) (b:Evt):ja s b (cS s b):=by
 unfold cS
 by_cases e:bX b=0
 ·rw[if_neg (by simpa using e)]
  by_cases f:b.q=s.q+1
  ·rw[if_neg (by simpa using f)]
   by_cases g:b.a<s.a
   ·rw[if_pos g];exact zg e rfl f g
   ·rw[if_neg g]
    cases hc:s.cs[fu s.cs b.cm]? with
    | none=>
      have h:cX s.cs b.cm = -1:=by unfold cX;rw[if_neg (show ¬ fF Cmp.nm s.cs b.cm<s.cs.length from Nat.not_lt.2 (List.getElem?_eq_none_iff.1 hc))]
      by_cases d:b.k=1
      ·simp only[d,if_true]
       by_cases i:s.cs.length=12
       ·rw[if_pos i];exact zb e h f g d i
       ·rw[if_neg i];exact AU e h f g d i
      ·simp only[d,if_false];exact zZ e h f g d
    | some c=>
      have h:cX s.cs b.cm=(fu s.cs b.cm:Int):=by unfold cX;rw[if_pos (show fF Cmp.nm s.cs b.cm<s.cs.length from(List.getElem?_eq_some_iff.1 hc).1)]
      by_cases d:b.k=1
      ·simp only[d,if_true];exact uu e h f g d
      ·simp only[d,if_false];exact xR e h hc f g d
  ·rw[if_pos (by simpa using f)];exact Ag e rfl f
 ·rw[if_pos (by simpa using e)];exact BO e
def jY (s:St) (er:Int) (X:List Nat) (w:World) (e:Ending) (w':World):Prop := ∃ A n cp,e = .returned (.tuple #[.agg #[.slice A n cp,.int .i64 s.q,.int .i64 s.a],.int .i64 er])∧Below w.heap.size w w'∧Sl aB w' X A n cp s.cs
theorem zu (s:St) (b:Evt) (A:Option Addr) (n f:Nat) (X:List Nat) (w:World) (hX:XOk X w) (j:Sl aB w X A n f s.cs) (g:cF s) (h:b.cm.size≤maxLen) (k:cS s b≠0):
 Calls Tryz.prog 38 #[.agg #[.slice A n f,.int .i64 s.q,.int .i64 s.a],.agg (evA b)] w (jY s (cS s b) X w):=by
 simp only[evA]
 go_enter Tryz.func38,Tryz.ntmps38
 go_wp2_with fail
 refine(hstart hX).cl fun W K=>?_
 have K:=K.ksl0 j
 clear j
 refine(uO s b A n f _ W K.xok (K.sl 0 rfl) g h).mono ?_
 generalize d:cS s b=m at k ⊢
 have l:=Lib.hid d
 clear d
 rintro e o ⟨rfl,i⟩
 have K:=K.on i
 clear i
 have p:=K.r 2 rfl
 have c0:=K.c 0 rfl
 go_wp2_with (refine K.lw fun W K=>?_;refine K.sr 0 rfl fun W K=>?_)
 exact K.rc2 0 rfl rfl ⟨A,n,f,by rw[l.out];rfl,K.below,K.slb 0 rfl⟩
end
section
open Go.RowKit
theorem vl {xs:List _} (A:Option Addr) (n c:Nat) (X:List Nat) (w:World) (hX:XOk X w) (f:Sl az w X A n c xs) (hn:n≤100000):
 Calls Tryz.prog 138 #[.slice A n c] w fun e w' => ∃ v vs,e = .returned v∧aF az w X vs xs∧w'.ownsRow w.heap.size 110 3 v n vs∧Below w.heap.size w w':=by
 have q:∀ (w:World) (a:Option Addr) (n c n' c':Nat),(binOp .eql 28 (.slice a n c) (.slice none n' c')).run Tryz.prog w = .ok (.bool a.isNone) w:=fun w a n c n' c'=>Lib.run_eql_slice_nil w _ _ a n c n' c' Tryz.underlying28
 obtain⟨s,k,j,h,i⟩:=info_parts kJ
 obtain⟨vs,d,-,p⟩:=f.reads
 have hnil:=f.none_
 have y:=f.le
 have g:=Lib.hid p
 clear f p
 rcases A with _ | ad
 ·have m:n=0:=by have:=hnil rfl;omega
  subst m
  have o:vs = []:=List.eq_nil_of_length_eq_zero (by simpa using d.1)
  have B:=Lib.hid o
  clear d hnil o
  go_enter Tryz.func138,Tryz.ntmps138
  go_wp2
  go_ret
  exact⟨_,vs,rfl,g.out,⟨by rw[B.out];rfl,.inl ⟨rfl,rfl⟩⟩,Below.refl _ _⟩
 ·have x:=Lib.hid d;clear d
  have t:=Lib.hid (aF.one_ g.out)
  go_enter Tryz.func138,Tryz.ntmps138
  go_wp2_with (at_builtin;go_must (refine aP _ rfl _ _ 28 rfl w.heap.size 110 s _ 3 64 Tryz.underlying28 k j h i rfl (by omega) _ 0 [] rfl (dj w 110 w.heap.size (Nat.le_refl _) 3) w.heap.size (some ad) n c _ rfl (x.out.alloc (Nat.le_refl _) _) t.out (by unfold maxLen;omega) (by omega) (by simp) ?_);intro z C b l r)
  go_ret
  have u:=cT ((Below.refl w.heap.size w).alloc (Nat.le_refl _) _) l (dj w 110 w.heap.size (Nat.le_refl _) 3) (Nat.le_refl _) (by simp)
  exact⟨z,vs,rfl,g.out,by simpa using b,u⟩
end
section
open Go.RowKit
set_option maxHeartbeats 1000000 in
theorem wL (nm:ByteArray) (l:List UInt8) (A:Option Addr) (n c k:Nat) (X:List Nat) (w:World) (hX:XOk X w) (g:Sl au w X A n c l) (f:k≤n):
 Calls Tryz.prog 71 #[.string nm,.slice A n c,.int .i64 (k:Int)] w fun e w' => ∃ A1 c1 A2 c2,e = .returned (.agg #[.string nm,.slice A1 k c1,.slice A2 (n-k) c2])∧Sl au w' X A1 k c1 (l.take k)∧Sl au w' X A2 (n-k) c2 (l.drop k)∧Below w.heap.size w w':=by
 have b:=g.le
 have m:(0:Int)≤(k:Int):=by omega
 have o:(k:Int)≤(n:Int):=by omega
 have j:(n:Int)≤(c:Int):=by omega
 have p:(k:Int)≤(c:Int):=by omega
 have i:=Lib.hid g
 clear g
 go_enter Tryz.func71,Tryz.ntmps71
 go_upto_region 1 with(fail)
 refine(hstart hX).cw fun W K=>?_
 have K:=K.ksl0 i.out
 refine K.rgt (fun V h=>h.tl) fun W K=>?_
 refine tK 0 K.tl ?_
 refine tK 1 K.tl ?_
 refine tK 2 K.tl ?_
 refine tK 3 K.tl ?_
 refine tK 4 K.tl ?_
 refine tK 5 K.tl ?_
 refine tK 6 K.tl ?_
 refine tK 7 K.tl ?_
 refine tK 8 K.tl ?_
 refine tK 9 K.tl ?_
 refine tK 10 K.tl ?_
 refine tK 11 K.tl ?_
 refine tK 12 K.tl ?_
 have d:=((K.sl 0 rfl).pre f).cap (Nat.le_refl k) (Nat.le_trans f b)
 have a:=((K.sl 0 rfl).cap (Nat.le_refl n) b).suf f
 rw[show k*au.size=k from Nat.mul_one k]at a
 have K:=(K.ksl a).ksl d
 clear d a
 generalize (if n=k then A else Option.map (fun x=>x.add k) A)=A2 at K ⊢
 refine tSt 13 K 0 rfl (fun U h=>h.tl.ft.ft) fun U K=>?_
 refine tE ?_
 go_wp2
 exact K.rc1 0 rfl rfl ⟨A,k,A2,n-k,rfl,K.slb 0 rfl,K.slb 1 rfl,K.below⟩
end
section
open Go.RowKit
theorem jH {α:Type} {f:α→ByteArray} (c:α):∀ l:List α,(eY f c l).length=l.length+1
 | []=>rfl
 | d::l=>by
   unfold eY
   split
   ·rw[List.length_cons,jH c l,List.length_cons]
   ·rfl
set_option maxHeartbeats 1000000 in
theorem sJ (f:Fil) (b:Option Addr) (a c:Nat) (g:Option Addr) (h d:Nat) (fs:List Fil) (E w:World) (X:List Nat) (L:List Itm) (F:List Fact) (v:Value) (n:Nat) (vs:List Value) (K:HH E [] X w (.row 110 3 v n vs::L) (Ra.fact az vs fs::F)) (hn:n≤64) (o:Srt Fil.nm fs)
 (B:Sl au w (Exs (.row 110 3 v n vs::L)++X) b a c f.su) (D:Sl au w (Exs (.row 110 3 v n vs::L)++X) g h d f.lo) (y:f.nm.size≤maxLen):
 Calls Tryz.prog 201 #[v,.agg (lM f b a c g h d).toArray] w fun e w' => ∃ v' vs',e = .returned v'∧HH E [] X w' (.row 110 3 v' (n+1) vs'::L) (Ra.fact az vs' (eY Fil.nm f fs)::F):=by
 obtain⟨A,C,rfl,-⟩:=aE (K.row 0 rfl)
 have hlen:n=fs.length:=by
  have J:=(K.ra 0 rfl).length
  have S:=(K.row 0 rfl).1
  have k:az.size=3:=rfl
  rw[k]at J
  omega
 have t:=Lib.hid hlen
 have K:=(K.kn (f:=Sl.fact au g h d f.lo) D).kn (f:=Sl.fact au b a c f.su) B
 clear B D hlen
 simp only[lM]
 go_enter Tryz.func201,Tryz.ntmps201
 go_wp2_with fail
 refine K.cl fun W K=>?_
 obtain⟨R,M,k,r⟩:=K.out.done_row (s:=az) 1 rfl (K.ra 2 rfl) (by decide) (by simp)
 injection k with k I O
 subst k O
 refine(FI fs f.nm A n C _ W r.xok' (r.sl 0 rfl) o hn).mono ?_
 rintro e Q ⟨i,bb,rfl,N,x,q,z⟩
 have K:=K.on z
 clear r z I
 go_upto_region 2 with(fail)
 generalize Value.slice A n C=v at K ⊢
 go_wp2_with (refine K.ld 0 rfl ?_)
 refine K.cl fun W K=>?_
 have hone:∀ u ∈ lM f b a c g h d,u.oneCell'=true:=az.one (w:=W) (X:=Exs _++X) ⟨b,a,c,g,h,d,rfl,K.sl 0 rfl,K.sl 1 rfl,y⟩
 refine(Es vs (lM f b a c g h d) n i _ 0 v W N (by omega) (K.row 2 rfl) (Nat.zero_le _) (K.out.blk 0 rfl) (fun e=>K.apart (i:=2) (j:=0) (by decide) rfl rfl _ e rfl) rfl hone (aF.one_ (K.ra 2 rfl))).mono ?_
 rintro e P ⟨v',rfl,H,G,l⟩
 have K:=K.app 2 rfl H G l
 have p:=(((K.ra 2 rfl).take i).append (aF.single (s:=az) ⟨b,a,c,g,h,d,rfl,K.sl 0 rfl,K.sl 1 rfl,y⟩)).append ((K.ra 2 rfl).drop i)
 have K:=K.kra p
 clear p H G l hone
 go_wp2
 go_ret
 have m:eY Fil.nm f fs=fs.take i ++ [f]++fs.drop i:=by rw[nX (i:=i) (by have:=t.out;omega) x q];simp
 rw[m]
 exact⟨v',_,rfl,(K.tl.tl.out.forget (List.Sublist.cons_cons _ (List.Sublist.cons _ (List.Sublist.cons _ (List.Sublist.cons _ (List.Sublist.refl _)))))).hh⟩
end
section
open Go.RowKit
theorem HH.rm {c W:World} {M X:List Nat} {L:List Itm} {F:List Fact} {g:Nat} {t:TypeId} {cs:Array Value} (K:HH c M X W L F) (a:Itm.box g t cs ∈ L):∀ j,W.cell? ⟨g,j,none⟩=cs[j]?:=by
 obtain⟨i,b⟩:=List.getElem?_of_mem a
 exact K.r i b
def nI (fid:FuncId) (caps:Array Value) (L:List Itm) (F:List Fact) (fs fs':List Fil):Prop:=
 ∀ (w0 W:World) (X:List Nat) (L1:List Itm) (F1:List Fact) (v:Value) (vs:List Value),HH w0 [] X W (.row 110 3 v fs.length vs::L1) (Ra.fact az vs fs::F1)→(∀ x ∈ L,x ∈ L1)→(∀ f ∈ F,f ∈ F1) →
   Calls Tryz.prog fid (#[v]++caps) W fun e W' => ∃ v' vs',e = .returned v'∧HH w0 [] X W' (.row 110 3 v' fs'.length vs'::L1) (Ra.fact az vs' fs'::F1)
theorem nI.more {fid:FuncId} {caps:Array Value} {L L2:List Itm} {F F2:List Fact} {fs fs':List Fil} (h:nI fid caps L F fs fs') (b:∀ x ∈ L,x ∈ L2) (d:∀ x ∈ F,x ∈ F2):nI fid caps L2 F2 fs fs':=
 fun e W X f c v vs K hL hF=>h e W X f c v vs K (fun x a=>hL x (b x a)) (fun x a=>hF x (d x a))
theorem uZ (nm:ByteArray) (g:Nat) (t:TypeId) (fs:List Fil) (hn:fs.length≤64) (a:Srt Fil.nm fs) (b:nm.size≤maxLen):nI 200 #[.pointer (some ⟨g,0,none⟩)] [.box g t #[.string nm]] [] fs (eY Fil.nm ⟨nm,[],[]⟩ fs):=by
 intro c w X L F v vs K hL hF
 have c0:=K.rm (List.mem_cons_of_mem _ (hL _ (List.mem_singleton.2 rfl)))
 show Calls _ _ #[v,.pointer (some ⟨g,0,none⟩)] _ _
 go_enter Tryz.func200,Tryz.ntmps200
 go_wp2_with fail
 refine(sJ ⟨nm,[],[]⟩ none 0 0 none 0 0 fs c _ X L F v fs.length vs K.to hn a Sl.nil_ Sl.nil_ b).mono ?_
 rintro e f ⟨v',vs',rfl,K⟩
 go_wp2
 go_ret
 have d:(eY Fil.nm ⟨nm,[],[]⟩ fs).length=fs.length+1:=jH _ _
 rw[d]
 exact⟨v',vs',rfl,K⟩
set_option maxHeartbeats 1000000 in
theorem ko (fid:FuncId) (caps:Array Value) (L:List Itm) (F:List Fact) (fs fs':List Fil) (room:Int) (A:Option Addr) (n b:Nat) (d w:World) (X:List Nat) (K:HH d [] X w L (Sl.fact az A n b fs::F)) (hn:n≤64) (hact:nI fid caps L F fs fs') (l:∀ args w,(callFunc fid args).run Tryz.prog w = .ok (.enter fid args) w):
 Calls Tryz.prog 69 #[.agg #[.slice A n b,.int .i64 room,.int .i64 (-1),.bool false],.func (.func fid) #[] caps] w fun e w' => ∃ B c,e = .returned (.tuple #[.agg #[.slice B fs'.length c,.int .i64 room,.int .i64 (-1),.bool false],.int .i64 0])∧HH d [] X w' L (Sl.fact az B fs'.length c fs'::Sl.fact az A n b fs::F):=by
 have q:=Lib.hid (K.sl 0 rfl).len
 go_enter Tryz.func69,Tryz.ntmps69
 go_upto_region 1 with(fail)
 refine K.cw fun W K=>?_
 have p:=K.r 1 rfl
 go_wp2_with fail
 refine(vl A n b _ W K.xok (K.sl 0 rfl) (by omega)).mono ?_
 rintro e o ⟨v,vs,rfl,a,i,h⟩
 have K:=(K.kra a).nrow h i
 clear h a i p
 obtain rfl:n=fs.length:=q.out
 go_wp2_with fail
 refine(hact d o X _ _ v vs K (fun x m=>by simp[m]) (fun f k=>by simp[k])).mono ?_
 rintro e D ⟨v',vs',rfl,K⟩
 obtain⟨B,c,rfl,-⟩:=aE (K.row 0 rfl)
 have t:=K.c 2 rfl
 go_upto_region 7 with(fail)
 refine K.cw fun W K=>?_
 clear t
 go_wp2_with (first | refine K.ld 2 rfl ?_ | (refine K.lw fun W K=>?_;refine K.sr 1 rfl fun W K=>?_))
 obtain⟨z,u,g,j⟩:=K.out.done_row (s:=az) 0 rfl (K.ra 0 rfl) (by decide) (by simp)
 injection g with g C y
 subst g y
 refine K.rc2 1 rfl rfl ⟨_,_,rfl,?_⟩
 exact((j.hh).tl.tl.out.forget (List.Sublist.cons_cons _ (List.Sublist.cons _ (List.Sublist.refl _)))).hh
set_option maxHeartbeats 1000000 in
theorem pI (d:Dk) (nm:ByteArray) (A:Option Addr) (n h:Nat) (X:List Nat) (w:World) (hX:XOk X w) (l:Sl az w X A n h d.fs) (b:eO d) (a:fnB nm=true) (i:findD d.fs nm = -1) (p:n<64):
 Calls Tryz.prog 131 #[.agg #[.slice A n h,.int .i64 d.room,.int .i64 (-1),.bool false],.string nm] w fun e w' => ∃ B c,e = .returned (.tuple #[.agg #[.slice B (n+1) c,.int .i64 d.room,.int .i64 (-1),.bool false],.int .i64 0])∧Sl az w' X B (n+1) c (eY Fil.nm ⟨nm,[],[]⟩ d.fs)∧Below w.heap.size w w':=by
 have g:nm.size≤maxLen:=by unfold fnB at a;simp at a;unfold maxLen;omega
 have m:=Lib.hid l.len
 have j:=Lib.hid i
 have q:¬ (n:Int)=64:=by omega
 clear i
 go_enter Tryz.func131,Tryz.ntmps131
 go_wp2_with fail
 refine(hstart hX).cl fun W K=>?_
 have K:=(K.ksl0 l).one (s:=fh) (x:=nm) ⟨rfl,g⟩
 clear l
 refine(gC d A n h [nm] _ 1 1 _ W K.xok (K.sl 1 rfl) (K.sl 0 rfl) (by omega) (by simp[a]) b).mono ?_
 rintro e t ⟨rfl,f⟩
 have K:=(K.on f).ft
 clear f
 have k:=K.r 2 rfl
 have o:=K.r 1 rfl
 go_wp2_with fail
 refine(gE d.fs d.room nm A n h _ _ K.xok (K.sl 0 rfl) (by omega)).mono ?_
 rw[j.out]
 rintro e u ⟨rfl,f⟩
 have K:=K.on f
 clear f o k
 have k:=K.r 2 rfl
 go_wp2_with fail
 refine(ko 200 #[.pointer (some ⟨w.heap.size+1,0,none⟩)] _ _ d.fs (eY Fil.nm ⟨nm,[],[]⟩ d.fs) d.room A n h w _ X K (by omega) ((uZ nm _ 9 d.fs (by have:=m.out;omega) b.2.2.2.2.1 g).more (by simp) (by simp)) Tryz.call200).mono ?_
 rw[jH,←m.out]
 rintro e v ⟨B,c,rfl,K⟩
 clear k
 go_wp2_with (refine K.lw fun W K=>?_;refine K.sr 0 rfl fun W K=>?_)
 exact K.rc2 0 rfl rfl ⟨_,_,rfl,K.slb 0 rfl,K.below⟩
end
section
open Go.RowKit
theorem qR (T:List UInt8) (ls:List (List UInt8)) (hT:ls.flatten=T) (A:Option Addr) (m c:Nat) (X:List Nat) (w:World) (hX:XOk X w) (b:Sl (vB au) w X A m c ls) (a:m≤8) (d:T.length≤90000):
 Calls Tryz.prog 49 #[.slice A m c] w fun e w' => ∃ B k,e = .returned (.slice B T.length k)∧Sl au w' X B T.length k T∧Below w.heap.size w w':=by
 subst hT
 exact Cr ls A m c X w hX b a d
set_option maxHeartbeats 2000000 in
theorem vr (x:Fil) (bs:List UInt8) (i C M N:Nat) (t1 t2 t3:TypeId) (A:Option Addr) (n c:Nat) (fs:List Fil) (hn:fs.length≤64) (u:fs[i]?=some x) (hlen:x.all.length+bs.length≤90000) (O:x.nm.size≤maxLen):
 nI 202 #[.pointer (some ⟨C,0,none⟩),.pointer (some ⟨M,0,none⟩),.pointer (some ⟨N,0,none⟩)] [.box C t1 #[.int .i64 (i:Int)],.box M t2 #[.string x.nm],.box N t3 #[.slice A n c]] [Sl.fact au A n c bs] fs (fs.set i ⟨x.nm,x.su,x.lo++bs⟩):=by
 intro w0 w X L F v vs K hL hF
 have c1:=K.rm (List.mem_cons_of_mem _ (hL _ (List.Mem.head _)))
 show Calls _ _ #[v,.pointer (some ⟨C,0,none⟩),.pointer (some ⟨M,0,none⟩),.pointer (some ⟨N,0,none⟩)] _ _
 obtain⟨B,cp,rfl,-⟩:=aE (K.row 0 rfl)
 have hi:=(List.getElem?_eq_some_iff.1 u).1
 obtain⟨g,rfl⟩:∃ g,B=some ⟨g,0,none⟩:=by
  rcases(K.row 0 rfl).2 with⟨h,_⟩ | ⟨g,cap,cur,h,_⟩
  ·injection h with o p G;omega
  ·injection h with o p G;exact⟨g,o⟩
 obtain⟨r,⟨H,d,S,z,n2,Y,rfl,o,p,G⟩,J⟩:=rowAt (K.ra 0 rfl) (e:=110) (g:=g) (n:=fs.length) (cap:=cp) u
 have K:=(K.ksl p).ksl o
 have R:=Lib.hid (J w (K.row 0 rfl))
 have i1:(0:Int)≤(i:Int):=by omega
 have i2:(i:Int)<(fs.length:Int):=by omega
 have ab:vs.length=fs.length*3:=(K.ra 2 rfl).length
 have m:=Lib.hid o.len
 have ac:=Lib.hid p.len
 clear o p G hi
 go_enter Tryz.func202,Tryz.ntmps202
 go_upto_region 2 with(first | refine bu R.out ?_ | (refine K.lw fun W K=>?_;refine K.sr 0 rfl fun W K=>?_))
 have D:=fun {a b:Itm} {l:List Itm}=>List.Sublist.cons_cons a (List.Sublist.cons b (List.Sublist.refl l))
 refine K.rgt (fun V h=>h.drop D) fun W K=>?_
 refine tK 0 (K.drop D) ?_
 refine tL 1 (fun _ h=>h.rm (List.mem_cons_of_mem _ (hL _ (List.Mem.head _)))) (K.drop D) ?_
 refine tL 2 (fun _ h=>h.rm (List.mem_cons_of_mem _ (hL _ (List.Mem.tail _ (List.Mem.head _))))) (K.drop D) ?_
 refine tK 3 (K.drop D) ?_
 refine tL 4 (fun _ h=>h.r 0 rfl) (K.drop D) ?_
 refine tK 5 (K.drop D) ?_
 refine tL 6 (fun _ h=>h.r 0 rfl) (K.drop D) ?_
 refine tL 7 (fun _ h=>h.rm (List.mem_cons_of_mem _ (hL _ (List.Mem.tail _ (List.Mem.tail _ (List.Mem.head _)))))) (K.drop D) ?_
 refine tK 10 (K.drop D) ?_
 refine tL 11 (fun _ h=>h.r 0 rfl) (K.drop D) ?_
 refine tK 12 (K.drop D) ?_
 refine tC 8 fun K' hK=>?_
 go_simp
 have K:=K.to (W':=W.alloc (.cells #[.slice H d S,.slice z n2 Y,.slice A n c] 50))
 refine hK.out _ _ (K.tl.drop D) fun _=>?_
 clear hK K'
 try simp only[Act.put,aq,aj,ai]
 have K:=K.many (s:=vB au) (n:=3) (xs:=[x.su,x.lo,bs]) ⟨_,_,rfl,⟨H,d,S,rfl,K.tl.sl 0 rfl⟩,_,_,rfl,⟨z,n2,Y,rfl,K.tl.sl 1 rfl⟩,_,_,rfl,⟨A,n,c,rfl,K.tl.out.facts (Sl.fact au A n c bs) (List.Mem.tail _ (List.Mem.tail _ (List.Mem.tail _ (hF _ (List.Mem.head _)))))⟩,rfl⟩ rfl (by omega)
 obtain⟨T,hT⟩:∃ T,T=x.su++(x.lo++bs):=⟨_,rfl⟩
 have P:T.length≤90000:=by rw[hT];unfold Fil.all at hlen;simp only[List.length_append]at hlen ⊢;omega
 have Q:d≤T.length:=by rw[hT,List.length_append];have:=m.out;omega
 have y:=Lib.hid (show T.take d=x.su by rw[hT,m.out,List.take_left])
 have Z:=Lib.hid (show T.drop d=x.lo++bs by rw[hT,m.out,List.drop_left])
 have I:=Lib.hid (show [x.su,x.lo,bs].flatten=T from by rw[hT];simp)
 clear hT
 generalize W.alloc (.cells #[.slice H d S,.slice z n2 Y,.slice A n c] 50)=W1 at K ⊢
 refine tC 9 fun K' hK=>?_
 go_simp
 refine(qR T [x.su,x.lo,bs] I.out _ 3 3 _ _ K.xok (K.sl 0 rfl) (by omega) P).mono ?_
 rintro e w4 ⟨B,k,rfl,t,q⟩
 have K:=((K.on q).ft).ksl t
 refine hK.out _ _ ((K.ft).drop D) fun _=>?_
 clear hK K' q t
 try simp only[Act.put,aq,aj,ai]
 refine tC 13 fun K' hK=>?_
 go_simp
 refine(wL x.nm T B _ k d _ _ K.xok (K.sl 0 rfl) Q).mono ?_
 rintro e w5 ⟨B1,k1,B2,k2,rfl,f,j,q⟩
 rw[y.out]at f
 rw[Z.out]at j
 have K:=(((K.on q).ft).ksl j).ksl f
 refine hK.out _ _ ((K.ft.ft).drop D) fun _=>?_
 clear hK K' q f j
 try simp only[Act.put,aq,aj,ai]
 refine tK 14 (K.ft.ft.drop D) ?_
 refine tRs (k:=i*3) (cells:=(lM ⟨x.nm,x.su,x.lo++bs⟩ B1 d k1 B2 (T.length-d) k2).toArray) 15 K 1 rfl (by show i*3+3≤vs.length;have:=(List.getElem?_eq_some_iff.1 u).1;omega) (fun U h=>h.ft.ft.drop D) fun U K=>?_
 refine tE ?_
 go_wp2
 go_ret
 have E:=aF.put (s:=az) (c:=⟨x.nm,x.su,x.lo++bs⟩) (K.ra 4 rfl) u ⟨B1,d,k1,B2,T.length-d,k2,rfl,K.sl 0 rfl,K.sl 1 rfl,O⟩
 rw[List.length_set]
 exact⟨_,_,rfl,((K.kra E).tl.out.forget (List.Sublist.cons_cons _ (List.Sublist.cons _ (List.Sublist.cons _ (List.Sublist.cons _ (List.Sublist.cons _ (List.Sublist.cons _ (List.Sublist.refl _)))))))).hh⟩
end
section
open Go.RowKit
set_option maxHeartbeats 2000000 in
theorem pH (d:Dk) (x:Fil) (i:Nat) (bs:List UInt8) (B:Option Addr) (m l:Nat) (A:Option Addr) (n f:Nat) (X:List Nat) (w:World) (hX:XOk X w) (j:Sl az w X A n f d.fs) (a:Sl au w X B m l bs) (k:eO d) (y:d.fs[i]?=some x) (q:findD d.fs x.nm=(i:Int)) (hroom:(aI d.fs:Int)+bs.length≤d.room):
 Calls Tryz.prog 132 #[.agg #[.slice A n f,.int .i64 d.room,.int .i64 (-1),.bool false],.string x.nm,.slice B m l] w fun e w' => ∃ B c,e = .returned (.tuple #[.agg #[.slice B n c,.int .i64 d.room,.int .i64 (-1),.bool false],.int .i64 0])∧Sl az w' X B n c (d.fs.set i ⟨x.nm,x.su,x.lo++bs⟩)∧Below w.heap.size w w':=by
 obtain⟨t,D,M,u,z,E⟩:=k
 have hmem:=List.mem_of_getElem? y
 have b:=u x hmem
 have g:x.nm.size≤maxLen:=by unfold fnB at b;simp at b;unfold maxLen;omega
 have G:aI d.fs≤65536:=by omega
 have hlen:x.all.length+bs.length≤90000:=by have:=iI hmem;omega
 have hn:n≤64:=by have:=j.len;omega
 have I:=Lib.hid j.len
 have F:=Lib.hid q
 have p:=a.len
 have Q:IntKind.i64.wrap (d.room-(aI d.fs:Int))=d.room-(aI d.fs:Int):=IntWalk.i64_in _ (by omega)
 have R:¬ (d.room-(aI d.fs:Int)<(m:Int)):=by omega
 have N:¬ (i:Int) = -1:=by omega
 have T:=Lib.hid p
 clear q hmem p
 go_enter Tryz.func132,Tryz.ntmps132
 go_wp2_with fail
 refine(hstart hX).cl fun W K=>?_
 have K:=((K.ksl0 a).ksl0 j).one (s:=fh) (x:=x.nm) ⟨rfl,g⟩
 clear j a
 refine(gC d A n f [x.nm] _ 1 1 _ W K.xok (K.sl 1 rfl) (K.sl 0 rfl) (by omega) (by simp[b]) ⟨t,D,M,u,z,E⟩).mono ?_
 rintro e S ⟨rfl,a⟩
 have K:=(K.on a).ft
 clear a
 have o:=K.r 3 rfl
 have J:=K.r 2 rfl
 go_wp2_with fail
 refine(gE d.fs d.room x.nm A n f _ _ K.xok (K.sl 0 rfl) (by omega)).mono ?_
 rw[F.out]
 rintro e L ⟨rfl,a⟩
 have K:=K.on a
 clear a o J
 have o:=K.r 3 rfl
 go_upto_region 5 with(fail)
 refine K.cw fun W K=>?_
 have c0:=K.r 0 rfl
 go_upto_region 7 with(fail)
 refine K.rg fun W K=>?_
 refine tL 0 (fun _ h=>h.r 2 rfl) K ?_
 refine tK 1 K ?_
 refine tK 2 K ?_
 refine tL 3 (fun _ h=>h.r 4 rfl) K ?_
 refine tL 4 (fun _ h=>h) K ?_ (hy:=fun w H=>aD (H.at_ 4 rfl))
 refine tC 5 fun K' hK=>?_
 go_simp
 refine(fV d.fs A n f d.room _ _ K.xok (K.sl 0 rfl) hn G).mono ?_
 rintro e V ⟨rfl,a⟩
 refine hK.out _ _ (K.on a) fun K=>?_
 clear hK K' a
 try simp only[Act.put,aq,aj,ai]
 refine tK 6 K ?_
 refine tK 7 K ?_ (v := .bool false) (hy:=by(intro W _;go_simp;try with_reducible rfl))
 refine tE ?_
 clear c0 o
 have C:=K.r 4 rfl
 go_wp2_with fail
 refine K.cl fun W K=>?_
 have hact:=(vr x bs i L.heap.size (w.heap.size+1) (w.heap.size+2) 3 9 50 B m l d.fs t y hlen g)
 refine(ko 202 _ _ _ d.fs (d.fs.set i ⟨x.nm,x.su,x.lo++bs⟩) d.room A n f w _ X K hn (hact.more (by simp) (by simp)) Tryz.call202).mono ?_
 rw[List.length_set,←I.out]
 rintro e P ⟨O,U,rfl,K⟩
 clear C
 go_wp2_with (first | refine K.ld 0 rfl ?_ | (refine K.lw fun W K=>?_;first | refine K.sr 0 rfl fun W K=>?_ | refine K.sr 2 rfl fun W K=>?_))
 exact K.rc2 2 rfl rfl ⟨_,_,rfl,K.slb 0 rfl,K.below⟩
end
section
open Go.RowKit
theorem zK (s:ByteArray) (A:Option Addr) (n c:Nat) (B:Option Addr) (m d:Nat) (hn:n+m≤100000) (w:World):
 Calls Tryz.prog 68 #[.agg #[.string s,.slice A n c,.slice B m d]] w fun e w'=>e = .returned (.int .i64 ((n+m:Nat):Int))∧Below w.heap.size w w':=by
 have h:=tr s A n c B m d hn w
 rwa [←Int.natCast_add]at h
set_option maxHeartbeats 2000000 in
theorem Au (x:Fil) (i E N:Nat) (t1 t2:TypeId) (fs:List Fil) (hn:fs.length≤64) (u:fs[i]?=some x) (hlen:x.all.length≤90000) (P:x.nm.size≤maxLen):
 nI 203 #[.pointer (some ⟨E,0,none⟩),.pointer (some ⟨N,0,none⟩)] [.box E t1 #[.int .i64 (i:Int)],.box N t2 #[.string x.nm]] [] fs (fs.set i ⟨x.nm,x.su++x.lo,[]⟩):=by
 intro w0 w X L F v vs K hL hF
 have c1:=K.rm (List.mem_cons_of_mem _ (hL _ (List.Mem.head _)))
 show Calls _ _ #[v,.pointer (some ⟨E,0,none⟩),.pointer (some ⟨N,0,none⟩)] _ _
 obtain⟨B,cp,rfl,-⟩:=aE (K.row 0 rfl)
 have hi:=(List.getElem?_eq_some_iff.1 u).1
 obtain⟨g,rfl⟩:∃ g,B=some ⟨g,0,none⟩:=by
  rcases(K.row 0 rfl).2 with⟨h,_⟩ | ⟨g,cap,cur,h,_⟩
  ·injection h with f j H;omega
  ·injection h with f j H;exact⟨g,f⟩
 obtain⟨r,⟨z,p,A,y,q,C,rfl,f,j,H⟩,M⟩:=rowAt (K.ra 0 rfl) (e:=110) (g:=g) (n:=fs.length) (cap:=cp) u
 have K:=(K.ksl j).ksl f
 have S:=Lib.hid (M w (K.row 0 rfl))
 have i1:(0:Int)≤(i:Int):=by omega
 have i2:(i:Int)<(fs.length:Int):=by omega
 have ab:vs.length=fs.length*3:=(K.ra 2 rfl).length
 have O:=Lib.hid f.len
 have I:=Lib.hid j.len
 clear f j H hi
 go_enter Tryz.func203,Tryz.ntmps203
 go_upto_region 2 with(first | refine bu S.out ?_ | (refine K.lw fun W K=>?_;refine K.sr 0 rfl fun W K=>?_))
 have D:=fun {a b:Itm} {l:List Itm}=>List.Sublist.cons_cons a (List.Sublist.cons b (List.Sublist.refl l))
 refine K.rgt (fun V h=>h.drop D) fun W K=>?_
 refine tK 0 (K.drop D) ?_
 refine tL 1 (fun _ h=>h.rm (List.mem_cons_of_mem _ (hL _ (List.Mem.head _)))) (K.drop D) ?_
 refine tL 2 (fun _ h=>h.rm (List.mem_cons_of_mem _ (hL _ (List.Mem.tail _ (List.Mem.head _))))) (K.drop D) ?_
 refine tK 3 (K.drop D) ?_
 refine tL 4 (fun _ h=>h.r 0 rfl) (K.drop D) ?_
 refine tK 5 (K.drop D) ?_
 refine tL 6 (fun _ h=>h.r 0 rfl) (K.drop D) ?_
 refine tL 9 (fun _ h=>h) (K.drop D) ?_ (hy:=fun w hw=>aD (hw.at_ 0 rfl))
 refine tC 7 fun K' hK=>?_
 go_simp
 have K:=K.to (W':=W.alloc (.cells #[.slice z p A,.slice y q C] 50))
 refine hK.out _ _ (K.tl.drop D) fun _=>?_
 clear hK K'
 try simp only[Act.put,aq,aj,ai]
 have K:=K.many (s:=vB au) (n:=2) (xs:=[x.su,x.lo]) ⟨_,_,rfl,⟨z,p,A,rfl,K.tl.sl 0 rfl⟩,_,_,rfl,⟨y,q,C,rfl,K.tl.sl 1 rfl⟩,rfl⟩ rfl (by omega)
 obtain⟨T,hT⟩:∃ T,T=x.su++x.lo:=⟨_,rfl⟩
 have Q:T.length≤90000:=by rw[hT];unfold Fil.all at hlen;simp only[List.length_append]at hlen ⊢;omega
 have R:p+q=T.length:=by rw[hT,List.length_append];have:=O.out;have:=I.out;omega
 have HT:=Lib.hid hT
 have J:=Lib.hid (show [x.su,x.lo].flatten=T from by rw[hT];simp)
 clear hT
 generalize W.alloc (.cells #[.slice z p A,.slice y q C] 50)=W1 at K ⊢
 refine tC 8 fun K' hK=>?_
 go_simp
 refine(qR T [x.su,x.lo] J.out _ 2 2 _ _ K.xok (K.sl 0 rfl) (by omega) Q).mono ?_
 rintro e w4 ⟨B,k,rfl,t,d⟩
 have K:=((K.on d).ft).ksl t
 refine hK.out _ _ ((K.ft).drop D) fun _=>?_
 clear hK K' d t
 try simp only[Act.put,aq,aj,ai]
 refine tC 10 fun K' hK=>?_
 go_simp
 refine(zK x.nm z p A y q C (by omega) _).mono ?_
 rw[R]
 rintro e w6 ⟨rfl,d⟩
 have K:=K.on d
 refine hK.out _ _ ((K.ft).drop D) fun _=>?_
 clear hK K' d
 try simp only[Act.put,aq,aj,ai]
 refine tC 11 fun K' hK=>?_
 go_simp
 refine(wL x.nm T B _ k T.length _ _ K.xok (K.sl 0 rfl) (Nat.le_refl _)).mono ?_
 rw[List.take_length,List.drop_length]
 rintro e w5 ⟨Z,k1,B2,Y,rfl,m,o,d⟩
 have K:=(((K.on d).ft).ksl o).ksl m
 refine hK.out _ _ ((K.ft.ft).drop D) fun _=>?_
 clear hK K' d m o
 try simp only[Act.put,aq,aj,ai]
 refine tK 12 (K.ft.ft.drop D) ?_
 refine tRs (k:=i*3) (cells:=(lM ⟨x.nm,T,[]⟩ Z T.length k1 B2 (T.length-T.length) Y).toArray) 13 K 1 rfl (by show i*3+3≤vs.length;have:=(List.getElem?_eq_some_iff.1 u).1;omega) (fun U h=>h.ft.ft.drop D) fun U K=>?_
 refine tE ?_
 go_wp2
 go_ret
 have G:=aF.put (s:=az) (c:=⟨x.nm,T,[]⟩) (K.ra 4 rfl) u ⟨Z,T.length,k1,B2,T.length-T.length,Y,rfl,K.sl 0 rfl,K.sl 1 rfl,P⟩
 rw[List.length_set,←HT.out]
 exact⟨_,_,rfl,((K.kra G).tl.out.forget (List.Sublist.cons_cons _ (List.Sublist.cons _ (List.Sublist.cons _ (List.Sublist.cons _ (List.Sublist.cons _ (List.Sublist.cons _ (List.Sublist.refl _)))))))).hh⟩
set_option maxHeartbeats 2000000 in
theorem tW (d:Dk) (x:Fil) (i:Nat) (A:Option Addr) (n g:Nat) (X:List Nat) (w:World) (hX:XOk X w) (h:Sl az w X A n g d.fs) (j:eO d) (o:d.fs[i]?=some x) (k:findD d.fs x.nm=(i:Int)):
 Calls Tryz.prog 133 #[.agg #[.slice A n g,.int .i64 d.room,.int .i64 (-1),.bool false],.string x.nm] w fun e w' => ∃ B c,e = .returned (.tuple #[.agg #[.slice B n c,.int .i64 d.room,.int .i64 (-1),.bool false],.int .i64 0])∧Sl az w' X B n c (d.fs.set i ⟨x.nm,x.su++x.lo,[]⟩)∧Below w.heap.size w w':=by
 obtain⟨l,q,E,m,p,t⟩:=j
 have hmem:=List.mem_of_getElem? o
 have a:=m x hmem
 have f:x.nm.size≤maxLen:=by unfold fnB at a;simp at a;unfold maxLen;omega
 have I:aI d.fs≤65536:=by omega
 have hlen:x.all.length≤90000:=by have:=iI hmem;omega
 have hn:n≤64:=by have:=h.len;omega
 have y:=Lib.hid h.len
 have u:=Lib.hid k
 have F:¬ (i:Int) = -1:=by omega
 clear k hmem
 go_enter Tryz.func133,Tryz.ntmps133
 go_wp2_with fail
 refine(hstart hX).cl fun W K=>?_
 have K:=(K.ksl0 h).one (s:=fh) (x:=x.nm) ⟨rfl,f⟩
 clear h
 refine(gC d A n g [x.nm] _ 1 1 _ W K.xok (K.sl 1 rfl) (K.sl 0 rfl) (by omega) (by simp[a]) ⟨l,q,E,m,p,t⟩).mono ?_
 rintro e J ⟨rfl,b⟩
 have K:=(K.on b).ft
 clear b
 have z:=K.r 2 rfl
 have v:=K.r 1 rfl
 go_wp2_with fail
 refine(gE d.fs d.room x.nm A n g _ _ K.xok (K.sl 0 rfl) (by omega)).mono ?_
 rw[u.out]
 rintro e C ⟨rfl,b⟩
 have K:=K.on b
 clear b z v
 go_upto_region 5 with(fail)
 refine K.cw fun W K=>?_
 have c0:=K.r 0 rfl
 have D:=K.r 3 rfl
 go_wp2_with fail
 refine K.cl fun W K=>?_
 have hact:=(Au x i C.heap.size (w.heap.size+1) 3 9 d.fs l o hlen f)
 refine(ko 203 _ _ _ d.fs (d.fs.set i ⟨x.nm,x.su++x.lo,[]⟩) d.room A n g w _ X K hn (hact.more (by simp) (by simp)) Tryz.call203).mono ?_
 rw[List.length_set,←y.out]
 rintro e H ⟨G,L,rfl,K⟩
 clear c0 D
 go_wp2_with (refine K.lw fun W K=>?_;refine K.sr 1 rfl fun W K=>?_)
 exact K.rc2 1 rfl rfl ⟨_,_,rfl,K.slb 0 rfl,K.below⟩
end
section
open Go.RowKit
set_option maxHeartbeats 2000000 in
theorem tX (d:Dk) (x:Fil) (i:Nat) (A:Option Addr) (n m:Nat) (X:List Nat) (w:World) (hX:XOk X w) (p:Sl az w X A n m d.fs) (u:eO d) (v:d.fs[i]?=some x) (C:findD d.fs x.nm=(i:Int)):
 Calls Tryz.prog 13 #[.agg #[.slice A n m,.int .i64 d.room,.int .i64 (-1),.bool false],.string x.nm] w fun e w' => ∃ B c,e = .returned (.tuple #[.slice B x.all.length c,.int .i64 0])∧Sl au w' X B x.all.length c x.all∧Below w.heap.size w w':=by
 obtain⟨J,G,L,D,F,H⟩:=u
 have hmem:=List.mem_of_getElem? v
 have b:=D x hmem
 have y:x.nm.size≤maxLen:=by unfold fnB at b;simp at b;unfold maxLen;omega
 have hlen:x.all.length≤90000:=by have:=iI hmem;omega
 have hn:n≤64:=by have:=p.len;omega
 have R:i<n:=by have:=(List.getElem?_eq_some_iff.1 v).1;have:=p.len;omega
 have I:=Lib.hid C
 have M:¬ (i:Int) = -1:=by omega
 have Q:(0:Int)≤(i:Int):=by omega
 have S:(i:Int)<(n:Int):=by omega
 clear C hmem
 go_enter Tryz.func13,Tryz.ntmps13
 go_wp2_with fail
 refine(hstart hX).cl fun W K=>?_
 have K:=(K.ksl0 p).one (s:=fh) (x:=x.nm) ⟨rfl,y⟩
 clear p
 refine(gC d A n m [x.nm] _ 1 1 _ W K.xok (K.sl 1 rfl) (K.sl 0 rfl) (by omega) (by simp[b]) ⟨J,G,L,D,F,H⟩).mono ?_
 rintro e O ⟨rfl,a⟩
 have K:=(K.on a).ft
 clear a
 have c0:=K.r 0 rfl
 go_wp2_with fail
 refine(gE d.fs d.room x.nm A n m _ _ K.xok (K.sl 0 rfl) (by omega)).mono ?_
 rw[I.out]
 rintro e P ⟨rfl,a⟩
 have K:=K.on a
 clear a c0
 obtain⟨ad,r,rfl,K,⟨j,g,l,q,t,o,rfl,z,E,-⟩⟩:=K.elem 0 rfl v
 have K:=(K.ksl E).ksl z
 clear z E
 go_upto_region 7 with(fail)
 refine K.rg fun W K=>?_
 refine tK 0 K ?_
 refine tL 1 (fun _ h=>h.r 0 rfl) K ?_
 refine tK 2 K ?_
 refine tK 3 K ?_
 refine tK 4 K ?_
 refine tL 5 (T:=fun W=>W.cell? ⟨(ad.add (i*3)).block,(ad.add (i*3)).off+1,none⟩=some (.slice j g l)) (fun _ h=>h.at' 2 rfl 1 _ rfl) K ?_
 refine tK 6 K ?_
 refine tL 7 (fun _ h=>h.r 0 rfl) K ?_
 refine tK 8 K ?_
 refine tK 9 K ?_
 refine tK 10 K ?_
 refine tL 11 (T:=fun W=>W.cell? ⟨(ad.add (i*3)).block,(ad.add (i*3)).off+2,none⟩=some (.slice q t o)) (fun _ h=>h.at' 2 rfl 2 _ rfl) K ?_
 refine tC 12 fun K' hK=>?_
 go_simp
 have K:=K.to (W':=W.alloc (.cells #[.slice j g l,.slice q t o] 50))
 refine hK.out _ _ K.tl fun _=>?_
 clear hK K'
 try simp only[Act.put,aq,aj,ai]
 have K:=K.many (s:=vB au) (n:=2) (xs:=[x.su,x.lo]) ⟨_,_,rfl,⟨j,g,l,rfl,K.tl.sl 0 rfl⟩,_,_,rfl,⟨q,t,o,rfl,K.tl.sl 1 rfl⟩,rfl⟩ rfl (by omega)
 generalize W.alloc (.cells #[.slice j g l,.slice q t o] 50)=N at K ⊢
 refine tC 13 fun K' hK=>?_
 go_simp
 refine(qR x.all [x.su,x.lo] (by unfold Fil.all;simp) _ 2 2 _ _ K.xok (K.sl 0 rfl) (by omega) hlen).mono ?_
 rintro e U ⟨B,k,rfl,f,a⟩
 have K:=((K.on a).ft).ksl f
 refine hK.out _ _ K.ft fun _=>?_
 clear hK K' a f
 try simp only[Act.put,aq,aj,ai]
 refine tK 14 K.ft ?_
 refine tK 15 K.ft ?_
 refine tE ?_
 go_wp2
 go_ret2
 exact⟨B,k,rfl,K.slb 0 rfl,K.below⟩
end
section
open Go.RowKit
inductive Stp where
 | mk (nm:ByteArray)
 | wr (nm:ByteArray) (bs:List UInt8)
 | sy (nm:ByteArray)
def Stp.nm:Stp→ByteArray
 | .mk nm=>nm
 | .wr nm _=>nm
 | .sy nm=>nm
def yK (w:World) (X:List Nat) (v:Value) (st:Stp):Prop:=match st with
 | .mk nm => ∃ g,v = .func (.func 171) #[] #[.pointer (some ⟨g,0,none⟩)]∧(g<w.heap.size∧g ∉ X∧w.cell? ⟨g,0,none⟩=some (.string nm))
 | .wr nm bs => ∃ g g2 A n c,v = .func (.func 224) #[] #[.pointer (some ⟨g,0,none⟩),.pointer (some ⟨g2,0,none⟩)]∧(g<w.heap.size∧g ∉ X∧w.cell? ⟨g,0,none⟩=some (.string nm))∧(g2<w.heap.size∧g2 ∉ X∧w.cell? ⟨g2,0,none⟩=some (.slice A n c))∧Sl au w X A n c bs
 | .sy nm => ∃ g,v = .func (.func 148) #[] #[.pointer (some ⟨g,0,none⟩)]∧(g<w.heap.size∧g ∉ X∧w.cell? ⟨g,0,none⟩=some (.string nm))
theorem iM {w w':World} {X:List Nat} {g:Nat} {v:Value} (h:g<w.heap.size∧g ∉ X∧w.cell? ⟨g,0,none⟩=some v) (k:js X w w'):g<w'.heap.size∧g ∉ X∧w'.cell? ⟨g,0,none⟩=some v:=
 ⟨Nat.lt_of_lt_of_le h.1 k.size,h.2.1,(k.cell h.1 h.2.1).trans h.2.2⟩
theorem gA {w:World} {X X':List Nat} {g:Nat} {v:Value} (h:g<w.heap.size∧g ∉ X∧w.cell? ⟨g,0,none⟩=some v) (k:∀ b,b<w.heap.size→b ∈ X'→b ∈ X):g<w.heap.size∧g ∉ X'∧w.cell? ⟨g,0,none⟩=some v:=
 ⟨h.1,fun a=>h.2.1 (k _ h.1 a),h.2.2⟩
def dh:Sh Stp where
 size:=1
 rep w X vs st := ∃ v,vs = [v]∧yK w X v st
 len:=by rintro w X vs a ⟨v,rfl,_⟩;rfl
 one:=by
  rintro w X vs a ⟨v,rfl,h⟩ u hu
  rw[List.mem_singleton]at hu
  subst hu
  cases a with
  | mk nm=>obtain⟨g,rfl,_⟩:=h;rfl
  | wr nm bs=>obtain⟨g,g2,A,n,c,rfl,_⟩:=h;rfl
  | sy nm=>obtain⟨g,rfl,_⟩:=h;rfl
 keep:=by
  rintro w w' X vs a ⟨v,rfl,h⟩ k
  refine⟨v,rfl,?_⟩
  cases a with
  | mk nm=>obtain⟨g,rfl,h1⟩:=h;exact⟨g,rfl,iM h1 k⟩
  | wr nm bs=>obtain⟨g,g2,A,n,c,rfl,h1,h2,h3⟩:=h;exact⟨g,g2,A,n,c,rfl,iM h1 k,iM h2 k,h3.keep k⟩
  | sy nm=>obtain⟨g,rfl,h1⟩:=h;exact⟨g,rfl,iM h1 k⟩
 more:=by
  rintro w X X' vs a ⟨v,rfl,h⟩ k
  refine⟨v,rfl,?_⟩
  cases a with
  | mk nm=>obtain⟨g,rfl,h1⟩:=h;exact⟨g,rfl,gA h1 k⟩
  | wr nm bs=>obtain⟨g,g2,A,n,c,rfl,h1,h2,h3⟩:=h;exact⟨g,g2,A,n,c,rfl,gA h1 k,gA h2 k,h3.more k⟩
  | sy nm=>obtain⟨g,rfl,h1⟩:=h;exact⟨g,rfl,gA h1 k⟩
theorem HH.boxc {a W:World} {X:List Nat} {L:List Itm} {F:List Fact} {g:Nat} {t:TypeId} {v:Value} (K:HH a [] X W (.box g t #[v]::L) F):g<W.heap.size∧g ∉ Exs L++X∧W.cell? ⟨g,0,none⟩=some v:=⟨K.out.lt 0 rfl,K.notin rfl,K.r 0 rfl 0⟩
theorem qv (nm:ByteArray) (X:List Nat) (w:World) (hX:XOk X w):Calls Tryz.prog 102 #[.string nm] w fun e w' => ∃ v,e = .returned v∧yK w' X v (.mk nm)∧Below w.heap.size w w':=by
 go_enter Tryz.func102,Tryz.ntmps102
 go_wp2
 refine(hstart hX).bp fun W K=>?_
 go_ret
 exact⟨_,rfl,⟨_,rfl,K.boxc⟩,K.below⟩
theorem nV (nm:ByteArray) (X:List Nat) (w:World) (hX:XOk X w):Calls Tryz.prog 82 #[.string nm] w fun e w' => ∃ v,e = .returned v∧yK w' X v (.sy nm)∧Below w.heap.size w w':=by
 go_enter Tryz.func82,Tryz.ntmps82
 go_wp2
 refine(hstart hX).bp fun W K=>?_
 go_ret
 exact⟨_,rfl,⟨_,rfl,K.boxc⟩,K.below⟩
theorem Cp (nm:ByteArray) (bs:List UInt8) (A:Option Addr) (n c:Nat) (X:List Nat) (w:World) (hX:XOk X w) (a:Sl au w X A n c bs):Calls Tryz.prog 170 #[.string nm,.slice A n c] w fun e w' => ∃ v,e = .returned v∧yK w' X v (.wr nm bs)∧Below w.heap.size w w':=by
 go_enter Tryz.func170,Tryz.ntmps170
 go_wp2
 refine(hstart hX).bp fun W K=>?_
 have K:=K.ksl0 a
 go_ret
 exact⟨_,rfl,⟨_,_,A,n,c,rfl,K.tl.boxc,gA K.boxc (fun b _ h=>List.mem_append_right _ h),K.slb 0 rfl⟩,K.below⟩
end
section
open Go.RowKit
def fA (s:Stp) (fs:List Fil):List Fil:=match s with
 | .mk nm=>eY Fil.nm ⟨nm,[],[]⟩ fs
 | .wr nm bs=>match fs[fF Fil.nm fs nm]? with
   | some x=>fs.set (fF Fil.nm fs nm) ⟨nm,x.su,x.lo++bs⟩
   | none=>fs
 | .sy nm=>match fs[fF Fil.nm fs nm]? with
   | some x=>fs.set (fF Fil.nm fs nm) ⟨nm,x.su++x.lo,[]⟩
   | none=>fs
def vh (fs:List Fil) (nm:ByteArray):Prop := ∃ x,fs[fF Fil.nm fs nm]?=some x∧x.nm=nm
def jD (room:Int) (s:Stp) (fs:List Fil):Prop:=match s with
 | .mk nm=>fnB nm=true∧findD fs nm = -1∧fs.length<64
 | .wr nm bs=>vh fs nm∧(aI fs:Int)+bs.length≤room
 | .sy nm=>vh fs nm
def fo (room:Int):List Stp→List Fil→Prop
 | [],_=>True
 | s::l,fs=>eO ⟨fs,room⟩∧jD room s fs∧fo room l (fA s fs)
def cU (l:List Stp) (fs:List Fil):List Fil:=l.foldl (fun fs s=>fA s fs) fs
def iA (fs':List Fil) (room:Int) (X:List Nat) (w:World) (e:Ending) (w':World):Prop:=
 ∃ B c,e = .returned (.tuple #[.agg #[.slice B fs'.length c,.int .i64 room,.int .i64 (-1),.bool false],.int .i64 0])∧Sl az w' X B fs'.length c fs'∧Below w.heap.size w w'
def vZ (g:Nat) (v:Value):Fact:=⟨fun w X=>g<w.heap.size∧g ∉ X∧w.cell? ⟨g,0,none⟩=some v,fun h k=>iM h k,fun h k=>gA h k⟩
theorem vh.find {fs:List Fil} {nm:ByteArray} (h:vh fs nm):findD fs nm=(fF Fil.nm fs nm:Int):=by
 obtain⟨x,a,_⟩:=h
 unfold findD
 rw[if_pos (List.getElem?_eq_some_iff.1 a).1]
theorem Fo (nm:ByteArray) (g:Nat) (fs:List Fil) (room:Int) (A:Option Addr) (n d:Nat) (X:List Nat) (w:World) (hX:XOk X w) (f:Sl az w X A n d fs) (b:eO ⟨fs,room⟩) (r:jD room (.mk nm) fs) (k:(vZ g (.string nm)).p w X):
 Calls Tryz.prog 171 #[.agg #[.slice A n d,.int .i64 room,.int .i64 (-1),.bool false],.pointer (some ⟨g,0,none⟩)] w (iA (fA (.mk nm) fs) room X w):=by
 obtain⟨m,l,u⟩:=r
 have j:=Lib.hid f.len
 have o:=k.1
 have q:¬ g=w.heap.size:=by omega
 have i:¬ g=w.heap.size+1:=by omega
 have s:=k.2.2
 go_enter Tryz.func171,Tryz.ntmps171
 go_wp2_with fail
 refine(hstart hX).cl fun W K=>?_
 have K:=K.ksl0 f
 clear f
 refine(pI ⟨fs,room⟩ nm A n d _ W K.xok (K.sl 0 rfl) b m l (by have:=j.out;omega)).mono ?_
 rintro e t ⟨B,c,rfl,a,h⟩
 have K:=(K.on h).ksl a
 clear h a
 go_wp2_with (refine K.lw fun W K=>?_;refine K.sr 0 rfl fun W K=>?_)
 unfold iA fA
 simp only
 rw[jH,←j.out]
 exact K.rc2 0 rfl rfl ⟨_,_,rfl,K.slb 0 rfl,K.below⟩
theorem Fx (nm:ByteArray) (bs:List UInt8) (g f:Nat) (B:Option Addr) (m l:Nat) (fs:List Fil) (room:Int) (A:Option Addr) (n j:Nat) (X:List Nat) (w:World) (hX:XOk X w) (k:Sl az w X A n j fs) (h:eO ⟨fs,room⟩) (F:jD room (.wr nm bs) fs) (u:(vZ g (.string nm)).p w X) (b:(vZ f (.slice B m l)).p w X) (a:Sl au w X B m l bs):
 Calls Tryz.prog 224 #[.agg #[.slice A n j,.int .i64 room,.int .i64 (-1),.bool false],.pointer (some ⟨g,0,none⟩),.pointer (some ⟨f,0,none⟩)] w (iA (fA (.wr nm bs) fs) room X w):=by
 obtain⟨r,y⟩:=F
 have i:=Lib.hid r.find
 obtain⟨x,s,rfl⟩:=r
 have z:=Lib.hid k.len
 have C:=u.1
 have v:=b.1
 have E:¬ g=w.heap.size:=by omega
 have t:¬ g=w.heap.size+1:=by omega
 have o:¬ f=w.heap.size:=by omega
 have q:¬ f=w.heap.size+1:=by omega
 have G:=u.2.2
 have D:=b.2.2
 go_enter Tryz.func224,Tryz.ntmps224
 go_wp2_with fail
 refine(hstart hX).cl fun W K=>?_
 have K:=(K.ksl0 a).ksl0 k
 clear k a
 refine(pH ⟨fs,room⟩ x _ bs B m l A n j _ W K.xok (K.sl 0 rfl) (K.sl 1 rfl) h s i.out y).mono ?_
 rintro e I ⟨H,c,rfl,d,a⟩
 have K:=(K.on a).ksl d
 clear a d
 go_wp2_with (refine K.lw fun W K=>?_;refine K.sr 0 rfl fun W K=>?_)
 unfold iA fA
 simp only[s]
 rw[List.length_set,←z.out]
 exact K.rc2 0 rfl rfl ⟨_,_,rfl,K.slb 0 rfl,K.below⟩
theorem Ft (nm:ByteArray) (g:Nat) (fs:List Fil) (room:Int) (A:Option Addr) (n f:Nat) (X:List Nat) (w:World) (hX:XOk X w) (h:Sl az w X A n f fs) (b:eO ⟨fs,room⟩) (m:jD room (.sy nm) fs) (l:(vZ g (.string nm)).p w X):
 Calls Tryz.prog 148 #[.agg #[.slice A n f,.int .i64 room,.int .i64 (-1),.bool false],.pointer (some ⟨g,0,none⟩)] w (iA (fA (.sy nm) fs) room X w):=by
 have d:=Lib.hid (vh.find m)
 obtain⟨x,j,rfl⟩:=m
 have o:=Lib.hid h.len
 have q:=l.1
 have r:¬ g=w.heap.size:=by omega
 have k:¬ g=w.heap.size+1:=by omega
 have s:=l.2.2
 go_enter Tryz.func148,Tryz.ntmps148
 go_wp2_with fail
 refine(hstart hX).cl fun W K=>?_
 have K:=K.ksl0 h
 clear h
 refine(tW ⟨fs,room⟩ x _ A n f _ W K.xok (K.sl 0 rfl) b j d.out).mono ?_
 rintro e t ⟨B,c,rfl,a,i⟩
 have K:=(K.on i).ksl a
 clear i a
 go_wp2_with (refine K.lw fun W K=>?_;refine K.sr 0 rfl fun W K=>?_)
 unfold iA fA
 simp only[j]
 rw[List.length_set,←o.out]
 exact K.rc2 0 rfl rfl ⟨_,_,rfl,K.slb 0 rfl,K.below⟩
end
section
open Go.RowKit
theorem xJ {r:World} {q:List Nat} {v:Value} {st:Stp} (h:yK r q v st):∃ fid caps,v = .func (.func fid) #[] caps∧(∀ args w,(callFunc fid args).run Tryz.prog w = .ok (.enter fid args) w) ∧
 ∀ (W:World) (X:List Nat) (A:Option Addr) (n b:Nat) (fs:List Fil) (room:Int),XOk X W→yK W X v st→Sl az W X A n b fs→eO ⟨fs,room⟩→jD room st fs →
   Calls Tryz.prog fid (#[.agg #[.slice A n b,.int .i64 room,.int .i64 (-1),.bool false]]++caps) W (iA (fA st fs) room X W):=by
 cases st with
 | mk nm=>
   obtain⟨g,rfl,_⟩:=h
   refine⟨_,_,rfl,Tryz.call171,fun W X A n b fs room hX c d a i=>?_⟩
   obtain⟨g',e,f⟩:=c
   injection e with _ _ e
   simp only[Array.mk.injEq,List.cons.injEq,and_true,Value.pointer.injEq,Option.some.injEq,Addr.mk.injEq]at e
   subst e
   exact Fo nm g fs room A n b X W hX d a i f
 | wr nm bs=>
   obtain⟨g,p,B,m,u,rfl,_⟩:=h
   refine⟨_,_,rfl,Tryz.call224,fun W X A n b fs room hX c d a i=>?_⟩
   obtain⟨g',s,B',m',j,e,f,k,o⟩:=c
   injection e with _ _ e
   simp only[Array.mk.injEq,List.cons.injEq,and_true,Value.pointer.injEq,Option.some.injEq,Addr.mk.injEq]at e
   obtain⟨l,t⟩:=e
   subst l t
   exact Fx nm bs g p B' m' j fs room A n b X W hX d a i f k o
 | sy nm=>
   obtain⟨g,rfl,_⟩:=h
   refine⟨_,_,rfl,Tryz.call148,fun W X A n b fs room hX c d a i=>?_⟩
   obtain⟨g',e,f⟩:=c
   injection e with _ _ e
   simp only[Array.mk.injEq,List.cons.injEq,and_true,Value.pointer.injEq,Option.some.injEq,Addr.mk.injEq]at e
   subst e
   exact Ft nm g fs room A n b X W hX d a i f
theorem DV {l:List Stp} {k:Nat} {s:Stp} {fs:List Fil} (h:l[k]?=some s):cU (l.take (k+1)) fs=fA s (cU (l.take k) fs):=by
 obtain⟨a,rfl⟩:=List.getElem?_eq_some_iff.1 h
 unfold cU
 rw[List.take_succ_eq_append_getElem a,List.foldl_append]
 rfl
theorem tj {room:Int}:∀ {l:List Stp} {k:Nat} {s:Stp} {fs:List Fil},fo room l fs→l[k]?=some s→eO ⟨cU (l.take k) fs,room⟩∧jD room s (cU (l.take k) fs)
 | [],k,s,fs,_,h=>by simp at h
 | x::l,0,s,fs,h,hk=>by simp at hk;subst hk;exact⟨h.1,h.2.1⟩
 | x::l,k+1,s,fs,h,hk=>by
   have:=tj (k:=k) (s:=s) h.2.2 (by simpa using hk)
   exact this
set_option maxHeartbeats 1000000 in
theorem kW (l:List Stp) (fs:List Fil) (room:Int) (S:Option Addr) (m q:Nat) (A:Option Addr) (n o:Nat) (X:List Nat) (w:World) (hX:XOk X w) (p:Sl az w X A n o fs) (s:Sl dh w X S m q l) (h:fo room l fs) (P:m≤1000):
 Calls Tryz.prog 29 #[.agg #[.slice A n o,.int .i64 room,.int .i64 (-1),.bool false],.slice S m q] w (iA (cU l fs) room X w):=by
 obtain rfl:n=fs.length:=p.len
 have D:=Lib.hid s.len
 go_enter Tryz.func29,Tryz.ntmps29
 go_upto_region 2 with(fail)
 refine(hstart hX).cw fun W K=>?_
 have K:=(K.ksl0 s).ksl0 p
 clear p s
 go_loopw [11] (fun i wr => ∃ (k:Nat) (B:Option Addr) (c:Nat),k≤m∧i = .int .i64 k∧HH w [] X wr [.box (w.heap.size+1) 30 #[.slice none 0 0,.int .i64 0,.int .i64 0,.bool false],.box w.heap.size 30 #[.slice B (cU (l.take k) fs).length c,.int .i64 room,.int .i64 (-1),.bool false]] [Sl.fact az B (cU (l.take k) fs).length c (cU (l.take k) fs),Sl.fact dh S m q l]) (fun i _=>m-(intOf i).toNat)
 case atStart=>exact⟨0,A,o,Nat.zero_le _,rfl,K⟩
 case round=>
  obtain⟨k,B,c,N,rfl,K⟩:=hrel
  by_cases J:k<m
  ·obtain⟨x,g⟩:∃ x,l[k]?=some x:=⟨_,List.getElem?_eq_getElem (by have:=D.out;omega)⟩
   obtain⟨ad,r,rfl,u,t,⟨v,rfl,j⟩,b⟩:=(K.sl 1 rfl).at' g
   have f:=At.one b rfl rfl
   obtain⟨fid,caps,rfl,I,a⟩:=xJ j
   obtain⟨F,G⟩:=tj h g
   have C:=Lib.hid (DV (fs:=fs) g)
   have O:(0:Int)≤(k:Int):=by omega
   have Q:(k:Int)<(m:Int):=by omega
   clear g u t b
   generalize cU (l.take k) fs=E at K F G C
   have z:=K.r 1 rfl
   go_wp2_with fail
   refine(a wr _ B E.length c E room K.xok j (K.sl 0 rfl) F G).mono ?_
   rintro e R ⟨M,L,rfl,d,y⟩
   have K:=(K.on y).ksl d
   clear z y d f j a
   go_wp2_with (refine K.lw fun W K=>?_;refine K.sr 1 rfl fun W K=>?_)
   go_roundw
   case rel=>
    refine⟨k+1,M,L,by omega,by go_num,?_⟩
    rw[C.out]
    exact(K.out.forget (List.Sublist.cons_cons _ (List.Sublist.cons _ (List.Sublist.refl _)))).hh
   case measure=>simp[intOf];omega
  ·obtain rfl:k=m:=by omega
   have H:l.take k=l:=List.take_of_length_le (by have:=D.out;omega)
   rw[H]at K
   have z:=K.r 1 rfl
   go_wp2_with (refine K.lw fun W K=>?_;refine K.sr 0 rfl fun W K=>?_)
   exact K.rc2 0 rfl rfl ⟨_,_,rfl,K.slb 0 rfl,K.below⟩
end
section
open Go.RowKit
def dM (b a:Int):Bool:=decide (64≤b)&&(decide (b≤65536)&&(decide (1≤a)&&decide (a≤1099511627776)))
theorem qX (b a:Int) (w:World):Calls Tryz.prog 27 #[.agg #[.int .i64 b,.int .i64 a]] w fun e w'=>e = .returned (.bool (dM b a))∧Below w.heap.size w w':=by
 unfold dM
 by_cases f:64≤b
 ·by_cases g:b≤65536
  ·by_cases i:1≤a
   ·have c:=decide_eq_true f
    have h:=decide_eq_true g
    have j:=decide_eq_true i
    rw[c,h,j]
    generalize k:decide (a≤1099511627776)=d
    go_enter Tryz.func27,Tryz.ntmps27
    go_wp2
    go_ret
    exact⟨by simp,(Below.refl _ _).alloc (Nat.le_refl _) _⟩
   ·rw[decide_eq_false i]
    have c:=decide_eq_true f
    have h:=decide_eq_true g
    rw[c,h]
    go_enter Tryz.func27,Tryz.ntmps27
    go_wp2
    go_ret
    exact⟨by simp,(Below.refl _ _).alloc (Nat.le_refl _) _⟩
  ·rw[decide_eq_false g]
   have c:=decide_eq_true f
   rw[c]
   go_enter Tryz.func27,Tryz.ntmps27
   go_wp2
   go_ret
   exact⟨by simp,(Below.refl _ _).alloc (Nat.le_refl _) _⟩
 ·rw[decide_eq_false f]
  go_enter Tryz.func27,Tryz.ntmps27
  go_wp2
  go_ret
  exact⟨by simp,(Below.refl _ _).alloc (Nat.le_refl _) _⟩
set_option maxHeartbeats 1000000 in
theorem BU (l:List (List UInt8)) (A:Option Addr) (n f:Nat) (j:Option Addr) (n2 a:Nat) (X:List Nat) (w:World) (hX:XOk X w) (c:Sl af w X A n f l) (b:Sl af w X j n2 a l) (hn:n≤1000):
 Calls Tryz.prog 207 #[.slice A n f,.slice j n2 a] w fun e w'=>e = .returned (.bool true)∧Below w.heap.size w w':=by
 obtain rfl:n2=n:=by rw[c.len,b.len]
 have s:=Lib.hid c.len
 have q:=Lib.hid c
 have g:=Lib.hid b
 clear c b
 go_enter Tryz.func207,Tryz.ntmps207
 go_wp2
 go_loopw [13] (fun i wr => ∃ (k:Nat),k≤n2∧i = .int .i64 k∧HH w [] X wr [] [Sl.fact af A n2 f l,Sl.fact af j n2 a l]) (fun i _=>n2-(intOf i).toNat)
 case atStart=>exact⟨0,Nat.zero_le _,rfl,((hstart hX).ksl0 g.out).ksl0 q.out⟩
 case round=>
  obtain⟨k,v,rfl,K⟩:=hrel
  by_cases t:k<n2
  ·obtain⟨x,d⟩:∃ x,l[k]?=some x:=⟨_,List.getElem?_eq_getElem (by have:=s.out;omega)⟩
   obtain⟨ad,r,rfl,K,⟨rfl,m⟩⟩:=K.elem 0 rfl d
   obtain⟨u,B,rfl,K,⟨rfl,p⟩⟩:=K.elem 2 rfl d
   have y:(0:Int)≤(k:Int):=by omega
   have z:(k:Int)<(n2:Int):=by omega
   generalize o:eN x=sx at K
   clear d m p
   go_upto_region 6 with(fail)
   refine K.rg fun W K=>?_
   refine tK 0 K ?_
   refine tK 1 K ?_
   refine tK 2 K ?_
   refine tL 3 (fun _ h=>At.one (h.at' 1 rfl) rfl rfl) K ?_
   refine tK 4 K ?_
   refine tK 5 K ?_
   refine tK 6 K ?_
   refine tL 7 (fun _ h=>At.one (h.at' 0 rfl) rfl rfl) K ?_
   refine tK 8 K ?_
   refine tE ?_
   go_wp2
   go_roundw
   case rel=>exact⟨k+1,by omega,by go_num,K.ft.ft⟩
   case measure=>simp[intOf];omega
  ·obtain rfl:k=n2:=by omega
   go_wp2
   go_ret
   exact⟨rfl,K.below⟩
theorem xD (q a:Int) (l:List (List UInt8)) (A:Option Addr) (n d:Nat) (f:Option Addr) (g b:Nat) (X:List Nat) (w:World) (hX:XOk X w) (h:Sl af w X A n d l) (c:Sl af w X f g b l) (hn:n≤1000):
 Calls Tryz.prog 137 #[.agg #[.int .i64 q,.int .i64 a,.slice A n d],.agg #[.int .i64 q,.int .i64 a,.slice f g b]] w fun e w'=>e = .returned (.bool true)∧Below w.heap.size w w':=by
 have j:(q == q)=true:=by simp
 have m:(a == a)=true:=by simp
 go_enter Tryz.func137,Tryz.ntmps137
 go_wp2_with fail
 refine(hstart hX).cl fun W K=>?_
 have K:=(K.ksl0 c).ksl0 h
 clear h c
 refine(BU l A n d f g b _ W K.xok (K.sl 0 rfl) (K.sl 1 rfl) hn).mono ?_
 rintro e k ⟨rfl,i⟩
 have K:=K.on i
 go_wp2
 go_ret
 exact⟨rfl,K.below⟩
end
section
open Go.RowKit
section
variable {w0 W W' w1:World} {M X:List Nat} {L:List Itm} {F:List Fact} {P:Program}
theorem HH.rowc {e:TypeId} {size n g cap:Nat} {xs:List Value} (K:HH w0 M X W L F) (i:Nat) (j:L[i]?=some (.row e size (.slice (some ⟨g,0,none⟩) n cap) n xs)) {o:Nat} {v:Value} (b:xs[o]?=some v):W.cell? ⟨g,o,none⟩=some v:=by
 obtain⟨p,⟨f,_⟩ | ⟨g',cap',cur,l,m,k,r,q,h9,c⟩⟩:=K.row i j
 ·cases f
 ·injection l with a d h
  injection a with a
  injection a with a
  subst a
  rw[Blk.cell (t:=e) k]
  rw[←c,List.getElem?_take]at b
  split at b
  ·simpa using b
  ·cases b
theorem HH.rowf {e:TypeId} {size n g cap:Nat} {xs:List Value} (K:HH w0 M X W L F) (i:Nat) (h:L[i]?=some (.row e size (.slice (some ⟨g,0,none⟩) n cap) n xs)) (o:Nat):W.frozen? ⟨g,o,none⟩=false:=by
 obtain⟨m,⟨c,_⟩ | ⟨g',cap',cur,k,l,j,q,p,h9,d⟩⟩:=K.row i h
 ·cases c
 ·injection k with a b f
  injection a with a
  injection a with a
  subst a
  exact Blk.frozen (t:=e) j _
theorem HH.row1 {e:TypeId} {size n g cap:Nat} {xs:List Value} (K:HH w0 M X W L F) (i:Nat) (c:L[i]?=some (.row e size (.slice (some ⟨g,0,none⟩) n cap) n xs)) (o:Nat) (v:Value) (a:o<xs.length):
 HH w0 M X (W.setCell ⟨g,o,none⟩ v) (L.set i (.row e size (.slice (some ⟨g,0,none⟩) n cap) n (xs.set o v))) F:=by
 have h:=K.out.row_sets i c o [v] (by simp;omega)
 have b:dP xs o [v]=xs.set o v:=by
  unfold dP
  rw[List.set_eq_take_append_cons_drop,if_pos a]
  simp
 rw[b]at h
 exact h
theorem tA {ops:Array Oper} {Q:Exit→Act→World→Prop} {md:Region.Mode} {S:World→Prop} {o:Oper} {fuel:Nat} {listed:Array Bool} {a:Act} {e t ty:TypeId} {size n b c:Nat} {xs:List Value} {v:Value} {ns:Array Value} {s x:Operand} {L':Value→List Itm}
 (i:Nat) (K:HH w0 M X W (.box b t ns::L) F) (bytes r:Nat) (f:L[r]?=some (.row e size v n xs)) (hn:n≤100000) (hS:∀ v' U,HH w0 M X U (L' v') F→S U) (k:∀ v' U,HH w0 M X U (L' v') F→wpAnyH P md ops Q S fuel (listed.setIfInBounds i true) (a.put o.dst v') U)
 (B:Region.ready md ops listed = [i]:=by kernel_rfl) (ho:ops[i]?=some o:=by exact rfl) (hw:Region.wanted o (yielded ops a.tmps)=true:=by rfl) (hop:o.op = .call { callee := .builtin .append,args:=#[s,x],argTypes:=#[ty,ty] }:=by rfl)
 (hs:a.eval s=v:=by rfl) (hx:a.eval x = .slice (some ⟨b,0,none⟩) 1 c:=by rfl) (hT:yC P ty e size bytes=true:=by kernel_rfl) (hz:ns.size=size:=by rfl) (h0:(0<size∧bytes≤1000):=by decide) (h1:ns.toList.all (·.oneCell')=true:=by rfl)
 (hL:∀ v',L.set r (.row e size v' (n+1) (xs++ns.toList))=L' v':=by(intro v';first | (simp only[aj,ai];done) | (simp only[aj,ai];exact rfl))):
 wpAnyH P md ops Q S (fuel+1) listed a W:=
 tC (o:=o) i (fun K' hK=>by
  rw[if_pos hw]
  obtain⟨q,g,z,A,p,w,l,C⟩:=jZ hT
  have hR:Reads W W.heap.size size (some ⟨b,0,none⟩) 1 ns.toList:=⟨by rw[Array.length_toList,hz,Nat.one_mul],fun _=>⟨_,rfl,K.out.lt 0 rfl,fun j u d=>by
   rw[add_plain,K.r 0 rfl]
   simpa using d⟩⟩
  have D:(n+1)*bytes≤100001*1000:=Nat.mul_le_mul (by omega) h0.2
  refine iy W s x ty hop 0 e g z size bytes q A p w l C h0.1 v n xs hs (K.row (r+1) (by simpa using f)) W.heap.size _ 1 c ns.toList hx hR (fun u d=>List.all_eq_true.1 h1 u d) (by unfold maxLen;omega) (by omega) (Nat.zero_le _) fun v' w' y h m=>?_
  have hA:=K.tl.out.appended r f y h m
  rw[hL]at hA
  exact hK.out _ _ (hS v' w' hA) fun _=>k v' w' hA) B ho
def Dx:Array Value→Nat→List Value→Array Value
 | cs,_,[]=>cs
 | cs,o,v::r=>Dx (cs.setIfInBounds o v) (o+1) r
theorem an.box_sets:∀ (vs:List Value) (o:Nat) (W:World) (cs:Array Value) (L:List Itm),an w0 M X W L F → ∀ (i:Nat) {g:Nat} {t:TypeId},L[i]?=some (.box g t cs)→an w0 M X (W.setCells g o vs) (L.set i (.box g t (Dx cs o vs))) F
 | [],o,W,cs,L,h,i,g,t,hi=>by
   rw[show Dx cs o []=cs from rfl,show L.set i (.box g t cs)=L from ?_]
   ·exact h
   ·obtain⟨b,c⟩:=List.getElem?_eq_some_iff.1 hi
    rw[←c,List.set_getElem_self]
 | v::r,o,W,cs,L,h,i,g,t,hi=>by
   have d:=h.set_ i hi o v
   have b:=(List.getElem?_eq_some_iff.1 hi).1
   have a:=an.box_sets r (o+1) _ _ _ d i (g:=g) (t:=t) (by rw[List.getElem?_set_self b])
   rw[List.set_set]at a
   exact a
theorem HH.sub (K:HH w0 M X W L F) (i:Nat) {g:Nat} {t:TypeId} {cs:Array Value} (c:L[i]?=some (.box g t cs)) (k:Nat) (l:List Value) (b:(cs.toList.drop k).take l.length=l:=by rfl):At W ⟨g,k,none⟩ l:=fun j v a=>by
 rw[add_plain,K.r i c]
 rw[←b,List.getElem?_take]at a
 split at a
 ·rw[List.getElem?_drop]at a
  simpa using a
 ·cases a
theorem HH.ss {L':List Itm} {ops:Array Oper} {rest:List Oper} {o:Oper} {a:Act} {Q:Exit→Act→World→Prop} {g k:Nat} {t ty:TypeId} {old cells new:Array Value} {x y:Operand} (K:HH w0 M X W L F) (i:Nat) (d:L[i]?=some (.box g t old))
 (kk:∀ U,HH w0 M X U L' F→wpList P ops Q rest a U) (c:o.guard=none:=by rfl) (ho:o.op = .store ty x y:=by rfl) (hd:o.dst=none:=by rfl)
 (hx:a.eval x = .pointer (some ⟨g,k,none⟩):=by rfl) (hy:a.eval y = .agg cells:=by rfl) (hT:((P.info? ty).map (·.size) == some cells.size)=true:=by kernel_rfl) (hz:decide (k+cells.size≤old.size)=true:=by rfl) (h1:cells.toList.all (·.oneCell')=true:=by rfl)
 (hn:Dx old k cells.toList=new:=by rfl) (hL:L.set i (.box g t new)=L':=by(first | (simp only[aj,ai];done) | (simp only[aj,ai];exact rfl))):wpList P ops Q (o::rest) a W:=by
 have b:=an.box_sets cells.toList k W old L K.out i d
 rw[hn,hL]at b
 have e:=of_decide_eq_true hz
 refine wpList_store_mid c ty x y ho g k cells hx hy (fun j f=>⟨?_,K.out.frozen i d _⟩) (beq_iff_eq.1 hT) (by rw[←Array.all_toList];exact h1) ?_
 ·rw[K.r i d,Array.getElem?_eq_getElem (by omega)];rfl
 ·rw[hd]
  exact kk _ b
end
end
end Go.Proofs.YtpokkciheejeiaaGreatDoor
