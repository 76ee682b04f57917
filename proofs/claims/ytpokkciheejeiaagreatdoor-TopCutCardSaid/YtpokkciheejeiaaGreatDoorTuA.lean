/- Lemmas and contracts that the proof of TopCut uses, part 1 of 16: each is a theorem for every input that its premises allow. -/
import Derived.WalkKit
import Derived.Below
import Derived.Laws.OwnMore
import Derived.Deep.AppendLies
import Derived.Deep.Draws
import Derived.Laws.Rows
import Derived.Maps.AppendAt
import Derived.RegionTactic
import Derived.OwnWalk
import Derived.Deep.OwnRows
import Derived.Laws.AppendOwn
import Derived.Laws.MakeOwn
import Derived.Laws.Entries
import Derived.Deep.QuietTactic
import Derived.Lib.Hide
import Derived.ProofKit
import Derived.OpenShut
import Derived.ShutString
import Derived.ChangeOld
import Derived.JoinedOf
import Derived.RowKit
import Derived.RowKitTokens
import Derived.LaidLaws
import Derived.LaidHandle
import Derived.Stop.Joined
import Derived.Lib.LaidIn
import Derived.Test.YtpokkciheejeiaaGreatDoorRows
import Derived.Deep.RegionHeld3
import Derived.OneCell
import Derived.StillTailTactics
import Derived.Deep.WholeRow
import Derived.Deep.DeepCutAuto
import Derived.Deep.MidRow
import Derived.Deep.Slices
import Derived.Deep.Fields
import Derived.ChangeSame
import Derived.ChangeArms
import Derived.WalkLawsBesides
import Derived.WalkSpells
import Derived.Outline
import Derived.Laws.EntriesVeiled
import Derived.WideLaws
import Derived.Deep.DeepMust
import Derived.Lib.SlBytesConst
import Derived.Laws.IdiomStrings
set_option linter.unusedVariables false
set_option linter.unusedSimpArgs false
set_option maxRecDepth 100000
namespace Go.Proofs.YtpokkciheejeiaaGreatDoor
theorem sI {α : Type} (l : List α) (i : Nat) (a : α) : l.toArray.setIfInBounds i a = (l.set i a).toArray := List.setIfInBounds_toArray ..
theorem sZ {α : Type} {x : α} {xs : List α} {a : α} : (x :: xs).set 0 a = a :: xs := rfl
theorem sS {α : Type} {x : α} {xs : List α} {i : Nat} {a : α} : (x :: xs).set (i + 1) a = x :: xs.set i a := rfl
section
open Go.RowKit
theorem aF (a:Addr) (n:Nat):(a.add n).block=a.block:=by unfold Addr.add;split<;>rfl
theorem cB (a:Addr) (i j:Nat):(a.add i).add j=a.add (i+j):=by
 unfold Addr.add
 by_cases c:i=0<;>by_cases b:j=0<;>simp[c,b,Nat.add_assoc]
def Reads (w:World) (B size:Nat) (A:Option Addr) (n:Nat) (xs:List Value):Prop:=
 xs.length=n*size∧(0<n → ∃ ad,A=some ad∧ad.block<B ∧ ∀ j u,xs[j]?=some u→w.cell? (ad.add j)=some u)
section
variable {w w':World} {B B' size n:Nat} {A:Option Addr} {xs:List Value}
theorem Reads.none_:Reads w B size A 0 []:=⟨by simp,fun h=>absurd h (by omega)⟩
theorem Reads.at_ {k:Nat} (h:Reads w B 1 A n xs) (d:k<n):∃ ad u,A=some ad∧ad.block<B∧xs[k]?=some u∧w.cell? (ad.add k)=some u:=by
 obtain⟨ad,e,b,c⟩:=h.2 (by omega)
 have a:k<xs.length:=by have:=h.1;omega
 exact⟨ad,xs[k],e,b,List.getElem?_eq_getElem a,c k _ (List.getElem?_eq_getElem a)⟩
theorem Reads.keep (h:Reads w B size A n xs) (b:∀ p:Addr,p.block<B→w'.cell? p=w.cell? p):Reads w' B size A n xs:=
 ⟨h.1,fun f=>by
  obtain⟨ad,e,a,c⟩:=h.2 f
  exact⟨ad,e,a,fun j u d=>(b _ (by rw[aF];exact a)).trans (c j u d)⟩⟩
theorem Reads.more (h:Reads w B size A n xs) (hB:B≤B'):Reads w B' size A n xs:=
 ⟨h.1,fun b=>by
  obtain⟨ad,e,c,a⟩:=h.2 b
  exact⟨ad,e,by omega,a⟩⟩
theorem Reads.below (h:Reads w B size A n xs) (a:Below B w w'):Reads w' B size A n xs:=h.keep fun _ b=>a.cell b
theorem Reads.drew (h:Reads w B size A n xs):Reads w.drew B size A n xs:=h
theorem Reads.alloc (h:Reads w B size A n xs) (hB:B≤w.heap.size) (o:Obj):Reads (w.alloc o) B size A n xs:=h.keep fun p a=>World.cell?_alloc_lt w o p (by omega)
theorem Reads.setCell (h:Reads w B size A n xs) {p:Addr} (hB:B≤p.block) (u:Value):Reads (w.setCell p u) B size A n xs:=
 h.keep fun q a=>World.cell?_setCell_other w p q u (fun e=>by subst e;omega)
theorem Reads.cut (h:Reads w B size A n xs) {k cap:Nat} (e:k≤n) (c:n≤cap):
 Reads w B size (if cap=k then A else A.map (·.add (k*size))) (n-k) (xs.drop (k*size)):=by
 refine⟨by rw[List.length_drop,h.1,Nat.sub_mul],fun d=>?_⟩
 obtain⟨ad,rfl,a,hcell⟩:=h.2 (by omega)
 rw[if_neg (by omega)]
 refine⟨ad.add (k*size),rfl,by rw[aF];exact a,fun j u b=>?_⟩
 rw[cB]
 exact hcell _ u (by rw[←b,List.getElem?_drop])
theorem Reads.of_own {base:Nat} {e:TypeId} {c:Nat} (h:w.ownsRow base e size (.slice A n c) n xs):Reads w w.heap.size size A n xs:=by
 refine⟨h.1,fun d=>?_⟩
 obtain⟨g,cap,b,_,a⟩:=h.form d
 have hA:A=some ⟨g,0,none⟩:=by injection b
 subst hA
 exact⟨_,rfl,a,h.cells (g:=g) rfl⟩
end
def Blk (w:World) (g:Nat) (t:TypeId) (cs:Array Value):Prop:=w.heap[g]?=some (.cells cs t (0,0))
section
variable {w w':World} {g:Nat} {t:TypeId} {cs:Array Value}
theorem Blk.lt (h:Blk w g t cs):g<w.heap.size:=by
 rcases Nat.lt_or_ge g w.heap.size with b | a
 ·exact b
 ·unfold Blk at h;rw[Array.getElem?_eq_none a]at h;cases h
theorem Blk.cell (h:Blk w g t cs) (i:Nat):w.cell? ⟨g,i,none⟩=cs[i]?:=cell_of_row w g i cs t (0,0) h
theorem Blk.frozen (h:Blk w g t cs) (i:Nat):w.frozen? ⟨g,i,none⟩=false:=by
 unfold Blk at h
 simp[World.frozen?,h]
theorem Blk.new (w:World) (t:TypeId) (cs:Array Value):Blk (w.alloc (.cells cs t)) w.heap.size t cs:=heap_alloc_new w _
theorem Blk.drew (h:Blk w g t cs):Blk w.drew g t cs:=h
theorem Blk.alloc (h:Blk w g t cs) (o:Obj):Blk (w.alloc o) g t cs:=(Below.heap_alloc w o g h.lt).trans h
theorem Blk.set_ (h:Blk w g t cs) (i:Nat) (u:Value):Blk (w.setCell ⟨g,i,none⟩ u) g t (cs.setIfInBounds i u):=by
 unfold Blk at h ⊢
 simp[World.setCell,Array.getElem?_modify,h]
theorem Blk.far (h:Blk w g t cs) {p:Addr} (a:g≠p.block) (u:Value):Blk (w.setCell p u) g t cs:=(Below.heap_setCell w p u g a).trans h
theorem Blk.below {B:Nat} (h:Blk w g t cs) (b:Below B w w') (a:g<B):Blk w' g t cs:=(b.block g a).trans h
end
section
variable {P:Program} (w:World)
theorem mJ (base:Nat) (t ty e:TypeId) (i:TypeInfo) (size:Nat) (d:P.underlying t=some (.slice e)) (b:P.info? e=some i)
 (v:Value) (n:Nat) (xs:List Value) (hown:w.ownsRow base e size v n xs) (c:Nat):(Builtin.append_ #[t,t] ty #[v,.slice none 0 c]).run P w = .ok v w:=by
 rcases hown.2 with⟨rfl,rfl⟩ | ⟨g,cap,cur,rfl,_,_,a,_⟩
 ·simp[Builtin.append_,run_underlying d,sizeOf,typeInfo,b,Builtin.lenOf,Builtin.firstCells]
 ·simp[Builtin.append_,run_underlying d,sizeOf,typeInfo,b,Builtin.lenOf,Builtin.firstCells,a,storeCells]
theorem oZ (base:Nat) (t ty e:TypeId) (i:TypeInfo) (z:Value) (size bytes:Nat) (p:P.underlying t=some (.slice e)) (o:P.info? e=some i) (C:i.zero=some z)
 (hsize:i.size=size) (l:i.bytes=bytes) (k:z.cells.size=size) (f:0<size)
 (v:Value) (n:Nat) (xs:List Value) (hown:w.ownsRow base e size v n xs)
 (B:Nat) (A:Option Addr) (m c:Nat) (news:List Value) (b:Reads w B size A m news) (D:∀ u ∈ news,u.oneCell'=true)
 (d:n+m≤maxLen) (hbytes:(n+m)*bytes≤140737488355328) (hbase:base≤w.heap.size):
 ∃ v' w',(Builtin.append_ #[t,t] ty #[v,.slice A m c]).run P w = .ok v' w'∧w'.ownsRow base e size v' (n+m) (xs++news)∧w.grownBy w' v.ownBlock ∧
   (v'.ownBlock=v.ownBlock∨v'.ownBlock=some w.heap.size):=by
 rcases A with _ | ad
 ·have s:m=0:=by
   rcases Nat.eq_zero_or_pos m with a | a
   ·exact a
   ·obtain⟨ad,h,_⟩:=b.2 a
    cases h
  subst s
  have g:news = []:=List.eq_nil_of_length_eq_zero (by simpa using b.1)
  subst g
  exact⟨v,w,mJ w base t ty e i size p o v n xs hown c,by simpa using hown,World.grownBy.refl w _,.inl rfl⟩
 ·have hcells:∀ j u,news[j]?=some u→w.cell? (ad.add j)=some u:=by
   intro j u q
   rcases Nat.eq_zero_or_pos m with a | a
   ·subst a
    have g:news = []:=List.eq_nil_of_length_eq_zero (by simpa using b.1)
    subst g
    simp at q
   ·obtain⟨F,h,_,y⟩:=b.2 a
    injection h with h
    subst h
    exact y j u q
  obtain⟨v',w',hrun,E,x,_,r⟩:=run_append_own_at (P:=P) w base t ty e i z size bytes p o C hsize l k f v n xs hown ad m c news b.1 hcells D d hbytes hbase
  exact⟨v',w',hrun,E,x,r⟩
theorem ir {o:Oper} {a:Act} {K:Act→World→Prop} {Q:Exit→Act→World→Prop} (s x:Operand) (t:TypeId)
 (g:o.op = .call { callee := .builtin .append,args:=#[s,x],argTypes:=#[t,t] })
 (base:Nat) (e:TypeId) (i:TypeInfo) (z:Value) (size bytes:Nat) (ht:P.underlying t=some (.slice e)) (hi:P.info? e=some i) (hz:i.zero=some z)
 (hsize:i.size=size) (hby:i.bytes=bytes) (hzs:z.cells.size=size) (hsz:0<size)
 (v:Value) (n:Nat) (xs:List Value) (hs:a.eval s=v) (hown:w.ownsRow base e size v n xs)
 (B:Nat) (A:Option Addr) (m c:Nat) (news:List Value) (hx:a.eval x = .slice A m c) (hr:Reads w B size A m news) (h1:∀ u ∈ news,u.oneCell'=true)
 (h63:n+m≤maxLen) (hbytes:(n+m)*bytes≤140737488355328) (hbase:base≤w.heap.size)
 (h:∀ v' w',w'.ownsRow base e size v' (n+m) (xs++news)→w.grownBy w' v.ownBlock→(v'.ownBlock=v.ownBlock∨v'.ownBlock=some w.heap.size)→K (a.put o.dst v') w'):o.wp P a w K Q:=by
 obtain⟨v',w',hrun,d,b,f⟩:=oZ (P:=P) w base t o.type e i z size bytes ht hi hz hsize hby hzs hsz v n xs hown B A m c news hr h1 h63 hbytes hbase
 unfold Oper.wp execOp
 simp only[g,resolve,invoke,builtin,Sem.run_bind,Sem.run_pure,Result.andThen_ok,List.map_toArray,List.map_cons,List.map_nil,hs,hx,hrun]
 exact h v' w' d b f
theorem bf {ops:Array Oper} {rest:List Oper} {o:Oper} {a:Act} {Q:Exit→Act→World→Prop} (b:o.guard=none) (s x:Operand) (t:TypeId)
 (j:o.op = .call { callee := .builtin .append,args:=#[s,x],argTypes:=#[t,t] })
 (base:Nat) (e:TypeId) (i:TypeInfo) (z:Value) (size bytes:Nat) (ht:P.underlying t=some (.slice e)) (hi:P.info? e=some i) (hz:i.zero=some z)
 (hsize:i.size=size) (hby:i.bytes=bytes) (hzs:z.cells.size=size) (hsz:0<size)
 (v:Value) (n:Nat) (xs:List Value) (hs:a.eval s=v) (hown:w.ownsRow base e size v n xs)
 (B:Nat) (A:Option Addr) (m c:Nat) (news:List Value) (hx:a.eval x = .slice A m c) (hr:Reads w B size A m news) (h1:∀ u ∈ news,u.oneCell'=true)
 (h63:n+m≤maxLen) (hbytes:(n+m)*bytes≤140737488355328) (hbase:base≤w.heap.size)
 (h:∀ v' w',w'.ownsRow base e size v' (n+m) (xs++news)→w.grownBy w' v.ownBlock→(v'.ownBlock=v.ownBlock∨v'.ownBlock=some w.heap.size)→wpList P ops Q rest (a.put o.dst v') w'):wpList P ops Q (o::rest) a w:=
 wpList_plain b fun _ hK=>ir w s x t j base e i z size bytes ht hi hz hsize hby hzs hsz v n xs hs hown B A m c news hx hr h1 h63 hbytes hbase fun v' w' f d g=>hK _ _ (h v' w' f d g)
theorem nR {ops:Array Oper} {o:Oper} {a:Act} {K:Act→World→Prop} {Q:Exit→Act→World→Prop} {E:Prop} (b:o.guard=none) (s x:Operand) (t:TypeId)
 (f:o.op = .call { callee := .builtin .append,args:=#[s,x],argTypes:=#[t,t] })
 (base:Nat) (e:TypeId) (i:TypeInfo) (z:Value) (size bytes:Nat) (ht:P.underlying t=some (.slice e)) (hi:P.info? e=some i) (hz:i.zero=some z)
 (hsize:i.size=size) (hby:i.bytes=bytes) (hzs:z.cells.size=size) (hsz:0<size)
 (v:Value) (n:Nat) (xs:List Value) (hs:a.eval s=v) (hown:w.ownsRow base e size v n xs)
 (B:Nat) (A:Option Addr) (m c:Nat) (news:List Value) (hx:a.eval x = .slice A m c) (hr:Reads w B size A m news) (h1:∀ u ∈ news,u.oneCell'=true)
 (h63:n+m≤maxLen) (hbytes:(n+m)*bytes≤140737488355328) (hbase:base≤w.heap.size)
 (h:∀ v' w',w'.ownsRow base e size v' (n+m) (xs++news)→w.grownBy w' v.ownBlock→(v'.ownBlock=v.ownBlock∨v'.ownBlock=some w.heap.size)→K (a.put o.dst v') w'):
 if Region.wanted o (yielded ops a.tmps)=true then Oper.wp P o a w K Q else E:=by
 have d:Region.wanted o (yielded ops a.tmps)=true:=by simp[Region.wanted,b]
 rw[if_pos d]
 exact ir w s x t f base e i z size bytes ht hi hz hsize hby hzs hsz v n xs hs hown B A m c news hx hr h1 h63 hbytes hbase h
end
theorem xk {P:Program} {f:FuncId} {args:Array Value} {w:World} {n:Nat} {v:Value}
 (h:Calls P f args (w.drewN n) fun e w'=>e = .returned v∧w.drewN n=w'):Calls P f args (w.drewN n) fun e w''=>e = .returned v ∧ ∃ m,w''=w.drewN m:=
 h.mono fun _ _ ⟨b,a⟩=>⟨b,n,a.symm⟩
theorem bW {fn:Func} {t u v x:Tmp} (h:fn.results=#[.tmp t,.tmp u,.tmp v,.tmp x]) (tmps:Array Value) (P:Program) (w:World):
 (results fn tmps).run P w = .ok (.tuple #[tmps.getD t undef,tmps.getD u undef,tmps.getD v undef,tmps.getD x undef]) w:=by simp[results,h]
theorem below_drewN {B:Nat} {a w:World} (h:Below B a w) (n:Nat):Below B a (w.drewN n):=⟨h.os,h.tape,h.output,h.size,h.block⟩
theorem gH {a w:World} {row:Option Nat} (h:a.grownBy w row):a.grownBy w.drew row:=⟨h.os,h.tape,h.output,h.size,h.block⟩
theorem lF {a w:World} {row:Option Nat} (h:a.grownBy w row) (o:Obj):a.grownBy (w.alloc o) row:=
 ⟨h.os,h.tape,h.output,Nat.le_trans h.size (by simp),fun i c b=>(Below.heap_alloc w o i (Nat.lt_of_lt_of_le c h.size)).trans (h.block i c b)⟩
theorem sB {a w:World} {g:Nat} (h:a.grownBy w (some g)) {p:Addr} (c:p.block=g∨a.heap.size≤p.block) (u:Value):a.grownBy (w.setCell p u) (some g):=
 ⟨h.os,h.tape,h.output,by simpa [World.setCell] using h.size,fun i d b=>(Below.heap_setCell w p u i (by
  rintro rfl
  rcases c with c | c
  ·exact b (by rw[c])
  ·omega)).trans (h.block i d b)⟩
theorem bR {a w:World} (h:Below a.heap.size a w) (row:Option Nat):a.grownBy w row:=⟨h.os,h.tape,h.output,h.size,fun i b _=>h.block i b⟩
theorem lu {P:Program} (t e:TypeId) (i:TypeInfo) (z:Value) (k:P.underlying t=some (.slice e)) (f:P.info? e=some i) (j:i.zero=some z)
 (kl kc:IntKind) (n c:Nat) (g:n≤c) (hbytes:i.bytes*c≤281474976710656) (b:c≤9223372036854775807) (w:World):
 (Instr.makeSlice t (.int kl (n:Int)) (.int kc (c:Int))).run P w = .ok (.slice (some ⟨w.heap.size,0,none⟩) n c) (w.alloc (.cells (madeCells z.cells (c*i.size)) e)):=by
 have d:(i.bytes:Int)*(c:Int)≤281474976710656:=by
  have h:((i.bytes*c:Nat):Int)≤281474976710656:=by omega
  rwa [Int.natCast_mul]at h
 have a:=run_make (P:=P) w t e i z k f j kl kc n c (by omega) (by omega) d (by omega)
 simp only[Int.toNat_natCast]at a
 exact a
theorem nv {P:Program} (t k e:TypeId) (kd:IntKind) (n:Int) (a:P.underlying t=some (.map k e)) (w:World):
 (Instr.makeMap t (some (.int kd n))).run P w = .ok (.map (some w.heap.size)) (w.alloc (.map #[] 0)):=by
 simp[Instr.makeMap,run_underlying a];rfl
theorem add_plain (g o j:Nat):(⟨g,o,none⟩:Addr).add j=⟨g,o+j,none⟩:=by
 unfold Addr.add
 by_cases h:j=0<;>simp[h]
theorem gU {W a:World} (c:Below W.heap.size W a):(∀ b o,b<W.heap.size→a.cell? ⟨b,o,none⟩=W.cell? ⟨b,o,none⟩)∧(∀ b o,b<W.heap.size→a.frozen? ⟨b,o,none⟩=W.frozen? ⟨b,o,none⟩):=
 ⟨fun b o h=>c.cell (p:=⟨b,o,none⟩) h,fun b o h=>c.frozen (p:=⟨b,o,none⟩) h⟩
section
variable {P:Program}
theorem dZ {ops:Array Oper} {rest:List Oper} {o:Oper} {a:Act} {Q:Exit→Act→World→Prop} (W:World) (b:o.guard=none) (s x:Operand) (t:TypeId)
 (d:o.op = .call { callee := .builtin .append,args:=#[s,x],argTypes:=#[t,t] })
 (base:Nat) (e:TypeId) (i:TypeInfo) (z:Value) (bytes:Nat) (ht:P.underlying t=some (.slice e)) (hi:P.info? e=some i) (hz:i.zero=some z)
 (hsize:i.size=1) (hby:i.bytes=bytes) (hzs:z.cells.size=1)
 (v:Value) (n:Nat) (xs:List Value) (hown:W.ownsRow base e 1 v n xs) (hs:a.eval s=v)
 (u:Value) (hx:a.eval x = .slice (some ⟨W.heap.size,0,none⟩) 1 1) (h1:u.oneCell'=true)
 (h63:n+1≤maxLen) (hbytes:(n+1)*bytes≤140737488355328) (hbase:base≤W.heap.size)
 (h:∀ v' w',w'.ownsRow base e 1 v' (n+1) (xs ++ [u])→W.grownBy w' v.ownBlock→wpList P ops Q rest (a.put o.dst v') w'):wpList P ops Q (o::rest) a (W.alloc (.cells #[u] e)):=by
 refine wpList_append_own _ b s x t d base e i z 1 bytes ht hi hz hsize hby hzs (by omega) v n xs hs (hown.alloc _) ⟨W.heap.size,0,none⟩ 1 1 [u] hx rfl ?_ (by simpa using h1) h63 hbytes (by simp;omega) ?_
 ·intro j u' c
  rcases j with _ | j
  ·simp at c
   subst c
   rw[add_plain]
   exact(Blk.new W e #[u]).cell 0
  ·simp at c
 ·intro v' w' g f _
  exact h v' w' g ((lF (World.grownBy.refl W _) _).trans f)
theorem cX {base:Nat} {e:TypeId} {size n:Nat} {v:Value} {xs:List Value} {B:Nat} {c W w':World} (d:Below B c W) (f:W.grownBy w' v.ownBlock) (hown:W.ownsRow base e size v n xs) (hB:B≤base) (b:B≤W.heap.size):Below B c w':=by
 refine d.grown f b (fun g a=>?_)
 rcases hown.2 with⟨rfl,_⟩ | ⟨g',cap,cur,rfl,h,_⟩
 ·simp[Value.ownBlock]at a
 ·simp[Value.ownBlock]at a
  omega
theorem cY (W:World) (e:TypeId) (base:Nat) (a:base≤W.heap.size) (size:Nat):(W.alloc (.cells #[] e)).ownsRow base e size (.slice (some ⟨W.heap.size,0,none⟩) 0 0) 0 []:=
 ⟨by simp,.inr ⟨W.heap.size,0,#[],rfl,a,Blk.new W e #[],Nat.le_refl _,Nat.zero_le _,by simp,by simp⟩⟩
end
theorem dN {w:World} {base base':Nat} {e:TypeId} {size n:Nat} {v:Value} {xs:List Value} (h:w.ownsRow base e size v n xs) (f:base'≤base):w.ownsRow base' e size v n xs:=by
 rcases h with⟨b,a | ⟨g,cap,cur,a,c,d⟩⟩
 ·exact⟨b,.inl a⟩
 ·exact⟨b,.inr ⟨g,cap,cur,a,Nat.le_trans f c,d⟩⟩
theorem iI {w:World} {base:Nat} {e:TypeId} {n:Nat} {v:Value} {xs:List Value} (h:w.ownsRow base e 1 v n xs):∃ A c,v = .slice A n c∧n≤c∧c≤maxLen∧(A=none→c=0)∧Reads w w.heap.size 1 A n xs:=by
 rcases h with⟨a,⟨rfl,rfl⟩ | ⟨g,cap,cur,rfl,f,i,b,d,j⟩⟩
 ·have:xs = []:=List.eq_nil_of_length_eq_zero (by simpa using a)
  subst this
  exact⟨none,0,rfl,Nat.le_refl _,Nat.zero_le _,fun _=>rfl,Reads.none_⟩
 ·refine⟨_,cap,rfl,b,d,fun h=>(by cases h),Reads.of_own (c:=cap) (base:=base) (e:=e) ⟨a,.inr ⟨g,cap,cur,rfl,f,i,b,d,j⟩⟩⟩
section
variable (w:World) (t1 t2 t3:TypeId) (a b c:Array Value)
theorem vp:Blk ((w.alloc (.cells a t1)).alloc (.cells b t2)) w.heap.size t1 a:=(Blk.new w t1 a).alloc _
theorem sA:Blk ((w.alloc (.cells a t1)).alloc (.cells b t2)) (w.heap.size+1) t2 b:=by
 have h:=Blk.new (w.alloc (.cells a t1)) t2 b
 rwa [show(w.alloc (.cells a t1)).heap.size=w.heap.size+1 from by simp]at h
theorem Ff:Blk (((w.alloc (.cells a t1)).alloc (.cells b t2)).alloc (.cells c t3)) w.heap.size t1 a:=(vp w t1 t2 a b).alloc _
theorem Fq:Blk (((w.alloc (.cells a t1)).alloc (.cells b t2)).alloc (.cells c t3)) (w.heap.size+1) t2 b:=(sA w t1 t2 a b).alloc _
theorem FM:Blk (((w.alloc (.cells a t1)).alloc (.cells b t2)).alloc (.cells c t3)) (w.heap.size+2) t3 c:=by
 have h:=Blk.new ((w.alloc (.cells a t1)).alloc (.cells b t2)) t3 c
 rwa [show((w.alloc (.cells a t1)).alloc (.cells b t2)).heap.size=w.heap.size+2 from by simp]at h
end
end
section
open Go.ChangeShapes Go.WideShapes Go.ChangeAt Go.RowKit
open Go.ChangeMaps (open_string shut_string)
def vF (k:IntKind) (w:World) (A:Option Addr) (n c:Nat) (zs:List Int):Prop:=
 Reads w w.heap.size 1 A n (zs.map (Value.int k))∧n≤c∧c≤maxLen∧(A=none→c=0) ∧ ∀ z ∈ zs,(Lit.int k z).wf=true
section
variable {H:Type} {enc:TypeId×Value→H} {P:Program} {w:World} {base:Nat} {spare:Nat→Bool} {held:Bool}
theorem td {t e:TypeId} {k:IntKind} {A:Option Addr} {n c:Nat} {d:DataW H} {p:List MemPlace} (q:P.underlying t=some (.slice e)) (y:P.underlying e=some (.int k)) (hC:P.cellsOf e=1)
 (h:DataW.Trod enc P w 0 (fun _=>true) true t (.slice A n c) d p):∃ zs,vF k w A n c zs:=by
 obtain⟨fuel,r⟩:=h
 rcases open_ints q y hC r with⟨a,_⟩ | ⟨x,l,c',zs,a,_,s,m,g,_,hcell,f⟩
 ·simp[Value.cells]at a
  obtain⟨rfl,rfl,rfl⟩:=a
  exact⟨[],Reads.none_,Nat.le_refl _,Nat.zero_le _,fun _=>rfl,by simp⟩
 ·simp[Value.cells]at a
  obtain⟨rfl,rfl,rfl⟩:=a
  have o:zs.length=c:=by simpa using g
  refine⟨zs.take n,⟨by simp;omega,fun C=>⟨x,rfl,?_,fun j u i=>?_⟩⟩,s,m,fun h=>(by cases h),fun z g=>f z (List.mem_of_mem_take g)⟩
  ·have B:=World.block_lt_of_cell? w _ (hcell 0 (by omega))
   rwa [aF]at B
  ·simp only[List.getElem?_map,Option.map_eq_some_iff]at i
   obtain⟨z,b,rfl⟩:=i
   have v:j<n:=by
    rcases Nat.lt_or_ge j n with h | h
    ·exact h
    ·rw[List.getElem?_take,if_neg (by omega)]at b;cases b
   rw[List.getElem?_take,if_pos v]at b
   rw[hcell j (by omega),List.getD_eq_getElem?_getD,b];rfl
theorem iN {t:TypeId} {v:Value} {d:DataW H} {p:List MemPlace} (h:DataW.Trod enc P w base spare held t v d p):∀ x ∈ p,x.block<w.heap.size:=by
 obtain⟨m,a⟩:=h
 exact DataW.trod_lt m _ _ _ a
end
end
section
open Go.ChangeShapes Go.WideShapes Go.ChangeAt Go.RowKit Go.Lib
theorem FF:ownKnob Tryz.prog.godebug=none:=by kernel_rfl
theorem iR:laidOutB Tryz.prog=true:=by kernel_rfl
noncomputable def nq:Nat:=(World.settled Tryz.prog default).heap.size
def zE:ByteArray:=⟨#[118,97,108,117,101,32,111,117,116,32,111,102,32,114,97,110,103,101]⟩
def wR:ByteArray:=⟨#[105,110,118,97,108,105,100,32,115,121,110,116,97,120]⟩
def GJ:List Int:=[0,1,28,2,29,14,24,3,30,22,20,15,25,17,4,8,31,27,13,23,21,19,16,7,26,12,18,6,11,5,10,9]
def Gw:List Int:=[0,1,56,2,57,49,28,3,61,58,42,50,38,29,17,4,62,47,59,36,45,43,51,22,53,39,33,30,24,18,12,5,63,55,48,27,60,41,37,16,46,35,44,21,52,32,23,11,54,26,40,15,34,20,31,10,25,14,19,9,13,8,7,6]
def Fp:List Int:=(List.range 20).map fun i=>(10:Int)^i
def putCells (h:Array Obj) (g:Nat) (cs:Array Value):Array Obj:=h.modify g fun
 | .cells _ t frozen=>.cells cs t frozen
 | o=>o
noncomputable def ki (os:Os):World:=
 let w0:=World.holding Tryz.prog os ⟨#[.cells #[.string zE] 360,.cells #[.string wR] 360],#[],[]⟩
 let h1:=putCells w0.heap 2 (GJ.map fun z=>Value.int .u8 z).toArray
 let h2:=putCells h1 3 (Gw.map fun z=>Value.int .u8 z).toArray
 let h3:=putCells h2 0 (Fp.map fun z=>Value.int .u64 z).toArray
 let h4:=putCells h3 5 #[.iface 358 (.pointer (some ⟨nq,0,none⟩))]
 let h5:=putCells h4 4 #[.iface 358 (.pointer (some ⟨nq+1,0,none⟩))]
 { w0 with heap:=h5 }
theorem Ck (os:Os) (args:Array Value):LaidIn Tryz.prog ((ki os).forCall (fun _ _=>0) ⟨#[],args,[]⟩).memory [("math/bits.deBruijn32tab",Rows.laid_math_bits_deBruijn32tab),("math/bits.deBruijn64tab",Rows.laid_math_bits_deBruijn64tab),("internal/strconv.uint64pow10",Rows.laid_internal_strconv_uint64pow10)] [2,3,0]:=
 LaidIn.of_run [2,3,0] 8 (by kernel_rfl) (by kernel_rfl) (by kernel_rfl) (by kernel_rfl)
theorem AG (os:Os) (args:Array Value):LaidIn Tryz.prog ((ki os).forCall (fun _ _=>0) ⟨#[],args,[]⟩).memory [("strconv.ErrRange",Rows.laid_strconv_ErrRange),("strconv.ErrSyntax",Rows.laid_strconv_ErrSyntax)] [5,nq,4,nq+1]:=
 LaidIn.of_run [5,nq,4,nq+1] 8 (by kernel_rfl) (by kernel_rfl) (by kernel_rfl) (by kernel_rfl)
theorem AE (os:Os) (args:Array Value):laidMetH Tryz.prog Rows.topBytesRow.laid ((ki os).forCall (fun _ _=>0) ⟨#[],args,[]⟩).memory:=
 laidMetH_of_parts (((Ck os args).append (AG os args) (by kernel_rfl)).met) (by kernel_rfl)
end
section
theorem nB:∀ a:List UInt8,Op.bytesLess a a=false
 | []=>rfl
 | a::l=>by simp[Op.bytesLess,nB l]
theorem tc:∀ a b c:List UInt8,Op.bytesLess a b=true→Op.bytesLess b c=true→Op.bytesLess a c=true
 | _,_,[],_,d=>by cases ‹List UInt8› <;> simp[Op.bytesLess]at d
 | [],_,c::z,_,_=>by simp[Op.bytesLess]
 | a::x,[],c::z,e,_=>by simp[Op.bytesLess]at e
 | a::x,b::y,c::z,e,d=>by
   simp only[Op.bytesLess,Bool.or_eq_true,decide_eq_true_eq,Bool.and_eq_true,beq_iff_eq,UInt8.lt_iff_toNat_lt]at *
   rcases e with e | ⟨rfl,e⟩
   ·rcases d with d | ⟨rfl,d⟩
    ·exact .inl (by omega)
    ·exact .inl e
   ·rcases d with d | ⟨rfl,d⟩
    ·exact .inl d
    ·exact .inr ⟨rfl,tc x y z e d⟩
theorem qd:∀ a b:List UInt8,Op.bytesLess a b=false→Op.bytesLess b a=false→a=b
 | [],[],_,_=>rfl
 | [],b::y,h,_=>by simp[Op.bytesLess]at h
 | a::x,[],_,h=>by simp[Op.bytesLess]at h
 | a::x,b::y,h1,h2=>by
   simp only[Op.bytesLess,Bool.or_eq_false_iff,decide_eq_false_iff_not,Bool.and_eq_false_iff,beq_eq_false_iff_ne,UInt8.lt_iff_toNat_lt]at *
   have e:a=b:=UInt8.toNat_inj.1 (by omega)
   subst e
   rw[qd x y (by simpa using h1.2) (by simpa using h2.2)]
def ltB (a b:ByteArray):Bool:=Op.bytesLess a.toList b.toList
theorem pF {a b:ByteArray} (h:a.toList=b.toList):a=b:=by
 rw[ByteArray.toList_eq,ByteArray.toList_eq]at h
 cases a;cases b
 simpa using h
theorem pU (a:ByteArray):ltB a a=false:=nB _
theorem gF {a b c:ByteArray} (h:ltB a b=true) (k:ltB b c=true):ltB a c=true:=tc _ _ _ h k
theorem yV {a b:ByteArray} (h:ltB a b=false) (k:ltB b a=false):a=b:=pF (qd _ _ h k)
theorem yN {a b:ByteArray} (h:ltB a b=true):ltB b a=false:=by
 cases k:ltB b a with
 | false=>rfl
 | true=>have:=gF h k;rw[pU]at this;cases this
theorem iW {a b:ByteArray} (h:ltB a b=true):a≠b:=by rintro rfl;rw[pU]at h;cases h
section
variable {α:Type} (f:α→ByteArray)
def Srt (l:List α):Prop:=l.Pairwise (fun a b=>ltB (f a) (f b)=true)
def fO (c:α):List α→List α
 | [] => [c]
 | d::l=>if ltB (f d) (f c)=true then d::fO c l else c::d::l
variable {f}
theorem mN:∀ {l:List α} {c:α} {i:Nat},i≤l.length→(∀ (j:Nat) d,j<i→l[j]?=some d→ltB (f d) (f c)=true)→(∀ d,l[i]?=some d→ltB (f d) (f c)=false)→fO f c l=l.take i++c::l.drop i
 | [],c,i,hi,_,_=>by simp at hi;subst hi;rfl
 | d::l,c,0,_,_,h=>by
   unfold fO
   rw[h d rfl]
   rfl
 | d::l,c,i+1,hi,h1,h2=>by
   unfold fO
   rw[if_pos (h1 0 d (by omega) rfl),mN (i:=i) (by simpa using hi) (fun j e b a=>h1 (j+1) e (by omega) (by simpa using a)) (fun e a=>h2 e (by simpa using a))]
   rfl
theorem pe {l:List α} {c d:α}:d ∈ fO f c l ↔ d=c∨d ∈ l:=by
 induction l with
 | nil=>simp[fO]
 | cons e l ih=>
   unfold fO
   split
   ·rw[List.mem_cons,ih,List.mem_cons]
    exact⟨fun h=>h.elim (fun h=>.inr (.inl h)) (fun h=>h.elim .inl (fun h=>.inr (.inr h))),fun h=>h.elim (fun h=>.inr (.inl h)) (fun h=>h.elim .inl (fun h=>.inr (.inr h)))⟩
   ·rw[List.mem_cons]
theorem jL (l:List α) (c:α):(fO f c l).length=l.length+1:=by
 induction l with
 | nil=>rfl
 | cons e l ih=>
   unfold fO
   split
   ·simp[ih]
   ·simp
theorem vh {l:List α} {c:α} (h:Srt f l) (i:∀ d ∈ l,f d≠f c):Srt f (fO f c l):=by
 induction l with
 | nil=>exact List.pairwise_singleton _ _
 | cons e l ih=>
   have h':=List.pairwise_cons.1 h
   unfold fO
   split
   ·rename_i b
    refine List.pairwise_cons.2 ⟨fun d a=>?_,ih h'.2 (fun d a=>i d (List.mem_cons_of_mem _ a))⟩
    rcases pe.1 a with rfl | a
    ·exact b
    ·exact h'.1 d a
   ·rename_i b
    have g:ltB (f c) (f e)=true:=by
     cases k:ltB (f c) (f e) with
     | true=>rfl
     | false=>exact absurd (yV (by simpa using b) k) (i e (List.mem_cons_self ..))
    refine List.pairwise_cons.2 ⟨fun d a=>?_,h⟩
    rcases List.mem_cons.1 a with rfl | a
    ·exact g
    ·exact gF g (h'.1 d a)
theorem Srt.lt {l:List α} (h:Srt f l) {i j:Nat} {a b:α} (c:i<j) (e:l[i]?=some a) (g:l[j]?=some b):ltB (f a) (f b)=true:=by
 obtain⟨k,rfl⟩:=List.getElem?_eq_some_iff.1 e
 obtain⟨d,rfl⟩:=List.getElem?_eq_some_iff.1 g
 exact List.pairwise_iff_getElem.1 h i j k d c
theorem Srt.uniq {l:List α} (h:Srt f l) {i j:Nat} {a b:α} (d:l[i]?=some a) (g:l[j]?=some b) (e:f a=f b):i=j:=by
 rcases Nat.lt_trichotomy i j with c | c | c
 ·exact absurd e (iW (h.lt c d g))
 ·exact c
 ·exact absurd e.symm (iW (h.lt c g d))
theorem Srt.set {l:List α} (h:Srt f l) {i:Nat} {a b:α} (p:l[i]?=some a) (e:f b=f a):Srt f (l.set i b):=by
 refine List.pairwise_iff_getElem.2 (fun j k n o c=>?_)
 rw[List.length_set]at n o
 have m:=List.pairwise_iff_getElem.1 h j k n o c
 obtain⟨q,rfl⟩:=List.getElem?_eq_some_iff.1 p
 rw[List.getElem_set,List.getElem_set]
 split
 ·rename_i d
  subst d
  rw[if_neg (by omega),e]
  exact m
 ·split
  ·rename_i g
   subst g
   rw[e]
   exact m
  ·exact m
def fI (f:α→ByteArray) (l:List α) (nm:ByteArray):Nat:=l.findIdx (fun c=>decide (f c=nm))
theorem qR {l:List α} {nm:ByteArray} (h:l[fI f l nm]?=none):∀ d ∈ l,f d≠nm:=by
 intro d a e
 have b:=List.getElem?_eq_none_iff.1 h
 have:fI f l nm<l.length:=List.findIdx_lt_length_of_exists ⟨d,a,by simpa using e⟩
 omega
theorem oe {l:List α} {nm:ByteArray} {i:Nat} {c:α} (g:l[i]?=some c) (b:f c=nm) (h:∀ (j:Nat) d,j<i→l[j]?=some d→f d≠nm):fI f l nm=i:=by
 obtain⟨e,rfl⟩:=List.getElem?_eq_some_iff.1 g
 refine(List.findIdx_eq e).2 ⟨by simpa using b,fun j a=>?_⟩
 have:=h j _ a (List.getElem?_eq_getElem (by omega))
 simpa using this
theorem lY {l:List α} {nm:ByteArray} (h:∀ d ∈ l,f d≠nm):fI f l nm=l.length:=by
 unfold fI
 rw[List.findIdx_eq_length]
 intro d a
 simpa using h d a
end
end
section
open Go.RowKit
structure jf (X:List Nat) (w w':World):Prop where
 size:w.heap.size≤w'.heap.size
 block:∀ b,b<w.heap.size→b ∉ X→w'.heap[b]?=w.heap[b]?
def XOk (X:List Nat) (w:World):Prop := ∀ b ∈ X,b<w.heap.size
section
variable {X X':List Nat} {w w' w'':World}
theorem jf.of_below (h:Below w.heap.size w w'):jf X w w':=⟨h.size,fun b a _=>h.block b a⟩
theorem jf.cell (h:jf X w w') {p:Addr} (a:p.block<w.heap.size) (b:p.block ∉ X):w'.cell? p=w.cell? p:=World.cell?_of_block (h.block _ a b)
end
structure Sh (α:Type) where
 size:Nat
 rep:World→List Nat→List Value→α→Prop
 len:∀ {w X vs a},rep w X vs a→vs.length=size
 one:∀ {w X vs a},rep w X vs a → ∀ u ∈ vs,u.oneCell'=true
 keep:∀ {w w' X vs a},rep w X vs a→jf X w w'→rep w' X vs a
 more:∀ {w X X' vs a},rep w X vs a→(∀ b,b<w.heap.size→b ∈ X'→b ∈ X)→rep w X' vs a
def aC {α:Type} (s:Sh α) (w:World) (X:List Nat):List Value→List α→Prop
 | vs,[]=>vs = []
 | vs,x::xs => ∃ r rest,vs=r++rest∧s.rep w X r x∧aC s w X rest xs
section
variable {α:Type} {s:Sh α} {w w':World} {X X':List Nat}
theorem aC.length:∀ {xs:List α} {vs:List Value},aC s w X vs xs→vs.length=xs.length*s.size
 | [],vs,h=>by simp[show vs = [] from h]
 | x::xs,vs,⟨r,rest,e,hr,h⟩=>by rw[e,List.length_append,s.len hr,aC.length h,List.length_cons,Nat.succ_mul,Nat.add_comm]
theorem aC.one_:∀ {xs:List α} {vs:List Value},aC s w X vs xs → ∀ u ∈ vs,u.oneCell'=true
 | [],vs,h,u,hu=>by rw[show vs = [] from h]at hu;cases hu
 | x::xs,vs,⟨r,rest,e,hr,h⟩,u,hu=>by
   rw[e,List.mem_append]at hu
   exact hu.elim (s.one hr u) (aC.one_ h u)
theorem aC.keep:∀ {xs:List α} {vs:List Value},aC s w X vs xs→jf X w w'→aC s w' X vs xs
 | [],vs,h,_=>h
 | x::xs,vs,⟨r,rest,e,hr,h⟩,k=>⟨r,rest,e,s.keep hr k,aC.keep h k⟩
theorem aC.more:∀ {xs:List α} {vs:List Value},aC s w X vs xs→(∀ b,b<w.heap.size→b ∈ X'→b ∈ X)→aC s w X' vs xs
 | [],vs,h,_=>h
 | x::xs,vs,⟨r,rest,e,hr,h⟩,k=>⟨r,rest,e,s.more hr k,aC.more h k⟩
theorem aC.append:∀ {xs ys:List α} {vs us:List Value},aC s w X vs xs→aC s w X us ys→aC s w X (vs++us) (xs++ys)
 | [],ys,vs,us,h,k=>by rw[show vs = [] from h];exact k
 | x::xs,ys,vs,us,⟨r,rest,e,hr,h⟩,k=>⟨r,rest++us,by rw[e,List.append_assoc],hr,aC.append h k⟩
theorem aC.single {vs:List Value} {x:α} (h:s.rep w X vs x):aC s w X vs [x]:=⟨vs,[],by simp,h,rfl⟩
theorem aC.get:∀ {xs:List α} {vs:List Value},aC s w X vs xs → ∀ {i:Nat} {x:α},xs[i]?=some x → ∃ r,s.rep w X r x ∧ ∀ (j:Nat) u,r[j]?=some u→vs[i*s.size+j]?=some u
 | [],vs,h,i,x,hx=>by simp at hx
 | y::xs,vs,⟨r,rest,e,hr,h⟩,0,x,hx=>by
   simp at hx;subst hx
   refine⟨r,hr,fun j u a=>?_⟩
   rw[e,Nat.zero_mul,Nat.zero_add,List.getElem?_append_left (List.getElem?_eq_some_iff.1 a).1]
   exact a
 | y::xs,vs,⟨r,rest,e,hr,h⟩,i+1,x,hx=>by
   obtain⟨r',c,d⟩:=aC.get h (i:=i) (x:=x) (by simpa using hx)
   refine⟨r',c,fun j u a=>?_⟩
   have b:=s.len hr
   rw[e,List.getElem?_append_right (by rw[b,Nat.succ_mul];omega),show(i+1)*s.size+j-r.length=i*s.size+j from by rw[b,Nat.succ_mul];omega]
   exact d j u a
theorem aC.take:∀ {xs:List α} {vs:List Value},aC s w X vs xs → ∀ k,aC s w X (vs.take (k*s.size)) (xs.take k)
 | [],vs,h,k=>by rw[show vs = [] from h];simp[aC]
 | x::xs,vs,h,0=>by simp[aC]
 | x::xs,vs,⟨r,rest,e,hr,h⟩,k+1=>by
   refine⟨r,rest.take (k*s.size),?_,hr,aC.take h k⟩
   have a:=s.len hr
   rw[e,Nat.succ_mul,Nat.add_comm,List.take_append,a,show s.size+k*s.size-s.size=k*s.size from by omega,List.take_of_length_le (by omega)]
theorem aC.drop:∀ {xs:List α} {vs:List Value},aC s w X vs xs → ∀ k,aC s w X (vs.drop (k*s.size)) (xs.drop k)
 | [],vs,h,k=>by rw[show vs = [] from h];simp[aC]
 | x::xs,vs,h,0=>by simpa using h
 | x::xs,vs,⟨r,rest,e,hr,h⟩,k+1=>by
   have a:=s.len hr
   rw[e,Nat.succ_mul,Nat.add_comm,List.drop_append,a,show s.size+k*s.size-s.size=k*s.size from by omega,List.drop_of_length_le (by omega)]
   simpa using aC.drop h k
end
def Sl {α:Type} (s:Sh α) (w:World) (X:List Nat) (A:Option Addr) (n c:Nat) (xs:List α):Prop:=
 n=xs.length∧n≤c∧c≤maxLen∧(A=none→c=0) ∧ ∃ vs,Reads w w.heap.size s.size A n vs∧(0<n → ∀ ad,A=some ad→ad.block ∉ X)∧aC s w X vs xs
section
variable {α:Type} {s:Sh α} {w w':World} {X X':List Nat} {A:Option Addr} {n c:Nat} {xs:List α}
theorem Sl.len (h:Sl s w X A n c xs):n=xs.length:=h.1
theorem Sl.le (h:Sl s w X A n c xs):n≤c:=h.2.1
theorem Sl.max (h:Sl s w X A n c xs):c≤maxLen:=h.2.2.1
theorem Sl.none_ (h:Sl s w X A n c xs):A=none→c=0:=h.2.2.2.1
theorem Sl.reads (h:Sl s w X A n c xs):∃ vs,Reads w w.heap.size s.size A n vs∧(0<n → ∀ ad,A=some ad→ad.block ∉ X)∧aC s w X vs xs:=h.2.2.2.2
theorem Sl.nil_:Sl s w X none 0 0 []:=⟨rfl,Nat.le_refl _,Nat.zero_le _,fun _=>rfl,[],⟨by simp,fun h=>absurd h (by omega)⟩,fun h=>absurd h (by omega),rfl⟩
theorem Sl.keep (h:Sl s w X A n c xs) (k:jf X w w'):Sl s w' X A n c xs:=by
 obtain⟨i,l,g,o,vs,d,b,m⟩:=h
 refine⟨i,l,g,o,vs,⟨d.1,fun f=>?_⟩,b,m.keep k⟩
 obtain⟨ad,e,a,p⟩:=d.2 f
 exact⟨ad,e,Nat.lt_of_lt_of_le a k.size,fun j u q=>(k.cell (by rw[aF];exact a) (by rw[aF];exact b f ad e)).trans (p j u q)⟩
theorem Sl.more (h:Sl s w X A n c xs) (k:∀ b,b<w.heap.size→b ∈ X'→b ∈ X):Sl s w X' A n c xs:=by
 obtain⟨j,l,i,o,vs,f,q,m⟩:=h
 refine⟨j,l,i,o,vs,f,fun g ad e d=>?_,m.more k⟩
 obtain⟨a,e',p,_⟩:=f.2 g
 have:a=ad:=by rw[e]at e';injection e' with e';exact e'.symm
 subst this
 exact q g a e (k _ p d)
theorem Sl.at_ (h:Sl s w X A n c xs) {i:Nat} {x:α} (a:xs[i]?=some x):∃ ad r,A=some ad∧ad.block<w.heap.size∧ad.block ∉ X∧s.rep w X r x ∧ ∀ (j:Nat) u,r[j]?=some u→w.cell? (ad.add (i*s.size+j))=some u:=by
 obtain⟨p,_,_,_,vs,k,m,g⟩:=h
 have q:=(List.getElem?_eq_some_iff.1 a).1
 obtain⟨ad,e,b,f⟩:=k.2 (by omega)
 obtain⟨r,l,d⟩:=g.get a
 exact⟨ad,r,e,b,m (by omega) ad e,l,fun j u o=>f _ u (d j u o)⟩
theorem Sl.pre (h:Sl s w X A n c xs) {k:Nat} (f:k≤n):Sl s w X A k c (xs.take k):=by
 obtain⟨q,r,g,m,vs,b,p,l⟩:=h
 refine⟨by simp;omega,by omega,g,m,vs.take (k*s.size),⟨?_,fun o=>?_⟩,fun o=>p (by omega),l.take k⟩
 ·rw[List.length_take,b.1];exact Nat.min_eq_left (Nat.mul_le_mul_right _ f)
 ·obtain⟨ad,e,d,i⟩:=b.2 (by omega)
  refine⟨ad,e,d,fun j u a=>i j u ?_⟩
  rw[List.getElem?_take]at a
  split at a
  ·exact a
  ·cases a
theorem Sl.suf (h:Sl s w X A n c xs) {k:Nat} (f:k≤n):Sl s w X (if c=k then A else A.map (·.add (k*s.size))) (n-k) (c-k) (xs.drop k):=by
 obtain⟨m,a,l,d,vs,j,g,b⟩:=h
 refine⟨by simp;omega,by omega,by omega,fun e=>?_,vs.drop (k*s.size),j.cut f a,fun o ad e=>?_,b.drop k⟩
 ·by_cases i:c=k
  ·omega
  ·rw[if_neg i]at e
   cases A with
   | none=>have:=d rfl;omega
   | some ad=>cases e
 ·rw[if_neg (by omega)]at e
  cases A with
  | none=>cases e
  | some ad'=>
    injection e with e
    subst e
    rw[aF]
    exact g (by omega) ad' rfl
theorem Sl.of_own {base:Nat} {e:TypeId} {v:Value} {vs:List Value} (h:w.ownsRow base e s.size v n vs) (p:∀ b ∈ X,v.ownBlock≠some b) (i:aC s w X vs xs) (l:0<s.size):∃ A c,v = .slice A n c∧Sl s w X A n c xs:=by
 have j:n=xs.length:=by
  have a:=i.length
  rw[h.1]at a
  exact Nat.eq_of_mul_eq_mul_right l a
 rcases h with⟨a,⟨rfl,rfl⟩ | ⟨g,cap,cur,rfl,m,o,f,k,q⟩⟩
 ·have:xs = []:=List.eq_nil_of_length_eq_zero j.symm
  subst this
  exact⟨none,0,rfl,Sl.nil_⟩
 ·refine⟨_,cap,rfl,j,f,k,fun h=>(by cases h),vs,Reads.of_own (c:=cap) (base:=base) (e:=e) ⟨a,.inr ⟨g,cap,cur,rfl,m,o,f,k,q⟩⟩,fun _ ad e d=>?_,i⟩
  injection e with e
  subst e
  exact p _ d rfl
end
def uS {α:Type} (s:Sh α):Sh (List α) where
 size:=1
 rep w X vs xs := ∃ A n c,vs = [.slice A n c]∧Sl s w X A n c xs
 len:=by rintro w X vs a ⟨A,n,c,rfl,_⟩;rfl
 one:=by rintro w X vs a ⟨A,n,c,rfl,_⟩ u hu;rw[List.mem_singleton]at hu;subst hu;rfl
 keep:=by rintro w w' X vs a ⟨A,n,c,rfl,h⟩ k;exact⟨A,n,c,rfl,h.keep k⟩
 more:=by rintro w X X' vs a ⟨A,n,c,rfl,h⟩ k;exact⟨A,n,c,rfl,h.more k⟩
def jb {α:Type} (n:Nat) (f:α→List Value) (ok:α→Prop) (hl:∀ a,(f a).length=n) (h1:∀ a,∀ u ∈ f a,u.oneCell'=true):Sh α where
 size:=n
 rep w X vs a:=vs=f a∧ok a
 len:=by rintro w X vs a ⟨rfl,_⟩;exact hl a
 one:=by rintro w X vs a ⟨rfl,_⟩;exact h1 a
 keep:=by rintro w w' X vs a h k;exact h
 more:=by rintro w X X' vs a h k;exact h
def dx:Sh ByteArray:=jb 1 (fun s => [.string s]) (fun s=>s.size≤maxLen) (fun _=>rfl) (by intro a u hu;rw[List.mem_singleton]at hu;subst hu;rfl)
def ak:Sh UInt8:=jb 1 (fun b => [.int .u8 (b.toNat:Int)]) (fun _=>True) (fun _=>rfl) (by intro a u hu;rw[List.mem_singleton]at hu;subst hu;rfl)
theorem aO {α:Type} {n:Nat} {f:α→List Value} {ok:α→Prop} {hl h1} {w:World} {X:List Nat}:∀ {xs:List α} {vs:List Value},aC (jb n f ok hl h1) w X vs xs ↔ vs=xs.flatMap f ∧ ∀ x ∈ xs,ok x
 | [],vs=>by simp[aC]
 | x::xs,vs=>by
   constructor
   ·rintro⟨r,rest,rfl,⟨rfl,b⟩,h⟩
    obtain⟨rfl,a⟩:=aO.1 h
    refine⟨by simp,fun y hy=>?_⟩
    rcases List.mem_cons.1 hy with rfl | hy
    ·exact b
    ·exact a y hy
   ·rintro⟨rfl,h⟩
    exact⟨f x,xs.flatMap f,by simp,⟨rfl,h x (by simp)⟩,aO.2 ⟨rfl,fun y hy=>h y (by simp[hy])⟩⟩
structure Fact where
 p:World→List Nat→Prop
 keep:∀ {w w' X},p w X→jf X w w'→p w' X
 more:∀ {w X X'},p w X→(∀ b,b<w.heap.size→b ∈ X'→b ∈ X)→p w X'
def Sh.fact {α:Type} (s:Sh α) (vs:List Value) (a:α):Fact:=⟨fun w X=>s.rep w X vs a,fun h k=>s.keep h k,fun h k=>s.more h k⟩
def Sl.fact {α:Type} (s:Sh α) (A:Option Addr) (n c:Nat) (xs:List α):Fact:=⟨fun w X=>Sl s w X A n c xs,fun h k=>h.keep k,fun h k=>h.more k⟩
inductive Itm where
 | box (g:Nat) (t:TypeId) (cs:Array Value)
 | row (e:TypeId) (size:Nat) (v:Value) (n:Nat) (xs:List Value)
def Itm.blk:Itm→Option Nat
 | .box g _ _=>some g
 | .row _ _ v _ _=>v.ownBlock
def Itm.ok (W:World):Itm→Prop
 | .box g t cs=>Blk W g t cs
 | .row e size v n xs=>W.ownsRow 0 e size v n xs
def Exs (L:List Itm):List Nat:=L.filterMap Itm.blk
structure aq (w0:World) (M:List Nat) (X0:List Nat) (W:World) (L:List Itm) (F:List Fact):Prop where
 same:W.os=w0.os∧W.tape=w0.tape∧W.output=w0.output
 size:w0.heap.size≤W.heap.size
 block:∀ b,b<w0.heap.size→b ∉ M→W.heap[b]?=w0.heap[b]?
 given:∀ g ∈ M,g ∈ X0
 xok:XOk X0 w0
 ents:∀ x ∈ L,x.ok W ∧ ∀ g,x.blk=some g→(w0.heap.size≤g∨g ∈ M)∧g<W.heap.size
 apart:L.Pairwise (fun x y => ∀ g,x.blk=some g→y.blk≠some g)
 facts:∀ f ∈ F,f.p W (Exs L++X0)
section
variable {w0 W W':World} {M X0:List Nat} {L:List Itm} {F:List Fact}
theorem sD {base:Nat} {e:TypeId} {size n:Nat} {v:Value} {xs:List Value} (h:W.ownsRow base e size v n xs):∀ g,v.ownBlock=some g→base≤g∧g<W.heap.size:=by
 intro g a
 rcases h.2 with⟨rfl,_⟩ | ⟨g',cap,cur,rfl,b,hh,_⟩
 ·simp[Value.ownBlock]at a
 ·have e:g'=g:=by simpa [Value.ownBlock] using a
  subst e
  exact⟨b,Blk.lt hh⟩
theorem qI {base:Nat} {e:TypeId} {size n:Nat} {v:Value} {xs:List Value} (h:W.ownsRow base e size v n xs) (f:∀ g,v.ownBlock=some g→W'.heap[g]?=W.heap[g]?):W'.ownsRow base e size v n xs:=by
 rcases h with⟨b,a | ⟨g,cap,cur,a,c,d,i⟩⟩
 ·exact⟨b,.inl a⟩
 ·subst a
  exact⟨b,.inr ⟨g,cap,cur,rfl,c,(f g rfl).trans d,i⟩⟩
theorem Itm.frame {x:Itm} (h:x.ok W) (a:∀ g,x.blk=some g→W'.heap[g]?=W.heap[g]?):x.ok W':=by
 cases x with
 | box g t cs=>exact(a g rfl).trans h
 | row e size v n xs=>exact qI h a
theorem aq.start (w:World) {X:List Nat} (hX:XOk X w):aq w [] X w [] []:=⟨⟨rfl,rfl,rfl⟩,Nat.le_refl _,fun _ _ _=>rfl,by simp,hX,by simp,List.Pairwise.nil,by simp⟩
theorem aq.below (h:aq w0 [] X0 W L F):Below w0.heap.size w0 W:=⟨h.same.1,h.same.2.1,h.same.2.2,h.size,fun b a=>h.block b a (by simp)⟩
theorem aq.belowB (h:aq w0 M X0 W L F) {B:Nat} (hB:B≤w0.heap.size) (d:∀ g ∈ M,B≤g):Below B w0 W:=⟨h.same.1,h.same.2.1,h.same.2.2,h.size,fun b c=>h.block b (Nat.lt_of_lt_of_le c hB) (fun a=>by have:=d b a;omega)⟩
theorem bh {g:Nat}:g ∈ Exs L ↔ ∃ x ∈ L,x.blk=some g:=by simp[Exs]
theorem aq.xok' (h:aq w0 M X0 W L F):XOk (Exs L++X0) W:=by
 intro b a
 rcases List.mem_append.1 a with a | a
 ·obtain⟨x,c,e⟩:=bh.1 a
  exact((h.ents x c).2 b e).2
 ·exact Nat.lt_of_lt_of_le (h.xok b a) h.size
theorem aq.on (h:aq w0 M X0 W L F) (a:Below W.heap.size W W'):aq w0 M X0 W' L F:=
 ⟨⟨a.os.trans h.same.1,a.tape.trans h.same.2.1,a.output.trans h.same.2.2⟩,Nat.le_trans h.size a.size,fun b d i=>(a.block b (Nat.lt_of_lt_of_le d h.size)).trans (h.block b d i),h.given,h.xok,fun x c=>⟨Itm.frame (h.ents x c).1 (fun g e=>a.block g ((h.ents x c).2 g e).2),fun g e=>⟨((h.ents x c).2 g e).1,Nat.lt_of_lt_of_le ((h.ents x c).2 g e).2 a.size⟩⟩,h.apart,fun f j=>f.keep (h.facts f j) (jf.of_below a)⟩
theorem aq.drew (h:aq w0 M X0 W L F):aq w0 M X0 W.drew L F:=h.on (Below.refl _ _).drew
theorem aq.drewN (h:aq w0 M X0 W L F) (n:Nat):aq w0 M X0 (W.drewN n) L F:=h.on (below_drewN (Below.refl _ _) n)
theorem aq.know (h:aq w0 M X0 W L F) (f:Fact) (b:f.p W (Exs L++X0)):aq w0 M X0 W L (f::F):=
 ⟨h.same,h.size,h.block,h.given,h.xok,h.ents,h.apart,fun g a=>by
  rcases List.mem_cons.1 a with rfl | a
  ·exact b
  ·exact h.facts g a⟩
theorem aq.fact (h:aq w0 M X0 W L F) (i:Nat) {f:Fact} (a:F[i]?=some f):f.p W (Exs L++X0):=h.facts f (List.mem_of_getElem? a)
theorem aq.forget (h:aq w0 M X0 W L F) {F':List Fact} (a:F'.Sublist F):aq w0 M X0 W L F':=⟨h.same,h.size,h.block,h.given,h.xok,h.ents,h.apart,fun f b=>h.facts f (a.subset b)⟩
theorem aq.know0 (h:aq w0 M X0 W L F) (f:Fact) (k:f.p w0 X0):aq w0 M X0 W L (f::F):=by
 refine h.know f ?_
 have i:f.p w0 (Exs L++X0):=f.more k (fun b d a=>by
  rcases List.mem_append.1 a with a | a
  ·obtain⟨x,j,e⟩:=bh.1 a
   rcases((h.ents x j).2 b e).1 with g | g
   ·omega
   ·exact h.given b g
  ·exact a)
 exact f.keep i ⟨h.size,fun b d c=>h.block b d (fun a=>c (List.mem_append_right _ (h.given b a)))⟩
theorem aq.back (h:aq w0 M X0 W L F) {f:Fact} (b:f.p W (Exs L++X0)):f.p W X0:=f.more b (fun _ _ a=>List.mem_append_right _ a)
theorem aq.back' (h:aq w0 M X0 W L F) (i:Nat) {f:Fact} (a:F[i]?=some f):f.p W X0:=h.back (h.fact i a)
theorem aq.drop (h:aq w0 M X0 W L F) {L':List Itm} (c:L'.Sublist L):aq w0 M X0 W L' F:=
 ⟨h.same,h.size,h.block,h.given,h.xok,fun x d=>h.ents x (c.subset d),h.apart.sublist c,fun f e=>f.more (h.facts f e) (fun b _ a=>by
  rcases List.mem_append.1 a with a | a
  ·exact List.mem_append_left _ ((c.filterMap _).subset a)
  ·exact List.mem_append_right _ a)⟩
theorem aq.ent (h:aq w0 M X0 W L F) (i:Nat) {x:Itm} (a:L[i]?=some x):x.ok W:=(h.ents x (List.mem_of_getElem? a)).1
theorem aq.blk (h:aq w0 M X0 W L F) (i:Nat) {g:Nat} {t:TypeId} {cs:Array Value} (a:L[i]?=some (.box g t cs)):Blk W g t cs:=h.ent i a
theorem aq.cell (h:aq w0 M X0 W L F) (i:Nat) {g:Nat} {t:TypeId} {cs:Array Value} (a:L[i]?=some (.box g t cs)) (j:Nat):W.cell? ⟨g,j,none⟩=cs[j]?:=(h.blk i a).cell j
theorem aq.frozen (h:aq w0 M X0 W L F) (i:Nat) {g:Nat} {t:TypeId} {cs:Array Value} (a:L[i]?=some (.box g t cs)) (j:Nat):W.frozen? ⟨g,j,none⟩=false:=(h.blk i a).frozen j
theorem aq.lt (h:aq w0 M X0 W L F) (i:Nat) {g:Nat} {t:TypeId} {cs:Array Value} (a:L[i]?=some (.box g t cs)):g<W.heap.size:=(h.blk i a).lt
theorem aq.add (h:aq w0 M X0 W L F) (d:Below W.heap.size W W') (x:Itm) (j:x.ok W') (c:∀ g,x.blk=some g→W.heap.size≤g∧g<W'.heap.size):aq w0 M X0 W' (x::L) F:=by
 have h':=h.on d
 refine⟨h'.same,h'.size,h'.block,h.given,h.xok,fun y hy=>?_,List.Pairwise.cons (fun y hy g e e'=>?_) h.apart,fun f i=>f.keep (f.more (h.facts f i) (fun b k a=>?_)) (jf.of_below d)⟩
 ·rcases List.mem_cons.1 hy with rfl | hy
  ·exact⟨j,fun g e=>⟨.inl (Nat.le_trans h.size (c g e).1),(c g e).2⟩⟩
  ·exact h'.ents y hy
 ·have l:=(c g e).1
  have m:=((h.ents y hy).2 g e').2
  omega
 ·rcases List.mem_append.1 a with a | a
  ·obtain⟨y,hy,e⟩:=bh.1 a
   rcases List.mem_cons.1 hy with rfl | hy
   ·have:=(c b e).1;omega
   ·exact List.mem_append_left _ (bh.2 ⟨y,hy,e⟩)
  ·exact List.mem_append_right _ a
theorem aq.alloc (h:aq w0 M X0 W L F) (t:TypeId) (cs:Array Value):aq w0 M X0 (W.alloc (.cells cs t)) (.box W.heap.size t cs::L) F:=
 h.add ((Below.refl _ _).alloc (Nat.le_refl _) _) _ (Blk.new W t cs) (fun g e=>by injection e with e;subst e;simp)
theorem aq.alloc_at (h:aq w0 M X0 W L F) (t:TypeId) (cs:Array Value) (g:Nat) (a:W.heap.size=g):aq w0 M X0 (W.alloc (.cells cs t)) (.box g t cs::L) F:=a ▸ h.alloc t cs
theorem aq.alloc_off (h:aq w0 M X0 W L F) (o:Obj):aq w0 M X0 (W.alloc o) L F:=h.on ((Below.refl _ _).alloc (Nat.le_refl _) _)
theorem aq.turn (h:aq w0 M X0 W L F) (i:Nat) {x x':Itm} (u:L[i]?=some x) (C:W.heap.size≤W'.heap.size) (J:W'.os=W.os∧W'.tape=W.tape∧W'.output=W.output) (D:∀ b,b<W.heap.size→x.blk≠some b→W'.heap[b]?=W.heap[b]?) (U:x'.ok W') (E:∀ g,x'.blk=some g→(x.blk=some g∨W.heap.size≤g)∧g<W'.heap.size):aq w0 M X0 W' (L.set i x') F:=by
 have hmem:∀ y ∈ L.set i x',(y=x' ∨ ∃ j,j≠i∧L[j]?=some y):=by
  intro y hy
  obtain⟨j,c⟩:=List.mem_iff_getElem?.1 hy
  rw[List.getElem?_set]at c
  by_cases q:i=j
  ·subst q
   rw[if_pos rfl]at c
   split at c
   ·injection c with c;exact .inl c.symm
   ·cases c
  ·rw[if_neg q]at c
   exact .inr ⟨j,fun e=>q e.symm,c⟩
 have B:∀ j y,j≠i→L[j]?=some y → ∀ g,y.blk=some g→x.blk≠some g:=by
  intro j y c hy g e e'
  obtain⟨v,z⟩:=List.getElem?_eq_some_iff.1 u
  obtain⟨w,t⟩:=List.getElem?_eq_some_iff.1 hy
  rcases Nat.lt_or_ge i j with O | S
  ·exact List.pairwise_iff_getElem.1 h.apart i j v w O g (z ▸ e') (t ▸ e)
  ·exact List.pairwise_iff_getElem.1 h.apart j i w v (by omega) g (t ▸ e) (z ▸ e')
 have A:=h.ents x (List.mem_of_getElem? u)
 refine⟨⟨J.1.trans h.same.1,J.2.1.trans h.same.2.1,J.2.2.trans h.same.2.2⟩,Nat.le_trans h.size C,fun k r a=>?_,h.given,h.xok,fun y hy=>?_,?_,fun f R=>?_⟩
 ·rw[D k (Nat.lt_of_lt_of_le r h.size) (fun e=>by
   rcases(A.2 k e).1 with d | d
   ·omega
   ·exact a d)]
  exact h.block k r a
 ·rcases hmem y hy with rfl | ⟨j,c,hy⟩
  ·refine⟨U,fun g e=>⟨?_,(E g e).2⟩⟩
   rcases(E g e).1 with d | d
   ·exact(A.2 g d).1
   ·exact .inl (Nat.le_trans h.size d)
  ·have n:=h.ents y (List.mem_of_getElem? hy)
   exact⟨Itm.frame n.1 (fun g e=>D g (n.2 g e).2 (B j y c hy g e)),fun g e=>⟨(n.2 g e).1,Nat.lt_of_lt_of_le (n.2 g e).2 C⟩⟩
 ·rw[List.pairwise_iff_getElem]
  intro j k c r K g
  simp only[List.length_set]at c r
  have key:∀ m y,m≠i→L[m]?=some y → ∀ g,x'.blk=some g→y.blk≠some g:=by
   intro m y a hy g e e'
   rcases(E g e).1 with d | d
   ·exact B m y a hy g e' d
   ·have:=((h.ents y (List.mem_of_getElem? hy)).2 g e').2;omega
  have I:=List.getElem?_eq_getElem c
  have G:=List.getElem?_eq_getElem r
  rw[List.getElem_set,List.getElem_set]
  by_cases d:i=j
  ·subst d
   rw[if_pos rfl,if_neg (by omega)]
   exact key k _ (by omega) G g
  ·rw[if_neg d]
   by_cases Q:i=k
   ·subst Q
    rw[if_pos rfl]
    exact fun e e'=>key j _ (by omega) I g e' e
   ·rw[if_neg Q]
    exact List.pairwise_iff_getElem.1 h.apart j k c r K g
 ·have s:=h.facts f R
  have T:f.p W' (Exs L++X0):=f.keep s ⟨C,fun b l o=>D b l (fun e=>o (List.mem_append_left _ (bh.2 ⟨x,List.mem_of_getElem? u,e⟩)))⟩
  have P:f.p W (Exs (L.set i x')++X0)∨True := .inr trivial
  clear P
  have N:f.p W (Exs (L.set i x')++Exs L++X0):=f.more s (fun b l a=>by
   rcases List.mem_append.1 a with a | a
   ·rcases List.mem_append.1 a with a | a
    ·obtain⟨y,hy,e⟩:=bh.1 a
     rcases hmem y hy with rfl | ⟨j,_,hy⟩
     ·rcases(E b e).1 with d | d
      ·exact List.mem_append_left _ (bh.2 ⟨x,List.mem_of_getElem? u,d⟩)
      ·omega
     ·exact List.mem_append_left _ (bh.2 ⟨y,List.mem_of_getElem? hy,e⟩)
    ·exact List.mem_append_left _ a
   ·exact List.mem_append_right _ a)
  have H:f.p W' (Exs (L.set i x')++Exs L++X0):=f.keep N ⟨C,fun b l o=>D b l (fun e=>o (List.mem_append_left _ (List.mem_append_right _ (bh.2 ⟨x,List.mem_of_getElem? u,e⟩))))⟩
  exact f.more H (fun b _ a=>by
   rcases List.mem_append.1 a with a | a
   ·exact List.mem_append_left _ (List.mem_append_left _ a)
   ·exact List.mem_append_right _ a)
theorem aq.set_ (h:aq w0 M X0 W L F) (i:Nat) {g:Nat} {t:TypeId} {cs:Array Value} (c:L[i]?=some (.box g t cs)) (o:Nat) (u:Value):aq w0 M X0 (W.setCell ⟨g,o,none⟩ u) (L.set i (.box g t (cs.setIfInBounds o u))) F:=
 h.turn i c (by simp[World.setCell]) ⟨rfl,rfl,rfl⟩ (fun b _ a=>Below.heap_setCell W _ u b (fun e=>a (by rw[e];rfl))) ((h.blk i c).set_ o u) (fun g' e=>⟨.inl e,by injection e with e;subst e;have:=h.lt i c;simpa [World.setCell] using this⟩)
theorem aq.appended (h:aq w0 M X0 W L F) (i:Nat) {e:TypeId} {size n n':Nat} {v v':Value} {xs xs':List Value} {base:Nat} (k:L[i]?=some (.row e size v n xs)) (hown:W'.ownsRow base e size v' n' xs') (a:W.grownBy W' v.ownBlock) (d:v'.ownBlock=v.ownBlock∨v'.ownBlock=some W.heap.size):aq w0 M X0 W' (L.set i (.row e size v' n' xs')) F:=
 h.turn i k a.size ⟨a.os,a.tape,a.output⟩ (fun b j f=>a.block b j (fun e=>f e.symm)) (dN hown (Nat.zero_le _)) (fun g e=>⟨by
  rcases d with c | c
  ·exact .inl (c.symm.trans e)
  ·rw[show v'.ownBlock=some g from e]at c;injection c with c;exact .inr (by omega),(sD hown g e).2⟩)
theorem aq.row (h:aq w0 M X0 W L F) (i:Nat) {e:TypeId} {size n:Nat} {v:Value} {xs:List Value} (a:L[i]?=some (.row e size v n xs)):W.ownsRow 0 e size v n xs:=h.ent i a
theorem aq.new_row (h:aq w0 M X0 W L F) (b:Below W.heap.size W W') {e:TypeId} {size n:Nat} {v:Value} {xs:List Value} (a:W'.ownsRow W.heap.size e size v n xs):aq w0 M X0 W' (.row e size v n xs::L) F:=
 h.add b _ (dN a (Nat.zero_le _)) (fun g e=>sD a g e)
theorem aq.nil_row (h:aq w0 M X0 W L F) (e:TypeId) (size:Nat):aq w0 M X0 W (.row e size (.slice none 0 0) 0 []::L) F:=
 h.add (Below.refl _ _) _ ⟨by simp,.inl ⟨rfl,rfl⟩⟩ (fun g e=>by cases e)
theorem aq.done_row {α:Type} {s:Sh α} (h:aq w0 M X0 W L F) (i:Nat) {e:TypeId} {n:Nat} {v:Value} {vs:List Value} {xs:List α} (m:L[i]?=some (.row e s.size v n vs)) (x:aC s W (Exs L++X0) vs xs) (t:0<s.size) (u:∀ g,v.ownBlock=some g→g ∉ M):
 ∃ A c,v = .slice A n c∧aq w0 M X0 W (L.eraseIdx i) (Sl.fact s A n c xs::F):=by
 have h':=h.drop (List.eraseIdx_sublist L i)
 have o:aC s W (Exs (L.eraseIdx i)++X0) vs xs:=x.more (fun b _ k=>by
  rcases List.mem_append.1 k with k | k
  ·exact List.mem_append_left _ (((List.eraseIdx_sublist L i).filterMap _).subset k)
  ·exact List.mem_append_right _ k)
 have hown:=h.ent i m
 have p:=(h.ents _ (List.mem_of_getElem? m)).2
 obtain⟨A,c,w,z⟩:=Sl.of_own hown (X:=Exs (L.eraseIdx i)++X0) (fun b d e=>by
  rcases List.mem_append.1 d with d | d
  ·obtain⟨y,hy,e'⟩:=bh.1 d
   obtain⟨j,q,a⟩:=List.mem_iff_getElem.1 hy
   obtain⟨f,l⟩:=List.getElem?_eq_some_iff.1 m
   rw[List.getElem_eraseIdx]at a
   rw[List.length_eraseIdx]at q
   split at a
   ·exact List.pairwise_iff_getElem.1 h.apart j i (by omega) f (by omega) b (a ▸ e') (l ▸ e)
   ·exact List.pairwise_iff_getElem.1 h.apart i (j+1) f (by split at q<;>omega) (by omega) b (l ▸ e) (a ▸ e')
  ·have B:=h.xok b d
   rcases(p b e).1 with r | r
   ·omega
   ·exact absurd r (u b e)) o t
 exact⟨A,c,w,h'.know _ z⟩
end
end
section
theorem aG {P:Program} {ops:Array Oper} {Q:Exit→Act→World→Prop} {md:Region.Mode} {S:World→Prop} (i:Nat) {oi:Oper} {d:Nat} {v:Value} {fuel:Nat} {listed:Array Bool} {a:Act} {w:World} (f:ops[i]?=some oi)
 (e:Region.noSelect ops=true) (g:Region.free md ops listed i=true) (j:(Region.ready md ops listed).contains i=true) (b:oi.dst=some d)
 (hQ:∀ c a w,Q (.panic c) (a.put (some d) v) w→Q (.panic c) a w) (hy:YieldsIf P ops S oi v a) (hS:S w)
 (h:wpAnyH P md ops Q S fuel (listed.setIfInBounds i true) (a.put (some d) v) w):wpAnyH P md ops Q S (fuel+1) listed a w:=
 wpAnyH_take f e g j (by rw[b];exact hQ) hy hS (by rw[b];exact h)
theorem nP {P:Program} {ops:Array Oper} {Q:Exit→Act→World→Prop} {md:Region.Mode} {S d:World→Prop} (b:∀ w,d w→S w):∀ (fuel:Nat) {listed:Array Bool} {a:Act} {w:World},wpAnyH P md ops Q d fuel listed a w→wpAnyH P md ops Q S fuel listed a w
 | 0,_,_,_,h=>h
 | fuel+1,_,_,_,h=>⟨h.1,fun i e=>wpOp_mono (fun a w c=>⟨b w c.1,nP b fuel c.2⟩) (h.2 i e)⟩
theorem tS {P : Program} {ops : Array Oper} {Q : Exit → Act → World → Prop} {md : Region.Mode} {S : World → Prop} (i : Nat) {oi : Oper} {d : Nat} {v : Value} {fuel : Nat} {listed : Array Bool} {a a' : Act} {w : World}
 (hS : S w) (h : wpAnyH P md ops Q S fuel (listed.setIfInBounds i true) a' w) (hi : ops[i]? = some oi := by exact rfl) (hs : Region.noSelect ops = true := by kernel_rfl) (hf : Region.free md ops listed i = true := by kernel_rfl) (hr : (Region.ready md ops listed).contains i = true := by kernel_rfl) (hd : oi.dst = some d := by exact rfl)
 (hQ : ∀ c a w, Q (.panic c) (a.put (some d) v) w → Q (.panic c) a w := by exact fun _ _ _ h => h) (hw : Region.wanted oi (yielded ops a.tmps) = true := by rfl) (hy : ∀ w, S w → (execOp a.eval oi).run P w = .ok (.value v) w := by (intro W hSW; (try dsimp only at hSW); go_simp; try with_reducible rfl)) (ha : a.put (some d) v = a' := by (first | (simp only [Act.put, sI, sZ, sS]; done) | (simp only [Act.put, sI, sZ, sS]; exact rfl))) : wpAnyH P md ops Q S (fuel + 1) listed a w := aG i hi hs hf hr hd hQ (Or.inl ⟨hw, hy⟩) hS (ha ▸ h)
theorem tU {P : Program} {ops : Array Oper} {Q : Exit → Act → World → Prop} {md : Region.Mode} {S : World → Prop} (i : Nat) {oi : Oper} {d : Nat} {fuel : Nat} {listed : Array Bool} {a a' : Act} {w : World}
 (hS : S w) (h : wpAnyH P md ops Q S fuel (listed.setIfInBounds i true) a' w) (hi : ops[i]? = some oi := by exact rfl) (hs : Region.noSelect ops = true := by kernel_rfl) (hf : Region.free md ops listed i = true := by kernel_rfl) (hr : (Region.ready md ops listed).contains i = true := by kernel_rfl) (hd : oi.dst = some d := by exact rfl)
 (hQ : ∀ c a w, Q (.panic c) (a.put (some d) undef) w → Q (.panic c) a w := by exact fun _ _ _ h => h) (hw : Region.wanted oi (yielded ops a.tmps) = false := by rfl) (ha : a.put (some d) undef = a' := by (first | (simp only [Act.put, sI, sZ, sS]; done) | (simp only [Act.put, sI, sZ, sS]; exact rfl))) : wpAnyH P md ops Q S (fuel + 1) listed a w := aG i hi hs hf hr hd hQ (Or.inr ⟨hw, rfl⟩) hS (ha ▸ h)
end
section
open Go.RowKit
def dW (w0:World) (M X0:List Nat) (W:World) (L:List Itm) (F:List Fact) (i g:Nat) (t:TypeId):Prop := ∃ cs,aq w0 M X0 W (L.set i (.box g t cs)) F
section
variable {w0 W W':World} {M X0:List Nat} {L:List Itm} {F:List Fact} {i g:Nat} {t:TypeId}
theorem aq.but (h:aq w0 M X0 W L F) (i:Nat) {g:Nat} {t:TypeId} {cs:Array Value} (c:L[i]?=some (.box g t cs)):dW w0 M X0 W L F i g t:=by
 refine⟨cs,?_⟩
 obtain⟨a,b⟩:=List.getElem?_eq_some_iff.1 c
 rw[←b,List.set_getElem_self a]
 exact h
theorem dW.cell (h:dW w0 M X0 W L F i g t) (j:Nat) {g':Nat} {t':TypeId} {cs':Array Value} (b:L[j]?=some (.box g' t' cs')) (a:i≠j) (k:Nat):W.cell? ⟨g',k,none⟩=cs'[k]?:=by
 obtain⟨cs,h⟩:=h
 exact h.cell j (by rw[List.getElem?_set_ne a];exact b) k
theorem dW.set_ (h:dW w0 M X0 W L F i g t) (b:i<L.length) (o:Nat) (u:Value):dW w0 M X0 (W.setCell ⟨g,o,none⟩ u) L F i g t:=by
 obtain⟨cs,h⟩:=h
 refine⟨cs.setIfInBounds o u,?_⟩
 have a:=h.set_ i (g:=g) (t:=t) (cs:=cs) (by rw[List.getElem?_set_self b]) o u
 rw[List.set_set]at a
 exact a
theorem aq.ne (h:aq w0 M X0 W L F) (i j:Nat) (k:i≠j) {g g':Nat} {t t':TypeId} {cs cs':Array Value} (f:L[i]?=some (.box g t cs)) (m:L[j]?=some (.box g' t' cs')):¬ g=g':=by
 rintro rfl
 obtain⟨b,d⟩:=List.getElem?_eq_some_iff.1 f
 obtain⟨c,a⟩:=List.getElem?_eq_some_iff.1 m
 rcases Nat.lt_or_ge i j with e | l
 ·exact List.pairwise_iff_getElem.1 h.apart i j b c e g (by rw[d];rfl) (by rw[a];rfl)
 ·exact List.pairwise_iff_getElem.1 h.apart j i c b (by omega) g (by rw[a];rfl) (by rw[d];rfl)
theorem dW.on (h:dW w0 M X0 W L F i g t) (a:Below W.heap.size W W'):dW w0 M X0 W' L F i g t:=by
 obtain⟨cs,h⟩:=h
 exact⟨cs,h.on a⟩
theorem dW.drew (h:dW w0 M X0 W L F i g t):dW w0 M X0 W.drew L F i g t:=h.on (Below.refl _ _).drew
theorem aq.sl {α:Type} {s:Sh α} {A:Option Addr} {n c:Nat} {xs:List α} (h:aq w0 M X0 W L F) (i:Nat) (a:F[i]?=some (Sl.fact s A n c xs)):Sl s W (Exs L++X0) A n c xs:=h.fact i a
theorem ff {α β:Type} (f:α→β):∀ l:List α,l.flatMap (fun x => [f x])=l.map f
 | []=>rfl
 | x::l=>by rw[List.flatMap_cons,ff f l,List.map_cons];rfl
theorem Sl.bytes {w:World} {X:List Nat} {A:Option Addr} {n c:Nat} {l:List UInt8} (h:Sl ak w X A n c l):Reads w w.heap.size 1 A n (l.map (fun x=>Value.int .u8 (x.toNat:Int))):=by
 obtain⟨e,f,d,g,vs,a,i,b⟩:=h
 obtain⟨rfl,_⟩:=aO.1 b
 rw[ff]at a
 exact a
theorem di {w:World} {X:List Nat} (l:List UInt8):aC ak w X (l.map (fun x=>Value.int .u8 (x.toNat:Int))) l:=by
 exact aO.2 ⟨(ff _ l).symm,fun _ _=>trivial⟩
theorem vm {w:World} {X:List Nat} (l:List ByteArray) (h:∀ s ∈ l,s.size≤maxLen):aC dx w X (l.map Value.string) l:=by
 exact aO.2 ⟨(ff _ l).symm,h⟩
theorem Sl.of_made {α:Type} {s:Sh α} {w w':World} {X:List Nat} {e:TypeId} {v:Value} {n:Nat} {vs:List Value} {xs:List α} (h:w'.ownsRow w.heap.size e s.size v n vs) (hX:XOk X w) (d:aC s w' X vs xs) (f:0<s.size):∃ A c,v = .slice A n c∧Sl s w' X A n c xs:=
 Sl.of_own h (fun b a e=>by
  have g:=hX b a
  have i:=(sD h b e).1
  omega) d f
end
end
section
open Go.RowKit
def Cd (P:Program) (t e:TypeId) (size bytes:Nat):Prop:=
 P.underlying t=some (.slice e) ∧ ∃ i z,P.info? e=some i∧i.zero=some z∧i.size=size∧i.bytes=bytes∧z.cells.size=size∧0<size
theorem Gx {P:Program} {t e:TypeId} {size bytes:Nat} {z:Value} (d:P.underlying t=some (.slice e)) (a:(P.info? e).map (fun i=>(i.zero,i.size,i.bytes))=some (some z,size,bytes)) (c:z.cells.size=size) (b:0<size):Cd P t e size bytes:=by
 cases h:P.info? e with
 | none=>rw[h]at a;cases a
 | some i=>
   rw[h]at a
   simp only[Option.map_some,Option.some.injEq,Prod.mk.injEq]at a
   exact⟨d,i,z,h,a.1,a.2.1,a.2.2,c,b⟩
section
variable {P:Program} {w0 W:World} {M X0:List Nat} {L:List Itm} {F:List Fact}
end
theorem Ef {G T:Prop} (a:Hid G→T) (key:G):T:=a key
theorem aq.marked {d W:World} {M c:List Nat} {L:List Itm} {F:List Fact} (h:aq d M c W L F) (C:Array Value) (e:TypeId) (fr:Nat×Nat) (l:List UInt8) (hC:C.toList=l.map (fun x=>Value.int .u8 (x.toNat:Int))) (g:l.length≤maxLen):
 aq d M c (W.alloc (.cells C e fr)) L (Sl.fact ak (some ⟨W.heap.size,0,none⟩) l.length l.length l::F):=by
 refine(h.alloc_off _).know _ ⟨rfl,Nat.le_refl _,g,fun e=>(by cases e),l.map (fun x=>Value.int .u8 (x.toNat:Int)),⟨by simp[ak,jb],fun _=>⟨_,rfl,by simp,fun j u f=>?_⟩⟩,fun _ ad e' b=>?_,di l⟩
 ·rw[add_plain,Nat.zero_add]
  have a:(W.alloc (.cells C e fr)).heap[W.heap.size]?=some (.cells C e fr):=by
   show(W.heap.push _)[W.heap.size]?=_
   simp
  unfold World.cell?
  simp only[a]
  rw[←hC]at f
  simpa using f
 ·injection e' with e'
  subst e'
  have a:=h.xok' _ b
  simp at a
end
section
open Go.RowKit
structure zN (M:List Nat) (w w':World):Prop where
 os:w'.os=w.os
 tape:w'.tape=w.tape
 output:w'.output=w.output
 size:w.heap.size≤w'.heap.size
 block:∀ b,b<w.heap.size→b ∉ M→w'.heap[b]?=w.heap[b]?
structure ru (w:World) (X:List Nat) (L:List Itm):Prop where
 ok:∀ x ∈ L,x.ok w ∧ ∀ g,x.blk=some g→g<w.heap.size
 apart:L.Pairwise (fun x y => ∀ g,x.blk=some g→y.blk≠some g)
 mem:∀ g ∈ Exs L,g ∈ X
section
variable {w0 W W' w w':World} {M X0 X:List Nat} {L L0:List Itm} {F:List Fact}
theorem aq.only (h:aq w0 M X0 W L F):zN M w0 W:=⟨h.same.1,h.same.2.1,h.same.2.2,h.size,h.block⟩
theorem aq.startG (hX:XOk X w) (hG:ru w X L0):aq w (Exs L0) X w L0 []:=
 ⟨⟨rfl,rfl,rfl⟩,Nat.le_refl _,fun _ _ _=>rfl,hG.mem,hX,fun x a=>⟨(hG.ok x a).1,fun g e=>⟨.inr (bh.2 ⟨x,a,e⟩),(hG.ok x a).2 g e⟩⟩,hG.apart,by simp⟩
theorem aq.give1 (h:aq w0 M X0 W L F) (i:Nat) {x:Itm} (c:L[i]?=some x):ru W (Exs L++X0) [x]:=by
 have a:=List.mem_of_getElem? c
 refine⟨fun y hy=>?_,List.pairwise_singleton _ _,fun g b=>?_⟩
 ·rw[List.mem_singleton]at hy
  subst hy
  exact⟨(h.ents y a).1,fun g e=>((h.ents y a).2 g e).2⟩
 ·obtain⟨y,hy,e⟩:=bh.1 b
  rw[List.mem_singleton]at hy
  subst hy
  exact List.mem_append_left _ (bh.2 ⟨y,a,e⟩)
theorem aq.apart_ (h:aq w0 M X0 W L F) {i j:Nat} (k:i≠j) {x y:Itm} (n:L[i]?=some x) (l:L[j]?=some y):∀ g,x.blk=some g→y.blk≠some g:=by
 intro g e e'
 obtain⟨d,a⟩:=List.getElem?_eq_some_iff.1 n
 obtain⟨c,b⟩:=List.getElem?_eq_some_iff.1 l
 rcases Nat.lt_or_ge i j with f | m
 ·exact List.pairwise_iff_getElem.1 h.apart i j d c f g (a ▸ e) (b ▸ e')
 ·exact List.pairwise_iff_getElem.1 h.apart j i c d (by omega) g (b ▸ e') (a ▸ e)
theorem aq.give2 (h:aq w0 M X0 W L F) {i j:Nat} (b:i≠j) {x y:Itm} (f:L[i]?=some x) (d:L[j]?=some y):ru W (Exs L++X0) [x,y]:=by
 have c:=List.mem_of_getElem? f
 have hy:=List.mem_of_getElem? d
 refine⟨fun z a=>?_,List.Pairwise.cons (fun z a=>?_) (List.pairwise_singleton _ _),fun g k=>?_⟩
 ·rcases List.mem_cons.1 a with rfl | a
  ·exact⟨(h.ents z c).1,fun g e=>((h.ents z c).2 g e).2⟩
  ·rw[List.mem_singleton]at a
   subst a
   exact⟨(h.ents z hy).1,fun g e=>((h.ents z hy).2 g e).2⟩
 ·rw[List.mem_singleton]at a
  subst a
  exact h.apart_ b f d
 ·obtain⟨z,a,e⟩:=bh.1 k
  rcases List.mem_cons.1 a with rfl | a
  ·exact List.mem_append_left _ (bh.2 ⟨z,c,e⟩)
  ·rw[List.mem_singleton]at a
   subst a
   exact List.mem_append_left _ (bh.2 ⟨z,hy,e⟩)
theorem aq.wrote1 (h:aq w0 M X0 W L F) (i:Nat) {g:Nat} {t:TypeId} {cs cs':Array Value} (k:L[i]?=some (.box g t cs)) (a:zN [g] W W') (j:Blk W' g t cs'):aq w0 M X0 W' (L.set i (.box g t cs')) F:=
 h.turn i k a.size ⟨a.os,a.tape,a.output⟩ (fun b d c=>a.block b d (fun f=>by rw[List.mem_singleton]at f;exact c (by rw[f];rfl))) j (fun g' e=>⟨.inl e,by injection e with e;subst e;exact j.lt⟩)
theorem aq.wrote2 (h:aq w0 M X0 W L F) {i j:Nat} (k:i≠j) {g:Nat} {t:TypeId} {cs cs':Array Value} {e:TypeId} {size n n':Nat} {v v':Value} {xs xs':List Value} (q:L[i]?=some (.box g t cs)) (H:L[j]?=some (.row e size v n xs))
 (d:zN (Exs [.box g t cs,.row e size v n xs]) W W') (p:Blk W' g t cs') (G:W'.ownsRow 0 e size v' n' xs') (m:∀ b,v'.ownBlock=some b→v.ownBlock=some b∨W.heap.size≤b):aq w0 M X0 W' ((L.set j (.row e size v' n' xs')).set i (.box g t cs')) F:=by
 have A:=h.lt i q
 have w:∃ o,W.heap[g]?=some o:=⟨_,h.blk i q⟩
 obtain⟨o,E⟩:=w
 have C:∀ b,v.ownBlock=some b→g≠b:=fun b a l=>by
  subst l
  exact h.apart_ k q H g rfl a
 have f:∀ b,v'.ownBlock=some b→g≠b:=fun b a=>by
  rcases m b a with r | r
  ·exact C b r
  ·omega
 let Wm:World:={ W' with heap:=W'.heap.setIfInBounds g o }
 have u:Wm.heap.size=W'.heap.size:=by simp[Wm]
 have y:∀ b,b≠g→Wm.heap[b]?=W'.heap[b]?:=fun b p=>by simp only[Wm];rw[Array.getElem?_setIfInBounds_ne (fun e=>p e.symm)]
 have D:Wm.heap[g]?=some o:=by
  simp only[Wm]
  rw[Array.getElem?_setIfInBounds_self_of_lt (Nat.lt_of_lt_of_le A d.size)]
 have r:aq w0 M X0 Wm (L.set j (.row e size v' n' xs')) F:=by
  refine h.turn j H (by rw[u];exact d.size) ⟨d.os,d.tape,d.output⟩ (fun b z B=>?_) ?_ (fun b a=>⟨m b a,by rw[u];exact(sD G b a).2⟩)
  ·by_cases c:b=g
   ·subst c;rw[D,E]
   ·rw[y b c]
    refine d.block b z (fun hmem=>?_)
    obtain⟨x,s,ex⟩:=bh.1 hmem
    rcases List.mem_cons.1 s with rfl | s
    ·injection ex with ex;exact c ex.symm
    ·rw[List.mem_singleton]at s
     subst s
     exact B ex
  ·exact qI G (fun b a=>y b (fun l=>f b a l.symm))
 refine r.turn i (x := .box g t cs) (by rw[List.getElem?_set_ne (fun e=>k e.symm)];exact q) (by rw[u];exact Nat.le_refl _) ⟨rfl,rfl,rfl⟩ (fun b _ B=>(y b (fun l=>B (by rw[l];rfl))).symm) p (fun g' a=>⟨.inl a,by injection a with a;subst a;exact p.lt⟩)
end
end
section
open Go.RowKit
section
variable {w0 W W':World} {M X0 X X':List Nat} {L L':List Itm} {F:List Fact}
theorem aq.perm (h:aq w0 M X0 W L F) (d:L.Perm L'):aq w0 M X0 W L' F:=
 ⟨h.same,h.size,h.block,h.given,h.xok,fun x i=>h.ents x (d.mem_iff.2 i),d.pairwise h.apart (fun {x y} c g e e'=>c g e' e),fun f j=>f.more (h.facts f j) (fun b _ a=>by
  rcases List.mem_append.1 a with a | a
  ·obtain⟨y,hy,e⟩:=bh.1 a
   exact List.mem_append_left _ (bh.2 ⟨y,d.mem_iff.2 hy,e⟩)
  ·exact List.mem_append_right _ a)⟩
def Ra.fact {α:Type} (s:Sh α) (vs:List Value) (xs:List α):Fact:=⟨fun w X=>aC s w X vs xs,fun h k=>h.keep k,fun h k=>h.more k⟩
theorem aq.ra {α:Type} {s:Sh α} {vs:List Value} {xs:List α} (h:aq w0 M X0 W L F) (i:Nat) (a:F[i]?=some (Ra.fact s vs xs)):aC s W (Exs L++X0) vs xs:=h.fact i a
end
end
section
open Go.RowKit
class Siz (W:World) (b k:outParam Nat):Prop where
 eq:W.heap.size=b+k
class Suc (k:Nat) (k':outParam Nat):Prop where
 eq:k'=k+1
class Adr (b k:Nat) (a:outParam Nat):Prop where
 eq:a=b+k
instance:Suc 0 1:=⟨rfl⟩
instance:Suc 1 2:=⟨rfl⟩
instance:Suc 2 3:=⟨rfl⟩
instance:Suc 3 4:=⟨rfl⟩
instance:Suc 4 5:=⟨rfl⟩
instance:Suc 5 6:=⟨rfl⟩
instance:Suc 6 7:=⟨rfl⟩
instance:Suc 7 8:=⟨rfl⟩
instance:Suc 8 9:=⟨rfl⟩
instance:Suc 9 10:=⟨rfl⟩
instance:Suc 10 11:=⟨rfl⟩
instance:Suc 11 12:=⟨rfl⟩
instance (priority:=10) adrP (b k:Nat):Adr b k (b+k):=⟨rfl⟩
instance Hf (b:Nat):Adr b 0 b:=⟨rfl⟩
instance (priority:=10) sizZ (W:World):Siz W W.heap.size 0:=⟨rfl⟩
instance Hi (W:World) (o:Obj) (b k k':Nat) [h:Siz W b k] [s:Suc k k']:Siz (W.alloc o) b k':=⟨by rw[s.eq,←Nat.add_assoc,←h.eq];simp⟩
instance Hl (W:World) (p:Addr) (v:Value) (b k:Nat) [h:Siz W b k]:Siz (W.setCell p v) b k:=⟨by rw[←h.eq];simp[World.setCell]⟩
instance Hg (W:World) (b k:Nat) [h:Siz W b k]:Siz W.drew b k:=⟨h.eq⟩
instance Hj (W:World) (n b k:Nat) [h:Siz W b k]:Siz (W.drewN n) b k:=⟨h.eq⟩
class EM (l:List Value) (o:Nat) (v:Value) (l':outParam (List Value)):Prop where
 eq:l'=l.set o v
instance GZ (x v:Value) (l:List Value):EM (x::l) 0 v (v::l):=⟨rfl⟩
instance GY (x v:Value) (l l':List Value) (n:Nat) [h:EM l n v l']:EM (x::l) (n+1) v (x::l'):=⟨by rw[h.eq];rfl⟩
class Fg (cs:Array Value) (o:Nat) (v:Value) (cs':outParam (Array Value)):Prop where
 eq:cs'=cs.setIfInBounds o v
instance (priority:=10) setA0 (cs:Array Value) (o:Nat) (v:Value):Fg cs o v (cs.setIfInBounds o v):=⟨rfl⟩
instance GX (l l':List Value) (o:Nat) (v:Value) [h:EM l o v l']:Fg l.toArray o v l'.toArray:=⟨by rw[h.eq];simp⟩
class Upd (L:List Itm) (g o:Nat) (v:Value) (L':outParam (List Itm)):Prop where
 ex:∃ i t cs,L[i]?=some (.box g t cs)∧L'=L.set i (.box g t (cs.setIfInBounds o v))
instance Hp (L:List Itm) (g o:Nat) (t:TypeId) (cs cs':Array Value) (v:Value) [h:Fg cs o v cs']:Upd (.box g t cs::L) g o v (.box g t cs'::L):=⟨0,t,cs,rfl,by rw[h.eq];rfl⟩
instance (priority:=10) upd1 (x:Itm) (L L':List Itm) (g o:Nat) (v:Value) [h:Upd L g o v L']:Upd (x::L) g o v (x::L'):=by
 obtain⟨i,t,cs,h1,h2⟩:=h.ex
 exact⟨i+1,t,cs,by simpa using h1,by rw[h2];rfl⟩
class Adv (W W':World) (L:List Itm) (L':outParam (List Itm)):Prop where
 go:∀ {w0 M X F},aq w0 M X W L F→aq w0 M X W' L' F
instance He (W:World) (L:List Itm):Adv W W L L:=⟨fun h=>h⟩
instance (priority:=20) advO (W W':World) (L L':List Itm) (o:Obj) [h:Adv W W' L L']:Adv W (W'.alloc o) L L':=⟨fun K=>(h.go K).alloc_off o⟩
instance Hh (W W':World) (L L':List Itm) (t:TypeId) (cs:Array Value) (b k a:Nat) [h:Adv W W' L L'] [s:Siz W' b k] [e:Adr b k a]:Adv W (W'.alloc (.cells cs t)) L (.box a t cs::L'):=⟨fun K=>(h.go K).alloc_at t cs a (by rw[e.eq,s.eq])⟩
instance Ho (W W':World) (L L' L'':List Itm) (g o:Nat) (v:Value) [h:Adv W W' L L'] [u:Upd L' g o v L'']:Adv W (W'.setCell ⟨g,o,none⟩ v) L L'':=⟨fun K=>by
 obtain⟨i,t,cs,h1,h2⟩:=u.ex
 rw[h2]
 exact(h.go K).set_ i h1 o v⟩
instance Hr (W W':World) (L L':List Itm) [h:Adv W W' L L']:Adv W W'.drew L L':=⟨fun K=>(h.go K).drew⟩
instance Hq (W W':World) (L L':List Itm) (n:Nat) [h:Adv W W' L L']:Adv W (W'.drewN n) L L':=⟨fun K=>(h.go K).drewN n⟩
def HH (w0:World) (M X:List Nat) (W:World) (L:List Itm) (F:List Fact):Prop:=aq w0 M X W L F
section
variable {w0 W W' w1:World} {M X:List Nat} {L L':List Itm} {F:List Fact} {P:Program}
theorem HH.out (K:HH w0 M X W L F):aq w0 M X W L F:=K
theorem aq.hh (K:aq w0 M X W L F):HH w0 M X W L F:=K
theorem hstart (hX:XOk X W):HH W [] X W [] []:=aq.start W hX
theorem HH.on (K:HH w0 M X W L F) (a:Below W.heap.size W W'):HH w0 M X W' L F:=K.out.on a
theorem HH.to (K:HH w0 M X W L F) [h:Adv W W' L L']:HH w0 M X W' L' F:=h.go K.out
theorem HH.c (K:HH w0 M X W L F) (i:Nat) {g:Nat} {t:TypeId} {cs:Array Value} (a:L[i]?=some (.box g t cs)):(∀ j,W.cell? ⟨g,j,none⟩=cs[j]?) ∧ ∀ j,W.frozen? ⟨g,j,none⟩=false:=
 ⟨fun j=>K.out.cell i a j,fun j=>K.out.frozen i a j⟩
theorem HH.r (K:HH w0 M X W L F) (i:Nat) {g:Nat} {t:TypeId} {cs:Array Value} (a:L[i]?=some (.box g t cs)):∀ j,W.cell? ⟨g,j,none⟩=cs[j]?:=K.out.cell i a
theorem HH.kn (K:HH w0 M X W L F) {f:Fact} (h:f.p W (Exs L++X)):HH w0 M X W L (f::F):=K.out.know f h
theorem HH.ksl {α:Type} {s:Sh α} {A:Option Addr} {n c:Nat} {xs:List α} (K:HH w0 M X W L F) (h:Sl s W (Exs L++X) A n c xs):HH w0 M X W L (Sl.fact s A n c xs::F):=K.out.know (Sl.fact s A n c xs) h
theorem HH.k0 (K:HH w0 M X W L F) {f:Fact} (h:f.p w0 X):HH w0 M X W L (f::F):=K.out.know0 f h
theorem HH.ksl0 {α:Type} {s:Sh α} {A:Option Addr} {n c:Nat} {xs:List α} (K:HH w0 M X W L F) (h:Sl s w0 X A n c xs):HH w0 M X W L (Sl.fact s A n c xs::F):=K.out.know0 (Sl.fact s A n c xs) h
theorem HH.sl {α:Type} {s:Sh α} {A:Option Addr} {n c:Nat} {xs:List α} (K:HH w0 M X W L F) (i:Nat) (a:F[i]?=some (Sl.fact s A n c xs)):Sl s W (Exs L++X) A n c xs:=K.out.sl i a
theorem HH.fa (K:HH w0 M X W L F) (i:Nat) {f:Fact} (a:F[i]?=some f):f.p W (Exs L++X):=K.out.fact i a
theorem HH.back (K:HH w0 M X W L F) {f:Fact} (h:f.p W (Exs L++X)):f.p W X:=K.out.back h
theorem HH.slb {α:Type} {s:Sh α} {A:Option Addr} {n c:Nat} {xs:List α} (K:HH w0 M X W L F) (i:Nat) (a:F[i]?=some (Sl.fact s A n c xs)):Sl s W X A n c xs:=K.out.back' (f:=Sl.fact s A n c xs) i a
theorem HH.xok (K:HH w0 M X W L F):XOk (Exs L++X) W:=K.out.xok'
theorem HH.below (K:HH w0 [] X W L F):Below w0.heap.size w0 W:=K.out.below
theorem HH.drop (K:HH w0 M X W L F) {L':List Itm} (a:L'.Sublist L):HH w0 M X W L' F:=K.out.drop a
theorem HH.tl {x:Itm} (K:HH w0 M X W (x::L) F):HH w0 M X W L F:=K.out.drop (List.sublist_cons_self _ _)
theorem HH.ft {f:Fact} (K:HH w0 M X W L (f::F)):HH w0 M X W L F:=K.out.forget (List.sublist_cons_self _ _)
theorem HH.cl {f:FuncId} {args:Array Value} {R:Ending→World→Prop} (K:HH w0 M X W L F) [h:Adv W W' L L'] (k:∀ U,HH w0 M X U L' F→Calls P f args U R):Calls P f args W' R:=k W' (h.go K.out)
theorem HH.cw {Q:Exit→Act→World→Prop} {c:Code} {a:Act} (K:HH w0 M X W L F) [h:Adv W W' L L'] (k:∀ U,HH w0 M X U L' F→c.wp P Q a U):c.wp P Q a W':=k W' (h.go K.out)
theorem HH.lw {Q:Exit→Act→World→Prop} {ops:Array Oper} {l:List Oper} {a:Act} (K:HH w0 M X W L F) [h:Adv W W' L L'] (k:∀ U,HH w0 M X U L' F→wpList P ops Q l a U):wpList P ops Q l a W':=k W' (h.go K.out)
theorem HH.bp {fn:Func} {R:Ending→World→Prop} {e:Exit} {a:Act} (K:HH w0 M X W L F) [h:Adv W W' L L'] (k:∀ U,HH w0 M X U L' F→bodyPost P fn R e a U):bodyPost P fn R e a W':=k W' (h.go K.out)
theorem HH.rg {id:Nat} {ops:Array Oper} {Q:Exit→Act→World→Prop} {a:Act} (K:HH w0 M X W L F) [h:Adv W W' L L']
 (k:∀ U,HH w0 M X U L' F→wpAnyH P .any ops (NoPanic Q) (fun V=>HH w0 M X V L' F) ops.size (Array.replicate ops.size false) a U) (b:P.follows .mixedOrders=true:=by kernel_rfl):(Code.region id ops true).wp P Q a W':=
 wp_region_noPanic (wp_region_held_drew (S:=fun V=>HH w0 M X V L' F) b (h.go K.out).drew fun hS=>k _ hS)
end
theorem an {α:Type} (l:List α) (i:Nat) (a:α):l.toArray.setIfInBounds i a=(l.set i a).toArray:=List.setIfInBounds_toArray ..
theorem ai {α:Type} {x:α} {xs:List α} {a:α}:(x::xs).set 0 a=a::xs:=rfl
theorem aj {α:Type} {x:α} {xs:List α} {i:Nat} {a:α}:(x::xs).set (i+1) a=x::xs.set i a:=rfl
def lM (P:Program) (ty:TypeId) (n:Nat):Bool:=(match P.underlying ty with | some (.struct _)=>true | some (.array _ _)=>true | _=>false)&&((P.info? ty).map (·.size) == some n)
theorem oR {P:Program} {ty:TypeId} {n:Nat} (h:lM P ty n=true):∃ d,P.underlying ty=some d∧(match d with | .struct _ | .array _ _=>true | _=>false)=true∧(P.info? ty).map (·.size)=some n:=by
 unfold lM at h
 rw[Bool.and_eq_true,beq_iff_eq]at h
 obtain⟨a,b⟩:=h
 cases hu:P.underlying ty with
 | none=>rw[hu]at a;cases a
 | some d=>
   refine⟨d,rfl,?_,b⟩
   rw[hu]at a
   cases d<;>first | rfl | exact a
section
variable {w0 W W' w1:World} {M X:List Nat} {L L':List Itm} {F:List Fact} {P:Program}
theorem HH.ld {ops:Array Oper} {rest:List Oper} {o:Oper} {a a':Act} {Q:Exit→Act→World→Prop} {g:Nat} {t ty:TypeId} {cs:Array Value} {x:Operand} (K:HH w0 M X W L F) (i:Nat) (c:L[i]?=some (.box g t cs))
 (h:wpList P ops Q rest a' W) (b:o.guard=none:=by rfl) (ho:o.op = .load ty x:=by rfl) (hx:a.eval x = .pointer (some ⟨g,0,none⟩):=by rfl) (hT:lM P ty cs.size=true:=by kernel_rfl)
 (ha:a.put o.dst (.agg cs)=a':=by(first | (simp only[Act.put,an,ai,aj];done) | (simp only[Act.put,an,ai,aj];exact rfl))):wpList P ops Q (o::rest) a W:=by
 obtain⟨d,f,j,e⟩:=oR hT
 exact wpList_load_row b ty x ho g hx t cs (0,0) d (K.out.blk i c) f (by cases d<;>first | rfl | exact j) e (ha ▸ h)
end
section
variable {P:Program} {ops:Array Oper} {Q:Exit→Act→World→Prop} {md:Region.Mode} {S:World→Prop}
theorem tK (i:Nat) {oi:Oper} {d:Nat} {v:Value} {fuel:Nat} {listed:Array Bool} {a a':Act} {w:World}
 (hS:S w) (h:wpAnyH P md ops Q S fuel (listed.setIfInBounds i true) a' w) (e:ops[i]?=some oi:=by exact rfl) (hs:Region.noSelect ops=true:=by kernel_rfl) (hf:Region.free md ops listed i=true:=by kernel_rfl) (hr:(Region.ready md ops listed).contains i=true:=by kernel_rfl) (hd:oi.dst=some d:=by exact rfl)
 (hQ:∀ c a w,Q (.panic c) (a.put (some d) v) w→Q (.panic c) a w:=by exact fun _ _ _ h=>h) (hw:Region.wanted oi (yielded ops a.tmps)=true:=by rfl) (hy:∀ w,S w→(execOp a.eval oi).run P w = .ok (.value v) w:=by(intro W b;(try dsimp only at b);go_simp;try with_reducible rfl)) (ha:a.put (some d) v=a':=by(first | (simp only[Act.put,an,ai,aj];done) | (simp only[Act.put,an,ai,aj];exact rfl))):wpAnyH P md ops Q S (fuel+1) listed a w:=aG i e hs hf hr hd hQ (Or.inl ⟨hw,hy⟩) hS (ha ▸ h)
theorem tL (i:Nat) {T:World→Prop} (hT:∀ w,S w→T w) {oi:Oper} {d:Nat} {v:Value} {fuel:Nat} {listed:Array Bool} {a a':Act} {w:World}
 (hS:S w) (h:wpAnyH P md ops Q S fuel (listed.setIfInBounds i true) a' w) (f:ops[i]?=some oi:=by exact rfl) (hs:Region.noSelect ops=true:=by kernel_rfl) (hf:Region.free md ops listed i=true:=by kernel_rfl) (hr:(Region.ready md ops listed).contains i=true:=by kernel_rfl) (hd:oi.dst=some d:=by exact rfl)
 (hQ:∀ c a w,Q (.panic c) (a.put (some d) v) w→Q (.panic c) a w:=by exact fun _ _ _ h=>h) (b:Region.wanted oi (yielded ops a.tmps)=true:=by rfl) (hy:∀ w,T w→(execOp a.eval oi).run P w = .ok (.value v) w:=by(intro W e;(try dsimp only at e);go_simp;try with_reducible rfl)) (ha:a.put (some d) v=a':=by(first | (simp only[Act.put,an,ai,aj];done) | (simp only[Act.put,an,ai,aj];exact rfl))):wpAnyH P md ops Q S (fuel+1) listed a w:=aG i f hs hf hr hd hQ (Or.inl ⟨b,fun w b=>hy w (hT w b)⟩) hS (ha ▸ h)
theorem tN (i:Nat) {oi:Oper} {d:Nat} {fuel:Nat} {listed:Array Bool} {a a':Act} {w:World}
 (hS:S w) (h:wpAnyH P md ops Q S fuel (listed.setIfInBounds i true) a' w) (b:ops[i]?=some oi:=by exact rfl) (hs:Region.noSelect ops=true:=by kernel_rfl) (hf:Region.free md ops listed i=true:=by kernel_rfl) (hr:(Region.ready md ops listed).contains i=true:=by kernel_rfl) (hd:oi.dst=some d:=by exact rfl)
 (hQ:∀ c a w,Q (.panic c) (a.put (some d) undef) w→Q (.panic c) a w:=by exact fun _ _ _ h=>h) (hw:Region.wanted oi (yielded ops a.tmps)=false:=by rfl) (ha:a.put (some d) undef=a':=by(first | (simp only[Act.put,an,ai,aj];done) | (simp only[Act.put,an,ai,aj];exact rfl))):wpAnyH P md ops Q S (fuel+1) listed a w:=aG i b hs hf hr hd hQ (Or.inr ⟨hw,rfl⟩) hS (ha ▸ h)
theorem tC (i:Nat) {o:Oper} {fuel:Nat} {listed:Array Bool} {a:Act} {w:World}
 (h:∀ K':Act→World→Prop,Shut (∀ a w,S w→(S w→wpAnyH P md ops Q S fuel (listed.setIfInBounds i true) a w)→K' a w)→if Region.wanted o (yielded ops a.tmps)=true then Oper.wp P o a w K' Q else K' (a.put o.dst undef) w)
 (b:Region.ready md ops listed = [i]:=by kernel_rfl) (ho:ops[i]?=some o:=by exact rfl):wpAnyH P md ops Q S (fuel+1) listed a w:=wpAnyH_ready b (by simp) (AllReadyH.cons ho h AllReadyH.nil)
theorem tE {fuel:Nat} {listed:Array Bool} {a:Act} {w:World} (h:Q .normal a w) (b:Region.ready md ops listed = []:=by kernel_rfl):wpAnyH P md ops (NoPanic Q) S fuel listed a w:=wpAnyH_done b (NoPanic.normal h) _
end
end
section
open Go.RowKit
section
variable {w0 W W' w1:World} {M X:List Nat} {L L':List Itm} {F:List Fact} {P:Program}
theorem aq.setRow (h:aq w0 M X W L F) (i:Nat) {g:Nat} {t:TypeId} {cs:Array Value} (c:L[i]?=some (.box g t cs)) (cells:Array Value):aq w0 M X (W.setRow g cells) (L.set i (.box g t cells)) F:=
 h.turn i c (by simp) ⟨rfl,rfl,rfl⟩ (fun b _ a=>setRow_other W g b cells (fun e=>a (by rw[e];rfl))) (setRow_heap W g cs cells t (0,0) (h.blk i c)) (fun g' e=>⟨.inl e,by injection e with e;subst e;have:=h.lt i c;simpa using this⟩)
theorem HH.sr {ops:Array Oper} {rest:List Oper} {o:Oper} {a:Act} {Q:Exit→Act→World→Prop} {g:Nat} {t ty:TypeId} {old cells:Array Value} {x y:Operand} (K:HH w0 M X W L F) (i:Nat) (c:L[i]?=some (.box g t old))
 (k:∀ U,HH w0 M X U L' F→wpList P ops Q rest a U) (b:o.guard=none:=by rfl) (ho:o.op = .store ty x y:=by rfl) (hd:o.dst=none:=by rfl)
 (hx:a.eval x = .pointer (some ⟨g,0,none⟩):=by rfl) (hy:a.eval y = .agg cells:=by rfl) (hT:((P.info? ty).map (·.size) == some cells.size)=true:=by kernel_rfl) (hz:old.size=cells.size:=by rfl) (h1:cells.toList.all (·.oneCell')=true:=by rfl) (hL:L.set i (.box g t cells)=L':=by(first | (simp only[ai,aj];done) | (simp only[ai,aj];exact rfl))):
 wpList P ops Q (o::rest) a W:=
 wpList_store_row b ty x y ho g cells hx hy t old (K.out.blk i c) (beq_iff_eq.1 hT) hz (by rw[←Array.all_toList];exact h1) (by
  rw[hd]
  exact k _ (hL ▸ K.out.setRow i c cells))
theorem fe {g:Nat} {t ty:TypeId} {cs:Array Value} (K:HH w0 M X W L F) (i:Nat) (e:L[i]?=some (.box g t cs)) (hT:lM P ty cs.size=true):(loadVar ty ⟨g,0,none⟩).run P W = .ok (.agg cs) W:=by
 obtain⟨d,b,c,a⟩:=oR hT
 exact run_loadVar_row W g t ty cs (0,0) d (K.out.blk i e) b (by cases d<;>first | rfl | exact c) a
theorem HH.rc1 {fn:Func} {R:Ending→World→Prop} {a:Act} {g:Nat} {p:Tmp} {t ty:TypeId} {cs:Array Value} (K:HH w0 M X W L F) (i:Nat) (d:L[i]?=some (.box g t cs)) (e:fn.results=#[.cell p ty]) (hR:R (.returned (.agg cs)) W)
 (c:a.tmps.getD p undef = .pointer (some ⟨g,0,none⟩):=by rfl) (hT:lM P ty cs.size=true:=by kernel_rfl) (hd:a.defers = []:=by rfl):bodyPost P fn R .ret a W:=by
 have b:a.tmps[p]?.getD undef = .pointer (some ⟨g,0,none⟩):=by simpa using c
 exact⟨hd,_,by simp[results,e,b,asAddr,fe K i d hT],hR⟩
theorem HH.rc2 {fn:Func} {R:Ending→World→Prop} {a:Act} {g:Nat} {p q:Tmp} {t ty:TypeId} {cs:Array Value} (K:HH w0 M X W L F) (i:Nat) (d:L[i]?=some (.box g t cs)) (e:fn.results=#[.cell p ty,.tmp q]) (hR:R (.returned (.tuple #[.agg cs,a.tmps.getD q undef])) W)
 (c:a.tmps.getD p undef = .pointer (some ⟨g,0,none⟩):=by rfl) (hT:lM P ty cs.size=true:=by kernel_rfl) (hd:a.defers = []:=by rfl):bodyPost P fn R .ret a W:=by
 have b:a.tmps[p]?.getD undef = .pointer (some ⟨g,0,none⟩):=by simpa using c
 exact⟨hd,.tuple #[.agg cs,a.tmps.getD q undef],by simp[results,e,b,asAddr,fe K i d hT],hR⟩
end
instance (priority:=200) advRow (W W':World) (L L':List Itm) (g:Nat) (t:TypeId) (cs cells:Array Value) [h:Adv W W' L (.box g t cs::L')]:Adv W (W'.setRow g cells) L (.box g t cells::L'):=⟨fun K=>(h.go K).setRow 0 rfl cells⟩
end
section
open Go.RowKit
def At (W:World) (p:Addr) (cs:List Value):Prop := ∀ j v,cs[j]?=some v→W.cell? (p.add j)=some v
section
variable {P:Program} {W W':World}
theorem At.below {B:Nat} {p:Addr} {cs:List Value} (h:At W p cs) (b:Below B W W') (c:p.block<B):At W' p cs:=fun j v a=>(b.cell (by rw[aF];exact c)).trans (h j v a)
theorem pE {p:Addr} {ty:TypeId} {cs:List Value} (h:At W p cs) (hT:lM P ty cs.length=true):(loadVar ty p).run P W = .ok (.agg cs.toArray) W:=by
 obtain⟨d,f,g,b⟩:=oR hT
 have e:(loadCells p cs.length).run P W = .ok cs.toArray W:=run_loadCells_list (P:=P) W p cs h
 cases hq:P.info? ty with
 | none=>simp[hq]at b
 | some i=>
   have c:i.size=cs.length:=by simpa [hq] using b
   have a:(isAgg ty).run P W = .ok true W:=by
    unfold isAgg
    rw[Sem.run_bind,run_underlying f W]
    cases d<;>simp_all
   simp[loadVar,Sem.run_bind,a,sizeOf,typeInfo,hq,c,e]
theorem kX {p:Addr} {ty:TypeId} {cs:List Value} (h:At W p cs) (hT:lM P ty cs.length=true):(Instr.loadAt ty (.pointer (some p))).run P W = .ok (.agg cs.toArray) W:=by
 simp only[Instr.loadAt,Instr.sureAddr,Sem.run_bind,Sem.run_pure,Result.andThen_ok,pE h hT]
theorem bF {ops:Array Oper} {rest:List Oper} {o:Oper} {a a':Act} {Q:Exit→Act→World→Prop} {p:Addr} {ty:TypeId} {x:Operand} {cs:List Value} (c:At W p cs)
 (h:wpList P ops Q rest a' W) (b:Region.wanted o (yielded ops a.tmps)=true:=by rfl) (ho:o.op = .load ty x:=by rfl) (hx:a.eval x = .pointer (some p):=by rfl) (hT:lM P ty cs.length=true:=by kernel_rfl)
 (ha:a.put o.dst (.agg cs.toArray)=a':=by(first | (simp only[Act.put,an,ai,aj];done) | (simp only[Act.put,an,ai,aj];exact rfl))):wpList P ops Q (o::rest) a W:=
 wpList_step fun _ hK=>by
  rw[if_pos b]
  unfold Oper.wp execOp
  simp only[ho,hx,Sem.run_bind,kX c hT,Result.andThen_ok,Sem.run_pure]
  exact hK _ _ (ha ▸ h)
theorem aM {op:Oper} {ev:Operand→Value} {p:Addr} {ty:TypeId} {x:Operand} {cs:List Value} (h:At W p cs) (a:op.op = .load ty x:=by rfl) (hx:ev x = .pointer (some p):=by rfl) (hT:lM P ty cs.length=true:=by kernel_rfl):(execOp ev op).run P W = .ok (.value (.agg cs.toArray)) W:=by
 unfold execOp
 simp only[a,hx,Sem.run_bind,kX h hT,Result.andThen_ok,Sem.run_pure]
theorem HH.at_ {d:World} {M X:List Nat} {L:List Itm} {F:List Fact} (K:HH d M X W L F) (i:Nat) {g:Nat} {t:TypeId} {cs:Array Value} (c:L[i]?=some (.box g t cs)):At W ⟨g,0,none⟩ cs.toList:=fun j v b=>by
 have a:(⟨g,0,none⟩:Addr).add j=⟨g,j,none⟩:=by unfold Addr.add;split<;>simp_all
 rw[a,K.out.cell i c j]
 simpa using b
theorem Sl.at' {α:Type} {s:Sh α} {X:List Nat} {A:Option Addr} {n c:Nat} {xs:List α} (h:Sl s W X A n c xs) {i:Nat} {x:α} (b:xs[i]?=some x):∃ ad r,A=some ad∧ad.block<W.heap.size∧ad.block ∉ X∧s.rep W X r x∧At W (ad.add (i*s.size)) r:=by
 obtain⟨ad,r,e,k,d,f,a⟩:=h.at_ b
 exact⟨ad,r,e,k,d,f,fun j v g=>by rw[cB];exact a j v g⟩
end
def At.fact (p:Addr) (cs:List Value):Fact:=⟨fun w X=>p.block<w.heap.size∧p.block ∉ X∧At w p cs,
 fun h k=>⟨Nat.lt_of_lt_of_le h.1 k.size,h.2.1,fun j v hj=>(k.cell (by rw[aF];exact h.1) (by rw[aF];exact h.2.1)).trans (h.2.2 j v hj)⟩,
 fun h k=>⟨h.1,fun hm=>h.2.1 (k _ h.1 hm),h.2.2⟩⟩
theorem HH.at' {b W:World} {M X:List Nat} {L:List Itm} {F:List Fact} (K:HH b M X W L F) (i:Nat) {p:Addr} {cs:List Value} (a:F[i]?=some (At.fact p cs)):At W p cs:=(K.fa i a).2.2
theorem HH.elem {a W:World} {M X:List Nat} {L:List Itm} {F:List Fact} {α:Type} {s:Sh α} {A:Option Addr} {n c:Nat} {xs:List α} (K:HH a M X W L F) (i:Nat) (d:F[i]?=some (Sl.fact s A n c xs)) {j:Nat} {x:α} (l:xs[j]?=some x):
 ∃ ad r,A=some ad∧HH a M X W L (At.fact (ad.add (j*s.size)) r::F)∧s.rep W (Exs L++X) r x:=by
 obtain⟨ad,r,g,k,e,h,b⟩:=(K.sl i d).at' l
 exact⟨ad,r,g,K.kn (f:=At.fact (ad.add (j*s.size)) r) ⟨by rw[aF];exact k,by rw[aF];exact e,b⟩,h⟩
end
section
open Go.RowKit
structure Evt where
 q:Int
 a:Int
 k:Int
 cm:ByteArray
 x:Int
 y:Int
 z:Int
abbrev evA (ev:Evt):Array Value:=#[.int .i64 ev.q,.int .i64 ev.a,.int .i64 ev.k,.string ev.cm,.int .i64 ev.x,.int .i64 ev.y,.int .i64 ev.z]
def okE (e:Evt):Prop:=(Lit.int .i64 e.q).wf=true∧(Lit.int .i64 e.a).wf=true∧(Lit.int .i64 e.k).wf=true∧e.cm.size≤maxLen∧(Lit.int .i64 e.x).wf=true∧(Lit.int .i64 e.y).wf=true∧(Lit.int .i64 e.z).wf=true
theorem wf_i64 {n:Int}:(Lit.int .i64 n).wf=true ↔ -9223372036854775808≤n∧n≤9223372036854775807:=by
 unfold Lit.wf
 simp[IntKind.min,IntKind.max,IntKind.signed,IntKind.bits]
def iz:Sh Evt:=jb 7 (fun e=>(evA e).toList) okE (fun _=>rfl) (by
 intro e u hu
 simp at hu
 rcases hu with rfl | rfl | rfl | rfl | rfl | rfl | rfl<;>rfl)
theorem gC (ad:Addr) (j:Nat) (h:0<j):ad.add j=⟨ad.block,ad.off+j,none⟩:=by
 unfold Addr.add
 rw[if_neg (by omega)]
end
section
open Go.RowKit
abbrev Ent:Type:=Nat×TypeId×Array Value
def Kept (w0 W:World) (L:List Ent):Prop:=
 Below w0.heap.size w0 W∧(∀ x ∈ L,Blk W x.1 x.2.1 x.2.2∧w0.heap.size≤x.1)∧L.Pairwise (fun x y=>y.1<x.1)
section
variable {w0 W W':World} {L:List Ent} {g:Nat} {t:TypeId} {cs:Array Value}
theorem Kept.start (w:World):Kept w w []:=⟨Below.refl _ _,by simp,List.Pairwise.nil⟩
theorem Kept.bel (h:Kept w0 W L):Below w0.heap.size w0 W:=h.1
theorem Kept.size (h:Kept w0 W L):w0.heap.size≤W.heap.size:=h.1.size
theorem Kept.next (h:Kept w0 W L) (b:Below W.heap.size W W'):Kept w0 W' L:=
 ⟨h.1.trans (b.mono h.1.size),fun x a=>⟨(h.2.1 x a).1.below b (h.2.1 x a).1.lt,(h.2.1 x a).2⟩,h.2.2⟩
theorem Kept.alloc (h:Kept w0 W L) (t:TypeId) (cs:Array Value):Kept w0 (W.alloc (.cells cs t)) ((W.heap.size,t,cs)::L):=by
 refine⟨h.1.alloc h.1.size _,fun x a=>?_,List.Pairwise.cons (fun y hy=>(h.2.1 y hy).1.lt) h.2.2⟩
 rcases List.mem_cons.1 a with rfl | a
 ·exact⟨Blk.new W t cs,h.1.size⟩
 ·exact⟨(h.2.1 x a).1.alloc _,(h.2.1 x a).2⟩
theorem Kept.alloc_at (h:Kept w0 W L) (t:TypeId) (cs:Array Value) (g:Nat) (a:W.heap.size=g):Kept w0 (W.alloc (.cells cs t)) ((g,t,cs)::L):=a ▸ h.alloc t cs
theorem Kept.alloc_off (h:Kept w0 W L) (o:Obj):Kept w0 (W.alloc o) L:=
 ⟨h.1.alloc h.1.size _,fun x a=>⟨(h.2.1 x a).1.alloc _,(h.2.1 x a).2⟩,h.2.2⟩
theorem Kept.drew (h:Kept w0 W L):Kept w0 W.drew L:=⟨h.1.drew,h.2.1,h.2.2⟩
theorem Kept.blk (h:Kept w0 W L) (i:Nat) (a:L[i]?=some (g,t,cs)):Blk W g t cs:=(h.2.1 _ (List.mem_of_getElem? a)).1
theorem Kept.cell (h:Kept w0 W L) (i:Nat) (a:L[i]?=some (g,t,cs)) (j:Nat):W.cell? ⟨g,j,none⟩=cs[j]?:=(h.blk i a).cell j
theorem Kept.frozen (h:Kept w0 W L) (i:Nat) (a:L[i]?=some (g,t,cs)) (j:Nat):W.frozen? ⟨g,j,none⟩=false:=(h.blk i a).frozen j
theorem Kept.lt (h:Kept w0 W L) (i:Nat) (a:L[i]?=some (g,t,cs)):g<W.heap.size:=(h.blk i a).lt
theorem Kept.ge (h:Kept w0 W L) (i:Nat) (a:L[i]?=some (g,t,cs)):w0.heap.size≤g:=(h.2.1 _ (List.mem_of_getElem? a)).2
theorem Kept.ord (h:Kept w0 W L) (i j:Nat) (a:i<j) {x y:Ent} (e:L[i]?=some x) (d:L[j]?=some y):y.1<x.1:=by
 obtain⟨c,rfl⟩:=List.getElem?_eq_some_iff.1 e
 obtain⟨b,rfl⟩:=List.getElem?_eq_some_iff.1 d
 exact List.pairwise_iff_getElem.1 h.2.2 i j c b a
theorem Kept.turn (h:Kept w0 W L) (i:Nat) (f:L[i]?=some (g,t,cs)) (cs':Array Value) (hB:Below w0.heap.size w0 W') (n:Blk W' g t cs') (o:∀ x ∈ L,x.1≠g→Blk W x.1 x.2.1 x.2.2→Blk W' x.1 x.2.1 x.2.2):Kept w0 W' (L.set i (g,t,cs')):=by
 refine⟨hB,fun x s=>?_,?_⟩
 ·obtain⟨j,d⟩:=List.mem_iff_getElem?.1 s
  rw[List.getElem?_set]at d
  by_cases c:i=j
  ·subst c
   have e:i<L.length:=(List.getElem?_eq_some_iff.1 f).1
   simp[e]at d
   subst d
   exact⟨n,h.ge i f⟩
  ·rw[if_neg c]at d
   have k:=h.2.1 x (List.mem_of_getElem? d)
   refine⟨o x (List.mem_of_getElem? d) ?_ k.1,k.2⟩
   rcases Nat.lt_or_ge i j with l | p
   ·have:=h.ord i j l f d;simp only at this;omega
   ·have:=h.ord j i (by omega) d f;simp only at this;omega
 ·have q:(L.set i (g,t,cs')).map (fun x:Ent=>x.1)=L.map (fun x:Ent=>x.1):=by
   apply List.ext_getElem?
   intro j
   simp only[List.getElem?_map,List.getElem?_set]
   by_cases c:i=j
   ·subst c
    have e:i<L.length:=(List.getElem?_eq_some_iff.1 f).1
    simp[e]
    obtain⟨_,r⟩:=List.getElem?_eq_some_iff.1 f
    rw[r]
   ·rw[if_neg c]
  have m:(L.map (fun x:Ent=>x.1)).Pairwise (fun a b=>b<a):=List.pairwise_map.2 h.2.2
  rw[←q]at m
  exact List.pairwise_map.1 m
theorem Kept.set_ (h:Kept w0 W L) (i:Nat) (b:L[i]?=some (g,t,cs)) (o:Nat) (u:Value):Kept w0 (W.setCell ⟨g,o,none⟩ u) (L.set i (g,t,cs.setIfInBounds o u)):=
 h.turn i b _ (h.1.setCell (by simpa using h.ge i b) u) ((h.blk i b).set_ o u) (fun x _ a c=>c.far (by simpa using a) u)
theorem pT {base:Nat} {e:TypeId} {size n:Nat} {v:Value} {xs:List Value} (h:W.ownsRow base e size v n xs):∀ g,v.ownBlock=some g→base≤g∧g<W.heap.size:=by
 intro g a
 rcases h.2 with⟨rfl,_⟩ | ⟨g',cap,cur,rfl,b,hh,_⟩
 ·simp[Value.ownBlock]at a
 ·have e:g'=g:=by simpa [Value.ownBlock] using a
  subst e
  exact⟨b,Blk.lt hh⟩
theorem uo {base:Nat} {e:TypeId} {size n:Nat} {v:Value} {xs:List Value} (h:W.ownsRow base e size v n xs) {p:Addr} (c:v.ownBlock≠some p.block) (u:Value):(W.setCell p u).ownsRow base e size v n xs:=by
 rcases h with⟨b,a | ⟨g,cap,cur,a,f,i,d⟩⟩
 ·exact⟨b,.inl a⟩
 ·refine⟨b,.inr ⟨g,cap,cur,a,f,(Below.heap_setCell W p u g ?_).trans i,d⟩⟩
  rintro rfl
  subst a
  exact c (by simp[Value.ownBlock])
end
end
section
open Go.ChangeShapes Go.WideShapes Go.ChangeAt Go.RowKit Go.Deep
theorem add_pos (a:Addr) (j:Nat) (h:j≠0):a.add j=⟨a.block,a.off+j,none⟩:=by unfold Addr.add;rw[if_neg h]
abbrev jq (e:Int×Int):Array Value:=#[.int .i64 e.1,.int .i64 e.2]
def aB (cs:List (Int×Int)):List Value:=cs.flatMap (fun e=>(jq e).toList)
theorem aU (e:Int×Int) (l:List (Int×Int)):aB (e::l)=(jq e).toList++aB l:=by simp[aB]
theorem mW (a b:List (Int×Int)):aB (a++b)=aB a++aB b:=by simp[aB]
theorem cP (cs:List (Int×Int)):(aB cs).length=cs.length*2:=by
 induction cs with
 | nil=>rfl
 | cons e l ih=>rw[aU,List.length_append,ih,List.length_cons];simp;omega
theorem qh (cs:List (Int×Int)):∀ u ∈ aB cs,u.oneCell'=true:=by
 intro u a
 simp only[aB,List.mem_flatMap]at a
 obtain⟨e,_,a⟩:=a
 simp at a
 rcases a with rfl | rfl<;>rfl
theorem jR:∀ (cs:List (Int×Int)) (i:Nat) (e:Int×Int),cs[i]?=some e → ∀ j u,(jq e)[j]?=some u→(aB cs)[i*2+j]?=some u
 | [],i,e,h,_,_,_=>by simp at h
 | x::l,0,e,h,j,u,hu=>by
   simp at h;subst h
   rw[aU,Nat.zero_mul,Nat.zero_add]
   have a:j<2:=by
    rcases Nat.lt_or_ge j 2 with h | h
    ·exact h
    ·rw[Array.getElem?_eq_none (by simpa using h)]at hu;cases hu
   rw[List.getElem?_append_left (by simpa using a)]
   simpa using hu
 | x::l,i+1,e,h,j,u,hu=>by
   rw[aU,List.getElem?_append_right (by simp;omega)]
   rw[show(i+1)*2+j-(jq x).toList.length=i*2+j from by simp;omega]
   exact jR l i e (by simpa using h) j u hu
theorem sk {w:World} {B n i:Nat} {A:Option Addr} {cs:List (Int×Int)} (h:Reads w B 2 A n (aB cs)) (g:i<n):
 ∃ (ad:Addr) (e:Int×Int),A=some ad∧ad.block<B∧cs[i]?=some e∧w.cell? (ad.add (i*2))=some (.int .i64 e.1)∧w.cell? ⟨(ad.add (i*2)).block,(ad.add (i*2)).off+1,none⟩=some (.int .i64 e.2):=by
 have k:cs.length=n:=by have:=h.1;rw[cP]at this;omega
 obtain⟨ad,rfl,c,d⟩:=h.2 (by omega)
 obtain⟨e,b⟩:∃ e,cs[i]?=some e:=⟨_,List.getElem?_eq_getElem (by omega)⟩
 have q:∀ j u,(jq e)[j]?=some u→w.cell? ((ad.add (i*2)).add j)=some u:=fun j u f=>by rw[cB];exact d _ u (jR cs i e b j u f)
 have a:=q 1 _ rfl
 rw[add_pos _ 1 (by omega)]at a
 exact⟨ad,e,rfl,c,b,q 0 _ rfl,a⟩
theorem Reads.cell_len {w:World} {B n:Nat} {A:Option Addr} {cs:List (Int×Int)} (h:Reads w B 2 A n (aB cs)):cs.length=n:=by have:=h.1;rw[cP]at this;omega
theorem Tryz.infoCell:(Tryz.prog.info? 220).map (fun i=>(i.zero,i.size,i.bytes))=some (some (.agg #[.int .i64 0,.int .i64 0]),2,16):=by kernel_rfl
section
variable {H:Type} {enc:TypeId×Value→H}
end
section
variable {H:Type} {enc:TypeId×Value→H}
end
section
variable {H:Type} {enc:TypeId×Value→H}
end
end
section
open Go.RowKit
def hold (n:Int):Int:=if n<0 then 0 else if 1099511627776<n then 1099511627776 else n
def up (a b:Int):Int:=hold (hold a+hold b)
theorem kC (n:Int):0≤hold n:=by unfold hold;split<;>(try split)<;>omega
theorem kN (n:Int):hold n≤1099511627776:=by unfold hold;split<;>(try split)<;>omega
theorem DP (n:Int) (a:0≤n) (b:n≤1099511627776):hold n=n:=by unfold hold;rw[if_neg (by omega),if_neg (by omega)]
theorem rf (n:Int):hold (hold n)=hold n:=DP _ (kC n) (kN n)
theorem Gk (a b:Int):0≤up a b:=kC _
theorem GA (a b:Int):up a b≤1099511627776:=kN _
theorem lW {k:IntKind} {a b:Int} (h:a=b):Ending.returned (.int k a) = .returned (.int k b):=by rw[h]
theorem dF {a b:Bool} (h:a=b):Ending.returned (.bool a) = .returned (.bool b):=by rw[h]
theorem mZ (n:Int) (w:World):Calls Tryz.prog 244 #[.int .i64 n] w fun e w'=>e = .returned (.int .i64 (hold n))∧w=w':=by
 go_enter Tryz.func244,Tryz.ntmps244
 go_wp2
 all_goals
  go_ret
  refine⟨lW ?_,rfl⟩
  unfold hold
  repeat' split
  all_goals omega
theorem nT (a b:Int) (w:World):Calls Tryz.prog 221 #[.int .i64 a,.int .i64 b] w fun e w'=>e = .returned (.int .i64 (up a b))∧w=w':=by
 have:=kC a;have:=kC b;have:=kN a;have:=kN b
 go_enter Tryz.func221,Tryz.ntmps221
 go_wp2_with (go_at_call 244;refine(mZ _ _).mono ?_;rintro e w' ⟨rfl,rfl⟩)
 go_ret
 exact⟨rfl,rfl⟩
end
section
open Go.RowKit Go.ChangeShapes
def bM (n:Int):Bool:=decide (0≤n∧n≤1099511627776)
theorem me (n:Int) (w:World):Calls Tryz.prog 216 #[.int .i64 n] w fun e w'=>e = .returned (.bool (bM n))∧w=w':=by
 go_enter Tryz.func216,Tryz.ntmps216
 go_wp2
 all_goals
  go_ret
  refine⟨dF ?_,rfl⟩
  unfold bM
  first | (symm;rw[decide_eq_false_iff_not];omega) | (rw[Bool.eq_iff_iff,decide_eq_true_eq,decide_eq_true_eq];omega)
def nM (n:Int):Bool:=bM n
theorem uU (n:Int):(n == hold n)=nM n:=by
 unfold nM bM hold
 rw[Bool.eq_iff_iff,beq_iff_eq,decide_eq_true_eq]
 split
 ·omega
 ·split<;>omega
def bX (c:Int×Int):Bool := !(nM c.1) || !(nM c.2)
theorem Bu (n:Int) (w:World):Calls Tryz.prog 266 #[.int .i64 n] w fun e w'=>e = .returned (.bool (nM n))∧w=w':=by
 go_enter Tryz.func266,Tryz.ntmps266
 go_wp2_with (go_at_call 244;refine(mZ _ _).mono ?_;rintro e w' ⟨rfl,rfl⟩)
 go_ret
 exact⟨dF (uU n),rfl⟩
theorem DR (c:Int×Int) (g:Nat) (W:World) (b:Blk W g 120 #[.func (.func 266) #[] #[]]):Calls Tryz.prog 267 #[.agg (jq c),.pointer (some ⟨g,0,none⟩)] W fun e w'=>e = .returned (.bool (bX c))∧Below W.heap.size W w':=by
 have h:=Lib.hid (b.alloc (.cells (jq c) 220))
 have d:=Lib.hid ((Below.refl W.heap.size W).alloc (Nat.le_refl _) (.cells (jq c) 220))
 clear b
 have c0:(W.alloc (.cells (jq c) 220)).cell? ⟨g,0,none⟩=some (.func (.func 266) #[] #[]):=h.out.cell 0
 go_enter Tryz.func267,Tryz.ntmps267
 go_wp2_with fail
 refine(Bu _ _).mono ?_
 rintro e f ⟨rfl,rfl⟩
 cases h1:nM c.1
 ·have a:=Lib.hid (show bX c=true from by unfold bX;rw[h1];rfl)
  clear h1
  go_wp2
  go_ret
  exact⟨dF a.out.symm,d.out⟩
 ·go_wp2_with fail
  refine(Bu _ _).mono ?_
  rintro e f ⟨rfl,rfl⟩
  have a:=Lib.hid (show bX c = !(nM c.2) from by unfold bX;rw[h1];rfl)
  clear h1
  go_wp2
  go_ret
  exact⟨dF a.out.symm,d.out⟩
theorem any_false {cs:List (Int×Int)} {n:Nat} (c:cs.length=n) (h:∀ (j:Nat) e,j<n→cs[j]?=some e→bX e=false):cs.any bX=false:=by
 rw[List.any_eq_false]
 intro e b
 obtain⟨j,a⟩:=List.mem_iff_getElem?.1 b
 rw[h j e (by have:=(List.getElem?_eq_some_iff.1 a).1;omega) a]
 simp
theorem any_true {cs:List (Int×Int)} {k:Nat} {e:Int×Int} (h:cs[k]?=some e) (a:bX e=true):cs.any bX=true:=by
 rw[List.any_eq_true]
 exact⟨e,List.mem_of_getElem? h,a⟩
theorem DE (A:Option Addr) (n c B:Nat) (cs:List (Int×Int)) (g:Nat) (W:World) (m:Reads W B 2 A n (aB cs)) (hB:B≤W.heap.size) (I:n≤1000000) (q:Blk W g 120 #[.func (.func 266) #[] #[]]):Calls Tryz.prog 279 #[.slice A n c,(.func (.func 267) #[] #[.pointer (some ⟨g,0,none⟩)])] W fun e w' => ∃ r:Int,e = .returned (.int .i64 r)∧decide (0≤r)=cs.any bX∧Below W.heap.size W w':=by
 have C:=Lib.hid (m.more hB)
 have y:=Lib.hid m.cell_len
 have t:=Lib.hid q
 clear m q
 go_enter Tryz.func279,Tryz.ntmps279
 go_wp2
 go_loopw [8] (fun i wr => ∃ (k:Nat),k≤n∧i = .int .i64 k∧Hid (∀ (j:Nat) e,j<k→cs[j]?=some e→bX e=false)∧Hid (Below W.heap.size W wr)) (fun i _=>n-(intOf i).toNat)
 case atStart=>exact⟨0,Nat.zero_le _,rfl,Lib.hid (fun j e v=>absurd v (by omega)),Lib.hid (Below.refl _ _)⟩
 case round=>
  obtain⟨k,E,rfl,s,b⟩:=hrel
  by_cases p:k<n
  ·obtain⟨ad,e,rfl,D,w,x,z⟩:=sk (C.out.below b.out) p
   have u:=Lib.hid w
   have H:(0:Int)≤(k:Int):=by omega
   have G:(k:Int)<(n:Int):=by omega
   clear w
   go_wp2_with fail
   refine(DR e g wr (t.out.below b.out t.out.lt)).mono ?_
   rintro e' F ⟨rfl,f⟩
   have d:=Lib.hid (b.out.trans (f.mono b.out.size))
   clear f b x z
   cases hw:bX e
   ·have h:=Lib.hid (show ∀ (j:Nat) e,j<k+1→cs[j]?=some e→bX e=false from fun j e' v a=>by
     by_cases o:j<k
     ·exact s.out j e' o a
     ·obtain rfl:j=k:=by omega
      rw[u.out]at a;injection a with a;subst a;exact hw)
    clear hw
    go_wp2
    exact⟨⟨k+1,by omega,rfl,h,d⟩,by simp[intOf];omega⟩
   ·have l:=Lib.hid (any_true u.out hw)
    clear hw
    go_wp2
    go_ret
    exact⟨_,rfl,by rw[l.out,decide_eq_true_eq];omega,d.out⟩
  ·obtain rfl:n=k:=by omega
   have l:=Lib.hid (any_false y.out s.out)
   go_wp2
   go_ret
   exact⟨_,rfl,by rw[l.out];rfl,b.out⟩
theorem vL (A:Option Addr) (n c B:Nat) (cs:List (Int×Int)) (g:Nat) (W:World) (a:Reads W B 2 A n (aB cs)) (hB:B≤W.heap.size) (i:n≤1000000) (b:Blk W g 120 #[.func (.func 266) #[] #[]]):Calls Tryz.prog 268 #[.slice A n c,(.func (.func 267) #[] #[.pointer (some ⟨g,0,none⟩)])] W fun e w'=>e = .returned (.bool (cs.any bX))∧Below W.heap.size W w':=by
 have j:=Lib.hid a
 have h:=Lib.hid b
 clear a b
 go_enter Tryz.func268,Tryz.ntmps268
 go_wp2_with fail
 refine(DE A n c B cs g _ j.out hB i h.out).mono ?_
 rintro e k ⟨r,rfl,a,f⟩
 have d:=Lib.hid a
 clear a
 go_wp2
 go_ret
 exact⟨dF d.out,f⟩
def cJ (wd sl:Int) (cs:List (Int×Int)):Bool:=decide (1≤wd∧wd≤2147483647∧0≤sl∧sl≤1099511627776∧1≤cs.length∧cs.length≤16) && !(cs.any bX)
abbrev DG (wd sl:Int) (A:Option Addr) (n c:Nat):Array Value:=#[.int .i64 wd,.int .i64 sl,.slice A n c]
set_option maxHeartbeats 1000000 in
theorem tX (wd sl:Int) (A:Option Addr) (n c B:Nat) (cs:List (Int×Int)) (W:World) (j:Reads W B 2 A n (aB cs)) (hB:B≤W.heap.size) (s:n≤9223372036854775807):Calls Tryz.prog 245 #[.agg (DG wd sl A n c)] W fun e w'=>e = .returned (.bool (cJ wd sl cs))∧Below W.heap.size W w':=by
 have p:=Lib.hid j
 have b:=Lib.hid (show cJ wd sl cs=(decide (1≤wd∧wd≤2147483647∧0≤sl∧sl≤1099511627776∧1≤n∧n≤16) && !(cs.any bX)) from by unfold cJ;rw[j.cell_len])
 generalize cJ wd sl cs=res at b ⊢
 clear j
 have a:Hid (Kept W (W.alloc (.cells #[.int .i64 wd,.int .i64 sl,.slice A n c] 87)) [(W.heap.size,87,#[.int .i64 wd,.int .i64 sl,.slice A n c])]):=((Kept.start W).alloc_at 87 #[.int .i64 wd,.int .i64 sl,.slice A n c] (W.heap.size) (by simp))
 by_cases g:wd<1
 ·have q:decide (wd<1)=true:=by simpa using g
  have d:=Lib.hid (show res=false from by rw[b.out,decide_eq_false (by omega),Bool.false_and])
  clear b
  go_enter Tryz.func245,Tryz.ntmps245
  go_wp2
  go_ret
  exact⟨dF d.out.symm,a.out.bel⟩
 have q:decide (wd<1)=false:=by simpa using g
 by_cases g:2147483647<wd
 ·have o:decide (2147483647<wd)=true:=by simpa using g
  have d:=Lib.hid (show res=false from by rw[b.out,decide_eq_false (by omega),Bool.false_and])
  clear b
  go_enter Tryz.func245,Tryz.ntmps245
  go_wp2
  go_ret
  exact⟨dF d.out.symm,a.out.bel⟩
 have o:decide (2147483647<wd)=false:=by simpa using g
 go_enter Tryz.func245,Tryz.ntmps245
 go_wp2_with fail
 refine(me sl _).mono ?_
 rintro e r ⟨rfl,rfl⟩
 cases ht:bM sl
 ·have d:=Lib.hid (show res=false from by unfold bM at ht;rw[decide_eq_false_iff_not]at ht;rw[b.out,decide_eq_false (by omega),Bool.false_and])
  clear b ht
  go_wp2
  go_ret
  exact⟨dF d.out.symm,a.out.bel⟩
 unfold bM at ht
 rw[decide_eq_true_eq]at ht
 by_cases g:n<1
 ·have l:decide ((n:Int)<1)=true:=by simp;omega
  have d:=Lib.hid (show res=false from by rw[b.out,decide_eq_false (by omega),Bool.false_and])
  clear b
  go_wp2
  go_ret
  exact⟨dF d.out.symm,a.out.bel⟩
 have l:decide ((n:Int)<1)=false:=by simp;omega
 by_cases g:16<n
 ·have m:decide ((16:Int)<(n:Int))=true:=by simp;omega
  have d:=Lib.hid (show res=false from by rw[b.out,decide_eq_false (by omega),Bool.false_and])
  clear b
  go_wp2
  go_ret
  exact⟨dF d.out.symm,a.out.bel⟩
 have m:decide ((16:Int)<(n:Int))=false:=by simp;omega
 have d:=Lib.hid (show res = !(cs.any bX) from by rw[b.out,decide_eq_true (by omega),Bool.true_and])
 clear b
 have f:Hid (Kept W ((W.alloc (.cells #[.int .i64 wd,.int .i64 sl,.slice A n c] 87)).alloc (.cells #[.func (.func 266) #[] #[]] 120)) [(W.heap.size+1,120,#[.func (.func 266) #[] #[]]),(W.heap.size,87,#[.int .i64 wd,.int .i64 sl,.slice A n c])]):=a.out.alloc_at 120 #[.func (.func 266) #[] #[]] (W.heap.size+1) (by simp)
 clear a
 go_wp2_with fail
 refine(vL A n c W.heap.size cs (W.heap.size+1) _ ((p.out.more hB).below f.out.bel) f.out.size (by omega) (f.out.blk 0 rfl)).mono ?_
 rintro e k ⟨rfl,h⟩
 have i:Hid (Kept W k [(W.heap.size+1,120,#[.func (.func 266) #[] #[]]),(W.heap.size,87,#[.int .i64 wd,.int .i64 sl,.slice A n c])]):=f.out.next h
 clear f
 clear h
 go_wp2
 go_ret
 exact⟨dF d.out.symm,i.out.bel⟩
end
section
open Go.RowKit Go.ChangeShapes
theorem tV (A:Option Addr) (n c B:Nat) (cs:List (Int×Int)) (w:World) (d:Reads w B 2 A n (aB cs)) (hB:B≤w.heap.size) (x:n≤1000000):
 Calls Tryz.prog 220 #[.slice A n c] w fun e w' => ∃ v,e = .returned v∧w'.ownsRow w.heap.size 220 2 v n (aB cs)∧Below w.heap.size w w':=by
 have q:∀ (w:World) (a:Option Addr) (n c n' c':Nat),(binOp .eql 85 (.slice a n c) (.slice none n' c')).run Tryz.prog w = .ok (.bool a.isNone) w:=fun w a n c n' c'=>Lib.run_eql_slice_nil w _ _ a n c n' c' Tryz.underlying85
 obtain⟨r,k,l,f,g⟩:=info_parts Tryz.infoCell
 rcases A with _ | ad
 ·have i:n=0:=by
   rcases Nat.eq_zero_or_pos n with h | h
   ·exact h
   ·obtain⟨_,h,_⟩:=d.2 h;cases h
  subst i
  have m:aB cs = []:=List.eq_nil_of_length_eq_zero (by simpa using d.1)
  have p:=Lib.hid m;clear m d
  go_enter Tryz.func220,Tryz.ntmps220
  go_wp2
  go_ret
  exact⟨_,rfl,⟨by rw[p.out];rfl,.inl ⟨rfl,rfl⟩⟩,Below.refl _ _⟩
 ·have s:=Lib.hid d;clear d
  go_enter Tryz.func220,Tryz.ntmps220
  go_wp2_with (at_builtin;go_must (refine bf _ rfl _ _ 85 rfl w.heap.size 220 r _ 2 16 Tryz.underlying85 k l f g rfl (by omega) _ 0 [] rfl (cY w 220 w.heap.size (Nat.le_refl _) 2) B (some ad) n c _ rfl (s.out.alloc hB _) (qh cs) (by unfold maxLen;omega) (by omega) (by simp) ?_);intro t u b j o)
  go_ret
  exact⟨t,rfl,by simpa using b,cX ((Below.refl _ _).alloc (Nat.le_refl _) _) j (cY w 220 w.heap.size (Nat.le_refl _) 2) (Nat.le_refl _) (by simp)⟩
end
section
open Go.RowKit Go.ChangeShapes
structure Wr where
 wd:Int
 sl:Int
 cs:List (Int×Int)
 err:Int
def eM (A0:Option Addr) (W:World) (r:Wr) (e:Ending) (w':World):Prop:=
 ∃ A n c,e = .returned (.tuple #[.agg (DG r.wd r.sl A n c),.int .i64 r.err])∧Reads w' w'.heap.size 2 A n (aB r.cs)∧Below W.heap.size W w' ∧ ∀ ad,A=some ad→A=A0∨W.heap.size≤ad.block
theorem Reads.lo {w:World} {B size n:Nat} {A:Option Addr} {xs:List Value} (h:Reads w B size A n xs):0<n → ∀ ad,A=some ad→ad.block<B:=fun c ad e=>by
 obtain⟨b,e',a,_⟩:=h.2 c
 rw[e]at e';injection e' with e';subst e';exact a
theorem eM.of {A0:Option Addr} {W:World} {r r':Wr} {e:Ending} {w':World} (h:r=r') (a:eM A0 W r' e w'):eM A0 W r e w':=h ▸ a
theorem qp {w:World} {g:Nat} {a b c a' b' c':Value} (h:Blk w g 87 #[a,b,c]):Blk (((w.setCell ⟨g,0,none⟩ a').setCell ⟨g,1,none⟩ b').setCell ⟨g,2,none⟩ c') g 87 #[a',b',c']:=((h.set_ 0 a').set_ 1 b').set_ 2 c'
theorem cS {B:Nat} {b w:World} {g:Nat} {a' b' c':Value} (h:Below B b w) (a:B≤g):Below B b (((w.setCell ⟨g,0,none⟩ a').setCell ⟨g,1,none⟩ b').setCell ⟨g,2,none⟩ c'):=((h.setCell (by simpa using a) _).setCell (by simpa using a) _).setCell (by simpa using a) _
theorem dr {w:World} {B g size n:Nat} {A:Option Addr} {xs:List Value} {a' b' c':Value} (h:Reads w B size A n xs) (i:0<n → ∀ ad,A=some ad→ad.block≠g):Reads (((w.setCell ⟨g,0,none⟩ a').setCell ⟨g,1,none⟩ b').setCell ⟨g,2,none⟩ c') B size A n xs:=by
 refine⟨h.1,fun d=>?_⟩
 obtain⟨ad,e,f,k⟩:=h.2 d
 refine⟨ad,e,f,fun j u l=>?_⟩
 have b:=i d ad e
 have c:∀ o,ad.add j≠⟨g,o,none⟩:=fun o a=>b (by rw[←aF ad j,a])
 rw[World.cell?_setCell_other _ _ _ _ (fun a=>c 2 a.symm),World.cell?_setCell_other _ _ _ _ (fun a=>c 1 a.symm),World.cell?_setCell_other _ _ _ _ (fun a=>c 0 a.symm)]
 exact k j u l
theorem wu (n:Nat):(madeCells #[.int .i64 0,.int .i64 0] (n*2)).toList=aB (List.replicate n (0,0)):=by
 apply List.ext_getElem?
 intro j
 rw[Array.getElem?_toList]
 by_cases b:j<n*2
 ·have a:(madeCells #[.int .i64 0,.int .i64 0] (n*2))[j]?=some (.int .i64 0):=by
   unfold madeCells
   rw[Array.getElem?_map,Array.getElem?_range,if_pos b]
   have:j%2=0∨j%2=1:=by omega
   rcases this with h | h<;>simp[h]
  rw[a]
  have c:(List.replicate n ((0:Int),(0:Int)))[j/2]?=some (0,0):=by rw[List.getElem?_replicate,if_pos (by omega)]
  have d:(jq (0,0))[j%2]?=some (.int .i64 0):=by
   have:j%2=0∨j%2=1:=by omega
   rcases this with h | h<;>rw[h]<;>rfl
  have:=jR _ (j/2) _ c (j%2) _ d
  rw[show j/2*2+j%2=j from by omega]at this
  exact this.symm
 ·rw[Array.getElem?_eq_none (by rw[size_madeCells];omega),List.getElem?_eq_none (by rw[cP,List.length_replicate];omega)]
theorem wX (w:World) (n:Nat):Reads (w.alloc (.cells (madeCells #[.int .i64 0,.int .i64 0] (n*2)) 220)) (w.heap.size+1) 2 (some ⟨w.heap.size,0,none⟩) n (aB (List.replicate n (0,0))):=by
 refine⟨by rw[cP,List.length_replicate],fun _=>⟨_,rfl,Nat.lt_succ_self _,fun j u a=>?_⟩⟩
 rw[add_plain,Nat.zero_add,(Blk.new w 220 _).cell j,←Array.getElem?_toList,wu]
 exact a
theorem BC (n:Nat) (f:n≤1000) (w:World):(Instr.makeSlice 85 (.int .i64 (n:Int)) (.int .i64 (n:Int))).run Tryz.prog w = .ok (.slice (some ⟨w.heap.size,0,none⟩) n n) (w.alloc (.cells (madeCells #[.int .i64 0,.int .i64 0] (n*2)) 220)):=by
 obtain⟨e,b,d,a,c⟩:=info_parts Tryz.infoCell
 have h:=lu (P:=Tryz.prog) 85 220 e (.agg #[.int .i64 0,.int .i64 0]) Tryz.underlying85 b d .i64 .i64 n n (Nat.le_refl _) (by rw[c];omega) (by omega) w
 rw[a]at h
 exact h
theorem wM {a wd:Int} (b:0≤a) (d:a≤1099511627776) (f:1≤wd):IntKind.i64.wrap (a.tdiv wd)=a/wd:=by
 rw[Int.tdiv_eq_ediv_of_nonneg b]
 have e:a/wd≤a:=Int.ediv_le_self wd b
 have c:0≤a/wd:=Int.ediv_nonneg b (by omega)
 exact IntWalk.i64_in _ (by omega)
def qi (wd k a:Int):Bool:=decide (1≤wd∧wd≤2147483647∧1≤k∧k≤16∧0≤a∧a≤1099511627776)
def newR (wd k a:Int):Wr:=if qi wd k a=true then⟨wd,a/wd,List.replicate k.toNat (0,0),0⟩ else⟨0,0,[],1⟩
theorem jv {wd k a:Int} (h:wd<1∨2147483647<wd∨k<1∨16<k∨bM a=false):newR wd k a=⟨0,0,[],1⟩:=by
 unfold newR
 rw[if_neg]
 unfold qi
 rw[decide_eq_true_eq]
 unfold bM at h
 rw[decide_eq_false_iff_not]at h
 omega
theorem EO {wd a:Int} {n:Nat} (c:¬ wd<1) (e:¬ 2147483647<wd) (d:¬ (n:Int)<1) (f:¬ 16<(n:Int)) (b:bM a=true):newR wd n a=⟨wd,a/wd,List.replicate n (0,0),0⟩:=by
 unfold newR
 rw[if_pos,Int.toNat_natCast]
 unfold qi
 unfold bM at b
 rw[decide_eq_true_eq]at *
 omega
theorem kH {W:World} {g:Nat} {x0 x1 x2:Value} (h:Blk W g 87 #[x0,x1,x2]) (tmps:Array Value) (u:Value) (c:tmps[6]?.getD undef = .pointer (some ⟨g,0,none⟩)) (b:tmps[7]?.getD undef=u):(results Tryz.f157 tmps).run Tryz.prog W = .ok (.tuple #[.agg #[x0,x1,x2],u]) W:=by
 have c0:W.cell? ⟨g,0,none⟩=some x0:=h.cell 0
 have a:W.cell? ⟨g,1,none⟩=some x1:=h.cell 1
 have d:W.cell? ⟨g,2,none⟩=some x2:=h.cell 2
 simp[results,Tryz.results157,go_sem,c,b,c0,a,d]
set_option maxHeartbeats 2000000 in
theorem CW (wd k a:Int) (W:World):Calls Tryz.prog 157 #[.int .i64 wd,.int .i64 k,.int .i64 a] W (eM none W (newR wd k a)):=by
 have c:Hid (Kept W (W.alloc (.cells #[.int .i64 0,.int .i64 0,.slice none 0 0] 87)) [(W.heap.size,87,#[.int .i64 0,.int .i64 0,.slice none 0 0])]):=((Kept.start W).alloc_at 87 #[.int .i64 0,.int .i64 0,.slice none 0 0] (W.heap.size) (by simp))
 by_cases q:wd<1
 ·have f:=Lib.hid (jv (wd:=wd) (k:=k) (a:=a) (by omega))
  have A:decide (wd<1)=true:=by simpa using q
  go_enter Tryz.func157,Tryz.ntmps157
  go_wp2
  exact bodyPost_ret (kH (c.out.blk 0 rfl) _ (.int .i64 1) rfl rfl) rfl (eM.of f.out ⟨none,0,0,rfl,Reads.none_,c.out.bel,fun ad e=>by cases e⟩)
 have A:decide (wd<1)=false:=by simpa using q
 by_cases p:2147483647<wd
 ·have f:=Lib.hid (jv (wd:=wd) (k:=k) (a:=a) (by omega))
  have F:decide (2147483647<wd)=true:=by simpa using p
  go_enter Tryz.func157,Tryz.ntmps157
  go_wp2
  exact bodyPost_ret (kH (c.out.blk 0 rfl) _ (.int .i64 1) rfl rfl) rfl (eM.of f.out ⟨none,0,0,rfl,Reads.none_,c.out.bel,fun ad e=>by cases e⟩)
 have F:decide (2147483647<wd)=false:=by simpa using p
 by_cases m:k<1
 ·have f:=Lib.hid (jv (wd:=wd) (k:=k) (a:=a) (by omega))
  have D:decide (k<1)=true:=by simpa using m
  go_enter Tryz.func157,Tryz.ntmps157
  go_wp2
  exact bodyPost_ret (kH (c.out.blk 0 rfl) _ (.int .i64 1) rfl rfl) rfl (eM.of f.out ⟨none,0,0,rfl,Reads.none_,c.out.bel,fun ad e=>by cases e⟩)
 have D:decide (k<1)=false:=by simpa using m
 by_cases o:16<k
 ·have f:=Lib.hid (jv (wd:=wd) (k:=k) (a:=a) (by omega))
  have x:decide (16<k)=true:=by simpa using o
  go_enter Tryz.func157,Tryz.ntmps157
  go_wp2
  exact bodyPost_ret (kH (c.out.blk 0 rfl) _ (.int .i64 1) rfl rfl) rfl (eM.of f.out ⟨none,0,0,rfl,Reads.none_,c.out.bel,fun ad e=>by cases e⟩)
 have x:decide (16<k)=false:=by simpa using o
 by_cases gt:bM a=true
 ·obtain⟨n,rfl⟩:∃ n:Nat,k=(n:Int):=⟨k.toNat,by omega⟩
  have f:=Lib.hid (EO q p m o gt)
  have t:0≤a∧a≤1099511627776:=by unfold bM at gt;rw[decide_eq_true_eq]at gt;exact gt
  have L:(wd == 0)=false:=by rw[beq_eq_false_iff_ne];omega
  have mk:=BC n (by omega)
  have B:=wM (a:=a) (wd:=wd) t.1 t.2 (by omega)
  have u:¬ wd=0:=by omega
  go_enter Tryz.func157,Tryz.ntmps157
  go_wp2_with fail
  refine(me a _).mono ?_
  rintro e w ⟨rfl,rfl⟩
  rw[gt]
  go_wp2_with fail
  refine wp_region_noPanic ?_
  refine wp_region_held_drew (S:=fun W'=>Below W.heap.size W W') (by kernel_rfl) c.out.drew.bel (fun b=>?_)
  have g:=Lib.hid c.out.drew
  generalize (W.alloc (.cells #[.int .i64 0,.int .i64 0,.slice none 0 0] 87)).drew=wd' at g b ⊢
  clear c
  refine tS 0 b ?_
  refine tS 1 b ?_
  refine tS 2 b ?_
  refine aG 3 (v := .int .i64 (a/wd)) rfl (by kernel_rfl) (by kernel_rfl) (by kernel_rfl) rfl (fun _ _ _ h=>h) (Or.inl ⟨by rfl,?y3u19⟩) b ?r3u19
  case y3u19=>(intro W r;(try dsimp only at r);go_simp)
  simp only[Act.put,sI,sZ,sS]
  refine tS 4 b ?_
  have d:=Lib.hid (g.out.alloc_off (.cells (madeCells #[.int .i64 0,.int .i64 0] (n*2)) 220))
  have j:=Lib.hid (wX wd' n)
  have E:=g.out.lt 0 rfl
  have l:=Lib.hid (show(wd'.alloc (.cells (madeCells #[.int .i64 0,.int .i64 0] (n*2)) 220)).heap.size=wd'.heap.size+1 from by simp)
  refine wpAnyH_ready (rs:=[5]) (by kernel_rfl) (by simp) ?_
  refine AllReadyH.cons rfl (fun K hK=>?_) AllReadyH.nil
  go_simp
  refine hK.out _ _ (b.alloc b.size _) (fun b=>?_)
  clear hK K
  try simp only[Act.put,sI,sZ,sS]
  generalize wd'.alloc (.cells (madeCells #[.int .i64 0,.int .i64 0] (n*2)) 220)=i at d j l b ⊢
  have z:=d.out.size
  refine tS 6 b ?_
  have I:i.cell? ⟨W.heap.size,0,none⟩=some (.int .i64 0):=d.out.cell 0 rfl 0
  have H:i.cell? ⟨W.heap.size,1,none⟩=some (.int .i64 0):=d.out.cell 0 rfl 1
  have J:i.cell? ⟨W.heap.size,2,none⟩=some (.slice none 0 0):=d.out.cell 0 rfl 2
  have y:i.frozen? ⟨W.heap.size,0,none⟩=false:=d.out.frozen 0 rfl 0
  have G:i.frozen? ⟨W.heap.size,1,none⟩=false:=d.out.frozen 0 rfl 1
  have C:i.frozen? ⟨W.heap.size,2,none⟩=false:=d.out.frozen 0 rfl 2
  refine wpAnyH_ready (rs:=[7]) (by kernel_rfl) (by simp) ?_
  refine AllReadyH.cons rfl (fun K hK=>?_) AllReadyH.nil
  go_simp
  refine hK.out _ _ (cS b (Nat.le_refl _)) (fun b=>?_)
  clear hK K
  try simp only[Act.put,sI,sZ,sS]
  refine tS 8 b ?_
  refine wpAnyH_done (by kernel_rfl) ?_ _
  refine NoPanic.normal ?_
  go_wp2
  exact bodyPost_ret (kH (qp (d.out.blk 0 rfl)) _ (.int .i64 0) rfl rfl) rfl (eM.of f.out ⟨_,n,n,rfl,(dr j.out (fun _ s e'=>by injection e' with e';subst e';simp;omega)).more (by have:=l.out;simp[World.setCell];omega),cS d.out.bel (Nat.le_refl _),fun s e'=>by injection e' with e';subst e';right;simp;have:=g.out.size;omega⟩)
 ·have gf:bM a=false:=by simpa using gt
  have f:=Lib.hid (jv (wd:=wd) (k:=k) (a:=a) (by simp[gf]))
  go_enter Tryz.func157,Tryz.ntmps157
  go_wp2_with fail
  refine(me a _).mono ?_
  rintro e w ⟨rfl,rfl⟩
  rw[gf]
  go_wp2
  exact bodyPost_ret (kH (c.out.blk 0 rfl) _ (.int .i64 1) rfl rfl) rfl (eM.of f.out ⟨none,0,0,rfl,Reads.none_,c.out.bel,fun ad e=>by cases e⟩)
end
section
def clr (cs:List (Int×Int)) (n:Int) (s0:Int):Nat→List (Int×Int)
 | 0=>cs
 | k+1=>(clr cs n s0 k).set ((s0+k)%n).toNat (0,0)
theorem ow (cs:List (Int×Int)) (n a:Int) (k:Nat):(clr cs n a k).length=cs.length:=by
 induction k with
 | zero=>rfl
 | succ k ih=>rw[clr,List.length_set,ih]
def dM (tz n:Int) (i:Nat):Int:=tz-(tz-(i:Int))%n
theorem mF {tz n:Int} {i:Nat} (c:0<n) (b:(i:Int)<n):tz-n<dM tz n i∧dM tz n i≤tz∧dM tz n i%n=i:=by
 unfold dM
 have d:=Int.emod_nonneg (tz-i) (by omega:n≠0)
 have e:=Int.emod_lt_of_pos (tz-i) c
 refine⟨by omega,by omega,?_⟩
 have a:tz-(tz-(i:Int))%n=i+n*((tz-i)/n):=by
  have:=Int.emod_add_mul_ediv (tz-i) n
  omega
 rw[a,Int.add_mul_emod_self_left]
 exact Int.emod_eq_of_lt (by omega) b
theorem rX {tz n s:Int} {i:Nat} (f:0<n) (e:(i:Int)<n) (j:tz-n<s) (k:s≤tz) (c:s%n=i):s=dM tz n i:=by
 obtain⟨l,g,b⟩:=mF (tz:=tz) f e
 have d:(s-dM tz n i)%n=0:=by rw[Int.sub_emod,c,b];simp
 have a:=Int.emod_add_mul_ediv (s-dM tz n i) n
 rw[d]at a
 rcases Int.lt_trichotomy ((s-dM tz n i)/n) 0 with h | h | h
 ·have:n*((s-dM tz n i)/n)≤n*(-1):=Int.mul_le_mul_of_nonneg_left (by omega) (by omega)
  omega
 ·rw[h]at a;omega
 ·have:n*1≤n*((s-dM tz n i)/n):=Int.mul_le_mul_of_nonneg_left (by omega) (by omega)
  omega
def lz (cs:List (Int×Int)) (sl tz:Int):List (Int×Int):=(List.range cs.length).map (fun i=>if sl<dM tz cs.length i then(0,0) else cs.getD i (0,0))
theorem iZ (cs:List (Int×Int)) (sl tz:Int):(lz cs sl tz).length=cs.length:=by simp[lz]
theorem Dx (cs:List (Int×Int)) (n b:Int) (k i:Nat) (e:i<cs.length):(clr cs n b k)[i]?=if ∃ j,j<k∧((b+(j:Int))%n).toNat=i then some (0,0) else cs[i]?:=by
 induction k with
 | zero=>rw[clr,if_neg (by rintro⟨j,h,_⟩;omega)]
 | succ k ih=>
   rw[clr,List.getElem?_set]
   by_cases h:((b+(k:Int))%n).toNat=i
   ·rw[if_pos h,if_pos (by rw[ow];omega),if_pos ⟨k,by omega,h⟩]
   ·rw[if_neg h,ih]
    by_cases g:∃ j,j<k∧((b+(j:Int))%n).toNat=i
    ·rw[if_pos g,if_pos (by obtain⟨j,c,a⟩:=g;exact⟨j,by omega,a⟩)]
    ·rw[if_neg g,if_neg (by
      rintro⟨j,c,a⟩
      by_cases d:j=k
      ·subst d;exact h a
      ·exact g ⟨j,by omega,a⟩)]
theorem yA (cs:List (Int×Int)) (sl tz:Int) (m:0≤sl) (d:sl<tz) (o:1≤cs.length):clr cs cs.length (max (sl+1) (tz-cs.length+1)) (tz-max (sl+1) (tz-cs.length+1)+1).toNat=lz cs sl tz:=by
 apply List.ext_getElem?
 intro i
 by_cases b:i<cs.length
 ·rw[Dx _ _ _ _ _ b,lz,List.getElem?_map,List.getElem?_range b,Option.map_some]
  obtain⟨l,e,c⟩:=mF (tz:=tz) (n:=(cs.length:Int)) (i:=i) (by omega) (by omega)
  have a:cs[i]?=some (cs.getD i (0,0)):=by rw[List.getD_eq_getElem?_getD,List.getElem?_eq_getElem b];rfl
  by_cases h:sl<dM tz cs.length i
  ·rw[if_pos h,if_pos ⟨(dM tz cs.length i-max (sl+1) (tz-cs.length+1)).toNat,by omega,by
    rw[show max (sl+1) (tz-(cs.length:Int)+1)+((dM tz cs.length i-max (sl+1) (tz-cs.length+1)).toNat:Int)=dM tz cs.length i from by omega,c];simp⟩]
  ·rw[if_neg h,if_neg (by
    rintro⟨j,f,g⟩
    have k:=Int.emod_nonneg (max (sl+1) (tz-(cs.length:Int)+1)+(j:Int)) (by omega:(cs.length:Int)≠0)
    have:=rX (tz:=tz) (n:=(cs.length:Int)) (i:=i) (s:=max (sl+1) (tz-cs.length+1)+(j:Int)) (by omega) (by omega) (by omega) (by omega) (by omega)
    omega),a]
 ·rw[List.getElem?_eq_none (by rw[ow];omega),List.getElem?_eq_none (by rw[iZ];omega)]
def fh (wd sl:Int) (cs:List (Int×Int)) (a:Int):Wr:=
 if(cJ wd sl cs&&bM a)=false then⟨wd,sl,cs,1⟩ else if a/wd≤sl then⟨wd,sl,cs,0⟩ else⟨wd,a/wd,lz cs sl (a/wd),0⟩
end
section
open Go.RowKit Go.ChangeShapes
theorem iq:∀ (cs:List (Int×Int)) (i:Nat) (x y:Int),((aB cs).set (i*2) (.int .i64 x)).set (i*2+1) (.int .i64 y)=aB (cs.set i (x,y))
 | [],i,x,y=>by simp[aB]
 | e::l,0,x,y=>by rw[aU,List.set_cons_zero,aU];simp
 | e::l,i+1,x,y=>by
   rw[aU,List.set_cons_succ,aU,←iq l i x y]
   rw[show(i+1)*2=i*2+2 from by omega]
   simp
theorem yc {W:World} {base g n cap i:Nat} {cs:List (Int×Int)} (h:W.ownsRow base 220 2 (.slice (some ⟨g,0,none⟩) n cap) n (aB cs)) (o:i<n) (x y:Int):
 ((W.setCell ⟨g,i*2,none⟩ (.int .i64 x)).setCell ⟨g,i*2+1,none⟩ (.int .i64 y)).ownsRow base 220 2 (.slice (some ⟨g,0,none⟩) n cap) n (aB (cs.set i (x,y))):=by
 have hlen:=h.1
 rcases h.2 with⟨e,_⟩ | ⟨g',cap',cur,c,b,d,k,m,j,l⟩
 ·cases e
 ·injection c with a p f
  injection a with a
  injection a with a
  subst a f
  refine⟨by rw[←iq,List.length_set,List.length_set,hlen],.inr ⟨g,cap,(cur.setIfInBounds (i*2) (.int .i64 x)).setIfInBounds (i*2+1) (.int .i64 y),rfl,b,Blk.set_ (Blk.set_ (t:=220) d (i*2) _) (i*2+1) _,k,m,by simp[j],?_⟩⟩
  rw[←iq,←l]
  simp only[Array.toList_setIfInBounds]
  rw[List.take_set,List.take_set]
theorem oX {W:World} {base g n cap i:Nat} {cs:List (Int×Int)} (h:W.ownsRow base 220 2 (.slice (some ⟨g,0,none⟩) n cap) n (aB cs)) (o:i<n):∃ x y,W.cell? ⟨g,i*2,none⟩=some (.int .i64 x)∧W.cell? ⟨g,i*2+1,none⟩=some (.int .i64 y)∧W.frozen? ⟨g,i*2,none⟩=false∧W.frozen? ⟨g,i*2+1,none⟩=false∧cs[i]?=some (x,y):=by
 have s:cs.length=n:=by have:=h.1;rw[cP]at this;omega
 obtain⟨e,b⟩:∃ e,cs[i]?=some e:=⟨_,List.getElem?_eq_getElem (by omega)⟩
 rcases h.2 with⟨e,_⟩ | ⟨g',cap',cur,d,m,f,q,u,p,l⟩
 ·cases e
 ·injection d with a r k
  injection a with a
  injection a with a
  subst a k
  have hB:Blk W g 220 cur:=f
  have c:∀ j,j<2→W.cell? ⟨g,i*2+j,none⟩=(aB cs)[i*2+j]?:=by
   intro j t
   rw[hB.cell,←l,List.getElem?_take,if_pos (by omega),Array.getElem?_toList]
  refine⟨e.1,e.2,?_,?_,hB.frozen _,hB.frozen _,b⟩
  ·have:=c 0 (by omega);rw[jR cs i e b 0 _ rfl]at this;exact this
  ·have:=c 1 (by omega);rw[jR cs i e b 1 _ rfl]at this;exact this
theorem iL {w:World} {B size n:Nat} {A:Option Addr} {xs:List Value} {p:Addr} (h:Reads w B size A n xs) (d:0<n → ∀ ad,A=some ad→ad.block≠p.block) (u:Value):Reads (w.setCell p u) B size A n xs:=by
 refine⟨h.1,fun b=>?_⟩
 obtain⟨ad,e,c,f⟩:=h.2 b
 refine⟨ad,e,c,fun j v i=>?_⟩
 have a:=d b ad e
 rw[World.cell?_setCell_other _ _ _ _ (fun g=>a (by rw[←aF ad j,g]))]
 exact f j v i
theorem Kept.put_off {b W:World} {L:List Ent} {p:Addr} (h:Kept b W L) (d:b.heap.size≤p.block) (c:∀ x ∈ L,x.1≠p.block) (u:Value):Kept b (W.setCell p u) L:=
 ⟨h.1.setCell d u,fun x a=>⟨(h.2.1 x a).1.far (c x a) u,(h.2.1 x a).2⟩,h.2.2⟩
theorem jr {W:World} {g:Nat} {x0 x1 x2:Value} (h:Blk W g 87 #[x0,x1,x2]) (tmps:Array Value) (u:Value) (c:tmps[4]?.getD undef = .pointer (some ⟨g,0,none⟩)) (b:tmps[5]?.getD undef=u):(results Tryz.f219 tmps).run Tryz.prog W = .ok (.tuple #[.agg #[x0,x1,x2],u]) W:=by
 have c0:W.cell? ⟨g,0,none⟩=some x0:=h.cell 0
 have a:W.cell? ⟨g,1,none⟩=some x1:=h.cell 1
 have d:W.cell? ⟨g,2,none⟩=some x2:=h.cell 2
 simp[results,Tryz.results219,go_sem,c,b,c0,a,d]
theorem ke {wd sl a:Int} {cs:List (Int×Int)} (h:(cJ wd sl cs&&bM a)=false):fh wd sl cs a=⟨wd,sl,cs,1⟩:=by unfold fh;rw[if_pos h]
theorem pV {wd sl a:Int} {cs:List (Int×Int)} (b:cJ wd sl cs=true) (c:bM a=true) (h:a/wd≤sl):fh wd sl cs a=⟨wd,sl,cs,0⟩:=by unfold fh;rw[if_neg (by rw[b,c];simp),if_pos h]
theorem uj {wd sl a:Int} {cs:List (Int×Int)} (b:cJ wd sl cs=true) (c:bM a=true) (h:¬ a/wd≤sl):fh wd sl cs a=⟨wd,a/wd,lz cs sl (a/wd),0⟩:=by unfold fh;rw[if_neg (by rw[b,c];simp),if_neg h]
theorem cI {wd sl:Int} {cs:List (Int×Int)} (h:cJ wd sl cs=true):1≤wd∧wd≤2147483647∧0≤sl∧sl≤1099511627776∧1≤cs.length∧cs.length≤16:=by
 unfold cJ at h
 rw[Bool.and_eq_true,decide_eq_true_eq]at h
 exact h.1
theorem jX {a:Int} (h:bM a=true):0≤a∧a≤1099511627776:=by unfold bM at h;rw[decide_eq_true_eq]at h;exact h
set_option maxHeartbeats 4000000 in
theorem Bk (wd sl:Int) (A:Option Addr) (n c B:Nat) (cs:List (Int×Int)) (a:Int) (W:World) (hr:Reads W B 2 A n (aB cs)) (hB:B≤W.heap.size) (hn:n≤9223372036854775807):Calls Tryz.prog 219 #[.agg (DG wd sl A n c),.int .i64 a] W (eM A W (fh wd sl cs a)):=by
 have V:=Lib.hid (hr.more hB)
 have Z:=Lib.hid hr.cell_len
 clear hr
 have I:Hid (Kept W ((W.alloc (.cells #[.int .i64 wd,.int .i64 sl,.slice A n c] 87)).alloc (.cells #[.int .i64 0,.int .i64 0,.slice none 0 0] 87)) [(W.heap.size+1,87,#[.int .i64 0,.int .i64 0,.slice none 0 0]),(W.heap.size,87,#[.int .i64 wd,.int .i64 sl,.slice A n c])]):=(((Kept.start W).alloc_at 87 #[.int .i64 wd,.int .i64 sl,.slice A n c] (W.heap.size) (by simp)).alloc_at 87 #[.int .i64 0,.int .i64 0,.slice none 0 0] (W.heap.size+1) (by simp))
 go_enter Tryz.func219,Tryz.ntmps219
 go_wp2_with fail
 with_reducible refine(tX wd sl A n c W.heap.size cs _ (V.out.below I.out.bel) I.out.size hn).mono ?_
 rintro e t ⟨rfl,Y⟩
 have b:Hid (Kept W t [(W.heap.size+1,87,#[.int .i64 0,.int .i64 0,.slice none 0 0]),(W.heap.size,87,#[.int .i64 wd,.int .i64 sl,.slice A n c])]):=I.out.next Y
 clear I
 clear Y
 cases hrt:cJ wd sl cs
 ·have L:=Lib.hid (ke (wd:=wd) (sl:=sl) (cs:=cs) (a:=a) (by rw[hrt];rfl))
  clear hrt
  have q:t.cell? ⟨W.heap.size,0,none⟩=some (.int .i64 wd):=b.out.cell 1 rfl 0
  have p:t.cell? ⟨W.heap.size,1,none⟩=some (.int .i64 sl):=b.out.cell 1 rfl 1
  have j:t.cell? ⟨W.heap.size,2,none⟩=some (.slice A n c):=b.out.cell 1 rfl 2
  have l:t.cell? ⟨W.heap.size+1,0,none⟩=some (.int .i64 0):=b.out.cell 0 rfl 0
  have h:t.frozen? ⟨W.heap.size+1,0,none⟩=false:=b.out.frozen 0 rfl 0
  have f:t.cell? ⟨W.heap.size+1,1,none⟩=some (.int .i64 0):=b.out.cell 0 rfl 1
  have o:t.frozen? ⟨W.heap.size+1,1,none⟩=false:=b.out.frozen 0 rfl 1
  have r:t.cell? ⟨W.heap.size+1,2,none⟩=some (.slice none 0 0):=b.out.cell 0 rfl 2
  have g:t.frozen? ⟨W.heap.size+1,2,none⟩=false:=b.out.frozen 0 rfl 2
  go_wp2
  exact bodyPost_ret (jr (qp (b.out.blk 0 rfl)) _ (.int .i64 1) rfl rfl) rfl (eM.of L.out ⟨A,n,c,rfl,((((V.out.below b.out.bel).setCell (by simp) _).setCell (by simp) _).setCell (by simp) _).more (by have:=b.out.size;simp[World.setCell];omega),cS b.out.bel (by omega),fun ad e=>.inl rfl⟩)
 ·have q:t.cell? ⟨W.heap.size,0,none⟩=some (.int .i64 wd):=b.out.cell 1 rfl 0
  have p:t.cell? ⟨W.heap.size,1,none⟩=some (.int .i64 sl):=b.out.cell 1 rfl 1
  have j:t.cell? ⟨W.heap.size,2,none⟩=some (.slice A n c):=b.out.cell 1 rfl 2
  have l:t.cell? ⟨W.heap.size+1,0,none⟩=some (.int .i64 0):=b.out.cell 0 rfl 0
  have h:t.frozen? ⟨W.heap.size+1,0,none⟩=false:=b.out.frozen 0 rfl 0
  have f:t.cell? ⟨W.heap.size+1,1,none⟩=some (.int .i64 0):=b.out.cell 0 rfl 1
  have o:t.frozen? ⟨W.heap.size+1,1,none⟩=false:=b.out.frozen 0 rfl 1
  have r:t.cell? ⟨W.heap.size+1,2,none⟩=some (.slice none 0 0):=b.out.cell 0 rfl 2
  have g:t.frozen? ⟨W.heap.size+1,2,none⟩=false:=b.out.frozen 0 rfl 2
  go_wp2_with fail
  refine(me a _).mono ?_
  rintro e w2 ⟨rfl,rfl⟩
  cases hta:bM a
  ·have L:=Lib.hid (ke (wd:=wd) (sl:=sl) (cs:=cs) (a:=a) (by rw[hrt,hta];rfl))
   clear hrt hta
   go_wp2
   exact bodyPost_ret (jr (qp (b.out.blk 0 rfl)) _ (.int .i64 1) rfl rfl) rfl (eM.of L.out ⟨A,n,c,rfl,((((V.out.below b.out.bel).setCell (by simp) _).setCell (by simp) _).setCell (by simp) _).more (by have:=b.out.size;simp[World.setCell];omega),cS b.out.bel (by omega),fun ad e=>.inl rfl⟩)
  obtain⟨r1,r2,r3,r4,r5,r6⟩:=cI hrt
  obtain⟨t1,t2⟩:=jX hta
  rw[Z.out]at r5 r6
  have ah:=wM (a:=a) (wd:=wd) t1 t2 r1
  have ao:¬ wd=0:=by omega
  have hq:(wd == 0)=false:=by rw[beq_eq_false_iff_ne];omega
  have ag:0≤a/wd:=Int.ediv_nonneg t1 (by omega)
  have ac:a/wd≤1099511627776:=Int.le_trans (Int.ediv_le_self wd t1) t2
  have N:=Lib.hid (pV (a:=a) hrt hta)
  have U:=Lib.hid (uj (a:=a) hrt hta)
  clear hrt hta
  generalize a/wd=tz at ah ag ac N U
  by_cases H:tz≤sl
  ·have dle:decide (tz≤sl)=true:=by simpa using H
   have L:=Lib.hid (N.out H)
   go_wp2
   exact bodyPost_ret (jr (qp (b.out.blk 0 rfl)) _ (.int .i64 0) rfl rfl) rfl (eM.of L.out ⟨A,n,c,rfl,((((V.out.below b.out.bel).setCell (by simp) _).setCell (by simp) _).setCell (by simp) _).more (by have:=b.out.size;simp[World.setCell];omega),cS b.out.bel (by omega),fun ad e=>.inl rfl⟩)
  have dle:decide (tz≤sl)=false:=by simpa using H
  have L:=Lib.hid (U.out H)
  clear N U
  go_wp2_with fail
  with_reducible refine(tV A n c W.heap.size cs _ (V.out.below b.out.bel) b.out.size (by omega)).mono ?_
  rintro e u ⟨v3,rfl,w,X⟩
  obtain⟨M,E,rfl,am,al⟩:=w.form (by omega)
  have K:=Lib.hid (dN (base':=W.heap.size+2) w (b.out.lt 0 rfl))
  clear w dle
  clear q p j l h f o r g
  have d:Hid (Kept W u [(W.heap.size+1,87,#[.int .i64 0,.int .i64 0,.slice none 0 0]),(W.heap.size,87,#[.int .i64 wd,.int .i64 sl,.slice A n c])]):=b.out.next X
  clear b
  clear X
  have J:=Lib.hid (yA cs sl tz r3 (by omega) (by rw[Z.out];exact r5))
  rw[Z.out]at J
  by_cases ap:sl<tz-(n:Int)
  ·rw[show max (sl+1) (tz-(n:Int)+1)=tz-(n:Int)+1 from by omega]at J
   obtain⟨cnt,v⟩:∃ m:Nat,(m:Int)=tz-(tz-(n:Int)+1)+1:=⟨(tz-(tz-(n:Int)+1)+1).toNat,by omega⟩
   rw[←v,Int.toNat_natCast]at J
   have q:u.cell? ⟨W.heap.size,0,none⟩=some (.int .i64 wd):=d.out.cell 1 rfl 0
   have p:u.cell? ⟨W.heap.size,1,none⟩=some (.int .i64 sl):=d.out.cell 1 rfl 1
   have j:u.cell? ⟨W.heap.size,2,none⟩=some (.slice A n c):=d.out.cell 1 rfl 2
   have l:u.cell? ⟨W.heap.size+1,0,none⟩=some (.int .i64 0):=d.out.cell 0 rfl 0
   have h:u.frozen? ⟨W.heap.size+1,0,none⟩=false:=d.out.frozen 0 rfl 0
   have f:u.cell? ⟨W.heap.size+1,1,none⟩=some (.int .i64 0):=d.out.cell 0 rfl 1
   have o:u.frozen? ⟨W.heap.size+1,1,none⟩=false:=d.out.frozen 0 rfl 1
   have r:u.cell? ⟨W.heap.size+1,2,none⟩=some (.slice none 0 0):=d.out.cell 0 rfl 2
   have g:u.frozen? ⟨W.heap.size+1,2,none⟩=false:=d.out.frozen 0 rfl 2
   go_wp2
   clear q p j l h f o r g
   generalize P:tz-(n:Int)+1=s0 at J v ⊢
   have b1:1≤s0:=by omega
   have b2:s0≤tz:=by omega
   clear P
   go_loopw [9] (fun i wr => ∃ (k:Nat),k≤cnt∧i = .int .i64 (s0+(k:Int))∧Hid (wr.ownsRow (W.heap.size+2) 220 2 (.slice (some ⟨M,0,none⟩) n E) n (aB (clr cs n s0 k)))∧Hid (Kept W wr [(W.heap.size+1,87,#[.int .i64 0,.int .i64 0,.slice none 0 0]),(W.heap.size,87,#[.int .i64 wd,.int .i64 sl,.slice A n c])])) (fun i _=>(tz+1-intOf i).toNat)
   case atStart=>exact⟨0,Nat.zero_le _,by simp,K,d⟩
   case round=>
    clear d K
    obtain⟨k,hk,rfl,z,s⟩:=hrel
    by_cases ae:k<cnt
    ·have dle:decide (s0+(k:Int)≤tz)=true:=by simp;omega
     have i1:(0:Int)≤(s0+(k:Int))%(n:Int):=Int.emod_nonneg _ (by omega)
     have i2:(s0+(k:Int))%(n:Int)<(n:Int):=Int.emod_lt_of_pos _ (by omega)
     have G:((s0+(k:Int))%(n:Int)).toNat<n:=by omega
     have ab:¬ (n:Int)=0:=by omega
     obtain⟨x,y,q0,q1,q2,q3,_⟩:=oX z.out G
     have Q:=Lib.hid (yc z.out G 0 0)
     have HS:=Lib.hid (show clr cs n s0 (k+1)=(clr cs n s0 k).set ((s0+(k:Int))%(n:Int)).toNat (0,0) from by rw[clr])
     have D:=Lib.hid (pT z.out M rfl)
     clear z
     go_wp2
     refine⟨⟨k+1,by omega,by rw[show s0+(k:Int)+1=s0+((k+1:Nat):Int) from by omega],by rw[HS.out];exact Q,Lib.hid ((s.out.put_off (by simp;have:=D.out;omega) (by intro x F;simp at F;have:=D.out;rcases F with rfl | rfl<;>simp<;>omega) _).put_off (by simp;have:=D.out;omega) (by intro x F;simp at F;have:=D.out;rcases F with rfl | rfl<;>simp<;>omega) _)⟩,by simp[intOf];omega⟩
    ·obtain rfl:k=cnt:=by omega
     have dle:decide (s0+(k:Int)≤tz)=false:=by simp;omega
     rw[J.out]at z
     have D:=Lib.hid (pT z.out M rfl)
     have q:wr.cell? ⟨W.heap.size,0,none⟩=some (.int .i64 wd):=s.out.cell 1 rfl 0
     have T:wr.frozen? ⟨W.heap.size,0,none⟩=false:=s.out.frozen 1 rfl 0
     have p:wr.cell? ⟨W.heap.size,1,none⟩=some (.int .i64 sl):=s.out.cell 1 rfl 1
     have O:wr.frozen? ⟨W.heap.size,1,none⟩=false:=s.out.frozen 1 rfl 1
     have j:wr.cell? ⟨W.heap.size,2,none⟩=some (.slice A n c):=s.out.cell 1 rfl 2
     have S:wr.frozen? ⟨W.heap.size,2,none⟩=false:=s.out.frozen 1 rfl 2
     have l:wr.cell? ⟨W.heap.size+1,0,none⟩=some (.int .i64 0):=s.out.cell 0 rfl 0
     have h:wr.frozen? ⟨W.heap.size+1,0,none⟩=false:=s.out.frozen 0 rfl 0
     have f:wr.cell? ⟨W.heap.size+1,1,none⟩=some (.int .i64 0):=s.out.cell 0 rfl 1
     have o:wr.frozen? ⟨W.heap.size+1,1,none⟩=false:=s.out.frozen 0 rfl 1
     have r:wr.cell? ⟨W.heap.size+1,2,none⟩=some (.slice none 0 0):=s.out.cell 0 rfl 2
     have g:wr.frozen? ⟨W.heap.size+1,2,none⟩=false:=s.out.frozen 0 rfl 2
     have R:=Lib.hid (Reads.of_own z.out)
     have C:∀ g',g'<W.heap.size+2→0<n → ∀ ad,some (⟨M,0,none⟩:Addr)=some ad→ad.block≠g':=fun g' h' _ ad e=>by injection e with e;subst e;have:=D.out;simp;omega
     go_wp2
     exact bodyPost_ret (jr (qp (((s.out.set_ 1 rfl 1 _).set_ 1 rfl 2 _).blk 0 rfl)) _ (.int .i64 0) rfl rfl) rfl (eM.of L.out ⟨_,n,E,rfl,by simp only[World.size_setCell];exact dr (iL (iL R.out (C _ (by simp)) _) (C _ (by simp)) _) (C _ (by simp)),cS ((s.out.set_ 1 rfl 1 _).set_ 1 rfl 2 _).bel (by omega),fun ad e=>.inr (by injection e with e;subst e;have:=D.out;simp;omega)⟩)
  ·rw[show max (sl+1) (tz-(n:Int)+1)=sl+1 from by omega]at J
   obtain⟨cnt,v⟩:∃ m:Nat,(m:Int)=tz-(sl+1)+1:=⟨(tz-(sl+1)+1).toNat,by omega⟩
   rw[←v,Int.toNat_natCast]at J
   have q:u.cell? ⟨W.heap.size,0,none⟩=some (.int .i64 wd):=d.out.cell 1 rfl 0
   have p:u.cell? ⟨W.heap.size,1,none⟩=some (.int .i64 sl):=d.out.cell 1 rfl 1
   have j:u.cell? ⟨W.heap.size,2,none⟩=some (.slice A n c):=d.out.cell 1 rfl 2
   have l:u.cell? ⟨W.heap.size+1,0,none⟩=some (.int .i64 0):=d.out.cell 0 rfl 0
   have h:u.frozen? ⟨W.heap.size+1,0,none⟩=false:=d.out.frozen 0 rfl 0
   have f:u.cell? ⟨W.heap.size+1,1,none⟩=some (.int .i64 0):=d.out.cell 0 rfl 1
   have o:u.frozen? ⟨W.heap.size+1,1,none⟩=false:=d.out.frozen 0 rfl 1
   have r:u.cell? ⟨W.heap.size+1,2,none⟩=some (.slice none 0 0):=d.out.cell 0 rfl 2
   have g:u.frozen? ⟨W.heap.size+1,2,none⟩=false:=d.out.frozen 0 rfl 2
   go_wp2
   clear q p j l h f o r g
   generalize P:sl+1=s0 at J v ⊢
   have b1:1≤s0:=by omega
   have b2:s0≤tz:=by omega
   clear P
   go_loopw [9] (fun i wr => ∃ (k:Nat),k≤cnt∧i = .int .i64 (s0+(k:Int))∧Hid (wr.ownsRow (W.heap.size+2) 220 2 (.slice (some ⟨M,0,none⟩) n E) n (aB (clr cs n s0 k)))∧Hid (Kept W wr [(W.heap.size+1,87,#[.int .i64 0,.int .i64 0,.slice none 0 0]),(W.heap.size,87,#[.int .i64 wd,.int .i64 sl,.slice A n c])])) (fun i _=>(tz+1-intOf i).toNat)
   case atStart=>exact⟨0,Nat.zero_le _,by simp,K,d⟩
   case round=>
    clear d K
    obtain⟨k,hk,rfl,z,s⟩:=hrel
    by_cases ae:k<cnt
    ·have dle:decide (s0+(k:Int)≤tz)=true:=by simp;omega
     have i1:(0:Int)≤(s0+(k:Int))%(n:Int):=Int.emod_nonneg _ (by omega)
     have i2:(s0+(k:Int))%(n:Int)<(n:Int):=Int.emod_lt_of_pos _ (by omega)
     have G:((s0+(k:Int))%(n:Int)).toNat<n:=by omega
     have ab:¬ (n:Int)=0:=by omega
     obtain⟨x,y,q0,q1,q2,q3,_⟩:=oX z.out G
     have Q:=Lib.hid (yc z.out G 0 0)
     have HS:=Lib.hid (show clr cs n s0 (k+1)=(clr cs n s0 k).set ((s0+(k:Int))%(n:Int)).toNat (0,0) from by rw[clr])
     have D:=Lib.hid (pT z.out M rfl)
     clear z
     go_wp2
     refine⟨⟨k+1,by omega,by rw[show s0+(k:Int)+1=s0+((k+1:Nat):Int) from by omega],by rw[HS.out];exact Q,Lib.hid ((s.out.put_off (by simp;have:=D.out;omega) (by intro x F;simp at F;have:=D.out;rcases F with rfl | rfl<;>simp<;>omega) _).put_off (by simp;have:=D.out;omega) (by intro x F;simp at F;have:=D.out;rcases F with rfl | rfl<;>simp<;>omega) _)⟩,by simp[intOf];omega⟩
    ·obtain rfl:k=cnt:=by omega
     have dle:decide (s0+(k:Int)≤tz)=false:=by simp;omega
     rw[J.out]at z
     have D:=Lib.hid (pT z.out M rfl)
     have q:wr.cell? ⟨W.heap.size,0,none⟩=some (.int .i64 wd):=s.out.cell 1 rfl 0
     have T:wr.frozen? ⟨W.heap.size,0,none⟩=false:=s.out.frozen 1 rfl 0
     have p:wr.cell? ⟨W.heap.size,1,none⟩=some (.int .i64 sl):=s.out.cell 1 rfl 1
     have O:wr.frozen? ⟨W.heap.size,1,none⟩=false:=s.out.frozen 1 rfl 1
     have j:wr.cell? ⟨W.heap.size,2,none⟩=some (.slice A n c):=s.out.cell 1 rfl 2
     have S:wr.frozen? ⟨W.heap.size,2,none⟩=false:=s.out.frozen 1 rfl 2
     have l:wr.cell? ⟨W.heap.size+1,0,none⟩=some (.int .i64 0):=s.out.cell 0 rfl 0
     have h:wr.frozen? ⟨W.heap.size+1,0,none⟩=false:=s.out.frozen 0 rfl 0
     have f:wr.cell? ⟨W.heap.size+1,1,none⟩=some (.int .i64 0):=s.out.cell 0 rfl 1
     have o:wr.frozen? ⟨W.heap.size+1,1,none⟩=false:=s.out.frozen 0 rfl 1
     have r:wr.cell? ⟨W.heap.size+1,2,none⟩=some (.slice none 0 0):=s.out.cell 0 rfl 2
     have g:wr.frozen? ⟨W.heap.size+1,2,none⟩=false:=s.out.frozen 0 rfl 2
     have R:=Lib.hid (Reads.of_own z.out)
     have C:∀ g',g'<W.heap.size+2→0<n → ∀ ad,some (⟨M,0,none⟩:Addr)=some ad→ad.block≠g':=fun g' h' _ ad e=>by injection e with e;subst e;have:=D.out;simp;omega
     go_wp2
     exact bodyPost_ret (jr (qp (((s.out.set_ 1 rfl 1 _).set_ 1 rfl 2 _).blk 0 rfl)) _ (.int .i64 0) rfl rfl) rfl (eM.of L.out ⟨_,n,E,rfl,by simp only[World.size_setCell];exact dr (iL (iL R.out (C _ (by simp)) _) (C _ (by simp)) _) (C _ (by simp)),cS ((s.out.set_ 1 rfl 1 _).set_ 1 rfl 2 _).bel (by omega),fun ad e=>.inr (by injection e with e;subst e;have:=D.out;simp;omega)⟩)
end
section
open Go.RowKit Go.ChangeShapes
theorem uE {cs:List (Int×Int)} {i:Nat} {e:Int×Int} (h:cs[i]?=some e):cs.getD i (0,0)=e:=by rw[List.getD_eq_getElem?_getD,h];rfl
end
end Go.Proofs.YtpokkciheejeiaaGreatDoor
