/- Lemmas and contracts that the proof of TopSegments uses, part 1 of 14: each is a theorem for every input that its premises allow. -/
import Derived.WalkKit
import Derived.Below
import Derived.Laws.OwnMore
import Derived.Deep.AppendLies
import Derived.Deep.Draws
import Derived.Laws.Rows
import Derived.Maps.AppendAt
import Derived.RegionTactic
import Derived.OwnWalk
import Derived.Deep.OwnRows
import Derived.Laws.AppendOwn
import Derived.Laws.MakeOwn
import Derived.Laws.Entries
import Derived.Deep.QuietTactic
import Derived.Lib.Hide
import Derived.ProofKit
import Derived.OpenShut
import Derived.ShutString
import Derived.ChangeOld
import Derived.JoinedOf
import Derived.RowKit
import Derived.RowKitTokens
import Derived.LaidLaws
import Derived.LaidHandle
import Derived.Stop.Joined
import Derived.Lib.LaidIn
import Derived.Test.YtpokkciheejeiaaGreatDoorRows
import Derived.Deep.RegionHeld3
import Derived.OneCell
import Derived.StillTailTactics
import Derived.Deep.WholeRow
import Derived.Deep.DeepCutAuto
import Derived.Deep.MidRow
import Derived.Deep.Slices
import Derived.Deep.Fields
import Derived.ChangeSame
import Derived.ChangeArms
import Derived.WalkLawsBesides
import Derived.WalkSpells
import Derived.Outline
import Derived.Laws.EntriesVeiled
import Derived.WideLaws
import Derived.Deep.DeepMust
import Derived.Lib.SlBytesConst
import Derived.Laws.IdiomStrings
set_option linter.unusedVariables false
set_option linter.unusedSimpArgs false
set_option maxRecDepth 100000
namespace Go.Proofs.YtpokkciheejeiaaGreatDoor
theorem sI {α : Type} (l : List α) (i : Nat) (a : α) : l.toArray.setIfInBounds i a = (l.set i a).toArray := List.setIfInBounds_toArray ..
theorem sZ {α : Type} {x : α} {xs : List α} {a : α} : (x :: xs).set 0 a = a :: xs := rfl
theorem sS {α : Type} {x : α} {xs : List α} {i : Nat} {a : α} : (x :: xs).set (i + 1) a = x :: xs.set i a := rfl
section
open Go.RowKit
theorem aO (a:Addr) (n:Nat):(a.add n).block=a.block:=by unfold Addr.add;split<;>rfl
theorem cN (a:Addr) (i j:Nat):(a.add i).add j=a.add (i+j):=by
 unfold Addr.add
 by_cases c:i=0<;>by_cases b:j=0<;>simp[c,b,Nat.add_assoc]
def Reads (w:World) (B size:Nat) (A:Option Addr) (n:Nat) (xs:List Value):Prop:=
 xs.length=n*size∧(0<n → ∃ ad,A=some ad∧ad.block<B ∧ ∀ j u,xs[j]?=some u→w.cell? (ad.add j)=some u)
section
variable {w w':World} {B B' size n:Nat} {A:Option Addr} {xs:List Value}
theorem Reads.none_:Reads w B size A 0 []:=⟨by simp,fun h=>absurd h (by omega)⟩
theorem Reads.at_ {k:Nat} (h:Reads w B 1 A n xs) (d:k<n):∃ ad u,A=some ad∧ad.block<B∧xs[k]?=some u∧w.cell? (ad.add k)=some u:=by
 obtain⟨ad,e,c,b⟩:=h.2 (by omega)
 have a:k<xs.length:=by have:=h.1;omega
 exact⟨ad,xs[k],e,c,List.getElem?_eq_getElem a,b k _ (List.getElem?_eq_getElem a)⟩
theorem Reads.keep (h:Reads w B size A n xs) (c:∀ p:Addr,p.block<B→w'.cell? p=w.cell? p):Reads w' B size A n xs:=
 ⟨h.1,fun hn=>by
  obtain⟨ad,e,a,b⟩:=h.2 hn
  exact⟨ad,e,a,fun j u d=>(c _ (by rw[aO];exact a)).trans (b j u d)⟩⟩
theorem Reads.more (h:Reads w B size A n xs) (hB:B≤B'):Reads w B' size A n xs:=
 ⟨h.1,fun hn=>by
  obtain⟨ad,e,b,a⟩:=h.2 hn
  exact⟨ad,e,by omega,a⟩⟩
theorem Reads.below (h:Reads w B size A n xs) (b:Below B w w'):Reads w' B size A n xs:=h.keep fun _ a=>b.cell a
theorem Reads.drew (h:Reads w B size A n xs):Reads w.drew B size A n xs:=h
theorem Reads.alloc (h:Reads w B size A n xs) (hB:B≤w.heap.size) (o:Obj):Reads (w.alloc o) B size A n xs:=h.keep fun p a=>World.cell?_alloc_lt w o p (by omega)
theorem Reads.setCell (h:Reads w B size A n xs) {p:Addr} (hB:B≤p.block) (u:Value):Reads (w.setCell p u) B size A n xs:=
 h.keep fun q a=>World.cell?_setCell_other w p q u (fun e=>by subst e;omega)
theorem Reads.cut (h:Reads w B size A n xs) {k cap:Nat} (d:k≤n) (c:n≤cap):
 Reads w B size (if cap=k then A else A.map (·.add (k*size))) (n-k) (xs.drop (k*size)):=by
 refine⟨by rw[List.length_drop,h.1,Nat.sub_mul],fun hn=>?_⟩
 obtain⟨ad,rfl,b,hcell⟩:=h.2 (by omega)
 rw[if_neg (by omega)]
 refine⟨ad.add (k*size),rfl,by rw[aO];exact b,fun j u a=>?_⟩
 rw[cN]
 exact hcell _ u (by rw[←a,List.getElem?_drop])
theorem Reads.of_own {base:Nat} {e:TypeId} {c:Nat} (h:w.ownsRow base e size (.slice A n c) n xs):Reads w w.heap.size size A n xs:=by
 refine⟨h.1,fun hn=>?_⟩
 obtain⟨g,cap,b,_,a⟩:=h.form hn
 have hA:A=some ⟨g,0,none⟩:=by injection b
 subst hA
 exact⟨_,rfl,a,h.cells (g:=g) rfl⟩
end
def Blk (w:World) (g:Nat) (t:TypeId) (cs:Array Value):Prop:=w.heap[g]?=some (.cells cs t (0,0))
section
variable {w w':World} {g:Nat} {t:TypeId} {cs:Array Value}
theorem Blk.lt (h:Blk w g t cs):g<w.heap.size:=by
 rcases Nat.lt_or_ge g w.heap.size with a | b
 ·exact a
 ·unfold Blk at h;rw[Array.getElem?_eq_none b]at h;cases h
theorem Blk.cell (h:Blk w g t cs) (i:Nat):w.cell? ⟨g,i,none⟩=cs[i]?:=cell_of_row w g i cs t (0,0) h
theorem Blk.frozen (h:Blk w g t cs) (i:Nat):w.frozen? ⟨g,i,none⟩=false:=by
 unfold Blk at h
 simp[World.frozen?,h]
theorem Blk.new (w:World) (t:TypeId) (cs:Array Value):Blk (w.alloc (.cells cs t)) w.heap.size t cs:=heap_alloc_new w _
theorem Blk.drew (h:Blk w g t cs):Blk w.drew g t cs:=h
theorem Blk.alloc (h:Blk w g t cs) (o:Obj):Blk (w.alloc o) g t cs:=(Below.heap_alloc w o g h.lt).trans h
theorem Blk.set_ (h:Blk w g t cs) (i:Nat) (u:Value):Blk (w.setCell ⟨g,i,none⟩ u) g t (cs.setIfInBounds i u):=by
 unfold Blk at h ⊢
 simp[World.setCell,Array.getElem?_modify,h]
theorem Blk.far (h:Blk w g t cs) {p:Addr} (a:g≠p.block) (u:Value):Blk (w.setCell p u) g t cs:=(Below.heap_setCell w p u g a).trans h
theorem Blk.below {B:Nat} (h:Blk w g t cs) (a:Below B w w') (b:g<B):Blk w' g t cs:=(a.block g b).trans h
end
section
variable {P:Program} (w:World)
theorem mP (base:Nat) (t ty e:TypeId) (i:TypeInfo) (size:Nat) (d:P.underlying t=some (.slice e)) (b:P.info? e=some i)
 (v:Value) (n:Nat) (xs:List Value) (hown:w.ownsRow base e size v n xs) (c:Nat):(Builtin.append_ #[t,t] ty #[v,.slice none 0 c]).run P w = .ok v w:=by
 rcases hown.2 with⟨rfl,rfl⟩ | ⟨g,cap,cur,rfl,_,_,a,_⟩
 ·simp[Builtin.append_,run_underlying d,sizeOf,typeInfo,b,Builtin.lenOf,Builtin.firstCells]
 ·simp[Builtin.append_,run_underlying d,sizeOf,typeInfo,b,Builtin.lenOf,Builtin.firstCells,a,storeCells]
theorem pM (base:Nat) (t ty e:TypeId) (i:TypeInfo) (z:Value) (size bytes:Nat) (p:P.underlying t=some (.slice e)) (o:P.info? e=some i) (C:i.zero=some z)
 (hsize:i.size=size) (g:i.bytes=bytes) (f:z.cells.size=size) (d:0<size)
 (v:Value) (n:Nat) (xs:List Value) (hown:w.ownsRow base e size v n xs)
 (B:Nat) (A:Option Addr) (m c:Nat) (news:List Value) (b:Reads w B size A m news) (x:∀ u ∈ news,u.oneCell'=true)
 (k:n+m≤maxLen) (hbytes:(n+m)*bytes≤140737488355328) (hbase:base≤w.heap.size):
 ∃ v' w',(Builtin.append_ #[t,t] ty #[v,.slice A m c]).run P w = .ok v' w'∧w'.ownsRow base e size v' (n+m) (xs++news)∧w.grownBy w' v.ownBlock ∧
   (v'.ownBlock=v.ownBlock∨v'.ownBlock=some w.heap.size):=by
 rcases A with _ | ad
 ·have y:m=0:=by
   rcases Nat.eq_zero_or_pos m with a | a
   ·exact a
   ·obtain⟨ad,h,_⟩:=b.2 a
    cases h
  subst y
  have hn:news = []:=List.eq_nil_of_length_eq_zero (by simpa using b.1)
  subst hn
  exact⟨v,w,mP w base t ty e i size p o v n xs hown c,by simpa using hown,World.grownBy.refl w _,.inl rfl⟩
 ·have hcells:∀ j u,news[j]?=some u→w.cell? (ad.add j)=some u:=by
   intro j u l
   rcases Nat.eq_zero_or_pos m with a | a
   ·subst a
    have hn:news = []:=List.eq_nil_of_length_eq_zero (by simpa using b.1)
    subst hn
    simp at l
   ·obtain⟨D,h,_,q⟩:=b.2 a
    injection h with h
    subst h
    exact q j u l
  obtain⟨v',w',hrun,E,s,_,r⟩:=run_append_own_at (P:=P) w base t ty e i z size bytes p o C hsize g f d v n xs hown ad m c news b.1 hcells x k hbytes hbase
  exact⟨v',w',hrun,E,s,r⟩
theorem iy {o:Oper} {a:Act} {K:Act→World→Prop} {Q:Exit→Act→World→Prop} (s x:Operand) (t:TypeId)
 (g:o.op = .call { callee := .builtin .append,args:=#[s,x],argTypes:=#[t,t] })
 (base:Nat) (e:TypeId) (i:TypeInfo) (z:Value) (size bytes:Nat) (ht:P.underlying t=some (.slice e)) (hi:P.info? e=some i) (hz:i.zero=some z)
 (hsize:i.size=size) (hby:i.bytes=bytes) (hzs:z.cells.size=size) (hsz:0<size)
 (v:Value) (n:Nat) (xs:List Value) (hs:a.eval s=v) (hown:w.ownsRow base e size v n xs)
 (B:Nat) (A:Option Addr) (m c:Nat) (news:List Value) (hx:a.eval x = .slice A m c) (hr:Reads w B size A m news) (h1:∀ u ∈ news,u.oneCell'=true)
 (h63:n+m≤maxLen) (hbytes:(n+m)*bytes≤140737488355328) (hbase:base≤w.heap.size)
 (h:∀ v' w',w'.ownsRow base e size v' (n+m) (xs++news)→w.grownBy w' v.ownBlock→(v'.ownBlock=v.ownBlock∨v'.ownBlock=some w.heap.size)→K (a.put o.dst v') w'):o.wp P a w K Q:=by
 obtain⟨v',w',hrun,b,f,d⟩:=pM (P:=P) w base t o.type e i z size bytes ht hi hz hsize hby hzs hsz v n xs hown B A m c news hr h1 h63 hbytes hbase
 unfold Oper.wp execOp
 simp only[g,resolve,invoke,builtin,Sem.run_bind,Sem.run_pure,Result.andThen_ok,List.map_toArray,List.map_cons,List.map_nil,hs,hx,hrun]
 exact h v' w' b f d
theorem aP {ops:Array Oper} {rest:List Oper} {o:Oper} {a:Act} {Q:Exit→Act→World→Prop} (b:o.guard=none) (s x:Operand) (t:TypeId)
 (j:o.op = .call { callee := .builtin .append,args:=#[s,x],argTypes:=#[t,t] })
 (base:Nat) (e:TypeId) (i:TypeInfo) (z:Value) (size bytes:Nat) (ht:P.underlying t=some (.slice e)) (hi:P.info? e=some i) (hz:i.zero=some z)
 (hsize:i.size=size) (hby:i.bytes=bytes) (hzs:z.cells.size=size) (hsz:0<size)
 (v:Value) (n:Nat) (xs:List Value) (hs:a.eval s=v) (hown:w.ownsRow base e size v n xs)
 (B:Nat) (A:Option Addr) (m c:Nat) (news:List Value) (hx:a.eval x = .slice A m c) (hr:Reads w B size A m news) (h1:∀ u ∈ news,u.oneCell'=true)
 (h63:n+m≤maxLen) (hbytes:(n+m)*bytes≤140737488355328) (hbase:base≤w.heap.size)
 (h:∀ v' w',w'.ownsRow base e size v' (n+m) (xs++news)→w.grownBy w' v.ownBlock→(v'.ownBlock=v.ownBlock∨v'.ownBlock=some w.heap.size)→wpList P ops Q rest (a.put o.dst v') w'):wpList P ops Q (o::rest) a w:=
 wpList_plain b fun _ hK=>iy w s x t j base e i z size bytes ht hi hz hsize hby hzs hsz v n xs hs hown B A m c news hx hr h1 h63 hbytes hbase fun v' w' d g f=>hK _ _ (h v' w' d g f)
theorem nS {ops:Array Oper} {o:Oper} {a:Act} {K:Act→World→Prop} {Q:Exit→Act→World→Prop} {E:Prop} (b:o.guard=none) (s x:Operand) (t:TypeId)
 (f:o.op = .call { callee := .builtin .append,args:=#[s,x],argTypes:=#[t,t] })
 (base:Nat) (e:TypeId) (i:TypeInfo) (z:Value) (size bytes:Nat) (ht:P.underlying t=some (.slice e)) (hi:P.info? e=some i) (hz:i.zero=some z)
 (hsize:i.size=size) (hby:i.bytes=bytes) (hzs:z.cells.size=size) (hsz:0<size)
 (v:Value) (n:Nat) (xs:List Value) (hs:a.eval s=v) (hown:w.ownsRow base e size v n xs)
 (B:Nat) (A:Option Addr) (m c:Nat) (news:List Value) (hx:a.eval x = .slice A m c) (hr:Reads w B size A m news) (h1:∀ u ∈ news,u.oneCell'=true)
 (h63:n+m≤maxLen) (hbytes:(n+m)*bytes≤140737488355328) (hbase:base≤w.heap.size)
 (h:∀ v' w',w'.ownsRow base e size v' (n+m) (xs++news)→w.grownBy w' v.ownBlock→(v'.ownBlock=v.ownBlock∨v'.ownBlock=some w.heap.size)→K (a.put o.dst v') w'):
 if Region.wanted o (yielded ops a.tmps)=true then Oper.wp P o a w K Q else E:=by
 have d:Region.wanted o (yielded ops a.tmps)=true:=by simp[Region.wanted,b]
 rw[if_pos d]
 exact iy w s x t f base e i z size bytes ht hi hz hsize hby hzs hsz v n xs hs hown B A m c news hx hr h1 h63 hbytes hbase h
end
theorem gU {P:Program} {f:FuncId} {args:Array Value} {w:World} {a n:Nat} {v:Value}
 (h:Calls P f args (w.drewN (a+n)) fun e w'=>e = .returned v∧w.drewN (a+n)=w'):
 Calls P f args (w.drewN (a+n)) fun e w''=>e = .returned v ∧ ∃ m,w''=w.drewN (a+m):=
 h.mono fun _ _ ⟨b,c⟩=>⟨b,n,c.symm⟩
theorem uY {P:Program} {f:FuncId} {args:Array Value} {w:World} {n:Nat} {v:Value}
 (h:Calls P f args (w.drewN n) fun e w'=>e = .returned v∧w.drewN n=w'):Calls P f args (w.drewN n) fun e w''=>e = .returned v ∧ ∃ m,w''=w.drewN m:=
 h.mono fun _ _ ⟨a,b⟩=>⟨a,n,b.symm⟩
theorem cA {fn:Func} {t u v x:Tmp} (h:fn.results=#[.tmp t,.tmp u,.tmp v,.tmp x]) (tmps:Array Value) (P:Program) (w:World):
 (results fn tmps).run P w = .ok (.tuple #[tmps.getD t undef,tmps.getD u undef,tmps.getD v undef,tmps.getD x undef]) w:=by simp[results,h]
theorem below_drewN {B:Nat} {a w:World} (h:Below B a w) (n:Nat):Below B a (w.drewN n):=⟨h.os,h.tape,h.output,h.size,h.block⟩
theorem gB {a w:World} {row:Option Nat} (h:a.grownBy w row):a.grownBy w.drew row:=⟨h.os,h.tape,h.output,h.size,h.block⟩
theorem lV {a w:World} {row:Option Nat} (h:a.grownBy w row) (o:Obj):a.grownBy (w.alloc o) row:=
 ⟨h.os,h.tape,h.output,Nat.le_trans h.size (by simp),fun i c b=>(Below.heap_alloc w o i (Nat.lt_of_lt_of_le c h.size)).trans (h.block i c b)⟩
theorem qI {a w:World} {g:Nat} (h:a.grownBy w (some g)) {p:Addr} (c:p.block=g∨a.heap.size≤p.block) (u:Value):a.grownBy (w.setCell p u) (some g):=
 ⟨h.os,h.tape,h.output,by simpa [World.setCell] using h.size,fun i d b=>(Below.heap_setCell w p u i (by
  rintro rfl
  rcases c with c | c
  ·exact b (by rw[c])
  ·omega)).trans (h.block i d b)⟩
theorem bV {a w:World} (h:Below a.heap.size a w) (row:Option Nat):a.grownBy w row:=⟨h.os,h.tape,h.output,h.size,fun i b _=>h.block i b⟩
theorem lg {P:Program} (t e:TypeId) (i:TypeInfo) (z:Value) (j:P.underlying t=some (.slice e)) (g:P.info? e=some i) (f:i.zero=some z)
 (kl kc:IntKind) (n c:Nat) (b:n≤c) (hbytes:i.bytes*c≤281474976710656) (k:c≤9223372036854775807) (w:World):
 (Instr.makeSlice t (.int kl (n:Int)) (.int kc (c:Int))).run P w = .ok (.slice (some ⟨w.heap.size,0,none⟩) n c) (w.alloc (.cells (madeCells z.cells (c*i.size)) e)):=by
 have d:(i.bytes:Int)*(c:Int)≤281474976710656:=by
  have h:((i.bytes*c:Nat):Int)≤281474976710656:=by omega
  rwa [Int.natCast_mul]at h
 have a:=run_make (P:=P) w t e i z j g f kl kc n c (by omega) (by omega) d (by omega)
 simp only[Int.toNat_natCast]at a
 exact a
theorem nh {P:Program} (t k e:TypeId) (kd:IntKind) (n:Int) (a:P.underlying t=some (.map k e)) (w:World):
 (Instr.makeMap t (some (.int kd n))).run P w = .ok (.map (some w.heap.size)) (w.alloc (.map #[] 0)):=by
 simp[Instr.makeMap,run_underlying a];rfl
theorem add_plain (g o j:Nat):(⟨g,o,none⟩:Addr).add j=⟨g,o+j,none⟩:=by
 unfold Addr.add
 by_cases h:j=0<;>simp[h]
theorem cC {W a:World} (c:Below W.heap.size W a):(∀ b o,b<W.heap.size→a.cell? ⟨b,o,none⟩=W.cell? ⟨b,o,none⟩)∧(∀ b o,b<W.heap.size→a.frozen? ⟨b,o,none⟩=W.frozen? ⟨b,o,none⟩):=
 ⟨fun b o h=>c.cell (p:=⟨b,o,none⟩) h,fun b o h=>c.frozen (p:=⟨b,o,none⟩) h⟩
section
variable {P:Program}
theorem dW {ops:Array Oper} {rest:List Oper} {o:Oper} {a:Act} {Q:Exit→Act→World→Prop} (W:World) (b:o.guard=none) (s x:Operand) (t:TypeId)
 (g:o.op = .call { callee := .builtin .append,args:=#[s,x],argTypes:=#[t,t] })
 (base:Nat) (e:TypeId) (i:TypeInfo) (z:Value) (bytes:Nat) (ht:P.underlying t=some (.slice e)) (hi:P.info? e=some i) (hz:i.zero=some z)
 (hsize:i.size=1) (hby:i.bytes=bytes) (hzs:z.cells.size=1)
 (v:Value) (n:Nat) (xs:List Value) (hown:W.ownsRow base e 1 v n xs) (hs:a.eval s=v)
 (u:Value) (hx:a.eval x = .slice (some ⟨W.heap.size,0,none⟩) 1 1) (h1:u.oneCell'=true)
 (h63:n+1≤maxLen) (hbytes:(n+1)*bytes≤140737488355328) (hbase:base≤W.heap.size)
 (h:∀ v' w',w'.ownsRow base e 1 v' (n+1) (xs ++ [u])→W.grownBy w' v.ownBlock→wpList P ops Q rest (a.put o.dst v') w'):wpList P ops Q (o::rest) a (W.alloc (.cells #[u] e)):=by
 refine wpList_append_own _ b s x t g base e i z 1 bytes ht hi hz hsize hby hzs (by omega) v n xs hs (hown.alloc _) ⟨W.heap.size,0,none⟩ 1 1 [u] hx rfl ?_ (by simpa using h1) h63 hbytes (by simp;omega) ?_
 ·intro j u' c
  rcases j with _ | j
  ·simp at c
   subst c
   rw[add_plain]
   exact(Blk.new W e #[u]).cell 0
  ·simp at c
 ·intro v' w' f d _
  exact h v' w' f ((lV (World.grownBy.refl W _) _).trans d)
theorem cT {base:Nat} {e:TypeId} {size n:Nat} {v:Value} {xs:List Value} {B:Nat} {c W w':World} (d:Below B c W) (h:W.grownBy w' v.ownBlock) (hown:W.ownsRow base e size v n xs) (hB:B≤base) (b:B≤W.heap.size):Below B c w':=by
 refine d.grown h b (fun g a=>?_)
 rcases hown.2 with⟨rfl,_⟩ | ⟨g',cap,cur,rfl,f,_⟩
 ·simp[Value.ownBlock]at a
 ·simp[Value.ownBlock]at a
  omega
theorem dj (W:World) (e:TypeId) (base:Nat) (a:base≤W.heap.size) (size:Nat):(W.alloc (.cells #[] e)).ownsRow base e size (.slice (some ⟨W.heap.size,0,none⟩) 0 0) 0 []:=
 ⟨by simp,.inr ⟨W.heap.size,0,#[],rfl,a,Blk.new W e #[],Nat.le_refl _,Nat.zero_le _,by simp,by simp⟩⟩
end
theorem cQ {w:World} {base base':Nat} {e:TypeId} {size n:Nat} {v:Value} {xs:List Value} (h:w.ownsRow base e size v n xs) (f:base'≤base):w.ownsRow base' e size v n xs:=by
 rcases h with⟨b,a | ⟨g,cap,cur,a,d,c⟩⟩
 ·exact⟨b,.inl a⟩
 ·exact⟨b,.inr ⟨g,cap,cur,a,Nat.le_trans f d,c⟩⟩
theorem iY {w:World} {base:Nat} {e:TypeId} {n:Nat} {v:Value} {xs:List Value} (h:w.ownsRow base e 1 v n xs):∃ A c,v = .slice A n c∧n≤c∧c≤maxLen∧(A=none→c=0)∧Reads w w.heap.size 1 A n xs:=by
 rcases h with⟨b,⟨rfl,rfl⟩ | ⟨g,cap,cur,rfl,j,f,a,d,i⟩⟩
 ·have:xs = []:=List.eq_nil_of_length_eq_zero (by simpa using b)
  subst this
  exact⟨none,0,rfl,Nat.le_refl _,Nat.zero_le _,fun _=>rfl,Reads.none_⟩
 ·refine⟨_,cap,rfl,a,d,fun h=>(by cases h),Reads.of_own (c:=cap) (base:=base) (e:=e) ⟨b,.inr ⟨g,cap,cur,rfl,j,f,a,d,i⟩⟩⟩
section
variable (w:World) (t1 t2 t3:TypeId) (a b c:Array Value)
theorem vG:Blk ((w.alloc (.cells a t1)).alloc (.cells b t2)) w.heap.size t1 a:=(Blk.new w t1 a).alloc _
theorem rB:Blk ((w.alloc (.cells a t1)).alloc (.cells b t2)) (w.heap.size+1) t2 b:=by
 have h:=Blk.new (w.alloc (.cells a t1)) t2 b
 rwa [show(w.alloc (.cells a t1)).heap.size=w.heap.size+1 from by simp]at h
theorem Ex:Blk (((w.alloc (.cells a t1)).alloc (.cells b t2)).alloc (.cells c t3)) w.heap.size t1 a:=(vG w t1 t2 a b).alloc _
theorem EP:Blk (((w.alloc (.cells a t1)).alloc (.cells b t2)).alloc (.cells c t3)) (w.heap.size+1) t2 b:=(rB w t1 t2 a b).alloc _
theorem Fa:Blk (((w.alloc (.cells a t1)).alloc (.cells b t2)).alloc (.cells c t3)) (w.heap.size+2) t3 c:=by
 have h:=Blk.new ((w.alloc (.cells a t1)).alloc (.cells b t2)) t3 c
 rwa [show((w.alloc (.cells a t1)).alloc (.cells b t2)).heap.size=w.heap.size+2 from by simp]at h
end
end
section
open Go.ChangeShapes Go.WideShapes Go.ChangeAt Go.RowKit
open Go.ChangeMaps (open_string shut_string)
section
variable {H:Type} {enc:TypeId×Value→H} {P:Program} {w:World} {base:Nat} {spare:Nat→Bool} {held:Bool}
theorem lQ {t:TypeId} {v:Value} {d:DataW H} {p:List MemPlace} (h:DataW.Trod enc P w base spare held t v d p):∀ x ∈ p,x.block<w.heap.size:=by
 obtain⟨m,a⟩:=h
 exact DataW.trod_lt m _ _ _ a
end
end
section
open Go.ChangeShapes Go.WideShapes Go.ChangeAt Go.RowKit Go.Lib
theorem Ep:ownKnob Tryz.prog.godebug=none:=by kernel_rfl
theorem lE:laidOutB Tryz.prog=true:=by kernel_rfl
noncomputable def ni:Nat:=(World.settled Tryz.prog default).heap.size
def yx:ByteArray:=⟨#[118,97,108,117,101,32,111,117,116,32,111,102,32,114,97,110,103,101]⟩
def vn:ByteArray:=⟨#[105,110,118,97,108,105,100,32,115,121,110,116,97,120]⟩
def FL:List Int:=[0,1,28,2,29,14,24,3,30,22,20,15,25,17,4,8,31,27,13,23,21,19,16,7,26,12,18,6,11,5,10,9]
def FE:List Int:=[0,1,56,2,57,49,28,3,61,58,42,50,38,29,17,4,62,47,59,36,45,43,51,22,53,39,33,30,24,18,12,5,63,55,48,27,60,41,37,16,46,35,44,21,52,32,23,11,54,26,40,15,34,20,31,10,25,14,19,9,13,8,7,6]
def Ew:List Int:=(List.range 20).map fun i=>(10:Int)^i
def putCells (h:Array Obj) (g:Nat) (cs:Array Value):Array Obj:=h.modify g fun
 | .cells _ t frozen=>.cells cs t frozen
 | o=>o
noncomputable def kK (os:Os):World:=
 let w0:=World.holding Tryz.prog os ⟨#[.cells #[.string yx] 360,.cells #[.string vn] 360],#[],[]⟩
 let h1:=putCells w0.heap 2 (FL.map fun z=>Value.int .u8 z).toArray
 let h2:=putCells h1 3 (FE.map fun z=>Value.int .u8 z).toArray
 let h3:=putCells h2 0 (Ew.map fun z=>Value.int .u64 z).toArray
 let h4:=putCells h3 5 #[.iface 358 (.pointer (some ⟨ni,0,none⟩))]
 let h5:=putCells h4 4 #[.iface 358 (.pointer (some ⟨ni+1,0,none⟩))]
 { w0 with heap:=h5 }
theorem AG (os:Os) (args:Array Value):LaidIn Tryz.prog ((kK os).forCall (fun _ _=>0) ⟨#[],args,[]⟩).memory [("math/bits.deBruijn32tab",Rows.laid_math_bits_deBruijn32tab),("math/bits.deBruijn64tab",Rows.laid_math_bits_deBruijn64tab),("internal/strconv.uint64pow10",Rows.laid_internal_strconv_uint64pow10)] [2,3,0]:=
 LaidIn.of_run [2,3,0] 8 (by kernel_rfl) (by kernel_rfl) (by kernel_rfl) (by kernel_rfl)
theorem BC (os:Os) (args:Array Value):LaidIn Tryz.prog ((kK os).forCall (fun _ _=>0) ⟨#[],args,[]⟩).memory [("strconv.ErrRange",Rows.laid_strconv_ErrRange),("strconv.ErrSyntax",Rows.laid_strconv_ErrSyntax)] [5,ni,4,ni+1]:=
 LaidIn.of_run [5,ni,4,ni+1] 8 (by kernel_rfl) (by kernel_rfl) (by kernel_rfl) (by kernel_rfl)
theorem Bf (os:Os) (args:Array Value):laidMetH Tryz.prog Rows.topBytesRow.laid ((kK os).forCall (fun _ _=>0) ⟨#[],args,[]⟩).memory:=
 laidMetH_of_parts (((AG os args).append (BC os args) (by kernel_rfl)).met) (by kernel_rfl)
end
section
theorem kN:∀ a:List UInt8,Op.bytesLess a a=false
 | []=>rfl
 | a::l=>by simp[Op.bytesLess,kN l]
theorem uh:∀ a b c:List UInt8,Op.bytesLess a b=true→Op.bytesLess b c=true→Op.bytesLess a c=true
 | _,_,[],_,d=>by cases ‹List UInt8› <;> simp[Op.bytesLess]at d
 | [],_,c::z,_,_=>by simp[Op.bytesLess]
 | a::x,[],c::z,e,_=>by simp[Op.bytesLess]at e
 | a::x,b::y,c::z,e,d=>by
   simp only[Op.bytesLess,Bool.or_eq_true,decide_eq_true_eq,Bool.and_eq_true,beq_iff_eq,UInt8.lt_iff_toNat_lt]at *
   rcases e with e | ⟨rfl,e⟩
   ·rcases d with d | ⟨rfl,d⟩
    ·exact .inl (by omega)
    ·exact .inl e
   ·rcases d with d | ⟨rfl,d⟩
    ·exact .inl d
    ·exact .inr ⟨rfl,uh x y z e d⟩
theorem oI:∀ a b:List UInt8,Op.bytesLess a b=false→Op.bytesLess b a=false→a=b
 | [],[],_,_=>rfl
 | [],b::y,h,_=>by simp[Op.bytesLess]at h
 | a::x,[],_,h=>by simp[Op.bytesLess]at h
 | a::x,b::y,h1,h2=>by
   simp only[Op.bytesLess,Bool.or_eq_false_iff,decide_eq_false_iff_not,Bool.and_eq_false_iff,beq_eq_false_iff_ne,UInt8.lt_iff_toNat_lt]at *
   have e:a=b:=UInt8.toNat_inj.1 (by omega)
   subst e
   rw[oI x y (by simpa using h1.2) (by simpa using h2.2)]
def ltB (a b:ByteArray):Bool:=Op.bytesLess a.toList b.toList
theorem fL {a b:ByteArray} (h:a.toList=b.toList):a=b:=by
 rw[ByteArray.toList_eq,ByteArray.toList_eq]at h
 cases a;cases b
 simpa using h
theorem ji (a:ByteArray):ltB a a=false:=kN _
theorem gF {a b c:ByteArray} (h:ltB a b=true) (k:ltB b c=true):ltB a c=true:=uh _ _ _ h k
theorem mU {a b:ByteArray} (h:ltB a b=false) (k:ltB b a=false):a=b:=fL (oI _ _ h k)
theorem kz {a b:ByteArray} (h:ltB a b=true):ltB b a=false:=by
 cases k:ltB b a with
 | false=>rfl
 | true=>have:=gF h k;rw[ji]at this;cases this
theorem jj {a b:ByteArray} (h:ltB a b=true):a≠b:=by rintro rfl;rw[ji]at h;cases h
section
variable {α:Type} (f:α→ByteArray)
def Srt (l:List α):Prop:=l.Pairwise (fun a b=>ltB (f a) (f b)=true)
def eY (c:α):List α→List α
 | [] => [c]
 | d::l=>if ltB (f d) (f c)=true then d::eY c l else c::d::l
variable {f}
theorem nX:∀ {l:List α} {c:α} {i:Nat},i≤l.length→(∀ (j:Nat) d,j<i→l[j]?=some d→ltB (f d) (f c)=true)→(∀ d,l[i]?=some d→ltB (f d) (f c)=false)→eY f c l=l.take i++c::l.drop i
 | [],c,i,hi,_,_=>by simp at hi;subst hi;rfl
 | d::l,c,0,_,_,h=>by
   unfold eY
   rw[h d rfl]
   rfl
 | d::l,c,i+1,hi,h1,h2=>by
   unfold eY
   rw[if_pos (h1 0 d (by omega) rfl),nX (i:=i) (by simpa using hi) (fun j e b a=>h1 (j+1) e (by omega) (by simpa using a)) (fun e a=>h2 e (by simpa using a))]
   rfl
theorem oy {l:List α} {c d:α}:d ∈ eY f c l ↔ d=c∨d ∈ l:=by
 induction l with
 | nil=>simp[eY]
 | cons e l ih=>
   unfold eY
   split
   ·rw[List.mem_cons,ih,List.mem_cons]
    exact⟨fun h=>h.elim (fun h=>.inr (.inl h)) (fun h=>h.elim .inl (fun h=>.inr (.inr h))),fun h=>h.elim (fun h=>.inr (.inl h)) (fun h=>h.elim .inl (fun h=>.inr (.inr h)))⟩
   ·rw[List.mem_cons]
theorem ke (l:List α) (c:α):(eY f c l).length=l.length+1:=by
 induction l with
 | nil=>rfl
 | cons e l ih=>
   unfold eY
   split
   ·simp[ih]
   ·simp
theorem tD {l:List α} {c:α} (h:Srt f l) (hn:∀ d ∈ l,f d≠f c):Srt f (eY f c l):=by
 induction l with
 | nil=>exact List.pairwise_singleton _ _
 | cons e l ih=>
   have h':=List.pairwise_cons.1 h
   unfold eY
   split
   ·rename_i b
    refine List.pairwise_cons.2 ⟨fun d a=>?_,ih h'.2 (fun d a=>hn d (List.mem_cons_of_mem _ a))⟩
    rcases oy.1 a with rfl | a
    ·exact b
    ·exact h'.1 d a
   ·rename_i b
    have g:ltB (f c) (f e)=true:=by
     cases k:ltB (f c) (f e) with
     | true=>rfl
     | false=>exact absurd (mU (by simpa using b) k) (hn e (List.mem_cons_self ..))
    refine List.pairwise_cons.2 ⟨fun d a=>?_,h⟩
    rcases List.mem_cons.1 a with rfl | a
    ·exact g
    ·exact gF g (h'.1 d a)
theorem Srt.lt {l:List α} (h:Srt f l) {i j:Nat} {a b:α} (c:i<j) (d:l[i]?=some a) (k:l[j]?=some b):ltB (f a) (f b)=true:=by
 obtain⟨g,rfl⟩:=List.getElem?_eq_some_iff.1 d
 obtain⟨e,rfl⟩:=List.getElem?_eq_some_iff.1 k
 exact List.pairwise_iff_getElem.1 h i j g e c
theorem Srt.uniq {l:List α} (h:Srt f l) {i j:Nat} {a b:α} (d:l[i]?=some a) (g:l[j]?=some b) (e:f a=f b):i=j:=by
 rcases Nat.lt_trichotomy i j with c | c | c
 ·exact absurd e (jj (h.lt c d g))
 ·exact c
 ·exact absurd e.symm (jj (h.lt c g d))
theorem Srt.set {l:List α} (h:Srt f l) {i:Nat} {a b:α} (p:l[i]?=some a) (e:f b=f a):Srt f (l.set i b):=by
 refine List.pairwise_iff_getElem.2 (fun j k n o g=>?_)
 rw[List.length_set]at n o
 have d:=List.pairwise_iff_getElem.1 h j k n o g
 obtain⟨q,rfl⟩:=List.getElem?_eq_some_iff.1 p
 rw[List.getElem_set,List.getElem_set]
 split
 ·rename_i m
  subst m
  rw[if_neg (by omega),e]
  exact d
 ·split
  ·rename_i c
   subst c
   rw[e]
   exact d
  ·exact d
def fF (f:α→ByteArray) (l:List α) (nm:ByteArray):Nat:=l.findIdx (fun c=>decide (f c=nm))
theorem mQ {l:List α} {nm:ByteArray} (h:l[fF f l nm]?=none):∀ d ∈ l,f d≠nm:=by
 intro d a e
 have b:=List.getElem?_eq_none_iff.1 h
 have:fF f l nm<l.length:=List.findIdx_lt_length_of_exists ⟨d,a,by simpa using e⟩
 omega
theorem mG {l:List α} {nm:ByteArray} {i:Nat} {c:α} (e:l[i]?=some c) (a:f c=nm) (h:∀ (j:Nat) d,j<i→l[j]?=some d→f d≠nm):fF f l nm=i:=by
 obtain⟨g,rfl⟩:=List.getElem?_eq_some_iff.1 e
 refine(List.findIdx_eq g).2 ⟨by simpa using a,fun j b=>?_⟩
 have:=h j _ b (List.getElem?_eq_getElem (by omega))
 simpa using this
theorem jF {l:List α} {nm:ByteArray} (h:∀ d ∈ l,f d≠nm):fF f l nm=l.length:=by
 unfold fF
 rw[List.findIdx_eq_length]
 intro d a
 simpa using h d a
end
end
section
open Go.RowKit
structure js (X:List Nat) (w w':World):Prop where
 size:w.heap.size≤w'.heap.size
 block:∀ b,b<w.heap.size→b ∉ X→w'.heap[b]?=w.heap[b]?
def XOk (X:List Nat) (w:World):Prop := ∀ b ∈ X,b<w.heap.size
section
variable {X X':List Nat} {w w' w'':World}
theorem js.of_below (h:Below w.heap.size w w'):js X w w':=⟨h.size,fun b a _=>h.block b a⟩
theorem js.cell (h:js X w w') {p:Addr} (b:p.block<w.heap.size) (a:p.block ∉ X):w'.cell? p=w.cell? p:=World.cell?_of_block (h.block _ b a)
end
structure Sh (α:Type) where
 size:Nat
 rep:World→List Nat→List Value→α→Prop
 len:∀ {w X vs a},rep w X vs a→vs.length=size
 one:∀ {w X vs a},rep w X vs a → ∀ u ∈ vs,u.oneCell'=true
 keep:∀ {w w' X vs a},rep w X vs a→js X w w'→rep w' X vs a
 more:∀ {w X X' vs a},rep w X vs a→(∀ b,b<w.heap.size→b ∈ X'→b ∈ X)→rep w X' vs a
def aF {α:Type} (s:Sh α) (w:World) (X:List Nat):List Value→List α→Prop
 | vs,[]=>vs = []
 | vs,x::xs => ∃ r rest,vs=r++rest∧s.rep w X r x∧aF s w X rest xs
section
variable {α:Type} {s:Sh α} {w w':World} {X X':List Nat}
theorem aF.length:∀ {xs:List α} {vs:List Value},aF s w X vs xs→vs.length=xs.length*s.size
 | [],vs,h=>by simp[show vs = [] from h]
 | x::xs,vs,⟨r,rest,e,hr,h⟩=>by rw[e,List.length_append,s.len hr,aF.length h,List.length_cons,Nat.succ_mul,Nat.add_comm]
theorem aF.one_:∀ {xs:List α} {vs:List Value},aF s w X vs xs → ∀ u ∈ vs,u.oneCell'=true
 | [],vs,h,u,hu=>by rw[show vs = [] from h]at hu;cases hu
 | x::xs,vs,⟨r,rest,e,hr,h⟩,u,hu=>by
   rw[e,List.mem_append]at hu
   exact hu.elim (s.one hr u) (aF.one_ h u)
theorem aF.keep:∀ {xs:List α} {vs:List Value},aF s w X vs xs→js X w w'→aF s w' X vs xs
 | [],vs,h,_=>h
 | x::xs,vs,⟨r,rest,e,hr,h⟩,k=>⟨r,rest,e,s.keep hr k,aF.keep h k⟩
theorem aF.more:∀ {xs:List α} {vs:List Value},aF s w X vs xs→(∀ b,b<w.heap.size→b ∈ X'→b ∈ X)→aF s w X' vs xs
 | [],vs,h,_=>h
 | x::xs,vs,⟨r,rest,e,hr,h⟩,k=>⟨r,rest,e,s.more hr k,aF.more h k⟩
theorem aF.append:∀ {xs ys:List α} {vs us:List Value},aF s w X vs xs→aF s w X us ys→aF s w X (vs++us) (xs++ys)
 | [],ys,vs,us,h,k=>by rw[show vs = [] from h];exact k
 | x::xs,ys,vs,us,⟨r,rest,e,hr,h⟩,k=>⟨r,rest++us,by rw[e,List.append_assoc],hr,aF.append h k⟩
theorem aF.single {vs:List Value} {x:α} (h:s.rep w X vs x):aF s w X vs [x]:=⟨vs,[],by simp,h,rfl⟩
theorem aF.get:∀ {xs:List α} {vs:List Value},aF s w X vs xs → ∀ {i:Nat} {x:α},xs[i]?=some x → ∃ r,s.rep w X r x ∧ ∀ (j:Nat) u,r[j]?=some u→vs[i*s.size+j]?=some u
 | [],vs,h,i,x,hx=>by simp at hx
 | y::xs,vs,⟨r,rest,e,hr,h⟩,0,x,hx=>by
   simp at hx;subst hx
   refine⟨r,hr,fun j u a=>?_⟩
   rw[e,Nat.zero_mul,Nat.zero_add,List.getElem?_append_left (List.getElem?_eq_some_iff.1 a).1]
   exact a
 | y::xs,vs,⟨r,rest,e,hr,h⟩,i+1,x,hx=>by
   obtain⟨r',d,c⟩:=aF.get h (i:=i) (x:=x) (by simpa using hx)
   refine⟨r',d,fun j u a=>?_⟩
   have b:=s.len hr
   rw[e,List.getElem?_append_right (by rw[b,Nat.succ_mul];omega),show(i+1)*s.size+j-r.length=i*s.size+j from by rw[b,Nat.succ_mul];omega]
   exact c j u a
theorem aF.take:∀ {xs:List α} {vs:List Value},aF s w X vs xs → ∀ k,aF s w X (vs.take (k*s.size)) (xs.take k)
 | [],vs,h,k=>by rw[show vs = [] from h];simp[aF]
 | x::xs,vs,h,0=>by simp[aF]
 | x::xs,vs,⟨r,rest,e,hr,h⟩,k+1=>by
   refine⟨r,rest.take (k*s.size),?_,hr,aF.take h k⟩
   have a:=s.len hr
   rw[e,Nat.succ_mul,Nat.add_comm,List.take_append,a,show s.size+k*s.size-s.size=k*s.size from by omega,List.take_of_length_le (by omega)]
theorem aF.drop:∀ {xs:List α} {vs:List Value},aF s w X vs xs → ∀ k,aF s w X (vs.drop (k*s.size)) (xs.drop k)
 | [],vs,h,k=>by rw[show vs = [] from h];simp[aF]
 | x::xs,vs,h,0=>by simpa using h
 | x::xs,vs,⟨r,rest,e,hr,h⟩,k+1=>by
   have a:=s.len hr
   rw[e,Nat.succ_mul,Nat.add_comm,List.drop_append,a,show s.size+k*s.size-s.size=k*s.size from by omega,List.drop_of_length_le (by omega)]
   simpa using aF.drop h k
end
def Sl {α:Type} (s:Sh α) (w:World) (X:List Nat) (A:Option Addr) (n c:Nat) (xs:List α):Prop:=
 n=xs.length∧n≤c∧c≤maxLen∧(A=none→c=0) ∧ ∃ vs,Reads w w.heap.size s.size A n vs∧(0<n → ∀ ad,A=some ad→ad.block ∉ X)∧aF s w X vs xs
section
variable {α:Type} {s:Sh α} {w w':World} {X X':List Nat} {A:Option Addr} {n c:Nat} {xs:List α}
theorem Sl.len (h:Sl s w X A n c xs):n=xs.length:=h.1
theorem Sl.le (h:Sl s w X A n c xs):n≤c:=h.2.1
theorem Sl.max (h:Sl s w X A n c xs):c≤maxLen:=h.2.2.1
theorem Sl.none_ (h:Sl s w X A n c xs):A=none→c=0:=h.2.2.2.1
theorem Sl.reads (h:Sl s w X A n c xs):∃ vs,Reads w w.heap.size s.size A n vs∧(0<n → ∀ ad,A=some ad→ad.block ∉ X)∧aF s w X vs xs:=h.2.2.2.2
theorem Sl.nil_:Sl s w X none 0 0 []:=⟨rfl,Nat.le_refl _,Nat.zero_le _,fun _=>rfl,[],⟨by simp,fun h=>absurd h (by omega)⟩,fun h=>absurd h (by omega),rfl⟩
theorem Sl.keep (h:Sl s w X A n c xs) (k:js X w w'):Sl s w' X A n c xs:=by
 obtain⟨p,f,m,l,vs,a,b,g⟩:=h
 refine⟨p,f,m,l,vs,⟨a.1,fun hn=>?_⟩,b,g.keep k⟩
 obtain⟨ad,e,d,i⟩:=a.2 hn
 exact⟨ad,e,Nat.lt_of_lt_of_le d k.size,fun j u o=>(k.cell (by rw[aO];exact d) (by rw[aO];exact b hn ad e)).trans (i j u o)⟩
theorem Sl.more (h:Sl s w X A n c xs) (k:∀ b,b<w.heap.size→b ∈ X'→b ∈ X):Sl s w X' A n c xs:=by
 obtain⟨p,g,m,j,vs,f,l,i⟩:=h
 refine⟨p,g,m,j,vs,f,fun hn ad e d=>?_,i.more k⟩
 obtain⟨a,e',o,_⟩:=f.2 hn
 have:a=ad:=by rw[e]at e';injection e' with e';exact e'.symm
 subst this
 exact l hn a e (k _ o d)
theorem Sl.at_ (h:Sl s w X A n c xs) {i:Nat} {x:α} (a:xs[i]?=some x):∃ ad r,A=some ad∧ad.block<w.heap.size∧ad.block ∉ X∧s.rep w X r x ∧ ∀ (j:Nat) u,r[j]?=some u→w.cell? (ad.add (i*s.size+j))=some u:=by
 obtain⟨p,_,_,_,vs,o,g,m⟩:=h
 have q:=(List.getElem?_eq_some_iff.1 a).1
 obtain⟨ad,e,f,b⟩:=o.2 (by omega)
 obtain⟨r,l,d⟩:=m.get a
 exact⟨ad,r,e,f,g (by omega) ad e,l,fun j u k=>b _ u (d j u k)⟩
theorem Sl.pre (h:Sl s w X A n c xs) {k:Nat} (g:k≤n):Sl s w X A k c (xs.take k):=by
 obtain⟨p,q,f,l,vs,b,m,o⟩:=h
 refine⟨by simp;omega,by omega,f,l,vs.take (k*s.size),⟨?_,fun hn=>?_⟩,fun hn=>m (by omega),o.take k⟩
 ·rw[List.length_take,b.1];exact Nat.min_eq_left (Nat.mul_le_mul_right _ g)
 ·obtain⟨ad,e,i,d⟩:=b.2 (by omega)
  refine⟨ad,e,i,fun j u a=>d j u ?_⟩
  rw[List.getElem?_take]at a
  split at a
  ·exact a
  ·cases a
theorem Sl.suf (h:Sl s w X A n c xs) {k:Nat} (j:k≤n):Sl s w X (if c=k then A else A.map (·.add (k*s.size))) (n-k) (c-k) (xs.drop k):=by
 obtain⟨m,a,l,f,vs,g,i,b⟩:=h
 refine⟨by simp;omega,by omega,by omega,fun e=>?_,vs.drop (k*s.size),g.cut j a,fun hn ad e=>?_,b.drop k⟩
 ·by_cases d:c=k
  ·omega
  ·rw[if_neg d]at e
   cases A with
   | none=>have:=f rfl;omega
   | some ad=>cases e
 ·rw[if_neg (by omega)]at e
  cases A with
  | none=>cases e
  | some ad'=>
    injection e with e
    subst e
    rw[aO]
    exact i (by omega) ad' rfl
theorem Sl.of_own {base:Nat} {e:TypeId} {v:Value} {vs:List Value} (h:w.ownsRow base e s.size v n vs) (o:∀ b ∈ X,v.ownBlock≠some b) (i:aF s w X vs xs) (p:0<s.size):∃ A c,v = .slice A n c∧Sl s w X A n c xs:=by
 have k:n=xs.length:=by
  have a:=i.length
  rw[h.1]at a
  exact Nat.eq_of_mul_eq_mul_right p a
 rcases h with⟨a,⟨rfl,rfl⟩ | ⟨g,cap,cur,rfl,l,m,f,j,q⟩⟩
 ·have:xs = []:=List.eq_nil_of_length_eq_zero k.symm
  subst this
  exact⟨none,0,rfl,Sl.nil_⟩
 ·refine⟨_,cap,rfl,k,f,j,fun h=>(by cases h),vs,Reads.of_own (c:=cap) (base:=base) (e:=e) ⟨a,.inr ⟨g,cap,cur,rfl,l,m,f,j,q⟩⟩,fun _ ad e d=>?_,i⟩
  injection e with e
  subst e
  exact o _ d rfl
end
def vB {α:Type} (s:Sh α):Sh (List α) where
 size:=1
 rep w X vs xs := ∃ A n c,vs = [.slice A n c]∧Sl s w X A n c xs
 len:=by rintro w X vs a ⟨A,n,c,rfl,_⟩;rfl
 one:=by rintro w X vs a ⟨A,n,c,rfl,_⟩ u hu;rw[List.mem_singleton]at hu;subst hu;rfl
 keep:=by rintro w w' X vs a ⟨A,n,c,rfl,h⟩ k;exact⟨A,n,c,rfl,h.keep k⟩
 more:=by rintro w X X' vs a ⟨A,n,c,rfl,h⟩ k;exact⟨A,n,c,rfl,h.more k⟩
def jC {α:Type} (n:Nat) (f:α→List Value) (ok:α→Prop) (hl:∀ a,(f a).length=n) (h1:∀ a,∀ u ∈ f a,u.oneCell'=true):Sh α where
 size:=n
 rep w X vs a:=vs=f a∧ok a
 len:=by rintro w X vs a ⟨rfl,_⟩;exact hl a
 one:=by rintro w X vs a ⟨rfl,_⟩;exact h1 a
 keep:=by rintro w w' X vs a h k;exact h
 more:=by rintro w X X' vs a h k;exact h
def fh:Sh ByteArray:=jC 1 (fun s => [.string s]) (fun s=>s.size≤maxLen) (fun _=>rfl) (by intro a u hu;rw[List.mem_singleton]at hu;subst hu;rfl)
def au:Sh UInt8:=jC 1 (fun b => [.int .u8 (b.toNat:Int)]) (fun _=>True) (fun _=>rfl) (by intro a u hu;rw[List.mem_singleton]at hu;subst hu;rfl)
theorem aM {α:Type} {n:Nat} {f:α→List Value} {ok:α→Prop} {hl h1} {w:World} {X:List Nat}:∀ {xs:List α} {vs:List Value},aF (jC n f ok hl h1) w X vs xs ↔ vs=xs.flatMap f ∧ ∀ x ∈ xs,ok x
 | [],vs=>by simp[aF]
 | x::xs,vs=>by
   constructor
   ·rintro⟨r,rest,rfl,⟨rfl,b⟩,h⟩
    obtain⟨rfl,a⟩:=aM.1 h
    refine⟨by simp,fun y hy=>?_⟩
    rcases List.mem_cons.1 hy with rfl | hy
    ·exact b
    ·exact a y hy
   ·rintro⟨rfl,h⟩
    exact⟨f x,xs.flatMap f,by simp,⟨rfl,h x (by simp)⟩,aM.2 ⟨rfl,fun y hy=>h y (by simp[hy])⟩⟩
structure Fact where
 p:World→List Nat→Prop
 keep:∀ {w w' X},p w X→js X w w'→p w' X
 more:∀ {w X X'},p w X→(∀ b,b<w.heap.size→b ∈ X'→b ∈ X)→p w X'
def Sh.fact {α:Type} (s:Sh α) (vs:List Value) (a:α):Fact:=⟨fun w X=>s.rep w X vs a,fun h k=>s.keep h k,fun h k=>s.more h k⟩
def Sl.fact {α:Type} (s:Sh α) (A:Option Addr) (n c:Nat) (xs:List α):Fact:=⟨fun w X=>Sl s w X A n c xs,fun h k=>h.keep k,fun h k=>h.more k⟩
inductive Itm where
 | box (g:Nat) (t:TypeId) (cs:Array Value)
 | row (e:TypeId) (size:Nat) (v:Value) (n:Nat) (xs:List Value)
def Itm.blk:Itm→Option Nat
 | .box g _ _=>some g
 | .row _ _ v _ _=>v.ownBlock
def Itm.ok (W:World):Itm→Prop
 | .box g t cs=>Blk W g t cs
 | .row e size v n xs=>W.ownsRow 0 e size v n xs
def Exs (L:List Itm):List Nat:=L.filterMap Itm.blk
structure an (w0:World) (M:List Nat) (X0:List Nat) (W:World) (L:List Itm) (F:List Fact):Prop where
 same:W.os=w0.os∧W.tape=w0.tape∧W.output=w0.output
 size:w0.heap.size≤W.heap.size
 block:∀ b,b<w0.heap.size→b ∉ M→W.heap[b]?=w0.heap[b]?
 given:∀ g ∈ M,g ∈ X0
 xok:XOk X0 w0
 ents:∀ x ∈ L,x.ok W ∧ ∀ g,x.blk=some g→(w0.heap.size≤g∨g ∈ M)∧g<W.heap.size
 apart:L.Pairwise (fun x y => ∀ g,x.blk=some g→y.blk≠some g)
 facts:∀ f ∈ F,f.p W (Exs L++X0)
section
variable {w0 W W':World} {M X0:List Nat} {L:List Itm} {F:List Fact}
theorem rF {base:Nat} {e:TypeId} {size n:Nat} {v:Value} {xs:List Value} (h:W.ownsRow base e size v n xs):∀ g,v.ownBlock=some g→base≤g∧g<W.heap.size:=by
 intro g a
 rcases h.2 with⟨rfl,_⟩ | ⟨g',cap,cur,rfl,b,hh,_⟩
 ·simp[Value.ownBlock]at a
 ·have e:g'=g:=by simpa [Value.ownBlock] using a
  subst e
  exact⟨b,Blk.lt hh⟩
theorem qs {base:Nat} {e:TypeId} {size n:Nat} {v:Value} {xs:List Value} (h:W.ownsRow base e size v n xs) (i:∀ g,v.ownBlock=some g→W'.heap[g]?=W.heap[g]?):W'.ownsRow base e size v n xs:=by
 rcases h with⟨b,a | ⟨g,cap,cur,a,f,d,c⟩⟩
 ·exact⟨b,.inl a⟩
 ·subst a
  exact⟨b,.inr ⟨g,cap,cur,rfl,f,(i g rfl).trans d,c⟩⟩
theorem Itm.frame {x:Itm} (h:x.ok W) (a:∀ g,x.blk=some g→W'.heap[g]?=W.heap[g]?):x.ok W':=by
 cases x with
 | box g t cs=>exact(a g rfl).trans h
 | row e size v n xs=>exact qs h a
theorem an.start (w:World) {X:List Nat} (hX:XOk X w):an w [] X w [] []:=⟨⟨rfl,rfl,rfl⟩,Nat.le_refl _,fun _ _ _=>rfl,by simp,hX,by simp,List.Pairwise.nil,by simp⟩
theorem an.below (h:an w0 [] X0 W L F):Below w0.heap.size w0 W:=⟨h.same.1,h.same.2.1,h.same.2.2,h.size,fun b a=>h.block b a (by simp)⟩
theorem an.belowB (h:an w0 M X0 W L F) {B:Nat} (hB:B≤w0.heap.size) (a:∀ g ∈ M,B≤g):Below B w0 W:=⟨h.same.1,h.same.2.1,h.same.2.2,h.size,fun b c=>h.block b (Nat.lt_of_lt_of_le c hB) (fun d=>by have:=a b d;omega)⟩
theorem bI {g:Nat}:g ∈ Exs L ↔ ∃ x ∈ L,x.blk=some g:=by simp[Exs]
theorem an.xok' (h:an w0 M X0 W L F):XOk (Exs L++X0) W:=by
 intro b a
 rcases List.mem_append.1 a with a | a
 ·obtain⟨x,c,e⟩:=bI.1 a
  exact((h.ents x c).2 b e).2
 ·exact Nat.lt_of_lt_of_le (h.xok b a) h.size
theorem an.on (h:an w0 M X0 W L F) (a:Below W.heap.size W W'):an w0 M X0 W' L F:=
 ⟨⟨a.os.trans h.same.1,a.tape.trans h.same.2.1,a.output.trans h.same.2.2⟩,Nat.le_trans h.size a.size,fun b d i=>(a.block b (Nat.lt_of_lt_of_le d h.size)).trans (h.block b d i),h.given,h.xok,fun x c=>⟨Itm.frame (h.ents x c).1 (fun g e=>a.block g ((h.ents x c).2 g e).2),fun g e=>⟨((h.ents x c).2 g e).1,Nat.lt_of_lt_of_le ((h.ents x c).2 g e).2 a.size⟩⟩,h.apart,fun f j=>f.keep (h.facts f j) (js.of_below a)⟩
theorem an.drew (h:an w0 M X0 W L F):an w0 M X0 W.drew L F:=h.on (Below.refl _ _).drew
theorem an.drewN (h:an w0 M X0 W L F) (n:Nat):an w0 M X0 (W.drewN n) L F:=h.on (below_drewN (Below.refl _ _) n)
theorem an.know (h:an w0 M X0 W L F) (f:Fact) (b:f.p W (Exs L++X0)):an w0 M X0 W L (f::F):=
 ⟨h.same,h.size,h.block,h.given,h.xok,h.ents,h.apart,fun g a=>by
  rcases List.mem_cons.1 a with rfl | a
  ·exact b
  ·exact h.facts g a⟩
theorem an.fact (h:an w0 M X0 W L F) (i:Nat) {f:Fact} (a:F[i]?=some f):f.p W (Exs L++X0):=h.facts f (List.mem_of_getElem? a)
theorem an.forget (h:an w0 M X0 W L F) {F':List Fact} (a:F'.Sublist F):an w0 M X0 W L F':=⟨h.same,h.size,h.block,h.given,h.xok,h.ents,h.apart,fun f b=>h.facts f (a.subset b)⟩
theorem an.know0 (h:an w0 M X0 W L F) (f:Fact) (k:f.p w0 X0):an w0 M X0 W L (f::F):=by
 refine h.know f ?_
 have j:f.p w0 (Exs L++X0):=f.more k (fun b g a=>by
  rcases List.mem_append.1 a with a | a
  ·obtain⟨x,i,e⟩:=bI.1 a
   rcases((h.ents x i).2 b e).1 with d | d
   ·omega
   ·exact h.given b d
  ·exact a)
 exact f.keep j ⟨h.size,fun b g c=>h.block b g (fun a=>c (List.mem_append_right _ (h.given b a)))⟩
theorem an.back (h:an w0 M X0 W L F) {f:Fact} (b:f.p W (Exs L++X0)):f.p W X0:=f.more b (fun _ _ a=>List.mem_append_right _ a)
theorem an.back' (h:an w0 M X0 W L F) (i:Nat) {f:Fact} (a:F[i]?=some f):f.p W X0:=h.back (h.fact i a)
theorem an.drop (h:an w0 M X0 W L F) {L':List Itm} (c:L'.Sublist L):an w0 M X0 W L' F:=
 ⟨h.same,h.size,h.block,h.given,h.xok,fun x d=>h.ents x (c.subset d),h.apart.sublist c,fun f e=>f.more (h.facts f e) (fun b _ a=>by
  rcases List.mem_append.1 a with a | a
  ·exact List.mem_append_left _ ((c.filterMap _).subset a)
  ·exact List.mem_append_right _ a)⟩
theorem an.ent (h:an w0 M X0 W L F) (i:Nat) {x:Itm} (a:L[i]?=some x):x.ok W:=(h.ents x (List.mem_of_getElem? a)).1
theorem an.blk (h:an w0 M X0 W L F) (i:Nat) {g:Nat} {t:TypeId} {cs:Array Value} (a:L[i]?=some (.box g t cs)):Blk W g t cs:=h.ent i a
theorem an.cell (h:an w0 M X0 W L F) (i:Nat) {g:Nat} {t:TypeId} {cs:Array Value} (a:L[i]?=some (.box g t cs)) (j:Nat):W.cell? ⟨g,j,none⟩=cs[j]?:=(h.blk i a).cell j
theorem an.frozen (h:an w0 M X0 W L F) (i:Nat) {g:Nat} {t:TypeId} {cs:Array Value} (a:L[i]?=some (.box g t cs)) (j:Nat):W.frozen? ⟨g,j,none⟩=false:=(h.blk i a).frozen j
theorem an.lt (h:an w0 M X0 W L F) (i:Nat) {g:Nat} {t:TypeId} {cs:Array Value} (a:L[i]?=some (.box g t cs)):g<W.heap.size:=(h.blk i a).lt
theorem an.add (h:an w0 M X0 W L F) (d:Below W.heap.size W W') (x:Itm) (j:x.ok W') (c:∀ g,x.blk=some g→W.heap.size≤g∧g<W'.heap.size):an w0 M X0 W' (x::L) F:=by
 have h':=h.on d
 refine⟨h'.same,h'.size,h'.block,h.given,h.xok,fun y hy=>?_,List.Pairwise.cons (fun y hy g e e'=>?_) h.apart,fun f i=>f.keep (f.more (h.facts f i) (fun b k a=>?_)) (js.of_below d)⟩
 ·rcases List.mem_cons.1 hy with rfl | hy
  ·exact⟨j,fun g e=>⟨.inl (Nat.le_trans h.size (c g e).1),(c g e).2⟩⟩
  ·exact h'.ents y hy
 ·have l:=(c g e).1
  have m:=((h.ents y hy).2 g e').2
  omega
 ·rcases List.mem_append.1 a with a | a
  ·obtain⟨y,hy,e⟩:=bI.1 a
   rcases List.mem_cons.1 hy with rfl | hy
   ·have:=(c b e).1;omega
   ·exact List.mem_append_left _ (bI.2 ⟨y,hy,e⟩)
  ·exact List.mem_append_right _ a
theorem an.alloc (h:an w0 M X0 W L F) (t:TypeId) (cs:Array Value):an w0 M X0 (W.alloc (.cells cs t)) (.box W.heap.size t cs::L) F:=
 h.add ((Below.refl _ _).alloc (Nat.le_refl _) _) _ (Blk.new W t cs) (fun g e=>by injection e with e;subst e;simp)
theorem an.alloc_at (h:an w0 M X0 W L F) (t:TypeId) (cs:Array Value) (g:Nat) (a:W.heap.size=g):an w0 M X0 (W.alloc (.cells cs t)) (.box g t cs::L) F:=a ▸ h.alloc t cs
theorem an.alloc_off (h:an w0 M X0 W L F) (o:Obj):an w0 M X0 (W.alloc o) L F:=h.on ((Below.refl _ _).alloc (Nat.le_refl _) _)
theorem an.turn (h:an w0 M X0 W L F) (i:Nat) {x x':Itm} (u:L[i]?=some x) (D:W.heap.size≤W'.heap.size) (N:W'.os=W.os∧W'.tape=W.tape∧W'.output=W.output) (C:∀ b,b<W.heap.size→x.blk≠some b→W'.heap[b]?=W.heap[b]?) (U:x'.ok W') (E:∀ g,x'.blk=some g→(x.blk=some g∨W.heap.size≤g)∧g<W'.heap.size):an w0 M X0 W' (L.set i x') F:=by
 have hmem:∀ y ∈ L.set i x',(y=x' ∨ ∃ j,j≠i∧L[j]?=some y):=by
  intro y hy
  obtain⟨j,c⟩:=List.mem_iff_getElem?.1 hy
  rw[List.getElem?_set]at c
  by_cases q:i=j
  ·subst q
   rw[if_pos rfl]at c
   split at c
   ·injection c with c;exact .inl c.symm
   ·cases c
  ·rw[if_neg q]at c
   exact .inr ⟨j,fun e=>q e.symm,c⟩
 have v:∀ j y,j≠i→L[j]?=some y → ∀ g,y.blk=some g→x.blk≠some g:=by
  intro j y c hy g e e'
  obtain⟨s,w⟩:=List.getElem?_eq_some_iff.1 u
  obtain⟨z,B⟩:=List.getElem?_eq_some_iff.1 hy
  rcases Nat.lt_or_ge i j with J | S
  ·exact List.pairwise_iff_getElem.1 h.apart i j s z J g (w ▸ e') (B ▸ e)
  ·exact List.pairwise_iff_getElem.1 h.apart j i z s (by omega) g (B ▸ e) (w ▸ e')
 have A:=h.ents x (List.mem_of_getElem? u)
 refine⟨⟨N.1.trans h.same.1,N.2.1.trans h.same.2.1,N.2.2.trans h.same.2.2⟩,Nat.le_trans h.size D,fun k r a=>?_,h.given,h.xok,fun y hy=>?_,?_,fun f T=>?_⟩
 ·rw[C k (Nat.lt_of_lt_of_le r h.size) (fun e=>by
   rcases(A.2 k e).1 with d | d
   ·omega
   ·exact a d)]
  exact h.block k r a
 ·rcases hmem y hy with rfl | ⟨j,c,hy⟩
  ·refine⟨U,fun g e=>⟨?_,(E g e).2⟩⟩
   rcases(E g e).1 with d | d
   ·exact(A.2 g d).1
   ·exact .inl (Nat.le_trans h.size d)
  ·have l:=h.ents y (List.mem_of_getElem? hy)
   exact⟨Itm.frame l.1 (fun g e=>C g (l.2 g e).2 (v j y c hy g e)),fun g e=>⟨(l.2 g e).1,Nat.lt_of_lt_of_le (l.2 g e).2 D⟩⟩
 ·rw[List.pairwise_iff_getElem]
  intro j k c r O g
  simp only[List.length_set]at c r
  have key:∀ m y,m≠i→L[m]?=some y → ∀ g,x'.blk=some g→y.blk≠some g:=by
   intro m y a hy g e e'
   rcases(E g e).1 with d | d
   ·exact v m y a hy g e' d
   ·have:=((h.ents y (List.mem_of_getElem? hy)).2 g e').2;omega
  have P:=List.getElem?_eq_getElem c
  have H:=List.getElem?_eq_getElem r
  rw[List.getElem_set,List.getElem_set]
  by_cases d:i=j
  ·subst d
   rw[if_pos rfl,if_neg (by omega)]
   exact key k _ (by omega) H g
  ·rw[if_neg d]
   by_cases Q:i=k
   ·subst Q
    rw[if_pos rfl]
    exact fun e e'=>key j _ (by omega) P g e' e
   ·rw[if_neg Q]
    exact List.pairwise_iff_getElem.1 h.apart j k c r O g
 ·have t:=h.facts f T
  have R:f.p W' (Exs L++X0):=f.keep t ⟨D,fun b n o=>C b n (fun e=>o (List.mem_append_left _ (bI.2 ⟨x,List.mem_of_getElem? u,e⟩)))⟩
  have K:f.p W (Exs (L.set i x')++X0)∨True := .inr trivial
  clear K
  have I:f.p W (Exs (L.set i x')++Exs L++X0):=f.more t (fun b n a=>by
   rcases List.mem_append.1 a with a | a
   ·rcases List.mem_append.1 a with a | a
    ·obtain⟨y,hy,e⟩:=bI.1 a
     rcases hmem y hy with rfl | ⟨j,_,hy⟩
     ·rcases(E b e).1 with d | d
      ·exact List.mem_append_left _ (bI.2 ⟨x,List.mem_of_getElem? u,d⟩)
      ·omega
     ·exact List.mem_append_left _ (bI.2 ⟨y,List.mem_of_getElem? hy,e⟩)
    ·exact List.mem_append_left _ a
   ·exact List.mem_append_right _ a)
  have G:f.p W' (Exs (L.set i x')++Exs L++X0):=f.keep I ⟨D,fun b n o=>C b n (fun e=>o (List.mem_append_left _ (List.mem_append_right _ (bI.2 ⟨x,List.mem_of_getElem? u,e⟩))))⟩
  exact f.more G (fun b _ a=>by
   rcases List.mem_append.1 a with a | a
   ·exact List.mem_append_left _ (List.mem_append_left _ a)
   ·exact List.mem_append_right _ a)
theorem an.set_ (h:an w0 M X0 W L F) (i:Nat) {g:Nat} {t:TypeId} {cs:Array Value} (a:L[i]?=some (.box g t cs)) (o:Nat) (u:Value):an w0 M X0 (W.setCell ⟨g,o,none⟩ u) (L.set i (.box g t (cs.setIfInBounds o u))) F:=
 h.turn i a (by simp[World.setCell]) ⟨rfl,rfl,rfl⟩ (fun b _ c=>Below.heap_setCell W _ u b (fun e=>c (by rw[e];rfl))) ((h.blk i a).set_ o u) (fun g' e=>⟨.inl e,by injection e with e;subst e;have:=h.lt i a;simpa [World.setCell] using this⟩)
theorem an.appended (h:an w0 M X0 W L F) (i:Nat) {e:TypeId} {size n n':Nat} {v v':Value} {xs xs':List Value} {base:Nat} (k:L[i]?=some (.row e size v n xs)) (hown:W'.ownsRow base e size v' n' xs') (c:W.grownBy W' v.ownBlock) (d:v'.ownBlock=v.ownBlock∨v'.ownBlock=some W.heap.size):an w0 M X0 W' (L.set i (.row e size v' n' xs')) F:=
 h.turn i k c.size ⟨c.os,c.tape,c.output⟩ (fun b j f=>c.block b j (fun e=>f e.symm)) (cQ hown (Nat.zero_le _)) (fun g e=>⟨by
  rcases d with a | a
  ·exact .inl (a.symm.trans e)
  ·rw[show v'.ownBlock=some g from e]at a;injection a with a;exact .inr (by omega),(rF hown g e).2⟩)
theorem an.row (h:an w0 M X0 W L F) (i:Nat) {e:TypeId} {size n:Nat} {v:Value} {xs:List Value} (a:L[i]?=some (.row e size v n xs)):W.ownsRow 0 e size v n xs:=h.ent i a
theorem an.new_row (h:an w0 M X0 W L F) (b:Below W.heap.size W W') {e:TypeId} {size n:Nat} {v:Value} {xs:List Value} (a:W'.ownsRow W.heap.size e size v n xs):an w0 M X0 W' (.row e size v n xs::L) F:=
 h.add b _ (cQ a (Nat.zero_le _)) (fun g e=>rF a g e)
theorem an.nil_row (h:an w0 M X0 W L F) (e:TypeId) (size:Nat):an w0 M X0 W (.row e size (.slice none 0 0) 0 []::L) F:=
 h.add (Below.refl _ _) _ ⟨by simp,.inl ⟨rfl,rfl⟩⟩ (fun g e=>by cases e)
theorem an.done_row {α:Type} {s:Sh α} (h:an w0 M X0 W L F) (i:Nat) {e:TypeId} {n:Nat} {v:Value} {vs:List Value} {xs:List α} (p:L[i]?=some (.row e s.size v n vs)) (w:aF s W (Exs L++X0) vs xs) (x:0<s.size) (u:∀ g,v.ownBlock=some g→g ∉ M):
 ∃ A c,v = .slice A n c∧an w0 M X0 W (L.eraseIdx i) (Sl.fact s A n c xs::F):=by
 have h':=h.drop (List.eraseIdx_sublist L i)
 have o:aF s W (Exs (L.eraseIdx i)++X0) vs xs:=w.more (fun b _ f=>by
  rcases List.mem_append.1 f with f | f
  ·exact List.mem_append_left _ (((List.eraseIdx_sublist L i).filterMap _).subset f)
  ·exact List.mem_append_right _ f)
 have hown:=h.ent i p
 have m:=(h.ents _ (List.mem_of_getElem? p)).2
 obtain⟨A,c,t,z⟩:=Sl.of_own hown (X:=Exs (L.eraseIdx i)++X0) (fun b d e=>by
  rcases List.mem_append.1 d with d | d
  ·obtain⟨y,hy,e'⟩:=bI.1 d
   obtain⟨j,r,a⟩:=List.mem_iff_getElem.1 hy
   obtain⟨k,l⟩:=List.getElem?_eq_some_iff.1 p
   rw[List.getElem_eraseIdx]at a
   rw[List.length_eraseIdx]at r
   split at a
   ·exact List.pairwise_iff_getElem.1 h.apart j i (by omega) k (by omega) b (a ▸ e') (l ▸ e)
   ·exact List.pairwise_iff_getElem.1 h.apart i (j+1) k (by split at r<;>omega) (by omega) b (l ▸ e) (a ▸ e')
  ·have B:=h.xok b d
   rcases(m b e).1 with q | q
   ·omega
   ·exact absurd q (u b e)) o x
 exact⟨A,c,t,h'.know _ z⟩
end
end
section
theorem ak {P:Program} {ops:Array Oper} {Q:Exit→Act→World→Prop} {md:Region.Mode} {S:World→Prop} (i:Nat) {oi:Oper} {d:Nat} {v:Value} {fuel:Nat} {listed:Array Bool} {a:Act} {w:World} (j:ops[i]?=some oi)
 (g:Region.noSelect ops=true) (e:Region.free md ops listed i=true) (f:(Region.ready md ops listed).contains i=true) (b:oi.dst=some d)
 (hQ:∀ c a w,Q (.panic c) (a.put (some d) v) w→Q (.panic c) a w) (hy:YieldsIf P ops S oi v a) (hS:S w)
 (h:wpAnyH P md ops Q S fuel (listed.setIfInBounds i true) (a.put (some d) v) w):wpAnyH P md ops Q S (fuel+1) listed a w:=
 wpAnyH_take j g e f (by rw[b];exact hQ) hy hS (by rw[b];exact h)
theorem nL {P:Program} {ops:Array Oper} {Q:Exit→Act→World→Prop} {md:Region.Mode} {S c:World→Prop} (b:∀ w,c w→S w):∀ (fuel:Nat) {listed:Array Bool} {a:Act} {w:World},wpAnyH P md ops Q c fuel listed a w→wpAnyH P md ops Q S fuel listed a w
 | 0,_,_,_,h=>h
 | fuel+1,_,_,_,h=>⟨h.1,fun i e=>wpOp_mono (fun a w d=>⟨b w d.1,nL b fuel d.2⟩) (h.2 i e)⟩
theorem tS {P : Program} {ops : Array Oper} {Q : Exit → Act → World → Prop} {md : Region.Mode} {S : World → Prop} (i : Nat) {oi : Oper} {d : Nat} {v : Value} {fuel : Nat} {listed : Array Bool} {a a' : Act} {w : World}
 (hS : S w) (h : wpAnyH P md ops Q S fuel (listed.setIfInBounds i true) a' w) (hi : ops[i]? = some oi := by exact rfl) (hs : Region.noSelect ops = true := by kernel_rfl) (hf : Region.free md ops listed i = true := by kernel_rfl) (hr : (Region.ready md ops listed).contains i = true := by kernel_rfl) (hd : oi.dst = some d := by exact rfl)
 (hQ : ∀ c a w, Q (.panic c) (a.put (some d) v) w → Q (.panic c) a w := by exact fun _ _ _ h => h) (hw : Region.wanted oi (yielded ops a.tmps) = true := by rfl) (hy : ∀ w, S w → (execOp a.eval oi).run P w = .ok (.value v) w := by (intro W hSW; (try dsimp only at hSW); go_simp; try with_reducible rfl)) (ha : a.put (some d) v = a' := by (first | (simp only [Act.put, sI, sZ, sS]; done) | (simp only [Act.put, sI, sZ, sS]; exact rfl))) : wpAnyH P md ops Q S (fuel + 1) listed a w := ak i hi hs hf hr hd hQ (Or.inl ⟨hw, hy⟩) hS (ha ▸ h)
theorem tU {P : Program} {ops : Array Oper} {Q : Exit → Act → World → Prop} {md : Region.Mode} {S : World → Prop} (i : Nat) {oi : Oper} {d : Nat} {fuel : Nat} {listed : Array Bool} {a a' : Act} {w : World}
 (hS : S w) (h : wpAnyH P md ops Q S fuel (listed.setIfInBounds i true) a' w) (hi : ops[i]? = some oi := by exact rfl) (hs : Region.noSelect ops = true := by kernel_rfl) (hf : Region.free md ops listed i = true := by kernel_rfl) (hr : (Region.ready md ops listed).contains i = true := by kernel_rfl) (hd : oi.dst = some d := by exact rfl)
 (hQ : ∀ c a w, Q (.panic c) (a.put (some d) undef) w → Q (.panic c) a w := by exact fun _ _ _ h => h) (hw : Region.wanted oi (yielded ops a.tmps) = false := by rfl) (ha : a.put (some d) undef = a' := by (first | (simp only [Act.put, sI, sZ, sS]; done) | (simp only [Act.put, sI, sZ, sS]; exact rfl))) : wpAnyH P md ops Q S (fuel + 1) listed a w := ak i hi hs hf hr hd hQ (Or.inr ⟨hw, rfl⟩) hS (ha ▸ h)
end
section
open Go.RowKit
def dU (w0:World) (M X0:List Nat) (W:World) (L:List Itm) (F:List Fact) (i g:Nat) (t:TypeId):Prop := ∃ cs,an w0 M X0 W (L.set i (.box g t cs)) F
section
variable {w0 W W':World} {M X0:List Nat} {L:List Itm} {F:List Fact} {i g:Nat} {t:TypeId}
theorem an.but (h:an w0 M X0 W L F) (i:Nat) {g:Nat} {t:TypeId} {cs:Array Value} (c:L[i]?=some (.box g t cs)):dU w0 M X0 W L F i g t:=by
 refine⟨cs,?_⟩
 obtain⟨a,b⟩:=List.getElem?_eq_some_iff.1 c
 rw[←b,List.set_getElem_self a]
 exact h
theorem dU.cell (h:dU w0 M X0 W L F i g t) (j:Nat) {g':Nat} {t':TypeId} {cs':Array Value} (b:L[j]?=some (.box g' t' cs')) (a:i≠j) (k:Nat):W.cell? ⟨g',k,none⟩=cs'[k]?:=by
 obtain⟨cs,h⟩:=h
 exact h.cell j (by rw[List.getElem?_set_ne a];exact b) k
theorem dU.set_ (h:dU w0 M X0 W L F i g t) (b:i<L.length) (o:Nat) (u:Value):dU w0 M X0 (W.setCell ⟨g,o,none⟩ u) L F i g t:=by
 obtain⟨cs,h⟩:=h
 refine⟨cs.setIfInBounds o u,?_⟩
 have a:=h.set_ i (g:=g) (t:=t) (cs:=cs) (by rw[List.getElem?_set_self b]) o u
 rw[List.set_set]at a
 exact a
theorem an.ne (h:an w0 M X0 W L F) (i j:Nat) (l:i≠j) {g g':Nat} {t t':TypeId} {cs cs':Array Value} (k:L[i]?=some (.box g t cs)) (m:L[j]?=some (.box g' t' cs')):¬ g=g':=by
 rintro rfl
 obtain⟨a,b⟩:=List.getElem?_eq_some_iff.1 k
 obtain⟨c,d⟩:=List.getElem?_eq_some_iff.1 m
 rcases Nat.lt_or_ge i j with e | f
 ·exact List.pairwise_iff_getElem.1 h.apart i j a c e g (by rw[b];rfl) (by rw[d];rfl)
 ·exact List.pairwise_iff_getElem.1 h.apart j i c a (by omega) g (by rw[d];rfl) (by rw[b];rfl)
theorem dU.on (h:dU w0 M X0 W L F i g t) (a:Below W.heap.size W W'):dU w0 M X0 W' L F i g t:=by
 obtain⟨cs,h⟩:=h
 exact⟨cs,h.on a⟩
theorem dU.drew (h:dU w0 M X0 W L F i g t):dU w0 M X0 W.drew L F i g t:=h.on (Below.refl _ _).drew
theorem an.sl {α:Type} {s:Sh α} {A:Option Addr} {n c:Nat} {xs:List α} (h:an w0 M X0 W L F) (i:Nat) (a:F[i]?=some (Sl.fact s A n c xs)):Sl s W (Exs L++X0) A n c xs:=h.fact i a
theorem fT {α β:Type} (f:α→β):∀ l:List α,l.flatMap (fun x => [f x])=l.map f
 | []=>rfl
 | x::l=>by rw[List.flatMap_cons,fT f l,List.map_cons];rfl
theorem Sl.bytes {w:World} {X:List Nat} {A:Option Addr} {n c:Nat} {l:List UInt8} (h:Sl au w X A n c l):Reads w w.heap.size 1 A n (l.map (fun x=>Value.int .u8 (x.toNat:Int))):=by
 obtain⟨i,d,g,e,vs,a,f,b⟩:=h
 obtain⟨rfl,_⟩:=aM.1 b
 rw[fT]at a
 exact a
theorem dO {w:World} {X:List Nat} (l:List UInt8):aF au w X (l.map (fun x=>Value.int .u8 (x.toNat:Int))) l:=by
 exact aM.2 ⟨(fT _ l).symm,fun _ _=>trivial⟩
theorem Sl.of_made {α:Type} {s:Sh α} {w w':World} {X:List Nat} {e:TypeId} {v:Value} {n:Nat} {vs:List Value} {xs:List α} (h:w'.ownsRow w.heap.size e s.size v n vs) (hX:XOk X w) (a:aF s w' X vs xs) (d:0<s.size):∃ A c,v = .slice A n c∧Sl s w' X A n c xs:=
 Sl.of_own h (fun b f e=>by
  have i:=hX b f
  have g:=(rF h b e).1
  omega) a d
end
end
section
open Go.RowKit
def BR (P:Program) (t e:TypeId) (size bytes:Nat):Prop:=
 P.underlying t=some (.slice e) ∧ ∃ i z,P.info? e=some i∧i.zero=some z∧i.size=size∧i.bytes=bytes∧z.cells.size=size∧0<size
theorem Fy {P:Program} {t e:TypeId} {size bytes:Nat} {z:Value} (c:P.underlying t=some (.slice e)) (a:(P.info? e).map (fun i=>(i.zero,i.size,i.bytes))=some (some z,size,bytes)) (d:z.cells.size=size) (b:0<size):BR P t e size bytes:=by
 cases h:P.info? e with
 | none=>rw[h]at a;cases a
 | some i=>
   rw[h]at a
   simp only[Option.map_some,Option.some.injEq,Prod.mk.injEq]at a
   exact⟨c,i,z,h,a.1,a.2.1,a.2.2,d,b⟩
section
variable {P:Program} {w0 W:World} {M X0:List Nat} {L:List Itm} {F:List Fact}
end
theorem CK {G T:Prop} (a:Hid G→T) (key:G):T:=a key
theorem an.marked {f W:World} {M d:List Nat} {L:List Itm} {F:List Fact} (h:an f M d W L F) (C:Array Value) (e:TypeId) (fr:Nat×Nat) (l:List UInt8) (hC:C.toList=l.map (fun x=>Value.int .u8 (x.toNat:Int))) (g:l.length≤maxLen):
 an f M d (W.alloc (.cells C e fr)) L (Sl.fact au (some ⟨W.heap.size,0,none⟩) l.length l.length l::F):=by
 refine(h.alloc_off _).know _ ⟨rfl,Nat.le_refl _,g,fun e=>(by cases e),l.map (fun x=>Value.int .u8 (x.toNat:Int)),⟨by simp[au,jC],fun _=>⟨_,rfl,by simp,fun j u c=>?_⟩⟩,fun _ ad e' b=>?_,dO l⟩
 ·rw[add_plain,Nat.zero_add]
  have a:(W.alloc (.cells C e fr)).heap[W.heap.size]?=some (.cells C e fr):=by
   show(W.heap.push _)[W.heap.size]?=_
   simp
  unfold World.cell?
  simp only[a]
  rw[←hC]at c
  simpa using c
 ·injection e' with e'
  subst e'
  have a:=h.xok' _ b
  simp at a
end
section
open Go.RowKit
structure zn (M:List Nat) (w w':World):Prop where
 os:w'.os=w.os
 tape:w'.tape=w.tape
 output:w'.output=w.output
 size:w.heap.size≤w'.heap.size
 block:∀ b,b<w.heap.size→b ∉ M→w'.heap[b]?=w.heap[b]?
structure qt (w:World) (X:List Nat) (L:List Itm):Prop where
 ok:∀ x ∈ L,x.ok w ∧ ∀ g,x.blk=some g→g<w.heap.size
 apart:L.Pairwise (fun x y => ∀ g,x.blk=some g→y.blk≠some g)
 mem:∀ g ∈ Exs L,g ∈ X
section
variable {w0 W W' w w':World} {M X0 X:List Nat} {L L0:List Itm} {F:List Fact}
theorem an.only (h:an w0 M X0 W L F):zn M w0 W:=⟨h.same.1,h.same.2.1,h.same.2.2,h.size,h.block⟩
theorem an.startG (hX:XOk X w) (hG:qt w X L0):an w (Exs L0) X w L0 []:=
 ⟨⟨rfl,rfl,rfl⟩,Nat.le_refl _,fun _ _ _=>rfl,hG.mem,hX,fun x a=>⟨(hG.ok x a).1,fun g e=>⟨.inr (bI.2 ⟨x,a,e⟩),(hG.ok x a).2 g e⟩⟩,hG.apart,by simp⟩
theorem an.give1 (h:an w0 M X0 W L F) (i:Nat) {x:Itm} (b:L[i]?=some x):qt W (Exs L++X0) [x]:=by
 have a:=List.mem_of_getElem? b
 refine⟨fun y hy=>?_,List.pairwise_singleton _ _,fun g c=>?_⟩
 ·rw[List.mem_singleton]at hy
  subst hy
  exact⟨(h.ents y a).1,fun g e=>((h.ents y a).2 g e).2⟩
 ·obtain⟨y,hy,e⟩:=bI.1 c
  rw[List.mem_singleton]at hy
  subst hy
  exact List.mem_append_left _ (bI.2 ⟨y,a,e⟩)
theorem an.apart_ (h:an w0 M X0 W L F) {i j:Nat} (l:i≠j) {x y:Itm} (m:L[i]?=some x) (k:L[j]?=some y):∀ g,x.blk=some g→y.blk≠some g:=by
 intro g e e'
 obtain⟨a,d⟩:=List.getElem?_eq_some_iff.1 m
 obtain⟨b,c⟩:=List.getElem?_eq_some_iff.1 k
 rcases Nat.lt_or_ge i j with f | n
 ·exact List.pairwise_iff_getElem.1 h.apart i j a b f g (d ▸ e) (c ▸ e')
 ·exact List.pairwise_iff_getElem.1 h.apart j i b a (by omega) g (c ▸ e') (d ▸ e)
theorem an.give2 (h:an w0 M X0 W L F) {i j:Nat} (c:i≠j) {x y:Itm} (f:L[i]?=some x) (d:L[j]?=some y):qt W (Exs L++X0) [x,y]:=by
 have b:=List.mem_of_getElem? f
 have hy:=List.mem_of_getElem? d
 refine⟨fun z a=>?_,List.Pairwise.cons (fun z a=>?_) (List.pairwise_singleton _ _),fun g k=>?_⟩
 ·rcases List.mem_cons.1 a with rfl | a
  ·exact⟨(h.ents z b).1,fun g e=>((h.ents z b).2 g e).2⟩
  ·rw[List.mem_singleton]at a
   subst a
   exact⟨(h.ents z hy).1,fun g e=>((h.ents z hy).2 g e).2⟩
 ·rw[List.mem_singleton]at a
  subst a
  exact h.apart_ c f d
 ·obtain⟨z,a,e⟩:=bI.1 k
  rcases List.mem_cons.1 a with rfl | a
  ·exact List.mem_append_left _ (bI.2 ⟨z,b,e⟩)
  ·rw[List.mem_singleton]at a
   subst a
   exact List.mem_append_left _ (bI.2 ⟨z,hy,e⟩)
theorem an.wrote1 (h:an w0 M X0 W L F) (i:Nat) {g:Nat} {t:TypeId} {cs cs':Array Value} (k:L[i]?=some (.box g t cs)) (a:zn [g] W W') (f:Blk W' g t cs'):an w0 M X0 W' (L.set i (.box g t cs')) F:=
 h.turn i k a.size ⟨a.os,a.tape,a.output⟩ (fun b c d=>a.block b c (fun j=>by rw[List.mem_singleton]at j;exact d (by rw[j];rfl))) f (fun g' e=>⟨.inl e,by injection e with e;subst e;exact f.lt⟩)
theorem an.wrote2 (h:an w0 M X0 W L F) {i j:Nat} (l:i≠j) {g:Nat} {t:TypeId} {cs cs':Array Value} {e:TypeId} {size n n':Nat} {v v':Value} {xs xs':List Value} (s:L[i]?=some (.box g t cs)) (G:L[j]?=some (.row e size v n xs))
 (d:zn (Exs [.box g t cs,.row e size v n xs]) W W') (p:Blk W' g t cs') (E:W'.ownsRow 0 e size v' n' xs') (f:∀ b,v'.ownBlock=some b→v.ownBlock=some b∨W.heap.size≤b):an w0 M X0 W' ((L.set j (.row e size v' n' xs')).set i (.box g t cs')) F:=by
 have u:=h.lt i s
 have A:∃ o,W.heap[g]?=some o:=⟨_,h.blk i s⟩
 obtain⟨o,z⟩:=A
 have C:∀ b,v.ownBlock=some b→g≠b:=fun b a m=>by
  subst m
  exact h.apart_ l s G g rfl a
 have k:∀ b,v'.ownBlock=some b→g≠b:=fun b a=>by
  rcases f b a with q | q
  ·exact C b q
  ·omega
 let Wm:World:={ W' with heap:=W'.heap.setIfInBounds g o }
 have B:Wm.heap.size=W'.heap.size:=by simp[Wm]
 have y:∀ b,b≠g→Wm.heap[b]?=W'.heap[b]?:=fun b p=>by simp only[Wm];rw[Array.getElem?_setIfInBounds_ne (fun e=>p e.symm)]
 have w:Wm.heap[g]?=some o:=by
  simp only[Wm]
  rw[Array.getElem?_setIfInBounds_self_of_lt (Nat.lt_of_lt_of_le u d.size)]
 have q:an w0 M X0 Wm (L.set j (.row e size v' n' xs')) F:=by
  refine h.turn j G (by rw[B];exact d.size) ⟨d.os,d.tape,d.output⟩ (fun b D hn=>?_) ?_ (fun b a=>⟨f b a,by rw[B];exact(rF E b a).2⟩)
  ·by_cases c:b=g
   ·subst c;rw[w,z]
   ·rw[y b c]
    refine d.block b D (fun hmem=>?_)
    obtain⟨x,r,ex⟩:=bI.1 hmem
    rcases List.mem_cons.1 r with rfl | r
    ·injection ex with ex;exact c ex.symm
    ·rw[List.mem_singleton]at r
     subst r
     exact hn ex
  ·exact qs E (fun b a=>y b (fun m=>k b a m.symm))
 refine q.turn i (x := .box g t cs) (by rw[List.getElem?_set_ne (fun e=>l e.symm)];exact s) (by rw[B];exact Nat.le_refl _) ⟨rfl,rfl,rfl⟩ (fun b _ hn=>(y b (fun m=>hn (by rw[m];rfl))).symm) p (fun g' a=>⟨.inl a,by injection a with a;subst a;exact p.lt⟩)
end
end
section
open Go.RowKit
section
variable {w0 W W':World} {M X0 X X':List Nat} {L L':List Itm} {F:List Fact}
theorem an.perm (h:an w0 M X0 W L F) (d:L.Perm L'):an w0 M X0 W L' F:=
 ⟨h.same,h.size,h.block,h.given,h.xok,fun x i=>h.ents x (d.mem_iff.2 i),d.pairwise h.apart (fun {x y} c g e e'=>c g e' e),fun f j=>f.more (h.facts f j) (fun b _ a=>by
  rcases List.mem_append.1 a with a | a
  ·obtain⟨y,hy,e⟩:=bI.1 a
   exact List.mem_append_left _ (bI.2 ⟨y,d.mem_iff.2 hy,e⟩)
  ·exact List.mem_append_right _ a)⟩
def Ra.fact {α:Type} (s:Sh α) (vs:List Value) (xs:List α):Fact:=⟨fun w X=>aF s w X vs xs,fun h k=>h.keep k,fun h k=>h.more k⟩
theorem an.ra {α:Type} {s:Sh α} {vs:List Value} {xs:List α} (h:an w0 M X0 W L F) (i:Nat) (a:F[i]?=some (Ra.fact s vs xs)):aF s W (Exs L++X0) vs xs:=h.fact i a
end
end
section
open Go.RowKit
class Siz (W:World) (b k:outParam Nat):Prop where
 eq:W.heap.size=b+k
class Suc (k:Nat) (k':outParam Nat):Prop where
 eq:k'=k+1
class Adr (b k:Nat) (a:outParam Nat):Prop where
 eq:a=b+k
instance:Suc 0 1:=⟨rfl⟩
instance:Suc 1 2:=⟨rfl⟩
instance:Suc 2 3:=⟨rfl⟩
instance:Suc 3 4:=⟨rfl⟩
instance:Suc 4 5:=⟨rfl⟩
instance:Suc 5 6:=⟨rfl⟩
instance:Suc 6 7:=⟨rfl⟩
instance:Suc 7 8:=⟨rfl⟩
instance:Suc 8 9:=⟨rfl⟩
instance:Suc 9 10:=⟨rfl⟩
instance:Suc 10 11:=⟨rfl⟩
instance:Suc 11 12:=⟨rfl⟩
instance (priority:=10) adrP (b k:Nat):Adr b k (b+k):=⟨rfl⟩
instance Gc (b:Nat):Adr b 0 b:=⟨rfl⟩
instance (priority:=10) sizZ (W:World):Siz W W.heap.size 0:=⟨rfl⟩
instance Gg (W:World) (o:Obj) (b k k':Nat) [h:Siz W b k] [s:Suc k k']:Siz (W.alloc o) b k':=⟨by rw[s.eq,←Nat.add_assoc,←h.eq];simp⟩
instance Gf (W:World) (p:Addr) (v:Value) (b k:Nat) [h:Siz W b k]:Siz (W.setCell p v) b k:=⟨by rw[←h.eq];simp[World.setCell]⟩
instance Gj (W:World) (b k:Nat) [h:Siz W b k]:Siz W.drew b k:=⟨h.eq⟩
instance Gk (W:World) (n b k:Nat) [h:Siz W b k]:Siz (W.drewN n) b k:=⟨h.eq⟩
class DT (l:List Value) (o:Nat) (v:Value) (l':outParam (List Value)):Prop where
 eq:l'=l.set o v
instance Ga (x v:Value) (l:List Value):DT (x::l) 0 v (v::l):=⟨rfl⟩
instance FZ (x v:Value) (l l':List Value) (n:Nat) [h:DT l n v l']:DT (x::l) (n+1) v (x::l'):=⟨by rw[h.eq];rfl⟩
class Ff (cs:Array Value) (o:Nat) (v:Value) (cs':outParam (Array Value)):Prop where
 eq:cs'=cs.setIfInBounds o v
instance (priority:=10) setA0 (cs:Array Value) (o:Nat) (v:Value):Ff cs o v (cs.setIfInBounds o v):=⟨rfl⟩
instance FY (l l':List Value) (o:Nat) (v:Value) [h:DT l o v l']:Ff l.toArray o v l'.toArray:=⟨by rw[h.eq];simp⟩
class Upd (L:List Itm) (g o:Nat) (v:Value) (L':outParam (List Itm)):Prop where
 ex:∃ i t cs,L[i]?=some (.box g t cs)∧L'=L.set i (.box g t (cs.setIfInBounds o v))
instance Gh (L:List Itm) (g o:Nat) (t:TypeId) (cs cs':Array Value) (v:Value) [h:Ff cs o v cs']:Upd (.box g t cs::L) g o v (.box g t cs'::L):=⟨0,t,cs,rfl,by rw[h.eq];rfl⟩
instance (priority:=10) upd1 (x:Itm) (L L':List Itm) (g o:Nat) (v:Value) [h:Upd L g o v L']:Upd (x::L) g o v (x::L'):=by
 obtain⟨i,t,cs,h1,h2⟩:=h.ex
 exact⟨i+1,t,cs,by simpa using h1,by rw[h2];rfl⟩
class Adv (W W':World) (L:List Itm) (L':outParam (List Itm)):Prop where
 go:∀ {w0 M X F},an w0 M X W L F→an w0 M X W' L' F
instance Gb (W:World) (L:List Itm):Adv W W L L:=⟨fun h=>h⟩
instance (priority:=20) advO (W W':World) (L L':List Itm) (o:Obj) [h:Adv W W' L L']:Adv W (W'.alloc o) L L':=⟨fun K=>(h.go K).alloc_off o⟩
instance Gi (W W':World) (L L':List Itm) (t:TypeId) (cs:Array Value) (b k a:Nat) [h:Adv W W' L L'] [s:Siz W' b k] [e:Adr b k a]:Adv W (W'.alloc (.cells cs t)) L (.box a t cs::L'):=⟨fun K=>(h.go K).alloc_at t cs a (by rw[e.eq,s.eq])⟩
instance Gl (W W':World) (L L' L'':List Itm) (g o:Nat) (v:Value) [h:Adv W W' L L'] [u:Upd L' g o v L'']:Adv W (W'.setCell ⟨g,o,none⟩ v) L L'':=⟨fun K=>by
 obtain⟨i,t,cs,h1,h2⟩:=u.ex
 rw[h2]
 exact(h.go K).set_ i h1 o v⟩
instance Gd (W W':World) (L L':List Itm) [h:Adv W W' L L']:Adv W W'.drew L L':=⟨fun K=>(h.go K).drew⟩
instance Ge (W W':World) (L L':List Itm) (n:Nat) [h:Adv W W' L L']:Adv W (W'.drewN n) L L':=⟨fun K=>(h.go K).drewN n⟩
def HH (w0:World) (M X:List Nat) (W:World) (L:List Itm) (F:List Fact):Prop:=an w0 M X W L F
section
variable {w0 W W' w1:World} {M X:List Nat} {L L':List Itm} {F:List Fact} {P:Program}
theorem HH.out (K:HH w0 M X W L F):an w0 M X W L F:=K
theorem an.hh (K:an w0 M X W L F):HH w0 M X W L F:=K
theorem hstart (hX:XOk X W):HH W [] X W [] []:=an.start W hX
theorem HH.on (K:HH w0 M X W L F) (a:Below W.heap.size W W'):HH w0 M X W' L F:=K.out.on a
theorem HH.to (K:HH w0 M X W L F) [h:Adv W W' L L']:HH w0 M X W' L' F:=h.go K.out
theorem HH.c (K:HH w0 M X W L F) (i:Nat) {g:Nat} {t:TypeId} {cs:Array Value} (a:L[i]?=some (.box g t cs)):(∀ j,W.cell? ⟨g,j,none⟩=cs[j]?) ∧ ∀ j,W.frozen? ⟨g,j,none⟩=false:=
 ⟨fun j=>K.out.cell i a j,fun j=>K.out.frozen i a j⟩
theorem HH.r (K:HH w0 M X W L F) (i:Nat) {g:Nat} {t:TypeId} {cs:Array Value} (a:L[i]?=some (.box g t cs)):∀ j,W.cell? ⟨g,j,none⟩=cs[j]?:=K.out.cell i a
theorem HH.ne (K:HH w0 M X W L F) (i j:Nat) (a:i≠j) {g g':Nat} {t t':TypeId} {cs cs':Array Value} (c:L[i]?=some (.box g t cs)) (b:L[j]?=some (.box g' t' cs')):¬ g=g' ∧ ¬ g'=g:=⟨K.out.ne i j a c b,K.out.ne j i (fun e=>a e.symm) b c⟩
theorem HH.kn (K:HH w0 M X W L F) {f:Fact} (h:f.p W (Exs L++X)):HH w0 M X W L (f::F):=K.out.know f h
theorem HH.ksl {α:Type} {s:Sh α} {A:Option Addr} {n c:Nat} {xs:List α} (K:HH w0 M X W L F) (h:Sl s W (Exs L++X) A n c xs):HH w0 M X W L (Sl.fact s A n c xs::F):=K.out.know (Sl.fact s A n c xs) h
theorem HH.k0 (K:HH w0 M X W L F) {f:Fact} (h:f.p w0 X):HH w0 M X W L (f::F):=K.out.know0 f h
theorem HH.ksl0 {α:Type} {s:Sh α} {A:Option Addr} {n c:Nat} {xs:List α} (K:HH w0 M X W L F) (h:Sl s w0 X A n c xs):HH w0 M X W L (Sl.fact s A n c xs::F):=K.out.know0 (Sl.fact s A n c xs) h
theorem HH.sl {α:Type} {s:Sh α} {A:Option Addr} {n c:Nat} {xs:List α} (K:HH w0 M X W L F) (i:Nat) (a:F[i]?=some (Sl.fact s A n c xs)):Sl s W (Exs L++X) A n c xs:=K.out.sl i a
theorem HH.fa (K:HH w0 M X W L F) (i:Nat) {f:Fact} (a:F[i]?=some f):f.p W (Exs L++X):=K.out.fact i a
theorem HH.back (K:HH w0 M X W L F) {f:Fact} (h:f.p W (Exs L++X)):f.p W X:=K.out.back h
theorem HH.slb {α:Type} {s:Sh α} {A:Option Addr} {n c:Nat} {xs:List α} (K:HH w0 M X W L F) (i:Nat) (a:F[i]?=some (Sl.fact s A n c xs)):Sl s W X A n c xs:=K.out.back' (f:=Sl.fact s A n c xs) i a
theorem HH.xok (K:HH w0 M X W L F):XOk (Exs L++X) W:=K.out.xok'
theorem HH.below (K:HH w0 [] X W L F):Below w0.heap.size w0 W:=K.out.below
theorem HH.drop (K:HH w0 M X W L F) {L':List Itm} (a:L'.Sublist L):HH w0 M X W L' F:=K.out.drop a
theorem HH.tl {x:Itm} (K:HH w0 M X W (x::L) F):HH w0 M X W L F:=K.out.drop (List.sublist_cons_self _ _)
theorem HH.ft {f:Fact} (K:HH w0 M X W L (f::F)):HH w0 M X W L F:=K.out.forget (List.sublist_cons_self _ _)
theorem HH.cl {f:FuncId} {args:Array Value} {R:Ending→World→Prop} (K:HH w0 M X W L F) [h:Adv W W' L L'] (k:∀ U,HH w0 M X U L' F→Calls P f args U R):Calls P f args W' R:=k W' (h.go K.out)
theorem HH.cw {Q:Exit→Act→World→Prop} {c:Code} {a:Act} (K:HH w0 M X W L F) [h:Adv W W' L L'] (k:∀ U,HH w0 M X U L' F→c.wp P Q a U):c.wp P Q a W':=k W' (h.go K.out)
theorem HH.lw {Q:Exit→Act→World→Prop} {ops:Array Oper} {l:List Oper} {a:Act} (K:HH w0 M X W L F) [h:Adv W W' L L'] (k:∀ U,HH w0 M X U L' F→wpList P ops Q l a U):wpList P ops Q l a W':=k W' (h.go K.out)
theorem HH.bp {fn:Func} {R:Ending→World→Prop} {e:Exit} {a:Act} (K:HH w0 M X W L F) [h:Adv W W' L L'] (k:∀ U,HH w0 M X U L' F→bodyPost P fn R e a U):bodyPost P fn R e a W':=k W' (h.go K.out)
theorem HH.rg {id:Nat} {ops:Array Oper} {Q:Exit→Act→World→Prop} {a:Act} (K:HH w0 M X W L F) [h:Adv W W' L L']
 (k:∀ U,HH w0 M X U L' F→wpAnyH P .any ops (NoPanic Q) (fun V=>HH w0 M X V L' F) ops.size (Array.replicate ops.size false) a U) (b:P.follows .mixedOrders=true:=by kernel_rfl):(Code.region id ops true).wp P Q a W':=
 wp_region_noPanic (wp_region_held_drew (S:=fun V=>HH w0 M X V L' F) b (h.go K.out).drew fun hS=>k _ hS)
end
theorem aq {α:Type} (l:List α) (i:Nat) (a:α):l.toArray.setIfInBounds i a=(l.set i a).toArray:=List.setIfInBounds_toArray ..
theorem aj {α:Type} {x:α} {xs:List α} {a:α}:(x::xs).set 0 a=a::xs:=rfl
theorem ai {α:Type} {x:α} {xs:List α} {i:Nat} {a:α}:(x::xs).set (i+1) a=x::xs.set i a:=rfl
def nk (P:Program) (ty:TypeId) (n:Nat):Bool:=(match P.underlying ty with | some (.struct _)=>true | some (.array _ _)=>true | _=>false)&&((P.info? ty).map (·.size) == some n)
theorem pN {P:Program} {ty:TypeId} {n:Nat} (h:nk P ty n=true):∃ d,P.underlying ty=some d∧(match d with | .struct _ | .array _ _=>true | _=>false)=true∧(P.info? ty).map (·.size)=some n:=by
 unfold nk at h
 rw[Bool.and_eq_true,beq_iff_eq]at h
 obtain⟨a,b⟩:=h
 cases hu:P.underlying ty with
 | none=>rw[hu]at a;cases a
 | some d=>
   refine⟨d,rfl,?_,b⟩
   rw[hu]at a
   cases d<;>first | rfl | exact a
section
variable {w0 W W' w1:World} {M X:List Nat} {L L':List Itm} {F:List Fact} {P:Program}
theorem HH.ld {ops:Array Oper} {rest:List Oper} {o:Oper} {a a':Act} {Q:Exit→Act→World→Prop} {g:Nat} {t ty:TypeId} {cs:Array Value} {x:Operand} (K:HH w0 M X W L F) (i:Nat) (j:L[i]?=some (.box g t cs))
 (h:wpList P ops Q rest a' W) (b:o.guard=none:=by rfl) (ho:o.op = .load ty x:=by rfl) (hx:a.eval x = .pointer (some ⟨g,0,none⟩):=by rfl) (hT:nk P ty cs.size=true:=by kernel_rfl)
 (ha:a.put o.dst (.agg cs)=a':=by(first | (simp only[Act.put,aq,aj,ai];done) | (simp only[Act.put,aq,aj,ai];exact rfl))):wpList P ops Q (o::rest) a W:=by
 obtain⟨d,e,f,c⟩:=pN hT
 exact wpList_load_row b ty x ho g hx t cs (0,0) d (K.out.blk i j) e (by cases d<;>first | rfl | exact f) c (ha ▸ h)
end
section
variable {P:Program} {ops:Array Oper} {Q:Exit→Act→World→Prop} {md:Region.Mode} {S:World→Prop}
theorem tK (i:Nat) {oi:Oper} {d:Nat} {v:Value} {fuel:Nat} {listed:Array Bool} {a a':Act} {w:World}
 (hS:S w) (h:wpAnyH P md ops Q S fuel (listed.setIfInBounds i true) a' w) (e:ops[i]?=some oi:=by exact rfl) (hs:Region.noSelect ops=true:=by kernel_rfl) (hf:Region.free md ops listed i=true:=by kernel_rfl) (hr:(Region.ready md ops listed).contains i=true:=by kernel_rfl) (hd:oi.dst=some d:=by exact rfl)
 (hQ:∀ c a w,Q (.panic c) (a.put (some d) v) w→Q (.panic c) a w:=by exact fun _ _ _ h=>h) (hw:Region.wanted oi (yielded ops a.tmps)=true:=by rfl) (hy:∀ w,S w→(execOp a.eval oi).run P w = .ok (.value v) w:=by(intro W b;(try dsimp only at b);go_simp;try with_reducible rfl)) (ha:a.put (some d) v=a':=by(first | (simp only[Act.put,aq,aj,ai];done) | (simp only[Act.put,aq,aj,ai];exact rfl))):wpAnyH P md ops Q S (fuel+1) listed a w:=ak i e hs hf hr hd hQ (Or.inl ⟨hw,hy⟩) hS (ha ▸ h)
theorem tL (i:Nat) {T:World→Prop} (hT:∀ w,S w→T w) {oi:Oper} {d:Nat} {v:Value} {fuel:Nat} {listed:Array Bool} {a a':Act} {w:World}
 (hS:S w) (h:wpAnyH P md ops Q S fuel (listed.setIfInBounds i true) a' w) (f:ops[i]?=some oi:=by exact rfl) (hs:Region.noSelect ops=true:=by kernel_rfl) (hf:Region.free md ops listed i=true:=by kernel_rfl) (hr:(Region.ready md ops listed).contains i=true:=by kernel_rfl) (hd:oi.dst=some d:=by exact rfl)
 (hQ:∀ c a w,Q (.panic c) (a.put (some d) v) w→Q (.panic c) a w:=by exact fun _ _ _ h=>h) (e:Region.wanted oi (yielded ops a.tmps)=true:=by rfl) (hy:∀ w,T w→(execOp a.eval oi).run P w = .ok (.value v) w:=by(intro W b;(try dsimp only at b);go_simp;try with_reducible rfl)) (ha:a.put (some d) v=a':=by(first | (simp only[Act.put,aq,aj,ai];done) | (simp only[Act.put,aq,aj,ai];exact rfl))):wpAnyH P md ops Q S (fuel+1) listed a w:=ak i f hs hf hr hd hQ (Or.inl ⟨e,fun w e=>hy w (hT w e)⟩) hS (ha ▸ h)
theorem tN (i:Nat) {oi:Oper} {d:Nat} {fuel:Nat} {listed:Array Bool} {a a':Act} {w:World}
 (hS:S w) (h:wpAnyH P md ops Q S fuel (listed.setIfInBounds i true) a' w) (b:ops[i]?=some oi:=by exact rfl) (hs:Region.noSelect ops=true:=by kernel_rfl) (hf:Region.free md ops listed i=true:=by kernel_rfl) (hr:(Region.ready md ops listed).contains i=true:=by kernel_rfl) (hd:oi.dst=some d:=by exact rfl)
 (hQ:∀ c a w,Q (.panic c) (a.put (some d) undef) w→Q (.panic c) a w:=by exact fun _ _ _ h=>h) (hw:Region.wanted oi (yielded ops a.tmps)=false:=by rfl) (ha:a.put (some d) undef=a':=by(first | (simp only[Act.put,aq,aj,ai];done) | (simp only[Act.put,aq,aj,ai];exact rfl))):wpAnyH P md ops Q S (fuel+1) listed a w:=ak i b hs hf hr hd hQ (Or.inr ⟨hw,rfl⟩) hS (ha ▸ h)
theorem tC (i:Nat) {o:Oper} {fuel:Nat} {listed:Array Bool} {a:Act} {w:World}
 (h:∀ K':Act→World→Prop,Shut (∀ a w,S w→(S w→wpAnyH P md ops Q S fuel (listed.setIfInBounds i true) a w)→K' a w)→if Region.wanted o (yielded ops a.tmps)=true then Oper.wp P o a w K' Q else K' (a.put o.dst undef) w)
 (b:Region.ready md ops listed = [i]:=by kernel_rfl) (ho:ops[i]?=some o:=by exact rfl):wpAnyH P md ops Q S (fuel+1) listed a w:=wpAnyH_ready b (by simp) (AllReadyH.cons ho h AllReadyH.nil)
theorem tE {fuel:Nat} {listed:Array Bool} {a:Act} {w:World} (h:Q .normal a w) (b:Region.ready md ops listed = []:=by kernel_rfl):wpAnyH P md ops (NoPanic Q) S fuel listed a w:=wpAnyH_done b (NoPanic.normal h) _
end
end
section
open Go.RowKit
section
variable {w0 W W' w1:World} {M X:List Nat} {L L':List Itm} {F:List Fact} {P:Program}
theorem an.setRow (h:an w0 M X W L F) (i:Nat) {g:Nat} {t:TypeId} {cs:Array Value} (a:L[i]?=some (.box g t cs)) (cells:Array Value):an w0 M X (W.setRow g cells) (L.set i (.box g t cells)) F:=
 h.turn i a (by simp) ⟨rfl,rfl,rfl⟩ (fun b _ c=>setRow_other W g b cells (fun e=>c (by rw[e];rfl))) (setRow_heap W g cs cells t (0,0) (h.blk i a)) (fun g' e=>⟨.inl e,by injection e with e;subst e;have:=h.lt i a;simpa using this⟩)
theorem HH.sr {ops:Array Oper} {rest:List Oper} {o:Oper} {a:Act} {Q:Exit→Act→World→Prop} {g:Nat} {t ty:TypeId} {old cells:Array Value} {x y:Operand} (K:HH w0 M X W L F) (i:Nat) (c:L[i]?=some (.box g t old))
 (k:∀ U,HH w0 M X U L' F→wpList P ops Q rest a U) (b:o.guard=none:=by rfl) (ho:o.op = .store ty x y:=by rfl) (hd:o.dst=none:=by rfl)
 (hx:a.eval x = .pointer (some ⟨g,0,none⟩):=by rfl) (hy:a.eval y = .agg cells:=by rfl) (hT:((P.info? ty).map (·.size) == some cells.size)=true:=by kernel_rfl) (hz:old.size=cells.size:=by rfl) (h1:cells.toList.all (·.oneCell')=true:=by rfl) (hL:L.set i (.box g t cells)=L':=by(first | (simp only[aj,ai];done) | (simp only[aj,ai];exact rfl))):
 wpList P ops Q (o::rest) a W:=
 wpList_store_row b ty x y ho g cells hx hy t old (K.out.blk i c) (beq_iff_eq.1 hT) hz (by rw[←Array.all_toList];exact h1) (by
  rw[hd]
  exact k _ (hL ▸ K.out.setRow i c cells))
theorem fS {g:Nat} {t ty:TypeId} {cs:Array Value} (K:HH w0 M X W L F) (i:Nat) (c:L[i]?=some (.box g t cs)) (hT:nk P ty cs.size=true):(loadVar ty ⟨g,0,none⟩).run P W = .ok (.agg cs) W:=by
 obtain⟨d,e,a,b⟩:=pN hT
 exact run_loadVar_row W g t ty cs (0,0) d (K.out.blk i c) e (by cases d<;>first | rfl | exact a) b
theorem HH.rc1 {fn:Func} {R:Ending→World→Prop} {a:Act} {g:Nat} {p:Tmp} {t ty:TypeId} {cs:Array Value} (K:HH w0 M X W L F) (i:Nat) (c:L[i]?=some (.box g t cs)) (e:fn.results=#[.cell p ty]) (hR:R (.returned (.agg cs)) W)
 (d:a.tmps.getD p undef = .pointer (some ⟨g,0,none⟩):=by rfl) (hT:nk P ty cs.size=true:=by kernel_rfl) (hd:a.defers = []:=by rfl):bodyPost P fn R .ret a W:=by
 have b:a.tmps[p]?.getD undef = .pointer (some ⟨g,0,none⟩):=by simpa using d
 exact⟨hd,_,by simp[results,e,b,asAddr,fS K i c hT],hR⟩
theorem HH.rc2 {fn:Func} {R:Ending→World→Prop} {a:Act} {g:Nat} {p q:Tmp} {t ty:TypeId} {cs:Array Value} (K:HH w0 M X W L F) (i:Nat) (c:L[i]?=some (.box g t cs)) (e:fn.results=#[.cell p ty,.tmp q]) (hR:R (.returned (.tuple #[.agg cs,a.tmps.getD q undef])) W)
 (d:a.tmps.getD p undef = .pointer (some ⟨g,0,none⟩):=by rfl) (hT:nk P ty cs.size=true:=by kernel_rfl) (hd:a.defers = []:=by rfl):bodyPost P fn R .ret a W:=by
 have b:a.tmps[p]?.getD undef = .pointer (some ⟨g,0,none⟩):=by simpa using d
 exact⟨hd,.tuple #[.agg cs,a.tmps.getD q undef],by simp[results,e,b,asAddr,fS K i c hT],hR⟩
end
instance (priority:=200) advRow (W W':World) (L L':List Itm) (g:Nat) (t:TypeId) (cs cells:Array Value) [h:Adv W W' L (.box g t cs::L')]:Adv W (W'.setRow g cells) L (.box g t cells::L'):=⟨fun K=>(h.go K).setRow 0 rfl cells⟩
end
section
open Go.RowKit
def At (W:World) (p:Addr) (cs:List Value):Prop := ∀ j v,cs[j]?=some v→W.cell? (p.add j)=some v
section
variable {P:Program} {W W':World}
theorem oZ {p:Addr} {ty:TypeId} {cs:List Value} (h:At W p cs) (hT:nk P ty cs.length=true):(loadVar ty p).run P W = .ok (.agg cs.toArray) W:=by
 obtain⟨d,e,g,b⟩:=pN hT
 have f:(loadCells p cs.length).run P W = .ok cs.toArray W:=run_loadCells_list (P:=P) W p cs h
 cases hq:P.info? ty with
 | none=>simp[hq]at b
 | some i=>
   have c:i.size=cs.length:=by simpa [hq] using b
   have a:(isAgg ty).run P W = .ok true W:=by
    unfold isAgg
    rw[Sem.run_bind,run_underlying e W]
    cases d<;>simp_all
   simp[loadVar,Sem.run_bind,a,sizeOf,typeInfo,hq,c,f]
theorem lu {p:Addr} {ty:TypeId} {cs:List Value} (h:At W p cs) (hT:nk P ty cs.length=true):(Instr.loadAt ty (.pointer (some p))).run P W = .ok (.agg cs.toArray) W:=by
 simp only[Instr.loadAt,Instr.sureAddr,Sem.run_bind,Sem.run_pure,Result.andThen_ok,oZ h hT]
theorem bu {ops:Array Oper} {rest:List Oper} {o:Oper} {a a':Act} {Q:Exit→Act→World→Prop} {p:Addr} {ty:TypeId} {x:Operand} {cs:List Value} (b:At W p cs)
 (h:wpList P ops Q rest a' W) (c:Region.wanted o (yielded ops a.tmps)=true:=by rfl) (ho:o.op = .load ty x:=by rfl) (hx:a.eval x = .pointer (some p):=by rfl) (hT:nk P ty cs.length=true:=by kernel_rfl)
 (ha:a.put o.dst (.agg cs.toArray)=a':=by(first | (simp only[Act.put,aq,aj,ai];done) | (simp only[Act.put,aq,aj,ai];exact rfl))):wpList P ops Q (o::rest) a W:=
 wpList_step fun _ hK=>by
  rw[if_pos c]
  unfold Oper.wp execOp
  simp only[ho,hx,Sem.run_bind,lu b hT,Result.andThen_ok,Sem.run_pure]
  exact hK _ _ (ha ▸ h)
theorem aD {op:Oper} {ev:Operand→Value} {p:Addr} {ty:TypeId} {x:Operand} {cs:List Value} (h:At W p cs) (a:op.op = .load ty x:=by rfl) (hx:ev x = .pointer (some p):=by rfl) (hT:nk P ty cs.length=true:=by kernel_rfl):(execOp ev op).run P W = .ok (.value (.agg cs.toArray)) W:=by
 unfold execOp
 simp only[a,hx,Sem.run_bind,lu h hT,Result.andThen_ok,Sem.run_pure]
theorem HH.at_ {d:World} {M X:List Nat} {L:List Itm} {F:List Fact} (K:HH d M X W L F) (i:Nat) {g:Nat} {t:TypeId} {cs:Array Value} (c:L[i]?=some (.box g t cs)):At W ⟨g,0,none⟩ cs.toList:=fun j v b=>by
 have a:(⟨g,0,none⟩:Addr).add j=⟨g,j,none⟩:=by unfold Addr.add;split<;>simp_all
 rw[a,K.out.cell i c j]
 simpa using b
theorem Sl.at' {α:Type} {s:Sh α} {X:List Nat} {A:Option Addr} {n c:Nat} {xs:List α} (h:Sl s W X A n c xs) {i:Nat} {x:α} (g:xs[i]?=some x):∃ ad r,A=some ad∧ad.block<W.heap.size∧ad.block ∉ X∧s.rep W X r x∧At W (ad.add (i*s.size)) r:=by
 obtain⟨ad,r,d,f,b,e,a⟩:=h.at_ g
 exact⟨ad,r,d,f,b,e,fun j v k=>by rw[cN];exact a j v k⟩
end
def At.fact (p:Addr) (cs:List Value):Fact:=⟨fun w X=>p.block<w.heap.size∧p.block ∉ X∧At w p cs,
 fun h k=>⟨Nat.lt_of_lt_of_le h.1 k.size,h.2.1,fun j v hj=>(k.cell (by rw[aO];exact h.1) (by rw[aO];exact h.2.1)).trans (h.2.2 j v hj)⟩,
 fun h k=>⟨h.1,fun hm=>h.2.1 (k _ h.1 hm),h.2.2⟩⟩
theorem HH.at' {b W:World} {M X:List Nat} {L:List Itm} {F:List Fact} (K:HH b M X W L F) (i:Nat) {p:Addr} {cs:List Value} (a:F[i]?=some (At.fact p cs)):At W p cs:=(K.fa i a).2.2
theorem HH.elem {a W:World} {M X:List Nat} {L:List Itm} {F:List Fact} {α:Type} {s:Sh α} {A:Option Addr} {n c:Nat} {xs:List α} (K:HH a M X W L F) (i:Nat) (l:F[i]?=some (Sl.fact s A n c xs)) {j:Nat} {x:α} (h:xs[j]?=some x):
 ∃ ad r,A=some ad∧HH a M X W L (At.fact (ad.add (j*s.size)) r::F)∧s.rep W (Exs L++X) r x:=by
 obtain⟨ad,r,e,k,d,g,b⟩:=(K.sl i l).at' h
 exact⟨ad,r,e,K.kn (f:=At.fact (ad.add (j*s.size)) r) ⟨by rw[aO];exact k,by rw[aO];exact d,b⟩,g⟩
end
section
open Go.RowKit
structure Evt where
 q:Int
 a:Int
 k:Int
 cm:ByteArray
 x:Int
 y:Int
 z:Int
abbrev evA (ev:Evt):Array Value:=#[.int .i64 ev.q,.int .i64 ev.a,.int .i64 ev.k,.string ev.cm,.int .i64 ev.x,.int .i64 ev.y,.int .i64 ev.z]
def okE (e:Evt):Prop:=(Lit.int .i64 e.q).wf=true∧(Lit.int .i64 e.a).wf=true∧(Lit.int .i64 e.k).wf=true∧e.cm.size≤maxLen∧(Lit.int .i64 e.x).wf=true∧(Lit.int .i64 e.y).wf=true∧(Lit.int .i64 e.z).wf=true
theorem wf_i64 {n:Int}:(Lit.int .i64 n).wf=true ↔ -9223372036854775808≤n∧n≤9223372036854775807:=by
 unfold Lit.wf
 simp[IntKind.min,IntKind.max,IntKind.signed,IntKind.bits]
def fc:Sh Evt:=jC 7 (fun e=>(evA e).toList) okE (fun _=>rfl) (by
 intro e u hu
 simp at hu
 rcases hu with rfl | rfl | rfl | rfl | rfl | rfl | rfl<;>rfl)
theorem gD (ad:Addr) (j:Nat) (h:0<j):ad.add j=⟨ad.block,ad.off+j,none⟩:=by
 unfold Addr.add
 rw[if_neg (by omega)]
end
section
open Go.RowKit
abbrev Ent:Type:=Nat×TypeId×Array Value
def Kept (w0 W:World) (L:List Ent):Prop:=
 Below w0.heap.size w0 W∧(∀ x ∈ L,Blk W x.1 x.2.1 x.2.2∧w0.heap.size≤x.1)∧L.Pairwise (fun x y=>y.1<x.1)
section
variable {w0 W W':World} {L:List Ent} {g:Nat} {t:TypeId} {cs:Array Value}
theorem Kept.start (w:World):Kept w w []:=⟨Below.refl _ _,by simp,List.Pairwise.nil⟩
theorem Kept.bel (h:Kept w0 W L):Below w0.heap.size w0 W:=h.1
theorem Kept.size (h:Kept w0 W L):w0.heap.size≤W.heap.size:=h.1.size
theorem Kept.next (h:Kept w0 W L) (b:Below W.heap.size W W'):Kept w0 W' L:=
 ⟨h.1.trans (b.mono h.1.size),fun x a=>⟨(h.2.1 x a).1.below b (h.2.1 x a).1.lt,(h.2.1 x a).2⟩,h.2.2⟩
theorem Kept.alloc (h:Kept w0 W L) (t:TypeId) (cs:Array Value):Kept w0 (W.alloc (.cells cs t)) ((W.heap.size,t,cs)::L):=by
 refine⟨h.1.alloc h.1.size _,fun x a=>?_,List.Pairwise.cons (fun y hy=>(h.2.1 y hy).1.lt) h.2.2⟩
 rcases List.mem_cons.1 a with rfl | a
 ·exact⟨Blk.new W t cs,h.1.size⟩
 ·exact⟨(h.2.1 x a).1.alloc _,(h.2.1 x a).2⟩
theorem Kept.alloc_at (h:Kept w0 W L) (t:TypeId) (cs:Array Value) (g:Nat) (a:W.heap.size=g):Kept w0 (W.alloc (.cells cs t)) ((g,t,cs)::L):=a ▸ h.alloc t cs
theorem Kept.alloc_off (h:Kept w0 W L) (o:Obj):Kept w0 (W.alloc o) L:=
 ⟨h.1.alloc h.1.size _,fun x a=>⟨(h.2.1 x a).1.alloc _,(h.2.1 x a).2⟩,h.2.2⟩
theorem Kept.drew (h:Kept w0 W L):Kept w0 W.drew L:=⟨h.1.drew,h.2.1,h.2.2⟩
theorem Kept.blk (h:Kept w0 W L) (i:Nat) (a:L[i]?=some (g,t,cs)):Blk W g t cs:=(h.2.1 _ (List.mem_of_getElem? a)).1
theorem Kept.cell (h:Kept w0 W L) (i:Nat) (a:L[i]?=some (g,t,cs)) (j:Nat):W.cell? ⟨g,j,none⟩=cs[j]?:=(h.blk i a).cell j
theorem Kept.frozen (h:Kept w0 W L) (i:Nat) (a:L[i]?=some (g,t,cs)) (j:Nat):W.frozen? ⟨g,j,none⟩=false:=(h.blk i a).frozen j
theorem Kept.lt (h:Kept w0 W L) (i:Nat) (a:L[i]?=some (g,t,cs)):g<W.heap.size:=(h.blk i a).lt
theorem Kept.ge (h:Kept w0 W L) (i:Nat) (a:L[i]?=some (g,t,cs)):w0.heap.size≤g:=(h.2.1 _ (List.mem_of_getElem? a)).2
theorem Kept.ord (h:Kept w0 W L) (i j:Nat) (c:i<j) {x y:Ent} (e:L[i]?=some x) (d:L[j]?=some y):y.1<x.1:=by
 obtain⟨a,rfl⟩:=List.getElem?_eq_some_iff.1 e
 obtain⟨b,rfl⟩:=List.getElem?_eq_some_iff.1 d
 exact List.pairwise_iff_getElem.1 h.2.2 i j a b c
theorem Kept.drop1 {x:Ent} (h:Kept w0 W (x::L)):Kept w0 W L:=⟨h.1,fun y hy=>h.2.1 y (List.mem_cons_of_mem _ hy),h.2.2.of_cons⟩
theorem Kept.turn (h:Kept w0 W L) (i:Nat) (f:L[i]?=some (g,t,cs)) (cs':Array Value) (hB:Below w0.heap.size w0 W') (r:Blk W' g t cs') (o:∀ x ∈ L,x.1≠g→Blk W x.1 x.2.1 x.2.2→Blk W' x.1 x.2.1 x.2.2):Kept w0 W' (L.set i (g,t,cs')):=by
 refine⟨hB,fun x p=>?_,?_⟩
 ·obtain⟨j,d⟩:=List.mem_iff_getElem?.1 p
  rw[List.getElem?_set]at d
  by_cases c:i=j
  ·subst c
   have e:i<L.length:=(List.getElem?_eq_some_iff.1 f).1
   simp[e]at d
   subst d
   exact⟨r,h.ge i f⟩
  ·rw[if_neg c]at d
   have k:=h.2.1 x (List.mem_of_getElem? d)
   refine⟨o x (List.mem_of_getElem? d) ?_ k.1,k.2⟩
   rcases Nat.lt_or_ge i j with l | n
   ·have:=h.ord i j l f d;simp only at this;omega
   ·have:=h.ord j i (by omega) d f;simp only at this;omega
 ·have q:(L.set i (g,t,cs')).map (fun x:Ent=>x.1)=L.map (fun x:Ent=>x.1):=by
   apply List.ext_getElem?
   intro j
   simp only[List.getElem?_map,List.getElem?_set]
   by_cases c:i=j
   ·subst c
    have e:i<L.length:=(List.getElem?_eq_some_iff.1 f).1
    simp[e]
    obtain⟨_,s⟩:=List.getElem?_eq_some_iff.1 f
    rw[s]
   ·rw[if_neg c]
  have m:(L.map (fun x:Ent=>x.1)).Pairwise (fun a b=>b<a):=List.pairwise_map.2 h.2.2
  rw[←q]at m
  exact List.pairwise_map.1 m
theorem Kept.set_ (h:Kept w0 W L) (i:Nat) (a:L[i]?=some (g,t,cs)) (o:Nat) (u:Value):Kept w0 (W.setCell ⟨g,o,none⟩ u) (L.set i (g,t,cs.setIfInBounds o u)):=
 h.turn i a _ (h.1.setCell (by simpa using h.ge i a) u) ((h.blk i a).set_ o u) (fun x _ b c=>c.far (by simpa using b) u)
theorem gO {base:Nat} {e:TypeId} {size n:Nat} {v:Value} {xs:List Value} (h:W.ownsRow base e size v n xs):∀ g,v.ownBlock=some g→base≤g∧g<W.heap.size:=by
 intro g a
 rcases h.2 with⟨rfl,_⟩ | ⟨g',cap,cur,rfl,b,hh,_⟩
 ·simp[Value.ownBlock]at a
 ·have e:g'=g:=by simpa [Value.ownBlock] using a
  subst e
  exact⟨b,Blk.lt hh⟩
theorem ye {B base:Nat} {e:TypeId} {size n:Nat} {v:Value} {xs:List Value} (h:W.ownsRow base e size v n xs) (i:Below B W W') (hB:W.heap.size≤B):W'.ownsRow base e size v n xs:=by
 rcases h with⟨c,a | ⟨g,cap,cur,a,f,b,d⟩⟩
 ·exact⟨c,.inl a⟩
 ·refine⟨c,.inr ⟨g,cap,cur,a,f,(i.block g ?_).trans b,d⟩⟩
  have:=Blk.lt (t:=e) b
  omega
theorem sv {base:Nat} {e:TypeId} {size n:Nat} {v:Value} {xs:List Value} (h:W.ownsRow base e size v n xs) {p:Addr} (i:v.ownBlock≠some p.block) (u:Value):(W.setCell p u).ownsRow base e size v n xs:=by
 rcases h with⟨b,a | ⟨g,cap,cur,a,d,f,c⟩⟩
 ·exact⟨b,.inl a⟩
 ·refine⟨b,.inr ⟨g,cap,cur,a,d,(Below.heap_setCell W p u g ?_).trans f,c⟩⟩
  rintro rfl
  subst a
  exact i (by simp[Value.ownBlock])
end
end
section
open Go.ChangeShapes Go.WideShapes Go.ChangeAt Go.RowKit Go.Deep
theorem add_pos (a:Addr) (j:Nat) (h:j≠0):a.add j=⟨a.block,a.off+j,none⟩:=by unfold Addr.add;rw[if_neg h]
abbrev jt (e:Int×Int):Array Value:=#[.int .i64 e.1,.int .i64 e.2]
def ax (cs:List (Int×Int)):List Value:=cs.flatMap (fun e=>(jt e).toList)
theorem aR (e:Int×Int) (l:List (Int×Int)):ax (e::l)=(jt e).toList++ax l:=by simp[ax]
theorem cy (cs:List (Int×Int)):(ax cs).length=cs.length*2:=by
 induction cs with
 | nil=>rfl
 | cons e l ih=>rw[aR,List.length_append,ih,List.length_cons];simp;omega
theorem iB (cs:List (Int×Int)):∀ u ∈ ax cs,u.oneCell'=true:=by
 intro u a
 simp only[ax,List.mem_flatMap]at a
 obtain⟨e,_,a⟩:=a
 simp at a
 rcases a with rfl | rfl<;>rfl
theorem jW:∀ (cs:List (Int×Int)) (i:Nat) (e:Int×Int),cs[i]?=some e → ∀ j u,(jt e)[j]?=some u→(ax cs)[i*2+j]?=some u
 | [],i,e,h,_,_,_=>by simp at h
 | x::l,0,e,h,j,u,hu=>by
   simp at h;subst h
   rw[aR,Nat.zero_mul,Nat.zero_add]
   have a:j<2:=by
    rcases Nat.lt_or_ge j 2 with h | h
    ·exact h
    ·rw[Array.getElem?_eq_none (by simpa using h)]at hu;cases hu
   rw[List.getElem?_append_left (by simpa using a)]
   simpa using hu
 | x::l,i+1,e,h,j,u,hu=>by
   rw[aR,List.getElem?_append_right (by simp;omega)]
   rw[show(i+1)*2+j-(jt x).toList.length=i*2+j from by simp;omega]
   exact jW l i e (by simpa using h) j u hu
theorem ie {w:World} {B n i:Nat} {A:Option Addr} {cs:List (Int×Int)} (h:Reads w B 2 A n (ax cs)) (g:i<n):
 ∃ (ad:Addr) (e:Int×Int),A=some ad∧ad.block<B∧cs[i]?=some e∧w.cell? (ad.add (i*2))=some (.int .i64 e.1)∧w.cell? ⟨(ad.add (i*2)).block,(ad.add (i*2)).off+1,none⟩=some (.int .i64 e.2):=by
 have k:cs.length=n:=by have:=h.1;rw[cy]at this;omega
 obtain⟨ad,rfl,d,c⟩:=h.2 (by omega)
 obtain⟨e,b⟩:∃ e,cs[i]?=some e:=⟨_,List.getElem?_eq_getElem (by omega)⟩
 have q:∀ j u,(jt e)[j]?=some u→w.cell? ((ad.add (i*2)).add j)=some u:=fun j u f=>by rw[cN];exact c _ u (jW cs i e b j u f)
 have a:=q 1 _ rfl
 rw[add_pos _ 1 (by omega)]at a
 exact⟨ad,e,rfl,d,b,q 0 _ rfl,a⟩
theorem Reads.cell_len {w:World} {B n:Nat} {A:Option Addr} {cs:List (Int×Int)} (h:Reads w B 2 A n (ax cs)):cs.length=n:=by have:=h.1;rw[cy]at this;omega
theorem Tryz.infoCell:(Tryz.prog.info? 220).map (fun i=>(i.zero,i.size,i.bytes))=some (some (.agg #[.int .i64 0,.int .i64 0]),2,16):=by kernel_rfl
section
variable {H:Type} {enc:TypeId×Value→H}
end
section
variable {H:Type} {enc:TypeId×Value→H}
end
section
variable {H:Type} {enc:TypeId×Value→H}
end
end
section
open Go.RowKit
def hold (n:Int):Int:=if n<0 then 0 else if 1099511627776<n then 1099511627776 else n
def up (a b:Int):Int:=hold (hold a+hold b)
theorem fN (n:Int):0≤hold n:=by unfold hold;split<;>(try split)<;>omega
theorem ij (n:Int):hold n≤1099511627776:=by unfold hold;split<;>(try split)<;>omega
theorem CQ (n:Int) (a:0≤n) (b:n≤1099511627776):hold n=n:=by unfold hold;rw[if_neg (by omega),if_neg (by omega)]
theorem qp (n:Int):hold (hold n)=hold n:=CQ _ (fN n) (ij n)
theorem Fl (a b:Int):0≤up a b:=fN _
theorem FJ (a b:Int):up a b≤1099511627776:=ij _
theorem Fc (a b:Int):up a b=min (hold a+hold b) 1099511627776:=by
 have:=fN a;have:=fN b
 unfold up;rw[hold.eq_1 (hold a+hold b)];split<;>(try split)<;>omega
theorem jl {k:IntKind} {a b:Int} (h:a=b):Ending.returned (.int k a) = .returned (.int k b):=by rw[h]
theorem bf {a b:Bool} (h:a=b):Ending.returned (.bool a) = .returned (.bool b):=by rw[h]
theorem nu (n:Int) (w:World):Calls Tryz.prog 244 #[.int .i64 n] w fun e w'=>e = .returned (.int .i64 (hold n))∧w=w':=by
 go_enter Tryz.func244,Tryz.ntmps244
 go_wp2
 all_goals
  go_ret
  refine⟨jl ?_,rfl⟩
  unfold hold
  repeat' split
  all_goals omega
theorem nR (a b:Int) (w:World):Calls Tryz.prog 221 #[.int .i64 a,.int .i64 b] w fun e w'=>e = .returned (.int .i64 (up a b))∧w=w':=by
 have:=fN a;have:=fN b;have:=ij a;have:=ij b
 go_enter Tryz.func221,Tryz.ntmps221
 go_wp2_with (go_at_call 244;refine(nu _ _).mono ?_;rintro e w' ⟨rfl,rfl⟩)
 go_ret
 exact⟨rfl,rfl⟩
theorem nT (n:Int) (w:World):Calls Tryz.prog 155 #[.int .i64 n] w fun e w'=>e = .returned (.int .i64 (hold n))∧w=w':=by
 go_enter Tryz.func155,Tryz.ntmps155
 go_wp2
 all_goals
  go_ret
  refine⟨jl ?_,rfl⟩
  unfold hold
  repeat' split
  all_goals omega
theorem eW (a b:Int) (w:World):Calls Tryz.prog 91 #[.int .i64 a,.int .i64 b] w fun e w'=>e = .returned (.int .i64 (up a b))∧w=w':=by
 have:=fN a;have:=fN b;have:=ij a;have:=ij b
 go_enter Tryz.func91,Tryz.ntmps91
 go_wp2_with (go_at_call 155;refine(nT _ _).mono ?_;rintro e w' ⟨rfl,rfl⟩)
 all_goals
  go_ret
  exact⟨jl (by rw[Fc];omega),rfl⟩
end
section
open Go.RowKit Go.ChangeShapes
def aY (n:Int):Bool:=decide (0≤n∧n≤1099511627776)
theorem lY (n:Int) (w:World):Calls Tryz.prog 216 #[.int .i64 n] w fun e w'=>e = .returned (.bool (aY n))∧w=w':=by
 go_enter Tryz.func216,Tryz.ntmps216
 go_wp2
 all_goals
  go_ret
  refine⟨bf ?_,rfl⟩
  unfold aY
  first | (symm;rw[decide_eq_false_iff_not];omega) | (rw[Bool.eq_iff_iff,decide_eq_true_eq,decide_eq_true_eq];omega)
theorem lH (n:Int) (w:World):Calls Tryz.prog 85 #[.int .i64 n] w fun e w'=>e = .returned (.bool (aY n))∧w=w':=by
 go_enter Tryz.func85,Tryz.ntmps85
 go_wp2
 all_goals
  go_ret
  refine⟨bf ?_,rfl⟩
  unfold aY
  first | (symm;rw[decide_eq_false_iff_not];omega) | (rw[Bool.eq_iff_iff,decide_eq_true_eq,decide_eq_true_eq];omega)
def kY (n:Int):Bool:=aY n
theorem rS (n:Int):(n == hold n)=kY n:=by
 unfold kY aY hold
 rw[Bool.eq_iff_iff,beq_iff_eq,decide_eq_true_eq]
 split
 ·omega
 ·split<;>omega
def bM (c:Int×Int):Bool := !(kY c.1) || !(kY c.2)
theorem Aw (n:Int) (w:World):Calls Tryz.prog 266 #[.int .i64 n] w fun e w'=>e = .returned (.bool (kY n))∧w=w':=by
 go_enter Tryz.func266,Tryz.ntmps266
 go_wp2_with (go_at_call 244;refine(nu _ _).mono ?_;rintro e w' ⟨rfl,rfl⟩)
 go_ret
 exact⟨bf (rS n),rfl⟩
theorem DN (c:Int×Int) (g:Nat) (W:World) (d:Blk W g 120 #[.func (.func 266) #[] #[]]):Calls Tryz.prog 267 #[.agg (jt c),.pointer (some ⟨g,0,none⟩)] W fun e w'=>e = .returned (.bool (bM c))∧Below W.heap.size W w':=by
 have f:=Lib.hid (d.alloc (.cells (jt c) 220))
 have b:=Lib.hid ((Below.refl W.heap.size W).alloc (Nat.le_refl _) (.cells (jt c) 220))
 clear d
 have c0:(W.alloc (.cells (jt c) 220)).cell? ⟨g,0,none⟩=some (.func (.func 266) #[] #[]):=f.out.cell 0
 go_enter Tryz.func267,Tryz.ntmps267
 go_wp2_with fail
 refine(Aw _ _).mono ?_
 rintro e h ⟨rfl,rfl⟩
 cases h1:kY c.1
 ·have a:=Lib.hid (show bM c=true from by unfold bM;rw[h1];rfl)
  clear h1
  go_wp2
  go_ret
  exact⟨bf a.out.symm,b.out⟩
 ·go_wp2_with fail
  refine(Aw _ _).mono ?_
  rintro e h ⟨rfl,rfl⟩
  have a:=Lib.hid (show bM c = !(kY c.2) from by unfold bM;rw[h1];rfl)
  clear h1
  go_wp2
  go_ret
  exact⟨bf a.out.symm,b.out⟩
theorem any_false {cs:List (Int×Int)} {n:Nat} (c:cs.length=n) (h:∀ (j:Nat) e,j<n→cs[j]?=some e→bM e=false):cs.any bM=false:=by
 rw[List.any_eq_false]
 intro e b
 obtain⟨j,a⟩:=List.mem_iff_getElem?.1 b
 rw[h j e (by have:=(List.getElem?_eq_some_iff.1 a).1;omega) a]
 simp
theorem any_true {cs:List (Int×Int)} {k:Nat} {e:Int×Int} (h:cs[k]?=some e) (a:bM e=true):cs.any bM=true:=by
 rw[List.any_eq_true]
 exact⟨e,List.mem_of_getElem? h,a⟩
theorem DL (A:Option Addr) (n c B:Nat) (cs:List (Int×Int)) (g:Nat) (W:World) (o:Reads W B 2 A n (ax cs)) (hB:B≤W.heap.size) (hn:n≤1000000) (t:Blk W g 120 #[.func (.func 266) #[] #[]]):Calls Tryz.prog 279 #[.slice A n c,(.func (.func 267) #[] #[.pointer (some ⟨g,0,none⟩)])] W fun e w' => ∃ r:Int,e = .returned (.int .i64 r)∧decide (0≤r)=cs.any bM∧Below W.heap.size W w':=by
 have x:=Lib.hid (o.more hB)
 have y:=Lib.hid o.cell_len
 have s:=Lib.hid t
 clear o t
 go_enter Tryz.func279,Tryz.ntmps279
 go_wp2
 go_loopw [8] (fun i wr => ∃ (k:Nat),k≤n∧i = .int .i64 k∧Hid (∀ (j:Nat) e,j<k→cs[j]?=some e→bM e=false)∧Hid (Below W.heap.size W wr)) (fun i _=>n-(intOf i).toNat)
 case atStart=>exact⟨0,Nat.zero_le _,rfl,Lib.hid (fun j e v=>absurd v (by omega)),Lib.hid (Below.refl _ _)⟩
 case round=>
  obtain⟨k,D,rfl,q,b⟩:=hrel
  by_cases m:k<n
  ·obtain⟨ad,e,rfl,E,w,z,C⟩:=ie (x.out.below b.out) m
   have u:=Lib.hid w
   have F:(0:Int)≤(k:Int):=by omega
   have G:(k:Int)<(n:Int):=by omega
   clear w
   go_wp2_with fail
   refine(DN e g wr (s.out.below b.out s.out.lt)).mono ?_
   rintro e' H ⟨rfl,f⟩
   have d:=Lib.hid (b.out.trans (f.mono b.out.size))
   clear f b z C
   cases hw:bM e
   ·have l:=Lib.hid (show ∀ (j:Nat) e,j<k+1→cs[j]?=some e→bM e=false from fun j e' v a=>by
     by_cases p:j<k
     ·exact q.out j e' p a
     ·obtain rfl:j=k:=by omega
      rw[u.out]at a;injection a with a;subst a;exact hw)
    clear hw
    go_wp2
    exact⟨⟨k+1,by omega,rfl,l,d⟩,by simp[intOf];omega⟩
   ·have h:=Lib.hid (any_true u.out hw)
    clear hw
    go_wp2
    go_ret
    exact⟨_,rfl,by rw[h.out,decide_eq_true_eq];omega,d.out⟩
  ·obtain rfl:n=k:=by omega
   have h:=Lib.hid (any_false y.out q.out)
   go_wp2
   go_ret
   exact⟨_,rfl,by rw[h.out];rfl,b.out⟩
theorem ux (A:Option Addr) (n c B:Nat) (cs:List (Int×Int)) (g:Nat) (W:World) (a:Reads W B 2 A n (ax cs)) (hB:B≤W.heap.size) (hn:n≤1000000) (b:Blk W g 120 #[.func (.func 266) #[] #[]]):Calls Tryz.prog 268 #[.slice A n c,(.func (.func 267) #[] #[.pointer (some ⟨g,0,none⟩)])] W fun e w'=>e = .returned (.bool (cs.any bM))∧Below W.heap.size W w':=by
 have h:=Lib.hid a
 have i:=Lib.hid b
 clear a b
 go_enter Tryz.func268,Tryz.ntmps268
 go_wp2_with fail
 refine(DL A n c B cs g _ h.out hB hn i.out).mono ?_
 rintro e j ⟨r,rfl,a,f⟩
 have d:=Lib.hid a
 clear a
 go_wp2
 go_ret
 exact⟨bf d.out,f⟩
def cj (wd sl:Int) (cs:List (Int×Int)):Bool:=decide (1≤wd∧wd≤2147483647∧0≤sl∧sl≤1099511627776∧1≤cs.length∧cs.length≤16) && !(cs.any bM)
abbrev pT (wd sl:Int) (A:Option Addr) (n c:Nat):Array Value:=#[.int .i64 wd,.int .i64 sl,.slice A n c]
set_option maxHeartbeats 1000000 in
theorem tP (wd sl:Int) (A:Option Addr) (n c B:Nat) (cs:List (Int×Int)) (W:World) (i:Reads W B 2 A n (ax cs)) (hB:B≤W.heap.size) (hn:n≤9223372036854775807):Calls Tryz.prog 245 #[.agg (pT wd sl A n c)] W fun e w'=>e = .returned (.bool (cj wd sl cs))∧Below W.heap.size W w':=by
 have o:=Lib.hid i
 have b:=Lib.hid (show cj wd sl cs=(decide (1≤wd∧wd≤2147483647∧0≤sl∧sl≤1099511627776∧1≤n∧n≤16) && !(cs.any bM)) from by unfold cj;rw[i.cell_len])
 generalize cj wd sl cs=res at b ⊢
 clear i
 have a:Hid (Kept W (W.alloc (.cells #[.int .i64 wd,.int .i64 sl,.slice A n c] 87)) [(W.heap.size,87,#[.int .i64 wd,.int .i64 sl,.slice A n c])]):=((Kept.start W).alloc_at 87 #[.int .i64 wd,.int .i64 sl,.slice A n c] (W.heap.size) (by simp))
 by_cases g:wd<1
 ·have l:decide (wd<1)=true:=by simpa using g
  have d:=Lib.hid (show res=false from by rw[b.out,decide_eq_false (by omega),Bool.false_and])
  clear b
  go_enter Tryz.func245,Tryz.ntmps245
  go_wp2
  go_ret
  exact⟨bf d.out.symm,a.out.bel⟩
 have l:decide (wd<1)=false:=by simpa using g
 by_cases g:2147483647<wd
 ·have k:decide (2147483647<wd)=true:=by simpa using g
  have d:=Lib.hid (show res=false from by rw[b.out,decide_eq_false (by omega),Bool.false_and])
  clear b
  go_enter Tryz.func245,Tryz.ntmps245
  go_wp2
  go_ret
  exact⟨bf d.out.symm,a.out.bel⟩
 have k:decide (2147483647<wd)=false:=by simpa using g
 go_enter Tryz.func245,Tryz.ntmps245
 go_wp2_with fail
 refine(lY sl _).mono ?_
 rintro e r ⟨rfl,rfl⟩
 cases ht:aY sl
 ·have d:=Lib.hid (show res=false from by unfold aY at ht;rw[decide_eq_false_iff_not]at ht;rw[b.out,decide_eq_false (by omega),Bool.false_and])
  clear b ht
  go_wp2
  go_ret
  exact⟨bf d.out.symm,a.out.bel⟩
 unfold aY at ht
 rw[decide_eq_true_eq]at ht
 by_cases g:n<1
 ·have p:decide ((n:Int)<1)=true:=by simp;omega
  have d:=Lib.hid (show res=false from by rw[b.out,decide_eq_false (by omega),Bool.false_and])
  clear b
  go_wp2
  go_ret
  exact⟨bf d.out.symm,a.out.bel⟩
 have p:decide ((n:Int)<1)=false:=by simp;omega
 by_cases g:16<n
 ·have q:decide ((16:Int)<(n:Int))=true:=by simp;omega
  have d:=Lib.hid (show res=false from by rw[b.out,decide_eq_false (by omega),Bool.false_and])
  clear b
  go_wp2
  go_ret
  exact⟨bf d.out.symm,a.out.bel⟩
 have q:decide ((16:Int)<(n:Int))=false:=by simp;omega
 have d:=Lib.hid (show res = !(cs.any bM) from by rw[b.out,decide_eq_true (by omega),Bool.true_and])
 clear b
 have f:Hid (Kept W ((W.alloc (.cells #[.int .i64 wd,.int .i64 sl,.slice A n c] 87)).alloc (.cells #[.func (.func 266) #[] #[]] 120)) [(W.heap.size+1,120,#[.func (.func 266) #[] #[]]),(W.heap.size,87,#[.int .i64 wd,.int .i64 sl,.slice A n c])]):=a.out.alloc_at 120 #[.func (.func 266) #[] #[]] (W.heap.size+1) (by simp)
 clear a
 go_wp2_with fail
 refine(ux A n c W.heap.size cs (W.heap.size+1) _ ((o.out.more hB).below f.out.bel) f.out.size (by omega) (f.out.blk 0 rfl)).mono ?_
 rintro e m ⟨rfl,h⟩
 have j:Hid (Kept W m [(W.heap.size+1,120,#[.func (.func 266) #[] #[]]),(W.heap.size,87,#[.int .i64 wd,.int .i64 sl,.slice A n c])]):=f.out.next h
 clear f
 clear h
 go_wp2
 go_ret
 exact⟨bf d.out.symm,j.out.bel⟩
end
section
open Go.RowKit Go.ChangeShapes
theorem tJ (A:Option Addr) (n c B:Nat) (cs:List (Int×Int)) (w:World) (d:Reads w B 2 A n (ax cs)) (hB:B≤w.heap.size) (hn:n≤1000000):
 Calls Tryz.prog 220 #[.slice A n c] w fun e w' => ∃ v,e = .returned v∧w'.ownsRow w.heap.size 220 2 v n (ax cs)∧Below w.heap.size w w':=by
 have q:∀ (w:World) (a:Option Addr) (n c n' c':Nat),(binOp .eql 85 (.slice a n c) (.slice none n' c')).run Tryz.prog w = .ok (.bool a.isNone) w:=fun w a n c n' c'=>Lib.run_eql_slice_nil w _ _ a n c n' c' Tryz.underlying85
 obtain⟨p,j,i,f,g⟩:=info_parts Tryz.infoCell
 rcases A with _ | ad
 ·have l:n=0:=by
   rcases Nat.eq_zero_or_pos n with h | h
   ·exact h
   ·obtain⟨_,h,_⟩:=d.2 h;cases h
  subst l
  have m:ax cs = []:=List.eq_nil_of_length_eq_zero (by simpa using d.1)
  have r:=Lib.hid m;clear m d
  go_enter Tryz.func220,Tryz.ntmps220
  go_wp2
  go_ret
  exact⟨_,rfl,⟨by rw[r.out];rfl,.inl ⟨rfl,rfl⟩⟩,Below.refl _ _⟩
 ·have s:=Lib.hid d;clear d
  go_enter Tryz.func220,Tryz.ntmps220
  go_wp2_with (at_builtin;go_must (refine aP _ rfl _ _ 85 rfl w.heap.size 220 p _ 2 16 Tryz.underlying85 j i f g rfl (by omega) _ 0 [] rfl (dj w 220 w.heap.size (Nat.le_refl _) 2) B (some ad) n c _ rfl (s.out.alloc hB _) (iB cs) (by unfold maxLen;omega) (by omega) (by simp) ?_);intro t u b k o)
  go_ret
  exact⟨t,rfl,by simpa using b,cT ((Below.refl _ _).alloc (Nat.le_refl _) _) k (dj w 220 w.heap.size (Nat.le_refl _) 2) (Nat.le_refl _) (by simp)⟩
set_option maxHeartbeats 2000000 in
theorem qu (wd sl:Int) (A:Option Addr) (n c B:Nat) (cs:List (Int×Int)) (W:World) (u:Reads W B 2 A n (ax cs)) (hB:B≤W.heap.size) (hn:n≤9223372036854775807):Calls Tryz.prog 211 #[.agg (pT wd sl A n c)] W fun e w'=>e = .returned (.bool (cj wd sl cs))∧Below W.heap.size W w':=by
 have O:=Lib.hid (u.more hB)
 have P:=Lib.hid u.cell_len
 have d:=Lib.hid (show cj wd sl cs=(decide (1≤wd∧wd≤2147483647∧0≤sl∧sl≤1099511627776∧1≤n∧n≤16) && !(cs.any bM)) from by unfold cj;rw[u.cell_len])
 generalize cj wd sl cs=res at d ⊢
 clear u
 have a:Hid (Kept W (W.alloc (.cells #[.int .i64 wd,.int .i64 sl,.slice A n c] 87)) [(W.heap.size,87,#[.int .i64 wd,.int .i64 sl,.slice A n c])]):=((Kept.start W).alloc_at 87 #[.int .i64 wd,.int .i64 sl,.slice A n c] (W.heap.size) (by simp))
 by_cases g:wd<1
 ·have G:decide (wd<1)=true:=by simpa using g
  have h:=Lib.hid (show res=false from by rw[d.out,decide_eq_false (by omega),Bool.false_and])
  clear d
  go_enter Tryz.func211,Tryz.ntmps211
  go_wp2
  go_ret
  exact⟨bf h.out.symm,a.out.bel⟩
 have G:decide (wd<1)=false:=by simpa using g
 by_cases g:2147483647<wd
 ·have D:decide (2147483647<wd)=true:=by simpa using g
  have h:=Lib.hid (show res=false from by rw[d.out,decide_eq_false (by omega),Bool.false_and])
  clear d
  go_enter Tryz.func211,Tryz.ntmps211
  go_wp2
  go_ret
  exact⟨bf h.out.symm,a.out.bel⟩
 have D:decide (2147483647<wd)=false:=by simpa using g
 go_enter Tryz.func211,Tryz.ntmps211
 go_wp2_with fail
 refine(lH sl _).mono ?_
 rintro e V ⟨rfl,rfl⟩
 cases ht:aY sl
 ·have h:=Lib.hid (show res=false from by unfold aY at ht;rw[decide_eq_false_iff_not]at ht;rw[d.out,decide_eq_false (by omega),Bool.false_and])
  clear d ht
  go_wp2
  go_ret
  exact⟨bf h.out.symm,a.out.bel⟩
 unfold aY at ht
 rw[decide_eq_true_eq]at ht
 by_cases g:n<1
 ·have N:decide ((n:Int)<1)=true:=by simp;omega
  have h:=Lib.hid (show res=false from by rw[d.out,decide_eq_false (by omega),Bool.false_and])
  clear d
  go_wp2
  go_ret
  exact⟨bf h.out.symm,a.out.bel⟩
 have N:decide ((n:Int)<1)=false:=by simp;omega
 by_cases g:16<n
 ·have K:decide ((16:Int)<(n:Int))=true:=by simp;omega
  have h:=Lib.hid (show res=false from by rw[d.out,decide_eq_false (by omega),Bool.false_and])
  clear d
  go_wp2
  go_ret
  exact⟨bf h.out.symm,a.out.bel⟩
 have K:decide ((16:Int)<(n:Int))=false:=by simp;omega
 have h:=Lib.hid (show res = !(cs.any bM) from by rw[d.out,decide_eq_true (by omega),Bool.true_and])
 clear d
 go_wp2
 clear G D N K
 go_loopw [3] (fun i wr => ∃ (k:Nat),k≤n∧i = .int .i64 k∧Hid (∀ (j:Nat) e,j<k→cs[j]?=some e→bM e=false)∧Hid (Kept W wr [(W.heap.size,87,#[.int .i64 wd,.int .i64 sl,.slice A n c])])) (fun i _=>n-(intOf i).toNat)
 case atStart=>exact⟨0,Nat.zero_le _,rfl,Lib.hid (fun j e L=>absurd L (by omega)),a⟩
 case round=>
  clear a
  obtain⟨k,R,rfl,J,p⟩:=hrel
  by_cases y:k<n
  ·obtain⟨ad,e,rfl,S,M,X,Y⟩:=ie (O.out.below p.out.bel) y
   have E:=Lib.hid M
   have T:(0:Int)≤(k:Int):=by omega
   have U:(k:Int)<(n:Int):=by omega
   clear M
   have q:wr.cell? ⟨W.heap.size,0,none⟩=some (.int .i64 wd):=p.out.cell 0 rfl 0
   have s:wr.cell? ⟨W.heap.size,1,none⟩=some (.int .i64 sl):=p.out.cell 0 rfl 1
   have r:wr.cell? ⟨W.heap.size,2,none⟩=some (.slice (some ad) n c):=p.out.cell 0 rfl 2
   have l:=Lib.hid (p.out.alloc_off (.cells (jt e) 220))
   by_cases t:bM e=true
   ·have f:=Lib.hid (show res=false from by rw[h.out,any_true E.out t];rfl)
    have b:e.1<0∨1099511627776<e.1∨e.2<0∨1099511627776<e.2:=by unfold bM kY aY at t;simp at t;omega
    clear t
    rcases Decidable.em (e.1<0) with z | z
    ·have F:decide (e.1<0)=true:=by simpa using z
     clear b
     go_wp2
     go_ret
     exact⟨bf f.out.symm,l.out.bel⟩
    have F:decide (e.1<0)=false:=by simpa using z
    rcases Decidable.em (1099511627776<e.1) with w | w
    ·have I:decide (1099511627776<e.1)=true:=by simpa using w
     clear b
     go_wp2
     go_ret
     exact⟨bf f.out.symm,l.out.bel⟩
    have I:decide (1099511627776<e.1)=false:=by simpa using w
    rcases Decidable.em (e.2<0) with v | v
    ·have H:decide (e.2<0)=true:=by simpa using v
     clear b
     go_wp2
     go_ret
     exact⟨bf f.out.symm,l.out.bel⟩
    have H:decide (e.2<0)=false:=by simpa using v
    have Q:decide (1099511627776<e.2)=true:=by simp;omega
    clear b
    go_wp2
    go_ret
    exact⟨bf f.out.symm,l.out.bel⟩
   have o:bM e=false:=by simpa using t
   have b:0≤e.1∧e.1≤1099511627776∧0≤e.2∧e.2≤1099511627776:=by unfold bM kY aY at o;simp at o;omega
   have x:=Lib.hid (show ∀ (j:Nat) e,j<k+1→cs[j]?=some e→bM e=false from fun j e' L m=>by
    by_cases C:j<k
    ·exact J.out j e' C m
    ·obtain rfl:j=k:=by omega
     rw[E.out]at m;injection m with m;subst m;exact o)
   clear t o
   have F:decide (e.1<0)=false:=by simp;omega
   have I:decide (1099511627776<e.1)=false:=by simp;omega
   have H:decide (e.2<0)=false:=by simp;omega
   have Q:decide (1099511627776<e.2)=false:=by simp;omega
   clear b
   go_wp2
   exact⟨⟨k+1,by omega,rfl,x,l⟩,by simp[intOf];omega⟩
  ·obtain rfl:n=k:=by omega
   have f:=Lib.hid (show res=true from by rw[h.out,any_false P.out J.out];rfl)
   have q:wr.cell? ⟨W.heap.size,0,none⟩=some (.int .i64 wd):=p.out.cell 0 rfl 0
   have s:wr.cell? ⟨W.heap.size,1,none⟩=some (.int .i64 sl):=p.out.cell 0 rfl 1
   have r:wr.cell? ⟨W.heap.size,2,none⟩=some (.slice A n c):=p.out.cell 0 rfl 2
   go_wp2
   go_ret
   exact⟨bf f.out.symm,p.out.bel⟩
def sk (wd sl:Int) (cs:List (Int×Int)) (wd2 sl2:Int) (cs2:List (Int×Int)):Bool:=decide (wd=wd2∧sl=sl2∧cs=cs2)
theorem DI (a b:Int×Int) (h:a≠b):a.1=b.1 → ¬ a.2=b.2:=fun d c=>h (Prod.ext d c)
set_option maxHeartbeats 4000000 in
theorem Dd (wd sl:Int) (A:Option Addr) (n c:Nat) (cs:List (Int×Int)) (d f:Int) (G:Option Addr) (E D:Nat) (m:List (Int×Int)) (B:Nat) (W:World) (hr:Reads W B 2 A n (ax cs)) (F:Reads W B 2 G E (ax m)) (hB:B≤W.heap.size) (hn:n≤9223372036854775807) (ac:E≤9223372036854775807):Calls Tryz.prog 122 #[.agg (pT wd sl A n c),.agg (pT d f G E D)] W fun e w'=>e = .returned (.bool (sk wd sl cs d f m))∧Below W.heap.size W w':=by
 have HR:=Lib.hid (hr.more hB)
 have Y:=Lib.hid (F.more hB)
 have V:=Lib.hid hr.cell_len
 have N:=Lib.hid F.cell_len
 have y:Hid (sk wd sl cs d f m=decide (wd=d∧sl=f∧cs=m)):=rfl
 generalize sk wd sl cs d f m=res at y ⊢
 clear hr F
 have r:Hid (Kept W ((W.alloc (.cells #[.int .i64 wd,.int .i64 sl,.slice A n c] 87)).alloc (.cells #[.int .i64 d,.int .i64 f,.slice G E D] 87)) [(W.heap.size+1,87,#[.int .i64 d,.int .i64 f,.slice G E D]),(W.heap.size,87,#[.int .i64 wd,.int .i64 sl,.slice A n c])]):=(((Kept.start W).alloc_at 87 #[.int .i64 wd,.int .i64 sl,.slice A n c] (W.heap.size) (by simp)).alloc_at 87 #[.int .i64 d,.int .i64 f,.slice G E D] (W.heap.size+1) (by simp))
 by_cases g:¬ wd=d
 ·have x0:(wd != d)=true:=by rw[bne_iff_ne];exact g
  have z:=Lib.hid (show res=false from by rw[y.out];exact decide_eq_false (fun h=>g h.1))
  clear y
  go_enter Tryz.func122,Tryz.ntmps122
  go_wp2
  go_ret
  exact⟨bf z.out.symm,r.out.bel⟩
 replace g:=Decidable.not_not.1 g
 have x0:(wd != d)=false:=by rw[bne_eq_false_iff_eq];exact g
 have G0:=Lib.hid g
 clear g
 by_cases g:¬ sl=f
 ·have x1:(sl != f)=true:=by rw[bne_iff_ne];exact g
  have z:=Lib.hid (show res=false from by rw[y.out];exact decide_eq_false (fun h=>g h.2.1))
  clear y
  go_enter Tryz.func122,Tryz.ntmps122
  go_wp2
  go_ret
  exact⟨bf z.out.symm,r.out.bel⟩
 replace g:=Decidable.not_not.1 g
 have x1:(sl != f)=false:=by rw[bne_eq_false_iff_eq];exact g
 have G1:=Lib.hid g
 clear g
 by_cases g:¬ n=E
 ·have x2:((n:Int) != (E:Int))=true:=by rw[bne_iff_ne];omega
  have z:=Lib.hid (show res=false from by rw[y.out];exact decide_eq_false (fun h=>g (by rw[←V.out,h.2.2,N.out])))
  clear y
  go_enter Tryz.func122,Tryz.ntmps122
  go_wp2
  go_ret
  exact⟨bf z.out.symm,r.out.bel⟩
 replace g:=Decidable.not_not.1 g
 subst g
 have x2:((n:Int) != (n:Int))=false:=by simp
 go_enter Tryz.func122,Tryz.ntmps122
 go_wp2
 clear x0 x1 x2
 go_loopw [5] (fun i wr => ∃ (k:Nat),k≤n∧i = .int .i64 k∧Hid (∀ (j:Nat) e,j<k→cs[j]?=some e→m[j]?=some e)∧Hid (Kept W wr [(W.heap.size+1,87,#[.int .i64 d,.int .i64 f,.slice G n D]),(W.heap.size,87,#[.int .i64 wd,.int .i64 sl,.slice A n c])])) (fun i _=>n-(intOf i).toNat)
 case atStart=>exact⟨0,Nat.zero_le _,rfl,Lib.hid (fun j e J=>absurd J (by omega)),r⟩
 case round=>
  clear r
  obtain⟨k,hk,rfl,HS,l⟩:=hrel
  by_cases L:k<n
  ·obtain⟨ad,e1,rfl,ag,M,U,d1⟩:=ie HR.out L
   obtain⟨o,e2,rfl,ae,O,C,I⟩:=ie Y.out L
   have Q:=Lib.hid M
   have P:=Lib.hid O
   clear M O
   have i1:(0:Int)≤(k:Int):=by omega
   have i2:(k:Int)<(n:Int):=by omega
   have bl:(ad.add (k*2)).block<W.heap.size:=World.block_lt_of_cell? W _ U
   have T:(o.add (k*2)).block<W.heap.size:=World.block_lt_of_cell? W _ C
   have s:wr.cell? ⟨W.heap.size,0,none⟩=some (.int .i64 wd):=l.out.cell 1 rfl 0
   have u:wr.cell? ⟨W.heap.size,1,none⟩=some (.int .i64 sl):=l.out.cell 1 rfl 1
   have q:wr.cell? ⟨W.heap.size,2,none⟩=some (.slice (some ad) n c):=l.out.cell 1 rfl 2
   have w:wr.cell? ⟨W.heap.size+1,0,none⟩=some (.int .i64 d):=l.out.cell 0 rfl 0
   have t:wr.cell? ⟨W.heap.size+1,1,none⟩=some (.int .i64 f):=l.out.cell 0 rfl 1
   have x:wr.cell? ⟨W.heap.size+1,2,none⟩=some (.slice (some o) n D):=l.out.cell 0 rfl 2
   go_wp2_with fail
   clear s u q w t x
   refine wp_region_noPanic ?_
   refine wp_region_held_drew (S:=fun W'=>Kept W W' [(W.heap.size+1,87,#[.int .i64 d,.int .i64 f,.slice (some o) n D]),(W.heap.size,87,#[.int .i64 wd,.int .i64 sl,.slice (some ad) n c])]) (by kernel_rfl) l.out.drew (fun a=>?_)
   refine tS 0 a ?_
   refine tS 1 a ?_ (hy:=by(intro W b;(try dsimp only at b);have K:=b.cell 1 rfl 2;simp only[List.getElem?_toArray,List.getElem?_cons_zero,List.getElem?_cons_succ]at K;go_simp;try with_reducible rfl))
   refine tS 2 a ?_
   refine tS 3 a ?_
   refine tS 4 a ?_ (hy:=by(intro W b;(try dsimp only at b);have K:=(b.bel.cell (p:=(ad.add (k*2))) bl).trans U;have q1:=(b.bel.cell (p:=⟨(ad.add (k*2)).block,(ad.add (k*2)).off+1,none⟩) bl).trans d1;go_simp;try with_reducible rfl))
   refine tS 5 a ?_
   refine tS 6 a ?_ (hy:=by(intro W b;(try dsimp only at b);have K:=b.cell 0 rfl 2;simp only[List.getElem?_toArray,List.getElem?_cons_zero,List.getElem?_cons_succ]at K;go_simp;try with_reducible rfl))
   refine tS 7 a ?_
   refine tS 8 a ?_
   refine tS 9 a ?_ (hy:=by(intro W b;(try dsimp only at b);have K:=(b.bel.cell (p:=(o.add (k*2))) T).trans C;have q1:=(b.bel.cell (p:=⟨(o.add (k*2)).block,(o.add (k*2)).off+1,none⟩) T).trans I;go_simp;try with_reducible rfl))
   by_cases H:e1=e2
   ·subst H
    refine tS 10 a ?_
    refine wpAnyH_done (by kernel_rfl) ?_ _
    refine NoPanic.normal ?_
    have X:=Lib.hid (show ∀ (j:Nat) e,j<k+1→cs[j]?=some e→m[j]?=some e from fun j e J R=>by
     by_cases ab:j<k
     ·exact HS.out j e ab R
     ·obtain rfl:j=k:=by omega
      rw[Q.out]at R;injection R with R;subst R;exact P.out)
    have Z:=Lib.hid a
    clear a l U d1 C I
    go_wp2
    exact⟨⟨k+1,by omega,rfl,X,Z⟩,by simp[intOf];omega⟩
   ·refine ak 10 (v := .bool true) rfl (by kernel_rfl) (by kernel_rfl) (by kernel_rfl) rfl (fun _ _ _ h=>h) (Or.inl ⟨by rfl,?y10u27⟩) a ?r10u27
    case y10u27=>(intro W b;(try dsimp only at b);go_simp;exact DI e1 e2 H)
    simp only[Act.put,sI,sZ,sS]
    refine wpAnyH_done (by kernel_rfl) ?_ _
    refine NoPanic.normal ?_
    have z:=Lib.hid (show res=false from by rw[y.out];exact decide_eq_false (fun h=>H (by have h3:=Q.out;rw[h.2.2,P.out]at h3;exact(Option.some.inj h3).symm)))
    clear l U d1 C I y
    go_wp2
    go_ret
    exact⟨bf z.out.symm,a.bel⟩
  ·obtain rfl:n=k:=by omega
   have z:=Lib.hid (show res=true from by
    rw[y.out]
    refine decide_eq_true ⟨G0.out,G1.out,?_⟩
    apply List.ext_getElem?
    intro j
    by_cases J:j<n
    ·rw[HS.out j _ J (List.getElem?_eq_getElem (by rw[V.out];exact J)),List.getElem?_eq_getElem (by rw[V.out];exact J)]
    ·rw[List.getElem?_eq_none (by rw[V.out];omega),List.getElem?_eq_none (by rw[N.out];omega)])
   have s:wr.cell? ⟨W.heap.size,0,none⟩=some (.int .i64 wd):=l.out.cell 1 rfl 0
   have u:wr.cell? ⟨W.heap.size,1,none⟩=some (.int .i64 sl):=l.out.cell 1 rfl 1
   have q:wr.cell? ⟨W.heap.size,2,none⟩=some (.slice A n c):=l.out.cell 1 rfl 2
   have w:wr.cell? ⟨W.heap.size+1,0,none⟩=some (.int .i64 d):=l.out.cell 0 rfl 0
   have t:wr.cell? ⟨W.heap.size+1,1,none⟩=some (.int .i64 f):=l.out.cell 0 rfl 1
   have x:wr.cell? ⟨W.heap.size+1,2,none⟩=some (.slice G n D):=l.out.cell 0 rfl 2
   go_wp2
   go_ret
   exact⟨bf z.out.symm,l.out.bel⟩
end
section
open Go.RowKit Go.ChangeShapes
structure Wr where
 wd:Int
 sl:Int
 cs:List (Int×Int)
 err:Int
def cB (A0:Option Addr) (W:World) (r:Wr) (e:Ending) (w':World):Prop:=
 ∃ A n c,e = .returned (.tuple #[.agg (pT r.wd r.sl A n c),.int .i64 r.err])∧Reads w' w'.heap.size 2 A n (ax r.cs)∧Below W.heap.size W w' ∧ ∀ ad,A=some ad→A=A0∨W.heap.size≤ad.block
theorem Reads.lo {w:World} {B size n:Nat} {A:Option Addr} {xs:List Value} (h:Reads w B size A n xs):0<n → ∀ ad,A=some ad→ad.block<B:=fun a ad e=>by
 obtain⟨c,e',b,_⟩:=h.2 a
 rw[e]at e';injection e' with e';subst e';exact b
theorem cB.of {a:Option Addr} {W:World} {r r':Wr} {e:Ending} {w':World} (h:r=r') (b:cB a W r' e w'):cB a W r e w':=h ▸ b
theorem je {w:World} {g:Nat} {a b c a' b' c':Value} (h:Blk w g 87 #[a,b,c]):Blk (((w.setCell ⟨g,0,none⟩ a').setCell ⟨g,1,none⟩ b').setCell ⟨g,2,none⟩ c') g 87 #[a',b',c']:=((h.set_ 0 a').set_ 1 b').set_ 2 c'
theorem bA {B:Nat} {b w:World} {g:Nat} {a' b' c':Value} (h:Below B b w) (a:B≤g):Below B b (((w.setCell ⟨g,0,none⟩ a').setCell ⟨g,1,none⟩ b').setCell ⟨g,2,none⟩ c'):=((h.setCell (by simpa using a) _).setCell (by simpa using a) _).setCell (by simpa using a) _
theorem bE {w:World} {B g size n:Nat} {A:Option Addr} {xs:List Value} {a' b' c':Value} (h:Reads w B size A n xs) (k:0<n → ∀ ad,A=some ad→ad.block≠g):Reads (((w.setCell ⟨g,0,none⟩ a').setCell ⟨g,1,none⟩ b').setCell ⟨g,2,none⟩ c') B size A n xs:=by
 refine⟨h.1,fun hn=>?_⟩
 obtain⟨ad,e,f,d⟩:=h.2 hn
 refine⟨ad,e,f,fun j u i=>?_⟩
 have b:=k hn ad e
 have c:∀ o,ad.add j≠⟨g,o,none⟩:=fun o a=>b (by rw[←aO ad j,a])
 rw[World.cell?_setCell_other _ _ _ _ (fun a=>c 2 a.symm),World.cell?_setCell_other _ _ _ _ (fun a=>c 1 a.symm),World.cell?_setCell_other _ _ _ _ (fun a=>c 0 a.symm)]
 exact d j u i
theorem oz (n:Nat):(madeCells #[.int .i64 0,.int .i64 0] (n*2)).toList=ax (List.replicate n (0,0)):=by
 apply List.ext_getElem?
 intro j
 rw[Array.getElem?_toList]
 by_cases a:j<n*2
 ·have d:(madeCells #[.int .i64 0,.int .i64 0] (n*2))[j]?=some (.int .i64 0):=by
   unfold madeCells
   rw[Array.getElem?_map,Array.getElem?_range,if_pos a]
   have:j%2=0∨j%2=1:=by omega
   rcases this with h | h<;>simp[h]
  rw[d]
  have b:(List.replicate n ((0:Int),(0:Int)))[j/2]?=some (0,0):=by rw[List.getElem?_replicate,if_pos (by omega)]
  have c:(jt (0,0))[j%2]?=some (.int .i64 0):=by
   have:j%2=0∨j%2=1:=by omega
   rcases this with h | h<;>rw[h]<;>rfl
  have:=jW _ (j/2) _ b (j%2) _ c
  rw[show j/2*2+j%2=j from by omega]at this
  exact this.symm
 ·rw[Array.getElem?_eq_none (by rw[size_madeCells];omega),List.getElem?_eq_none (by rw[cy,List.length_replicate];omega)]
theorem oU (w:World) (n:Nat):Reads (w.alloc (.cells (madeCells #[.int .i64 0,.int .i64 0] (n*2)) 220)) (w.heap.size+1) 2 (some ⟨w.heap.size,0,none⟩) n (ax (List.replicate n (0,0))):=by
 refine⟨by rw[cy,List.length_replicate],fun _=>⟨_,rfl,Nat.lt_succ_self _,fun j u a=>?_⟩⟩
 rw[add_plain,Nat.zero_add,(Blk.new w 220 _).cell j,←Array.getElem?_toList,oz]
 exact a
theorem pz (n:Nat) (hn:n≤1000) (w:World):(Instr.makeSlice 85 (.int .i64 (n:Int)) (.int .i64 (n:Int))).run Tryz.prog w = .ok (.slice (some ⟨w.heap.size,0,none⟩) n n) (w.alloc (.cells (madeCells #[.int .i64 0,.int .i64 0] (n*2)) 220)):=by
 obtain⟨e,b,a,c,d⟩:=info_parts Tryz.infoCell
 have h:=lg (P:=Tryz.prog) 85 220 e (.agg #[.int .i64 0,.int .i64 0]) Tryz.underlying85 b a .i64 .i64 n n (Nat.le_refl _) (by rw[d];omega) (by omega) w
 rw[c]at h
 exact h
theorem mW {a wd:Int} (b:0≤a) (f:a≤1099511627776) (e:1≤wd):IntKind.i64.wrap (a.tdiv wd)=a/wd:=by
 rw[Int.tdiv_eq_ediv_of_nonneg b]
 have c:a/wd≤a:=Int.ediv_le_self wd b
 have d:0≤a/wd:=Int.ediv_nonneg b (by omega)
 exact IntWalk.i64_in _ (by omega)
def oE (wd k a:Int):Bool:=decide (1≤wd∧wd≤2147483647∧1≤k∧k≤16∧0≤a∧a≤1099511627776)
def newR (wd k a:Int):Wr:=if oE wd k a=true then⟨wd,a/wd,List.replicate k.toNat (0,0),0⟩ else⟨0,0,[],1⟩
theorem eH {wd k a:Int} (h:wd<1∨2147483647<wd∨k<1∨16<k∨aY a=false):newR wd k a=⟨0,0,[],1⟩:=by
 unfold newR
 rw[if_neg]
 unfold oE
 rw[decide_eq_true_eq]
 unfold aY at h
 rw[decide_eq_false_iff_not]at h
 omega
theorem wM {wd a:Int} {n:Nat} (f:¬ wd<1) (c:¬ 2147483647<wd) (e:¬ (n:Int)<1) (d:¬ 16<(n:Int)) (b:aY a=true):newR wd n a=⟨wd,a/wd,List.replicate n (0,0),0⟩:=by
 unfold newR
 rw[if_pos,Int.toNat_natCast]
 unfold oE
 unfold aY at b
 rw[decide_eq_true_eq]at *
 omega
theorem ku {W:World} {g:Nat} {x0 x1 x2:Value} (h:Blk W g 87 #[x0,x1,x2]) (tmps:Array Value) (u:Value) (b:tmps[6]?.getD undef = .pointer (some ⟨g,0,none⟩)) (c:tmps[7]?.getD undef=u):(results Tryz.f157 tmps).run Tryz.prog W = .ok (.tuple #[.agg #[x0,x1,x2],u]) W:=by
 have c0:W.cell? ⟨g,0,none⟩=some x0:=h.cell 0
 have d:W.cell? ⟨g,1,none⟩=some x1:=h.cell 1
 have a:W.cell? ⟨g,2,none⟩=some x2:=h.cell 2
 simp[results,Tryz.results157,go_sem,b,c,c0,d,a]
set_option maxHeartbeats 2000000 in
theorem zE (wd k a:Int) (W:World):Calls Tryz.prog 157 #[.int .i64 wd,.int .i64 k,.int .i64 a] W (cB none W (newR wd k a)):=by
 have c:Hid (Kept W (W.alloc (.cells #[.int .i64 0,.int .i64 0,.slice none 0 0] 87)) [(W.heap.size,87,#[.int .i64 0,.int .i64 0,.slice none 0 0])]):=((Kept.start W).alloc_at 87 #[.int .i64 0,.int .i64 0,.slice none 0 0] (W.heap.size) (by simp))
 by_cases q:wd<1
 ·have f:=Lib.hid (eH (wd:=wd) (k:=k) (a:=a) (by omega))
  have B:decide (wd<1)=true:=by simpa using q
  go_enter Tryz.func157,Tryz.ntmps157
  go_wp2
  exact bodyPost_ret (ku (c.out.blk 0 rfl) _ (.int .i64 1) rfl rfl) rfl (cB.of f.out ⟨none,0,0,rfl,Reads.none_,c.out.bel,fun ad e=>by cases e⟩)
 have B:decide (wd<1)=false:=by simpa using q
 by_cases s:2147483647<wd
 ·have f:=Lib.hid (eH (wd:=wd) (k:=k) (a:=a) (by omega))
  have x:decide (2147483647<wd)=true:=by simpa using s
  go_enter Tryz.func157,Tryz.ntmps157
  go_wp2
  exact bodyPost_ret (ku (c.out.blk 0 rfl) _ (.int .i64 1) rfl rfl) rfl (cB.of f.out ⟨none,0,0,rfl,Reads.none_,c.out.bel,fun ad e=>by cases e⟩)
 have x:decide (2147483647<wd)=false:=by simpa using s
 by_cases m:k<1
 ·have f:=Lib.hid (eH (wd:=wd) (k:=k) (a:=a) (by omega))
  have u:decide (k<1)=true:=by simpa using m
  go_enter Tryz.func157,Tryz.ntmps157
  go_wp2
  exact bodyPost_ret (ku (c.out.blk 0 rfl) _ (.int .i64 1) rfl rfl) rfl (cB.of f.out ⟨none,0,0,rfl,Reads.none_,c.out.bel,fun ad e=>by cases e⟩)
 have u:decide (k<1)=false:=by simpa using m
 by_cases p:16<k
 ·have f:=Lib.hid (eH (wd:=wd) (k:=k) (a:=a) (by omega))
  have y:decide (16<k)=true:=by simpa using p
  go_enter Tryz.func157,Tryz.ntmps157
  go_wp2
  exact bodyPost_ret (ku (c.out.blk 0 rfl) _ (.int .i64 1) rfl rfl) rfl (cB.of f.out ⟨none,0,0,rfl,Reads.none_,c.out.bel,fun ad e=>by cases e⟩)
 have y:decide (16<k)=false:=by simpa using p
 by_cases gt:aY a=true
 ·obtain⟨n,rfl⟩:∃ n:Nat,k=(n:Int):=⟨k.toNat,by omega⟩
  have f:=Lib.hid (wM q s m p gt)
  have t:0≤a∧a≤1099511627776:=by unfold aY at gt;rw[decide_eq_true_eq]at gt;exact gt
  have L:(wd == 0)=false:=by rw[beq_eq_false_iff_ne];omega
  have mk:=pz n (by omega)
  have w:=mW (a:=a) (wd:=wd) t.1 t.2 (by omega)
  have G:¬ wd=0:=by omega
  go_enter Tryz.func157,Tryz.ntmps157
  go_wp2_with fail
  refine(lY a _).mono ?_
  rintro e z ⟨rfl,rfl⟩
  rw[gt]
  go_wp2_with fail
  refine wp_region_noPanic ?_
  refine wp_region_held_drew (S:=fun W'=>Below W.heap.size W W') (by kernel_rfl) c.out.drew.bel (fun b=>?_)
  have g:=Lib.hid c.out.drew
  generalize (W.alloc (.cells #[.int .i64 0,.int .i64 0,.slice none 0 0] 87)).drew=wd' at g b ⊢
  clear c
  refine tS 0 b ?_
  refine tS 1 b ?_
  refine tS 2 b ?_
  refine ak 3 (v := .int .i64 (a/wd)) rfl (by kernel_rfl) (by kernel_rfl) (by kernel_rfl) rfl (fun _ _ _ h=>h) (Or.inl ⟨by rfl,?y3u19⟩) b ?r3u19
  case y3u19=>(intro W o;(try dsimp only at o);go_simp)
  simp only[Act.put,sI,sZ,sS]
  refine tS 4 b ?_
  have d:=Lib.hid (g.out.alloc_off (.cells (madeCells #[.int .i64 0,.int .i64 0] (n*2)) 220))
  have l:=Lib.hid (oU wd' n)
  have A:=g.out.lt 0 rfl
  have j:=Lib.hid (show(wd'.alloc (.cells (madeCells #[.int .i64 0,.int .i64 0] (n*2)) 220)).heap.size=wd'.heap.size+1 from by simp)
  refine wpAnyH_ready (rs:=[5]) (by kernel_rfl) (by simp) ?_
  refine AllReadyH.cons rfl (fun K hK=>?_) AllReadyH.nil
  go_simp
  refine hK.out _ _ (b.alloc b.size _) (fun b=>?_)
  clear hK K
  try simp only[Act.put,sI,sZ,sS]
  generalize wd'.alloc (.cells (madeCells #[.int .i64 0,.int .i64 0] (n*2)) 220)=i at d l j b ⊢
  have C:=d.out.size
  refine tS 6 b ?_
  have H:i.cell? ⟨W.heap.size,0,none⟩=some (.int .i64 0):=d.out.cell 0 rfl 0
  have J:i.cell? ⟨W.heap.size,1,none⟩=some (.int .i64 0):=d.out.cell 0 rfl 1
  have I:i.cell? ⟨W.heap.size,2,none⟩=some (.slice none 0 0):=d.out.cell 0 rfl 2
  have D:i.frozen? ⟨W.heap.size,0,none⟩=false:=d.out.frozen 0 rfl 0
  have E:i.frozen? ⟨W.heap.size,1,none⟩=false:=d.out.frozen 0 rfl 1
  have F:i.frozen? ⟨W.heap.size,2,none⟩=false:=d.out.frozen 0 rfl 2
  refine wpAnyH_ready (rs:=[7]) (by kernel_rfl) (by simp) ?_
  refine AllReadyH.cons rfl (fun K hK=>?_) AllReadyH.nil
  go_simp
  refine hK.out _ _ (bA b (Nat.le_refl _)) (fun b=>?_)
  clear hK K
  try simp only[Act.put,sI,sZ,sS]
  refine tS 8 b ?_
  refine wpAnyH_done (by kernel_rfl) ?_ _
  refine NoPanic.normal ?_
  go_wp2
  exact bodyPost_ret (ku (je (d.out.blk 0 rfl)) _ (.int .i64 0) rfl rfl) rfl (cB.of f.out ⟨_,n,n,rfl,(bE l.out (fun _ r e'=>by injection e' with e';subst e';simp;omega)).more (by have:=j.out;simp[World.setCell];omega),bA d.out.bel (Nat.le_refl _),fun r e'=>by injection e' with e';subst e';right;simp;have:=g.out.size;omega⟩)
 ·have gf:aY a=false:=by simpa using gt
  have f:=Lib.hid (eH (wd:=wd) (k:=k) (a:=a) (by simp[gf]))
  go_enter Tryz.func157,Tryz.ntmps157
  go_wp2_with fail
  refine(lY a _).mono ?_
  rintro e z ⟨rfl,rfl⟩
  rw[gf]
  go_wp2
  exact bodyPost_ret (ku (c.out.blk 0 rfl) _ (.int .i64 1) rfl rfl) rfl (cB.of f.out ⟨none,0,0,rfl,Reads.none_,c.out.bel,fun ad e=>by cases e⟩)
theorem iH {W:World} {g:Nat} {x0 x1 x2:Value} (h:Blk W g 87 #[x0,x1,x2]) (tmps:Array Value) (u:Value) (b:tmps[6]?.getD undef = .pointer (some ⟨g,0,none⟩)) (c:tmps[7]?.getD undef=u):(results Tryz.f86 tmps).run Tryz.prog W = .ok (.tuple #[.agg #[x0,x1,x2],u]) W:=by
 have c0:W.cell? ⟨g,0,none⟩=some x0:=h.cell 0
 have d:W.cell? ⟨g,1,none⟩=some x1:=h.cell 1
 have a:W.cell? ⟨g,2,none⟩=some x2:=h.cell 2
 simp[results,Tryz.results86,go_sem,b,c,c0,d,a]
set_option maxHeartbeats 2000000 in
theorem uy (wd k a:Int) (W:World):Calls Tryz.prog 86 #[.int .i64 wd,.int .i64 k,.int .i64 a] W (cB none W (newR wd k a)):=by
 have c:Hid (Kept W (W.alloc (.cells #[.int .i64 0,.int .i64 0,.slice none 0 0] 87)) [(W.heap.size,87,#[.int .i64 0,.int .i64 0,.slice none 0 0])]):=((Kept.start W).alloc_at 87 #[.int .i64 0,.int .i64 0,.slice none 0 0] (W.heap.size) (by simp))
 by_cases q:k<1
 ·have f:=Lib.hid (eH (wd:=wd) (k:=k) (a:=a) (by omega))
  have B:decide (k<1)=true:=by simpa using q
  go_enter Tryz.func86,Tryz.ntmps86
  go_wp2
  exact bodyPost_ret (iH (c.out.blk 0 rfl) _ (.int .i64 1) rfl rfl) rfl (cB.of f.out ⟨none,0,0,rfl,Reads.none_,c.out.bel,fun ad e=>by cases e⟩)
 have B:decide (k<1)=false:=by simpa using q
 by_cases s:16<k
 ·have f:=Lib.hid (eH (wd:=wd) (k:=k) (a:=a) (by omega))
  have x:decide (16<k)=true:=by simpa using s
  go_enter Tryz.func86,Tryz.ntmps86
  go_wp2
  exact bodyPost_ret (iH (c.out.blk 0 rfl) _ (.int .i64 1) rfl rfl) rfl (cB.of f.out ⟨none,0,0,rfl,Reads.none_,c.out.bel,fun ad e=>by cases e⟩)
 have x:decide (16<k)=false:=by simpa using s
 by_cases m:wd<1
 ·have f:=Lib.hid (eH (wd:=wd) (k:=k) (a:=a) (by omega))
  have u:decide (wd<1)=true:=by simpa using m
  go_enter Tryz.func86,Tryz.ntmps86
  go_wp2
  exact bodyPost_ret (iH (c.out.blk 0 rfl) _ (.int .i64 1) rfl rfl) rfl (cB.of f.out ⟨none,0,0,rfl,Reads.none_,c.out.bel,fun ad e=>by cases e⟩)
 have u:decide (wd<1)=false:=by simpa using m
 by_cases p:2147483647<wd
 ·have f:=Lib.hid (eH (wd:=wd) (k:=k) (a:=a) (by omega))
  have y:decide (2147483647<wd)=true:=by simpa using p
  go_enter Tryz.func86,Tryz.ntmps86
  go_wp2
  exact bodyPost_ret (iH (c.out.blk 0 rfl) _ (.int .i64 1) rfl rfl) rfl (cB.of f.out ⟨none,0,0,rfl,Reads.none_,c.out.bel,fun ad e=>by cases e⟩)
 have y:decide (2147483647<wd)=false:=by simpa using p
 by_cases gt:aY a=true
 ·obtain⟨n,rfl⟩:∃ n:Nat,k=(n:Int):=⟨k.toNat,by omega⟩
  have f:=Lib.hid (wM m p q s gt)
  have t:0≤a∧a≤1099511627776:=by unfold aY at gt;rw[decide_eq_true_eq]at gt;exact gt
  have L:(wd == 0)=false:=by rw[beq_eq_false_iff_ne];omega
  have mk:=pz n (by omega)
  have w:=mW (a:=a) (wd:=wd) t.1 t.2 (by omega)
  have G:¬ wd=0:=by omega
  go_enter Tryz.func86,Tryz.ntmps86
  go_wp2_with fail
  refine(lH a _).mono ?_
  rintro e z ⟨rfl,rfl⟩
  rw[gt]
  go_wp2_with fail
  refine wp_region_noPanic ?_
  refine wp_region_held_drew (S:=fun W'=>Below W.heap.size W W') (by kernel_rfl) c.out.drew.bel (fun b=>?_)
  have g:=Lib.hid c.out.drew
  generalize (W.alloc (.cells #[.int .i64 0,.int .i64 0,.slice none 0 0] 87)).drew=wd' at g b ⊢
  clear c
  refine tS 0 b ?_
  refine tS 1 b ?_
  refine tS 2 b ?_
  refine ak 3 (v := .int .i64 (a/wd)) rfl (by kernel_rfl) (by kernel_rfl) (by kernel_rfl) rfl (fun _ _ _ h=>h) (Or.inl ⟨by rfl,?y3u26⟩) b ?r3u26
  case y3u26=>(intro W o;(try dsimp only at o);go_simp)
  simp only[Act.put,sI,sZ,sS]
  refine tS 4 b ?_
  have d:=Lib.hid (g.out.alloc_off (.cells (madeCells #[.int .i64 0,.int .i64 0] (n*2)) 220))
  have l:=Lib.hid (oU wd' n)
  have A:=g.out.lt 0 rfl
  have j:=Lib.hid (show(wd'.alloc (.cells (madeCells #[.int .i64 0,.int .i64 0] (n*2)) 220)).heap.size=wd'.heap.size+1 from by simp)
  refine wpAnyH_ready (rs:=[5]) (by kernel_rfl) (by simp) ?_
  refine AllReadyH.cons rfl (fun K hK=>?_) AllReadyH.nil
  go_simp
  refine hK.out _ _ (b.alloc b.size _) (fun b=>?_)
  clear hK K
  try simp only[Act.put,sI,sZ,sS]
  generalize wd'.alloc (.cells (madeCells #[.int .i64 0,.int .i64 0] (n*2)) 220)=i at d l j b ⊢
  have C:=d.out.size
  refine tS 6 b ?_
  have H:i.cell? ⟨W.heap.size,0,none⟩=some (.int .i64 0):=d.out.cell 0 rfl 0
  have J:i.cell? ⟨W.heap.size,1,none⟩=some (.int .i64 0):=d.out.cell 0 rfl 1
  have I:i.cell? ⟨W.heap.size,2,none⟩=some (.slice none 0 0):=d.out.cell 0 rfl 2
  have D:i.frozen? ⟨W.heap.size,0,none⟩=false:=d.out.frozen 0 rfl 0
  have E:i.frozen? ⟨W.heap.size,1,none⟩=false:=d.out.frozen 0 rfl 1
  have F:i.frozen? ⟨W.heap.size,2,none⟩=false:=d.out.frozen 0 rfl 2
  refine wpAnyH_ready (rs:=[7]) (by kernel_rfl) (by simp) ?_
  refine AllReadyH.cons rfl (fun K hK=>?_) AllReadyH.nil
  go_simp
  refine hK.out _ _ (bA b (Nat.le_refl _)) (fun b=>?_)
  clear hK K
  try simp only[Act.put,sI,sZ,sS]
  refine tS 8 b ?_
  refine wpAnyH_done (by kernel_rfl) ?_ _
  refine NoPanic.normal ?_
  go_wp2
  exact bodyPost_ret (iH (je (d.out.blk 0 rfl)) _ (.int .i64 0) rfl rfl) rfl (cB.of f.out ⟨_,n,n,rfl,(bE l.out (fun _ r e'=>by injection e' with e';subst e';simp;omega)).more (by have:=j.out;simp[World.setCell];omega),bA d.out.bel (Nat.le_refl _),fun r e'=>by injection e' with e';subst e';right;simp;have:=g.out.size;omega⟩)
 ·have gf:aY a=false:=by simpa using gt
  have f:=Lib.hid (eH (wd:=wd) (k:=k) (a:=a) (by simp[gf]))
  go_enter Tryz.func86,Tryz.ntmps86
  go_wp2_with fail
  refine(lH a _).mono ?_
  rintro e z ⟨rfl,rfl⟩
  rw[gf]
  go_wp2
  exact bodyPost_ret (iH (c.out.blk 0 rfl) _ (.int .i64 1) rfl rfl) rfl (cB.of f.out ⟨none,0,0,rfl,Reads.none_,c.out.bel,fun ad e=>by cases e⟩)
end
section
def clr (cs:List (Int×Int)) (n:Int) (s0:Int):Nat→List (Int×Int)
 | 0=>cs
 | k+1=>(clr cs n s0 k).set ((s0+k)%n).toNat (0,0)
theorem oY (cs:List (Int×Int)) (n a:Int) (k:Nat):(clr cs n a k).length=cs.length:=by
 induction k with
 | zero=>rfl
 | succ k ih=>rw[clr,List.length_set,ih]
def cZ (tz n:Int) (i:Nat):Int:=tz-(tz-(i:Int))%n
theorem gi {tz n:Int} {i:Nat} (hn:0<n) (b:(i:Int)<n):tz-n<cZ tz n i∧cZ tz n i≤tz∧cZ tz n i%n=i:=by
 unfold cZ
 have d:=Int.emod_nonneg (tz-i) (by omega:n≠0)
 have c:=Int.emod_lt_of_pos (tz-i) hn
 refine⟨by omega,by omega,?_⟩
 have a:tz-(tz-(i:Int))%n=i+n*((tz-i)/n):=by
  have:=Int.emod_add_mul_ediv (tz-i) n
  omega
 rw[a,Int.add_mul_emod_self_left]
 exact Int.emod_eq_of_lt (by omega) b
theorem mD {tz n s:Int} {i:Nat} (hn:0<n) (e:(i:Int)<n) (j:tz-n<s) (g:s≤tz) (c:s%n=i):s=cZ tz n i:=by
 obtain⟨f,k,d⟩:=gi (tz:=tz) hn e
 have b:(s-cZ tz n i)%n=0:=by rw[Int.sub_emod,c,d];simp
 have a:=Int.emod_add_mul_ediv (s-cZ tz n i) n
 rw[b]at a
 rcases Int.lt_trichotomy ((s-cZ tz n i)/n) 0 with h | h | h
 ·have:n*((s-cZ tz n i)/n)≤n*(-1):=Int.mul_le_mul_of_nonneg_left (by omega) (by omega)
  omega
 ·rw[h]at a;omega
 ·have:n*1≤n*((s-cZ tz n i)/n):=Int.mul_le_mul_of_nonneg_left (by omega) (by omega)
  omega
def ju (cs:List (Int×Int)) (sl tz:Int):List (Int×Int):=(List.range cs.length).map (fun i=>if sl<cZ tz cs.length i then(0,0) else cs.getD i (0,0))
theorem gv (cs:List (Int×Int)) (sl tz:Int):(ju cs sl tz).length=cs.length:=by simp[ju]
theorem CT (cs:List (Int×Int)) (n b:Int) (k i:Nat) (e:i<cs.length):(clr cs n b k)[i]?=if ∃ j,j<k∧((b+(j:Int))%n).toNat=i then some (0,0) else cs[i]?:=by
 induction k with
 | zero=>rw[clr,if_neg (by rintro⟨j,h,_⟩;omega)]
 | succ k ih=>
   rw[clr,List.getElem?_set]
   by_cases h:((b+(k:Int))%n).toNat=i
   ·rw[if_pos h,if_pos (by rw[oY];omega),if_pos ⟨k,by omega,h⟩]
   ·rw[if_neg h,ih]
    by_cases g:∃ j,j<k∧((b+(j:Int))%n).toNat=i
    ·rw[if_pos g,if_pos (by obtain⟨j,d,a⟩:=g;exact⟨j,by omega,a⟩)]
    ·rw[if_neg g,if_neg (by
      rintro⟨j,d,a⟩
      by_cases c:j=k
      ·subst c;exact h a
      ·exact g ⟨j,by omega,a⟩)]
theorem xY (cs:List (Int×Int)) (sl tz:Int) (k:0≤sl) (c:sl<tz) (hn:1≤cs.length):clr cs cs.length (max (sl+1) (tz-cs.length+1)) (tz-max (sl+1) (tz-cs.length+1)+1).toNat=ju cs sl tz:=by
 apply List.ext_getElem?
 intro i
 by_cases b:i<cs.length
 ·rw[CT _ _ _ _ _ b,ju,List.getElem?_map,List.getElem?_range b,Option.map_some]
  obtain⟨e,m,d⟩:=gi (tz:=tz) (n:=(cs.length:Int)) (i:=i) (by omega) (by omega)
  have a:cs[i]?=some (cs.getD i (0,0)):=by rw[List.getD_eq_getElem?_getD,List.getElem?_eq_getElem b];rfl
  by_cases h:sl<cZ tz cs.length i
  ·rw[if_pos h,if_pos ⟨(cZ tz cs.length i-max (sl+1) (tz-cs.length+1)).toNat,by omega,by
    rw[show max (sl+1) (tz-(cs.length:Int)+1)+((cZ tz cs.length i-max (sl+1) (tz-cs.length+1)).toNat:Int)=cZ tz cs.length i from by omega,d];simp⟩]
  ·rw[if_neg h,if_neg (by
    rintro⟨j,l,f⟩
    have g:=Int.emod_nonneg (max (sl+1) (tz-(cs.length:Int)+1)+(j:Int)) (by omega:(cs.length:Int)≠0)
    have:=mD (tz:=tz) (n:=(cs.length:Int)) (i:=i) (s:=max (sl+1) (tz-cs.length+1)+(j:Int)) (by omega) (by omega) (by omega) (by omega) (by omega)
    omega),a]
 ·rw[List.getElem?_eq_none (by rw[oY];omega),List.getElem?_eq_none (by rw[gv];omega)]
def eJ (wd sl:Int) (cs:List (Int×Int)) (a:Int):Wr:=
 if(cj wd sl cs&&aY a)=false then⟨wd,sl,cs,1⟩ else if a/wd≤sl then⟨wd,sl,cs,0⟩ else⟨wd,a/wd,ju cs sl (a/wd),0⟩
end
end Go.Proofs.YtpokkciheejeiaaGreatDoor
