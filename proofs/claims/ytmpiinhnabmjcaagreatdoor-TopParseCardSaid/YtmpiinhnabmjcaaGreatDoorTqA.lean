/- Lemmas and contracts that the proof of TopParse uses, part 1 of 20: each is a theorem for every input that its premises allow. -/
import Derived.WalkKit
import Derived.Below
import Derived.Laws.OwnMore
import Derived.Deep.AppendLies
import Derived.Deep.Draws
import Derived.Laws.Rows
import Derived.Maps.AppendAt
import Derived.RegionTactic
import Derived.OwnWalk
import Derived.Deep.OwnRows
import Derived.Laws.AppendOwn
import Derived.Laws.MakeOwn
import Derived.Laws.Entries
import Derived.Deep.QuietTactic
import Derived.Lib.Hide
import Derived.Lib.ItoaNum
import Derived.Lib.LaidTab
import Derived.Test.YtmpiinhnabmjcaaGreatDoorRows
import Derived.ChangeKeysEq
import Derived.Calls
import Derived.Orders
set_option linter.unusedVariables false
set_option linter.unusedSimpArgs false
set_option maxRecDepth 100000
namespace Go.Proofs.YtmpiinhnabmjcaaGreatDoor
theorem sI {α : Type} (l : List α) (i : Nat) (a : α) : l.toArray.setIfInBounds i a = (l.set i a).toArray := List.setIfInBounds_toArray ..
theorem sZ {α : Type} {x : α} {xs : List α} {a : α} : (x :: xs).set 0 a = a :: xs := rfl
theorem sS {α : Type} {x : α} {xs : List α} {i : Nat} {a : α} : (x :: xs).set (i + 1) a = x :: xs.set i a := rfl
section
open Go.RowKit
theorem bU (a:Addr) (n:Nat):(a.add n).block=a.block:=by unfold Addr.add;split<;>rfl
theorem cQ (a:Addr) (i j:Nat):(a.add i).add j=a.add (i+j):=by
 unfold Addr.add
 by_cases hi:i=0<;>by_cases hj:j=0<;>simp[hi,hj,Nat.add_assoc]
def Reads (w:World) (B size:Nat) (A:Option Addr) (n:Nat) (xs:List Value):Prop:=
 xs.length=n*size∧(0<n → ∃ ad,A=some ad∧ad.block<B ∧ ∀ j u,xs[j]?=some u→w.cell? (ad.add j)=some u)
section
variable {w w':World} {B B' size n:Nat} {A:Option Addr} {xs:List Value}
theorem Reads.none_:Reads w B size A 0 []:=⟨by simp,fun h=>absurd h (by omega)⟩
theorem Reads.at_ {k:Nat} (h:Reads w B 1 A n xs) (hk:k<n):∃ ad u,A=some ad∧ad.block<B∧xs[k]?=some u∧w.cell? (ad.add k)=some u:=by
 obtain⟨ad,e,hb,hc⟩:=h.2 (by omega)
 have hl:k<xs.length:=by have:=h.1;omega
 exact⟨ad,xs[k],e,hb,List.getElem?_eq_getElem hl,hc k _ (List.getElem?_eq_getElem hl)⟩
theorem Reads.keep (h:Reads w B size A n xs) (hk:∀ p:Addr,p.block<B→w'.cell? p=w.cell? p):Reads w' B size A n xs:=
 ⟨h.1,fun hn=>by
  obtain⟨ad,e,hb,hc⟩:=h.2 hn
  exact⟨ad,e,hb,fun j u hu=>(hk _ (by rw[bU];exact hb)).trans (hc j u hu)⟩⟩
theorem Reads.more (h:Reads w B size A n xs) (hB:B≤B'):Reads w B' size A n xs:=
 ⟨h.1,fun hn=>by
  obtain⟨ad,e,hb,hc⟩:=h.2 hn
  exact⟨ad,e,by omega,hc⟩⟩
theorem Reads.below (h:Reads w B size A n xs) (hb:Below B w w'):Reads w' B size A n xs:=h.keep fun _ hp=>hb.cell hp
theorem Reads.drew (h:Reads w B size A n xs):Reads w.drew B size A n xs:=h
theorem Reads.alloc (h:Reads w B size A n xs) (hB:B≤w.heap.size) (o:Obj):Reads (w.alloc o) B size A n xs:=h.keep fun p hp=>World.cell?_alloc_lt w o p (by omega)
theorem Reads.cut (h:Reads w B size A n xs) {k cap:Nat} (hk:k≤n) (hc:n≤cap):
 Reads w B size (if cap=k then A else A.map (·.add (k*size))) (n-k) (xs.drop (k*size)):=by
 refine⟨by rw[List.length_drop,h.1,Nat.sub_mul],fun hn=>?_⟩
 obtain⟨ad,rfl,hb,hcell⟩:=h.2 (by omega)
 rw[if_neg (by omega)]
 refine⟨ad.add (k*size),rfl,by rw[bU];exact hb,fun j u hu=>?_⟩
 rw[cQ]
 exact hcell _ u (by rw[←hu,List.getElem?_drop])
theorem Reads.of_own {base:Nat} {e:TypeId} {c:Nat} (h:w.ownsRow base e size (.slice A n c) n xs):Reads w w.heap.size size A n xs:=by
 refine⟨h.1,fun hn=>?_⟩
 obtain⟨g,cap,hv,_,hlt⟩:=h.form hn
 have hA:A=some ⟨g,0,none⟩:=by injection hv
 subst hA
 exact⟨_,rfl,hlt,h.cells (g:=g) rfl⟩
end
def Blk (w:World) (g:Nat) (t:TypeId) (cs:Array Value):Prop:=w.heap[g]?=some (.cells cs t (0,0))
section
variable {w w':World} {g:Nat} {t:TypeId} {cs:Array Value}
theorem Blk.lt (h:Blk w g t cs):g<w.heap.size:=by
 rcases Nat.lt_or_ge g w.heap.size with hlt | hge
 ·exact hlt
 ·unfold Blk at h;rw[Array.getElem?_eq_none hge]at h;cases h
theorem Blk.cell (h:Blk w g t cs) (i:Nat):w.cell? ⟨g,i,none⟩=cs[i]?:=cell_of_row w g i cs t (0,0) h
theorem Blk.frozen (h:Blk w g t cs) (i:Nat):w.frozen? ⟨g,i,none⟩=false:=by
 unfold Blk at h
 simp[World.frozen?,h]
theorem Blk.new (w:World) (t:TypeId) (cs:Array Value):Blk (w.alloc (.cells cs t)) w.heap.size t cs:=heap_alloc_new w _
theorem Blk.drew (h:Blk w g t cs):Blk w.drew g t cs:=h
theorem Blk.alloc (h:Blk w g t cs) (o:Obj):Blk (w.alloc o) g t cs:=(Below.heap_alloc w o g h.lt).trans h
theorem Blk.set_ (h:Blk w g t cs) (i:Nat) (u:Value):Blk (w.setCell ⟨g,i,none⟩ u) g t (cs.setIfInBounds i u):=by
 unfold Blk at h ⊢
 simp[World.setCell,Array.getElem?_modify,h]
theorem Blk.far (h:Blk w g t cs) {p:Addr} (hp:g≠p.block) (u:Value):Blk (w.setCell p u) g t cs:=(Below.heap_setCell w p u g hp).trans h
theorem Blk.below {B:Nat} (h:Blk w g t cs) (hb:Below B w w') (hg:g<B):Blk w' g t cs:=(hb.block g hg).trans h
theorem Blk.grown {row:Option Nat} (h:Blk w g t cs) (hb:w.grownBy w' row) (hg:some g≠row):Blk w' g t cs:=(hb.block g h.lt hg).trans h
end
section
variable {P:Program} (w:World)
theorem nc (base:Nat) (t ty e:TypeId) (i:TypeInfo) (size:Nat) (ht:P.underlying t=some (.slice e)) (hi:P.info? e=some i)
 (v:Value) (n:Nat) (xs:List Value) (hown:w.ownsRow base e size v n xs) (c:Nat):(Builtin.append_ #[t,t] ty #[v,.slice none 0 c]).run P w = .ok v w:=by
 rcases hown.2 with⟨rfl,rfl⟩ | ⟨g,cap,cur,rfl,_,_,hnc,_⟩
 ·simp[Builtin.append_,run_underlying ht,sizeOf,typeInfo,hi,Builtin.lenOf,Builtin.firstCells]
 ·simp[Builtin.append_,run_underlying ht,sizeOf,typeInfo,hi,Builtin.lenOf,Builtin.firstCells,hnc,storeCells]
theorem qt (base:Nat) (t ty e:TypeId) (i:TypeInfo) (z:Value) (size bytes:Nat) (ht:P.underlying t=some (.slice e)) (hi:P.info? e=some i) (hz:i.zero=some z)
 (hsize:i.size=size) (hby:i.bytes=bytes) (hzs:z.cells.size=size) (hsz:0<size)
 (v:Value) (n:Nat) (xs:List Value) (hown:w.ownsRow base e size v n xs)
 (B:Nat) (A:Option Addr) (m c:Nat) (news:List Value) (hr:Reads w B size A m news) (h1:∀ u ∈ news,u.oneCell'=true)
 (h63:n+m≤maxLen) (hbytes:(n+m)*bytes≤140737488355328) (hbase:base≤w.heap.size):
 ∃ v' w',(Builtin.append_ #[t,t] ty #[v,.slice A m c]).run P w = .ok v' w'∧w'.ownsRow base e size v' (n+m) (xs++news)∧w.grownBy w' v.ownBlock ∧
   (v'.ownBlock=v.ownBlock∨v'.ownBlock=some w.heap.size):=by
 rcases A with _ | ad
 ·have hm:m=0:=by
   rcases Nat.eq_zero_or_pos m with h0 | h0
   ·exact h0
   ·obtain⟨ad,h,_⟩:=hr.2 h0
    cases h
  subst hm
  have hn:news = []:=List.eq_nil_of_length_eq_zero (by simpa using hr.1)
  subst hn
  exact⟨v,w,nc w base t ty e i size ht hi v n xs hown c,by simpa using hown,World.grownBy.refl w _,.inl rfl⟩
 ·have hcells:∀ j u,news[j]?=some u→w.cell? (ad.add j)=some u:=by
   intro j u hu
   rcases Nat.eq_zero_or_pos m with h0 | h0
   ·subst h0
    have hn:news = []:=List.eq_nil_of_length_eq_zero (by simpa using hr.1)
    subst hn
    simp at hu
   ·obtain⟨ad',h,_,hc⟩:=hr.2 h0
    injection h with h
    subst h
    exact hc j u hu
  obtain⟨v',w',hrun,h2,h3,_,h5⟩:=run_append_own_at (P:=P) w base t ty e i z size bytes ht hi hz hsize hby hzs hsz v n xs hown ad m c news hr.1 hcells h1 h63 hbytes hbase
  exact⟨v',w',hrun,h2,h3,h5⟩
theorem kN {o:Oper} {a:Act} {K:Act→World→Prop} {Q:Exit→Act→World→Prop} (s x:Operand) (t:TypeId)
 (ho:o.op = .call { callee := .builtin .append,args:=#[s,x],argTypes:=#[t,t] })
 (base:Nat) (e:TypeId) (i:TypeInfo) (z:Value) (size bytes:Nat) (ht:P.underlying t=some (.slice e)) (hi:P.info? e=some i) (hz:i.zero=some z)
 (hsize:i.size=size) (hby:i.bytes=bytes) (hzs:z.cells.size=size) (hsz:0<size)
 (v:Value) (n:Nat) (xs:List Value) (hs:a.eval s=v) (hown:w.ownsRow base e size v n xs)
 (B:Nat) (A:Option Addr) (m c:Nat) (news:List Value) (hx:a.eval x = .slice A m c) (hr:Reads w B size A m news) (h1:∀ u ∈ news,u.oneCell'=true)
 (h63:n+m≤maxLen) (hbytes:(n+m)*bytes≤140737488355328) (hbase:base≤w.heap.size)
 (h:∀ v' w',w'.ownsRow base e size v' (n+m) (xs++news)→w.grownBy w' v.ownBlock→(v'.ownBlock=v.ownBlock∨v'.ownBlock=some w.heap.size)→K (a.put o.dst v') w'):o.wp P a w K Q:=by
 obtain⟨v',w',hrun,h2,h3,h4⟩:=qt (P:=P) w base t o.type e i z size bytes ht hi hz hsize hby hzs hsz v n xs hown B A m c news hr h1 h63 hbytes hbase
 unfold Oper.wp execOp
 simp only[ho,resolve,invoke,builtin,Sem.run_bind,Sem.run_pure,Result.andThen_ok,List.map_toArray,List.map_cons,List.map_nil,hs,hx,hrun]
 exact h v' w' h2 h3 h4
theorem er {ops:Array Oper} {rest:List Oper} {o:Oper} {a:Act} {Q:Exit→Act→World→Prop} (hgd:o.guard=none) (s x:Operand) (t:TypeId)
 (ho:o.op = .call { callee := .builtin .append,args:=#[s,x],argTypes:=#[t,t] })
 (base:Nat) (e:TypeId) (i:TypeInfo) (z:Value) (size bytes:Nat) (ht:P.underlying t=some (.slice e)) (hi:P.info? e=some i) (hz:i.zero=some z)
 (hsize:i.size=size) (hby:i.bytes=bytes) (hzs:z.cells.size=size) (hsz:0<size)
 (v:Value) (n:Nat) (xs:List Value) (hs:a.eval s=v) (hown:w.ownsRow base e size v n xs)
 (B:Nat) (A:Option Addr) (m c:Nat) (news:List Value) (hx:a.eval x = .slice A m c) (hr:Reads w B size A m news) (h1:∀ u ∈ news,u.oneCell'=true)
 (h63:n+m≤maxLen) (hbytes:(n+m)*bytes≤140737488355328) (hbase:base≤w.heap.size)
 (h:∀ v' w',w'.ownsRow base e size v' (n+m) (xs++news)→w.grownBy w' v.ownBlock→(v'.ownBlock=v.ownBlock∨v'.ownBlock=some w.heap.size)→wpList P ops Q rest (a.put o.dst v') w'):wpList P ops Q (o::rest) a w:=
 wpList_plain hgd fun _ hK=>kN w s x t ho base e i z size bytes ht hi hz hsize hby hzs hsz v n xs hs hown B A m c news hx hr h1 h63 hbytes hbase fun v' w' h2 h3 h4=>hK _ _ (h v' w' h2 h3 h4)
theorem je {ops:Array Oper} {o:Oper} {a:Act} {K:Act→World→Prop} {Q:Exit→Act→World→Prop} {E:Prop} (hgd:o.guard=none) (s x:Operand) (t:TypeId)
 (ho:o.op = .call { callee := .builtin .append,args:=#[s,x],argTypes:=#[t,t] })
 (base:Nat) (e:TypeId) (i:TypeInfo) (z:Value) (size bytes:Nat) (ht:P.underlying t=some (.slice e)) (hi:P.info? e=some i) (hz:i.zero=some z)
 (hsize:i.size=size) (hby:i.bytes=bytes) (hzs:z.cells.size=size) (hsz:0<size)
 (v:Value) (n:Nat) (xs:List Value) (hs:a.eval s=v) (hown:w.ownsRow base e size v n xs)
 (B:Nat) (A:Option Addr) (m c:Nat) (news:List Value) (hx:a.eval x = .slice A m c) (hr:Reads w B size A m news) (h1:∀ u ∈ news,u.oneCell'=true)
 (h63:n+m≤maxLen) (hbytes:(n+m)*bytes≤140737488355328) (hbase:base≤w.heap.size)
 (h:∀ v' w',w'.ownsRow base e size v' (n+m) (xs++news)→w.grownBy w' v.ownBlock→(v'.ownBlock=v.ownBlock∨v'.ownBlock=some w.heap.size)→K (a.put o.dst v') w'):
 if Region.wanted o (yielded ops a.tmps)=true then Oper.wp P o a w K Q else E:=by
 have hw:Region.wanted o (yielded ops a.tmps)=true:=by simp[Region.wanted,hgd]
 rw[if_pos hw]
 exact kN w s x t ho base e i z size bytes ht hi hz hsize hby hzs hsz v n xs hs hown B A m c news hx hr h1 h63 hbytes hbase h
end
theorem below_drewN {B:Nat} {a w:World} (h:Below B a w) (n:Nat):Below B a (w.drewN n):=⟨h.os,h.tape,h.output,h.size,h.block⟩
theorem rJ {a w:World} {row:Option Nat} (h:a.grownBy w row) (o:Obj):a.grownBy (w.alloc o) row:=
 ⟨h.os,h.tape,h.output,Nat.le_trans h.size (by simp),fun i hi hne=>(Below.heap_alloc w o i (Nat.lt_of_lt_of_le hi h.size)).trans (h.block i hi hne)⟩
theorem uf {a w:World} {g:Nat} (h:a.grownBy w (some g)) {p:Addr} (hp:p.block=g∨a.heap.size≤p.block) (u:Value):a.grownBy (w.setCell p u) (some g):=
 ⟨h.os,h.tape,h.output,by simpa [World.setCell] using h.size,fun i hi hne=>(Below.heap_setCell w p u i (by
  rintro rfl
  rcases hp with hp | hp
  ·exact hne (by rw[hp])
  ·omega)).trans (h.block i hi hne)⟩
theorem eX {a w:World} (h:Below a.heap.size a w) (row:Option Nat):a.grownBy w row:=⟨h.os,h.tape,h.output,h.size,fun i hi _=>h.block i hi⟩
theorem hU {P:Program} (t e:TypeId) (i:TypeInfo) (z:Value) (ht:P.underlying t=some (.slice e)) (hi:P.info? e=some i) (hz:i.zero=some z)
 (kl kc:IntKind) (n c:Nat) (hnc:n≤c) (hbytes:i.bytes*c≤281474976710656) (h63:c≤9223372036854775807) (w:World):
 (Instr.makeSlice t (.int kl (n:Int)) (.int kc (c:Int))).run P w = .ok (.slice (some ⟨w.heap.size,0,none⟩) n c) (w.alloc (.cells (madeCells z.cells (c*i.size)) e)):=by
 have hb:(i.bytes:Int)*(c:Int)≤281474976710656:=by
  have h:((i.bytes*c:Nat):Int)≤281474976710656:=by omega
  rwa [Int.natCast_mul]at h
 have hr:=run_make (P:=P) w t e i z ht hi hz kl kc n c (by omega) (by omega) hb (by omega)
 simp only[Int.toNat_natCast]at hr
 exact hr
theorem nH {P:Program} (t k e:TypeId) (kd:IntKind) (n:Int) (ht:P.underlying t=some (.map k e)) (w:World):
 (Instr.makeMap t (some (.int kd n))).run P w = .ok (.map (some w.heap.size)) (w.alloc (.map #[] 0)):=by
 simp[Instr.makeMap,run_underlying ht];rfl
theorem add_plain (g o j:Nat):(⟨g,o,none⟩:Addr).add j=⟨g,o+j,none⟩:=by
 unfold Addr.add
 by_cases h:j=0<;>simp[h]
theorem Reads.of_blk {w:World} {g:Nat} {t:TypeId} {cs:Array Value} (h:Blk w g t cs) (n:Nat) (xs:List Value) (hn:n=xs.length) (hx:cs.toList=xs):Reads w (g+1) 1 (some ⟨g,0,none⟩) n xs:=by
 subst hn
 refine⟨by omega,fun _=>⟨_,rfl,Nat.lt_succ_self _,fun j u hu=>?_⟩⟩
 rw[add_plain,Nat.zero_add,h.cell j,←hu,←hx]
 simp
section
variable {P:Program}
theorem eD {ops:Array Oper} {rest:List Oper} {o:Oper} {a:Act} {Q:Exit→Act→World→Prop} (W:World) (hgd:o.guard=none) (s x:Operand) (t:TypeId)
 (ho:o.op = .call { callee := .builtin .append,args:=#[s,x],argTypes:=#[t,t] })
 (base:Nat) (e:TypeId) (i:TypeInfo) (z:Value) (bytes:Nat) (ht:P.underlying t=some (.slice e)) (hi:P.info? e=some i) (hz:i.zero=some z)
 (hsize:i.size=1) (hby:i.bytes=bytes) (hzs:z.cells.size=1)
 (v:Value) (n:Nat) (xs:List Value) (hown:W.ownsRow base e 1 v n xs) (hs:a.eval s=v)
 (u:Value) (hx:a.eval x = .slice (some ⟨W.heap.size,0,none⟩) 1 1) (h1:u.oneCell'=true)
 (h63:n+1≤maxLen) (hbytes:(n+1)*bytes≤140737488355328) (hbase:base≤W.heap.size)
 (h:∀ v' w',w'.ownsRow base e 1 v' (n+1) (xs ++ [u])→W.grownBy w' v.ownBlock→wpList P ops Q rest (a.put o.dst v') w'):wpList P ops Q (o::rest) a (W.alloc (.cells #[u] e)):=by
 refine wpList_append_own _ hgd s x t ho base e i z 1 bytes ht hi hz hsize hby hzs (by omega) v n xs hs (hown.alloc _) ⟨W.heap.size,0,none⟩ 1 1 [u] hx rfl ?_ (by simpa using h1) h63 hbytes (by simp;omega) ?_
 ·intro j u' hu
  rcases j with _ | j
  ·simp at hu
   subst hu
   rw[add_plain]
   exact(Blk.new W e #[u]).cell 0
  ·simp at hu
 ·intro v' w' h2 h3 _
  exact h v' w' h2 ((rJ (World.grownBy.refl W _) _).trans h3)
theorem ie {base:Nat} {e:TypeId} {size n:Nat} {v:Value} {xs:List Value} {B:Nat} {w0 W w':World} (hb:Below B w0 W) (hg:W.grownBy w' v.ownBlock) (hown:W.ownsRow base e size v n xs) (hB:B≤base) (hBz:B≤W.heap.size):Below B w0 w':=by
 refine hb.grown hg hBz (fun g hg'=>?_)
 rcases hown.2 with⟨rfl,_⟩ | ⟨g',cap,cur,rfl,hb',_⟩
 ·simp[Value.ownBlock]at hg'
 ·simp[Value.ownBlock]at hg'
  omega
theorem tg (W:World) (e:TypeId) (base:Nat) (hb:base≤W.heap.size) (size:Nat):(W.alloc (.cells #[] e)).ownsRow base e size (.slice (some ⟨W.heap.size,0,none⟩) 0 0) 0 []:=
 ⟨by simp,.inr ⟨W.heap.size,0,#[],rfl,hb,Blk.new W e #[],Nat.le_refl _,Nat.zero_le _,by simp,by simp⟩⟩
end
theorem bX {w:World} {base base':Nat} {e:TypeId} {size n:Nat} {v:Value} {xs:List Value} (h:w.ownsRow base e size v n xs) (hb:base'≤base):w.ownsRow base' e size v n xs:=by
 rcases h with⟨h1,h2 | ⟨g,cap,cur,h2,h3,h4⟩⟩
 ·exact⟨h1,.inl h2⟩
 ·exact⟨h1,.inr ⟨g,cap,cur,h2,Nat.le_trans hb h3,h4⟩⟩
theorem cS {w:World} {base:Nat} {e:TypeId} {n:Nat} {v:Value} {xs:List Value} (h:w.ownsRow base e 1 v n xs):∃ A c,v = .slice A n c∧n≤c∧c≤maxLen∧(A=none→c=0)∧Reads w w.heap.size 1 A n xs:=by
 rcases h with⟨h1,⟨rfl,rfl⟩ | ⟨g,cap,cur,rfl,h3,h4,h5,h6,h7⟩⟩
 ·have:xs = []:=List.eq_nil_of_length_eq_zero (by simpa using h1)
  subst this
  exact⟨none,0,rfl,Nat.le_refl _,Nat.zero_le _,fun _=>rfl,Reads.none_⟩
 ·refine⟨_,cap,rfl,h5,h6,fun h=>(by cases h),Reads.of_own (c:=cap) (base:=base) (e:=e) ⟨h1,.inr ⟨g,cap,cur,rfl,h3,h4,h5,h6,h7⟩⟩⟩
section
variable (w:World) (t1 t2 t3:TypeId) (a b c:Array Value)
theorem De:Blk ((w.alloc (.cells a t1)).alloc (.cells b t2)) w.heap.size t1 a:=(Blk.new w t1 a).alloc _
theorem yH:Blk ((w.alloc (.cells a t1)).alloc (.cells b t2)) (w.heap.size+1) t2 b:=by
 have h:=Blk.new (w.alloc (.cells a t1)) t2 b
 rwa [show(w.alloc (.cells a t1)).heap.size=w.heap.size+1 from by simp]at h
end
end
section
inductive ah where
 | bool (b:Bool)
 | int (k:IntKind) (n:Int)
 | str (s:List UInt8)
 | nilp
 | ptr (id ver off lim:Nat)
 | nils
 | slc (id ver off len cap sz:Nat) (ex:Bool)
 | emp (id ver sz:Nat)
 | nilf
 | func (f:Nat) (caps:List ah)
 | nili
 | agg (cs:List ah)
 | tup (cs:List ah)
 | glob (b off:Nat)
 | opq (n:Nat)
 | ifc (T:TypeId) (x:ah)
structure Loc where
 b:Nat
 n:Nat
 ext:Nat
abbrev Rho:=Nat→Nat→Option Loc
mutual
inductive VR (ρ:Rho):ah→Value→Prop where
 | bool (b:Bool):VR ρ (.bool b) (.bool b)
 | int (k:IntKind) (n:Int):VR ρ (.int k n) (.int k n)
 | str (s:List UInt8):VR ρ (.str s) (.string ⟨⟨s⟩⟩)
 | nilp:VR ρ .nilp (.pointer none)
 | ptr (id ver off lim:Nat) (L:Loc) (h:ρ id ver=some L) (hl:off+lim≤L.ext):VR ρ (.ptr id ver off lim) (.pointer (some ⟨L.b,off,none⟩))
 | nils:VR ρ .nils (.slice none 0 0)
 | slc (id ver off len cap sz:Nat) (ex:Bool) (L:Loc) (c:Nat) (h:ρ id ver=some L) (h1:len≤cap) (h2:off+cap*sz≤L.ext) (h3:cap≤c∧c≤9223372036854775807) (h4:off+c*sz≤L.n) (h5:ex=true→c=cap):VR ρ (.slc id ver off len cap sz ex) (.slice (some ⟨L.b,off,none⟩) len c)
 | emp (id ver sz:Nat) (L:Loc) (o c:Nat) (h:ρ id ver=some L) (h3:c≤9223372036854775807) (h4:o+c*sz≤L.n):VR ρ (.emp id ver sz) (.slice (some ⟨L.b,o,none⟩) 0 c)
 | nilf:VR ρ .nilf .nilFunc
 | func (f:Nat) (caps:List ah) (vs:List Value) (h:VRs ρ caps vs):VR ρ (.func f caps) (.func (.func f) #[] ⟨vs⟩)
 | nili:VR ρ .nili .nilIface
 | agg (cs:List ah) (vs:List Value) (h:VRs ρ cs vs):VR ρ (.agg cs) (.agg ⟨vs⟩)
 | tup (cs:List ah) (vs:List Value) (h:VRs ρ cs vs):VR ρ (.tup cs) (.tuple ⟨vs⟩)
 | glob (b off:Nat):VR ρ (.glob b off) (.pointer (some ⟨b,off,none⟩))
 | opq (n c:Nat) (A:Option Addr):VR ρ (.opq n) (.slice A n c)
 | ifc (T:TypeId) (x:ah) (v:Value) (h:VR ρ x v):VR ρ (.ifc T x) (.iface T v)
inductive VRs (ρ:Rho):List ah→List Value→Prop where
 | nil:VRs ρ [] []
 | cons (x:ah) (v:Value) (xs:List ah) (vs:List Value) (h:VR ρ x v) (hs:VRs ρ xs vs):VRs ρ (x::xs) (v::vs)
end
def Rho.le (ρ ρ':Rho):Prop := ∀ id ver L,ρ id ver=some L→ρ' id ver=some L
theorem VR.mono {ρ ρ':Rho} (hρ:ρ.le ρ'):∀ {x v},VR ρ x v→VR ρ' x v:=fun h=>
 VR.rec (motive_1:=fun x v _=>VR ρ' x v) (motive_2:=fun xs vs _=>VRs ρ' xs vs)
  (fun b=>.bool b) (fun k n=>.int k n) (fun s=>.str s) .nilp (fun id ver off lim L h hl=>.ptr id ver off lim L (hρ _ _ _ h) hl) .nils
  (fun id ver off len cap sz ex L c h h1 h2 h3 h4 h5=>.slc id ver off len cap sz ex L c (hρ _ _ _ h) h1 h2 h3 h4 h5) (fun id ver sz L o c h h3 h4=>.emp id ver sz L o c (hρ _ _ _ h) h3 h4) .nilf (fun f caps vs _ ih=>.func f caps vs ih) .nili
  (fun cs vs _ ih=>.agg cs vs ih) (fun cs vs _ ih=>.tup cs vs ih) (fun b off=>.glob b off) (fun n c A=>.opq n c A) (fun T x v _ ih=>.ifc T x v ih) .nil (fun x v xs vs _ _ ih ihs=>.cons x v xs vs ih ihs) h
theorem VRs.mono {ρ ρ':Rho} (hρ:ρ.le ρ'):∀ {xs vs},VRs ρ xs vs→VRs ρ' xs vs
 | _,_,.nil=>.nil
 | _,_,.cons x v xs vs h hs=>.cons x v xs vs (h.mono hρ) (hs.mono hρ)
theorem VRs.length {ρ:Rho}:∀ {xs vs},VRs ρ xs vs→vs.length=xs.length
 | _,_,.nil=>rfl
 | _,_,.cons x v xs vs h hs=>by simp[hs.length]
theorem VRs.append {ρ:Rho}:∀ {xs vs ys us},VRs ρ xs vs→VRs ρ ys us→VRs ρ (xs++ys) (vs++us)
 | _,_,_,_,.nil,h2=>h2
 | _,_,_,_,.cons x v xs vs h hs,h2=>.cons x v _ _ h (hs.append h2)
theorem VRs.get {ρ:Rho}:∀ {xs vs},VRs ρ xs vs → ∀ {i:Nat} {x:ah},xs[i]?=some x → ∃ v,vs[i]?=some v∧VR ρ x v
 | _,_,.cons x v xs vs h hs,0,y,hy=>by simp at hy;subst hy;exact⟨v,by simp,h⟩
 | _,_,.cons x v xs vs h hs,i+1,y,hy=>by
   obtain⟨u,h1,h2⟩:=hs.get (i:=i) (x:=y) (by simpa using hy)
   exact⟨u,by simpa using h1,h2⟩
theorem VRs.take {ρ:Rho}:∀ {xs vs},VRs ρ xs vs → ∀ k,VRs ρ (xs.take k) (vs.take k)
 | _,_,.nil,k=>by simp;exact .nil
 | _,_,.cons x v xs vs h hs,0=>by simp;exact .nil
 | _,_,.cons x v xs vs h hs,k+1=>by simp only[List.take_succ_cons];exact .cons _ _ _ _ h (hs.take k)
theorem VRs.drop {ρ:Rho}:∀ {xs vs},VRs ρ xs vs → ∀ k,VRs ρ (xs.drop k) (vs.drop k)
 | _,_,.nil,k=>by simp;exact .nil
 | _,_,.cons x v xs vs h hs,0=>by simp only[List.drop_zero];exact .cons _ _ _ _ h hs
 | _,_,.cons x v xs vs h hs,k+1=>by simp only[List.drop_succ_cons];exact hs.drop k
theorem VRs.of_get {ρ:Rho}:∀ {xs:List ah} {vs:List Value},vs.length=xs.length→(∀ (i:Nat) x,xs[i]?=some x → ∃ v,vs[i]?=some v∧VR ρ x v)→VRs ρ xs vs
 | [],[],_,_=>.nil
 | [],v::vs,h,_=>by simp at h
 | x::xs,[],h,_=>by simp at h
 | x::xs,v::vs,h,hk=>by
   obtain⟨u,h1,h2⟩:=hk 0 x (by simp)
   simp at h1
   subst h1
   exact .cons _ _ _ _ h2 (VRs.of_get (by simpa using h) (fun i y hy=>by simpa using hk (i+1) y (by simpa using hy)))
def ah.one:ah→Bool
 | .agg _ | .tup _=>false
 | _=>true
theorem VR.one {ρ:Rho} {x:ah} {v:Value} (h:VR ρ x v):v.oneCell'=x.one:=by cases h<;>rfl
def ah.cells:ah→List ah
 | .agg cs=>cs
 | v => [v]
theorem VR.cells {ρ:Rho} {x:ah} {v:Value} (h:VR ρ x v):VRs ρ x.cells v.cells.toList:=by
 cases h<;>first | exact .cons _ _ _ _ (by constructor<;>assumption) .nil | assumption
def pF:Value→Option ah
 | .bool b=>some (.bool b)
 | .int k n=>some (.int k n)
 | .string s=>some (.str s.data.toList)
 | .pointer none=>some .nilp
 | .slice none 0 0=>some .nils
 | .nilFunc=>some .nilf
 | .nilIface=>some .nili
 | _=>none
def aconsts:List Value→Option (List ah)
 | []=>some []
 | v::vs=>match pF v,aconsts vs with
   | some x,some xs=>some (x::xs)
   | _,_=>none
def aconst:Value→Option ah
 | .agg cs=>(aconsts cs.toList).map .agg
 | .tuple cs=>(aconsts cs.toList).map .tup
 | .func (.func f) first caps=>if first.toList.isEmpty&&caps.toList.isEmpty then some (.func f []) else none
 | v=>pF v
theorem qi {ρ:Rho} {v:Value} {x:ah} (h:pF v=some x):VR ρ x v:=by
 unfold pF at h
 split at h<;>(try cases h)<;>first | constructor | skip
theorem lu {ρ:Rho}:∀ {vs:List Value} {xs:List ah},aconsts vs=some xs→VRs ρ xs vs
 | [],xs,h=>by cases h;exact .nil
 | v::vs,xs,h=>by
   unfold aconsts at h
   split at h
   ·rename_i x xs' h1 h2
    cases h
    exact .cons _ _ _ _ (qi h1) (lu h2)
   ·cases h
theorem bI {ρ:Rho} {v:Value} {x:ah} (h:aconst v=some x):VR ρ x v:=by
 unfold aconst at h
 split at h
 ·rename_i cs
  obtain⟨xs,h1,rfl⟩:=Option.map_eq_some_iff.1 h
  exact .agg _ _ (lu h1)
 ·rename_i cs
  obtain⟨xs,h1,rfl⟩:=Option.map_eq_some_iff.1 h
  exact .tup _ _ (lu h1)
 ·rename_i f first caps
  split at h
  ·rename_i hc
   cases h
   obtain⟨a⟩:=first
   obtain⟨b⟩:=caps
   simp only[Bool.and_eq_true,List.isEmpty_iff]at hc
   obtain⟨rfl,rfl⟩:=hc
   exact .func _ _ _ .nil
  ·cases h
 ·exact qi h
inductive Tr (α:Type) where
 | nil
 | node (v:Option α) (a b c d e f g h:Tr α)
def JX {β:Type} (k:Nat) (a b c d e f g h:β):β:=
 match Nat.ble k 3 with
 | true=>(match Nat.ble k 1 with
   | true=>(match Nat.beq k 0 with
     | true=>a
     | false=>b)
   | false=>(match Nat.beq k 2 with
     | true=>c
     | false=>d))
 | false=>(match Nat.ble k 5 with
   | true=>(match Nat.beq k 4 with
     | true=>e
     | false=>f)
   | false=>(match Nat.beq k 6 with
     | true=>g
     | false=>h))
def Mi {α:Type} (k:Nat) (v:Option α) (a b c d e f g h y:Tr α):Tr α:=
 match Nat.ble k 3 with
 | true=>(match Nat.ble k 1 with
   | true=>(match Nat.beq k 0 with
     | true=>.node v y b c d e f g h
     | false=>.node v a y c d e f g h)
   | false=>(match Nat.beq k 2 with
     | true=>.node v a b y d e f g h
     | false=>.node v a b c y e f g h))
 | false=>(match Nat.ble k 5 with
   | true=>(match Nat.beq k 4 with
     | true=>.node v a b c d y f g h
     | false=>.node v a b c d e y g h)
   | false=>(match Nat.beq k 6 with
     | true=>.node v a b c d e f y h
     | false=>.node v a b c d e f g y))
def Tr.val {α:Type} (t:Tr α):Option α:=match t with
 | .nil=>none
 | .node v _ _ _ _ _ _ _ _=>v
def Tr.kid {α:Type} (k:Nat) (t:Tr α):Tr α:=match t with
 | .nil=>.nil
 | .node _ a b c d e f g h=>JX k a b c d e f g h
def Tr.putV {α:Type} (t:Tr α) (x:α):Tr α:=match t with
 | .nil=>.node (some x) .nil .nil .nil .nil .nil .nil .nil .nil
 | .node _ a b c d e f g h=>.node (some x) a b c d e f g h
def Tr.putK {α:Type} (k:Nat) (t y:Tr α):Tr α:=match t with
 | .nil=>Mi k none .nil .nil .nil .nil .nil .nil .nil .nil y
 | .node v a b c d e f g h=>Mi k v a b c d e f g h y
def Tr.getF {α:Type}:Nat→Tr α→Nat→Option α
 | 0,t,n=>(match Nat.beq n 0 with
   | true=>t.val
   | false=>none)
 | D+1,t,n=>match t with
   | .nil=>none
   | .node v a b c d e f g h=>(match Nat.beq n 0 with
     | true=>v
     | false=>Tr.getF D (JX ((n-1)%8) a b c d e f g h) ((n-1)/8))
def Tr.get {α:Type} (t:Tr α) (n:Nat):Option α:=Tr.getF 40 t n
def Tr.set {α:Type}:Nat→Tr α→Nat→α→Tr α
 | 0,t,n,x=>t.putV x
 | D+1,t,n,x=>(match Nat.beq n 0 with
   | true=>t.putV x
   | false=>t.putK ((n-1)%8) (Tr.set D (t.kid ((n-1)%8)) ((n-1)/8) x))
theorem eight {k:Nat} (h:k<8):k=0∨k=1∨k=2∨k=3∨k=4∨k=5∨k=6∨k=7:=by omega
theorem ED {α:Type} {k j:Nat} (hk:k<8) (hj:j<8) (t y:Tr α):(t.putK k y).kid j=if j=k then y else t.kid j:=by
 rcases eight hk with rfl | rfl | rfl | rfl | rfl | rfl | rfl | rfl<;>rcases eight hj with rfl | rfl | rfl | rfl | rfl | rfl | rfl | rfl<;>cases t<;>rfl
theorem Eo {α:Type} {k:Nat} (hk:k<8) (t y:Tr α):(t.putK k y).val=t.val:=by
 rcases eight hk with rfl | rfl | rfl | rfl | rfl | rfl | rfl | rfl<;>cases t<;>rfl
theorem Es {α:Type} (j:Nat) (t:Tr α) (x:α):(t.putV x).kid j=t.kid j:=by
 cases t with
 | nil=>simp only[Tr.putV,Tr.kid,JX];(repeat' split)<;>rfl
 | node=>rfl
theorem yq {α:Type} (t:Tr α) (x:α):(t.putV x).val=some x:=by cases t<;>rfl
theorem BE {n:Nat} (h:n≠0):Nat.beq n 0=false:=by
 cases n with
 | zero=>exact absurd rfl h
 | succ n=>rfl
theorem Tr.getF_nil {α:Type}:∀ (D n:Nat),(Tr.nil:Tr α).getF D n=none
 | 0,n=>by unfold Tr.getF;split<;>rfl
 | D+1,n=>rfl
theorem Tr.getF_succ {α:Type} (D:Nat) (t:Tr α) (n:Nat):t.getF (D+1) n=(match Nat.beq n 0 with
 | true=>t.val
 | false=>Tr.getF D (t.kid ((n-1)%8)) ((n-1)/8)):=by
 cases t with
 | nil=>
   show none=_
   cases Nat.beq n 0 with
   | true=>rfl
   | false=>exact(Tr.getF_nil D _).symm
 | node=>rfl
theorem Tr.get_nil {α:Type} (n:Nat):(Tr.nil:Tr α).get n=none:=Tr.getF_nil 40 n
theorem Tr.getF_set {α:Type}:∀ (D:Nat) (t:Tr α) (n:Nat) (x:α),n<2^D → ∀ m,(Tr.set D t n x).getF D m=if m=n then some x else t.getF D m
 | 0,t,n,x,h,m=>by
   have:n=0:=by simpa using h
   subst this
   unfold Tr.set Tr.getF
   by_cases hm:m=0
   ·subst hm;simp[yq]
   ·rw[BE hm,if_neg hm]
 | D+1,t,n,x,h,m=>by
   rw[Nat.pow_succ]at h
   rw[Tr.getF_succ,Tr.getF_succ]
   unfold Tr.set
   by_cases h0:n=0
   ·subst h0
    by_cases hm:m=0
    ·subst hm;simp[yq]
    ·simp only[BE hm,if_neg hm]
     rw[Es]
   ·simp only[BE h0]
    by_cases hm:m=0
    ·subst hm
     rw[if_neg (fun e=>h0 e.symm)]
     exact Eo (Nat.mod_lt _ (by decide)) _ _
    ·simp only[BE hm]
     rw[ED (Nat.mod_lt _ (by decide)) (Nat.mod_lt _ (by decide))]
     by_cases hk:(m-1)%8=(n-1)%8
     ·rw[if_pos hk,Tr.getF_set D _ _ x (by omega)]
      by_cases e:m=n
      ·subst e;simp
      ·rw[if_neg e,if_neg (by omega),hk]
     ·rw[if_neg hk,if_neg (fun e=>hk (by rw[e]))]
theorem Tr.get_set {α:Type} (_:Nat) (t:Tr α) (n:Nat) (x:α) (h:n<1099511627776) (m:Nat):(Tr.set 40 t n x).get m=if m=n then some x else t.get m:=
 Tr.getF_set 40 t n x h m
abbrev iV (n : Int) : ah := .int .i64 n
abbrev uV (n : Int) : ah := .int .u8 n
abbrev tO {α : Type} : Tr α := .nil
abbrev tn {α : Type} (a b c d e f g h : Tr α) : Tr α := .node none a b c d e f g h
abbrev tl {α : Type} (a : α) : Tr α := .node (some a) .nil .nil .nil .nil .nil .nil .nil .nil
abbrev rg (n : Nat) : List Nat := List.range n
def bL : Nat → Nat → List UInt8 → List UInt8
  | 0, _, a => a
  | k + 1, n, a => bL k (n / 256) (UInt8.ofNat (n % 256) :: a)
end
section
structure bH where
 ty:TypeId
 cells:List ah
 ver:Nat
 lo:Nat
structure af where
 next:Nat
 rows:Tr bH
def af.get (H:af) (id:Nat):Option bH:=H.rows.get id
def af.put (H:af) (id:Nat) (r:bH):af:=⟨H.next,Tr.set 40 H.rows id r⟩
def af.new (H:af) (r:bH):af:=⟨H.next+1,Tr.set 40 H.rows H.next r⟩
structure af.Ok (H:af):Prop where
 next:H.next≤1099511627776
 lt:∀ id r,H.get id=some r→id<H.next
theorem af.get_put {H:af} (h:H.Ok) {id:Nat} {r0:bH} (h0:H.get id=some r0) (r:bH) (j:Nat):(H.put id r).get j=if j=id then some r else H.get j:=by
 have h1:=h.lt id r0 h0
 have h2:=h.next
 exact Tr.get_set 40 H.rows id r (by show id<1099511627776;omega) j
theorem af.get_new {H:af} (hn:H.next<1099511627776) (r:bH) (j:Nat):(H.new r).get j=if j=H.next then some r else H.get j:=
 Tr.get_set 40 H.rows H.next r hn j
theorem af.Ok.put {H:af} (h:H.Ok) {id:Nat} {r0:bH} (h0:H.get id=some r0) (r:bH):(H.put id r).Ok:=by
 refine⟨h.next,fun j r' hj=>?_⟩
 rw[af.get_put h h0]at hj
 by_cases e:j=id
 ·subst e;exact h.lt _ _ h0
 ·rw[if_neg e]at hj;exact h.lt _ _ hj
theorem af.Ok.new {H:af} (h:H.Ok) (hn:H.next<1099511627776) (r:bH):(H.new r).Ok:=by
 refine⟨hn,fun j r' hj=>?_⟩
 rw[af.get_new hn]at hj
 show j<H.next+1
 by_cases e:j=H.next
 ·omega
 ·rw[if_neg e]at hj;have:=h.lt _ _ hj;omega
theorem af.next_put (H:af) (id:Nat) (r:bH):(H.put id r).next=H.next:=rfl
theorem af.next_new (H:af) (r:bH):(H.new r).next=H.next+1:=rfl
def Ar (ρ:Rho) (w:World) (L:Loc) (r:bH) (ver:Nat):Prop:=
 ver≤r.ver∧L.ext≤L.n ∧ ∃ C t fr,w.heap[L.b]?=some (.cells C t fr)∧C.size=L.n∧(fr.1≠fr.2→L.n≤fr.1)∧(ver=r.ver→L.ext=r.cells.length) ∧
  (r.lo≤ver→L.ext≤r.cells.length ∧ ∀ j x,j<L.ext→r.cells[j]?=some x → ∃ u,C[j]?=some u∧u.oneCell'=true∧VR ρ x u)
def tA:Nat:=0
def tv:List (List UInt8):=[[49],[50],[52],[56],[49,54],[51,50],[54,52],[49,50,56],[43,73,110,102]]
structure WB (w:World):Prop where
 lt:tA<w.heap.size
 cell:∀ j s,tv[j]?=some s→w.cell? ⟨tA,j,none⟩=some (.string ⟨⟨s⟩⟩)
 pow:Lib.TabIs Tryz.prog w "internal/strconv.uint64pow10" .u64 Lib.pow10Tab
 par:∀ j s,tv[j]?=some s→w.cell? ⟨2,j,none⟩=some (.string ⟨⟨s⟩⟩)
theorem WB.next {w w':World} (h:WB w) (hs:w.heap.size≤w'.heap.size) (hb:∀ b,b<w.heap.size→w'.heap[b]?=w.heap[b]?):WB w':=by
 have hc:∀ (b:Nat) (j:Nat) (v:Value),w.cell? ⟨b,j,none⟩=some v→w'.cell? ⟨b,j,none⟩=some v:=fun b j v hv=>
  (World.cell?_of_block (a:=⟨b,j,none⟩) (hb b (World.block_lt_of_cell? w ⟨b,j,none⟩ hv))).trans hv
 refine⟨Nat.lt_of_lt_of_le h.lt hs,fun j s hj=>hc _ _ _ (h.cell j s hj),?_,fun j s hj=>hc _ _ _ (h.par j s hj)⟩
 have hp:=h.pow
 unfold Lib.TabIs World.var? at *
 cases hg:Tryz.prog.globalNamed "internal/strconv.uint64pow10" with
 | none=>simp[hg]at hp
 | some g=>
   simp only[hg,Option.bind_some]at hp ⊢
   have hlt:g<w.heap.size:=by
    rcases Nat.lt_or_ge g w.heap.size with h' | h'
    ·exact h'
    ·rw[Array.getElem?_eq_none h']at hp;simp at hp
   rw[hb g hlt]
   exact hp
structure ij (ρ:Rho) (w:World):Prop where
 wb:∃ wb:World,WB wb∧wb.heap.size≤w.heap.size∧(∀ b,b<wb.heap.size→w.heap[b]?=wb.heap[b]?) ∧ ∀ id ver L,ρ id ver=some L→wb.heap.size≤L.b
theorem ij.now {ρ:Rho} {w:World} (h:ij ρ w):WB w:=by
 obtain⟨wb,h1,h2,h3,h4⟩:=h.wb
 exact h1.next h2 h3
theorem ij.cell {ρ:Rho} {w:World} (h:ij ρ w):∀ j s,tv[j]?=some s→w.cell? ⟨tA,j,none⟩=some (.string ⟨⟨s⟩⟩):=h.now.cell
theorem ij.of {w:World} (h:WB w):ij (fun _ _=>none) w:=⟨w,h,Nat.le_refl _,fun _ _=>rfl,fun _ _ _ e=>(by cases e)⟩
theorem ij.none {ρ:Rho} {w:World} (h:ij ρ w):ij (fun _ _=>Option.none) w:=ij.of h.now
theorem ij.keep {ρ ρ':Rho} {w w':World} (h:ij ρ w) (hs:w.heap.size≤w'.heap.size) (hb:∀ b,b<w.heap.size→(∀ id ver L,ρ id ver=some L→L.b≠b)→w'.heap[b]?=w.heap[b]?) (hn:∀ id ver L,ρ' id ver=some L→(∃ id0 ver0 L0,ρ id0 ver0=some L0∧L0.b=L.b)∨w.heap.size≤L.b):ij ρ' w':=by
 obtain⟨wb,h1,h2,h3,h4⟩:=h.wb
 refine⟨wb,h1,Nat.le_trans h2 hs,fun b hlt=>(hb b (Nat.lt_of_lt_of_le hlt h2) (fun id ver L hL e=>?_)).trans (h3 b hlt),fun id ver L hL=>?_⟩
 ·have:=h4 _ _ _ hL;omega
 ·rcases hn _ _ _ hL with⟨i0,v0,L0,k1,k2⟩ | k
  ·rw[←k2];exact h4 _ _ _ k1
  ·exact Nat.le_trans h2 k
theorem ij.same {ρ:Rho} {w w':World} (h:ij ρ w) (hs:w.heap.size≤w'.heap.size) (hb:∀ b,b<w.heap.size→(∀ id ver L,ρ id ver=some L→L.b≠b)→w'.heap[b]?=w.heap[b]?):ij ρ w':=h.keep hs hb (fun id ver L hL=>.inl ⟨id,ver,L,hL,rfl⟩)
def gZ (w:World) (b:Nat):Option TypeId:=match w.heap[b]? with
 | some (.cells _ t _)=>some t
 | _=>none
def wu:TypeId:=82
def Ac (w:World) (L:Loc) (t:TypeId):Prop:=gZ w L.b=some t∧(t=wu→L.n=L.ext)
theorem Ac.mono {w w':World} {L:Loc} {t:TypeId} (h:Ac w L t) (e:gZ w' L.b=gZ w L.b):Ac w' L t:=⟨e.trans h.1,h.2⟩
def rS (ρ:Rho) (H:af) (w:World):Prop := ∀ id L r,ρ id 0=some L→H.get id=some r→Ac w L r.ty
theorem rS.world {ρ:Rho} {H:af} {w w':World} (h:rS ρ H w) (hw:∀ id L,ρ id 0=some L→gZ w' L.b=gZ w L.b):rS ρ H w':=fun id L r h1 h2=>(h id L r h1 h2).mono (hw id L h1)
theorem rS.put {ρ:Rho} {H:af} {w:World} (h:rS ρ H w) (ok:H.Ok) {id:Nat} {r r':bH} (hr:H.get id=some r) (he:r'.ty=r.ty):rS ρ (H.put id r') w:=fun i L x h1 h2=>by
 rw[af.get_put ok hr]at h2
 by_cases e:i=id
 ·subst e
  rw[if_pos rfl]at h2
  injection h2 with h2
  subst h2
  rw[he]
  exact h _ _ _ h1 hr
 ·rw[if_neg e]at h2
  exact h _ _ _ h1 h2
theorem iq {w w':World} {b:Nat} (h:w'.heap[b]?=w.heap[b]?):gZ w' b=gZ w b:=by unfold gZ;rw[h]
structure HR (ρ:Rho) (H:af) (w:World):Prop where
 ok:H.Ok
 dom:∀ id ver L,ρ id ver=some L→L.b<w.heap.size∧L.ext≤L.n
 inj:∀ id ver L id' ver' L',ρ id ver=some L→ρ id' ver'=some L'→L.b=L'.b→id=id'
 row:∀ id ver L r,ρ id ver=some L→H.get id=some r→Ar ρ w L r ver
 gl:ij ρ w
 ty:rS ρ H w
theorem Ar.mono {ρ ρ':Rho} {w w':World} {L:Loc} {r:bH} {ver:Nat} (h:Ar ρ w L r ver) (hρ:ρ.le ρ') (hw:w'.heap[L.b]?=w.heap[L.b]?):Ar ρ' w' L r ver:=by
 obtain⟨h2,h3,C,t,fr,h4,h5,h6,h7,h8⟩:=h
 refine⟨h2,h3,C,t,fr,hw.trans h4,h5,h6,h7,fun hl=>⟨(h8 hl).1,fun j x hj hx=>?_⟩⟩
 obtain⟨u,k1,k2,k3⟩:=(h8 hl).2 j x hj hx
 exact⟨u,k1,k2,k3.mono hρ⟩
theorem HR.of_heap {ρ:Rho} {H:af} {w w':World} (h:HR ρ H w) (hw:w'.heap=w.heap):HR ρ H w':=
 ⟨h.ok,fun id ver L hL=>by rw[hw];exact h.dom id ver L hL,h.inj,fun id ver L r hL hr=>(h.row id ver L r hL hr).mono (fun _ _ _ h=>h) (by rw[hw]),h.gl.same (by rw[hw];exact Nat.le_refl _) (fun _ _ _=>by rw[hw]),h.ty.world (fun _ _ _=>iq (by rw[hw]))⟩
structure Ext (ρ:Rho) (H:af) (w:World) (ρ':Rho) (H':af) (w':World):Prop where
 le:ρ.le ρ'
 next:H.next≤H'.next
 rows:∀ id,(H'.get id).isSome→(H.get id).isSome∨(H.next≤id∧id<H'.next)
 keep:∀ id,(H.get id).isSome→(H'.get id).isSome
 ids:∀ id ver L,ρ' id ver=some L→ρ id ver=none→(H.next≤id∧id<H'.next)∨((H.get id).isSome ∧ ∃ ver0 L0,ρ id ver0=some L0)
 blk:∀ id ver L,ρ' id ver=some L→ρ id ver=none→w.heap.size≤L.b ∨ ∃ ver0 L0,ρ id ver0=some L0∧L0.b=L.b∧(H.get id).isSome
 frame:∀ b,b<w.heap.size→(∀ id ver L,ρ id ver=some L→(H.get id).isSome→L.b≠b)→w'.heap[b]?=w.heap[b]?
 size:w.heap.size≤w'.heap.size
 os:w'.os=w.os
 tape:w'.tape=w.tape
 output:w'.output=w.output
theorem Ext.refl (ρ:Rho) (H:af) (w:World):Ext ρ H w ρ H w:=
 ⟨fun _ _ _ h=>h,Nat.le_refl _,fun _ h=>.inl h,fun _ h=>h,fun id ver L h h'=>(by rw[h]at h';cases h'),fun id ver L h h'=>(by rw[h]at h';cases h'),fun _ _ _=>rfl,Nat.le_refl _,rfl,rfl,rfl⟩
theorem Ext.same {ρ:Rho} {H:af} {w w':World} (hw:w'.heap=w.heap) (h1:w'.os=w.os) (h2:w'.tape=w.tape) (h3:w'.output=w.output):Ext ρ H w ρ H w':=
 ⟨fun _ _ _ h=>h,Nat.le_refl _,fun _ h=>.inl h,fun _ h=>h,fun id ver L h h'=>(by rw[h]at h';cases h'),fun id ver L h h'=>(by rw[h]at h';cases h'),fun _ _ _=>by rw[hw],by rw[hw];exact Nat.le_refl _,h1,h2,h3⟩
def bR (ρ:Rho) (a b:Nat):Prop := ∀ id ver,a≤id→id<b→ρ id ver=none
theorem bR.mono {ρ:Rho} {a b a' b':Nat} (h:bR ρ a b) (ha:a≤a') (hb:b'≤b):bR ρ a' b':=fun id ver h1 h2=>h id ver (Nat.le_trans ha h1) (Nat.lt_of_lt_of_le h2 hb)
theorem Ext.free {ρ:Rho} {H:af} {w:World} {ρ':Rho} {H':af} {w':World} (h:Ext ρ H w ρ' H' w') (ok:H.Ok) {b:Nat} (hf:bR ρ H.next b):bR ρ' H'.next b:=by
 intro id ver h1 h2
 cases hr:ρ' id ver with
 | none=>rfl
 | some L=>
   have h3:=hf id ver (Nat.le_trans h.next h1) h2
   rcases h.ids id ver L hr h3 with h4 | ⟨h4,-⟩
   ·omega
   ·obtain⟨r,hr⟩:=Option.isSome_iff_exists.1 h4
    have:=ok.lt _ _ hr
    have:=h.next
    omega
theorem Ext.trans {ρ:Rho} {H:af} {w:World} {ρ':Rho} {H':af} {w':World} {ρ'':Rho} {H'':af} {w'':World} (h:Ext ρ H w ρ' H' w') (k:Ext ρ' H' w' ρ'' H'' w'') (ok:H.Ok) (hf:bR ρ H.next H'.next):Ext ρ H w ρ'' H'' w'':=by
 have known:∀ id ver L,ρ' id ver=some L→(H'.get id).isSome→((H.get id).isSome ∧ ∃ ver0 L0,ρ id ver0=some L0)∨(H.next≤id∧id<H'.next):=by
  intro id ver L hL hs
  cases hr:ρ id ver with
  | none=>
    rcases h.ids id ver L hL hr with h1 | h1
    ·exact .inr h1
    ·exact .inl h1
  | some L0=>
    rcases h.rows id hs with h1 | h1
    ·exact .inl ⟨h1,ver,L0,hr⟩
    ·exact .inr h1
 refine⟨fun id ver L hL=>k.le _ _ _ (h.le _ _ _ hL),Nat.le_trans h.next k.next,fun id hs=>?_,fun id hs=>k.keep id (h.keep id hs),fun id ver L hL hn=>?_,fun id ver L hL hn=>?_,fun b hb hne=>?_,Nat.le_trans h.size k.size,k.os.trans h.os,k.tape.trans h.tape,k.output.trans h.output⟩
 ·rcases k.rows id hs with h1 | h1
  ·rcases h.rows id h1 with h2 | h2
   ·exact .inl h2
   ·exact .inr ⟨h2.1,Nat.lt_of_lt_of_le h2.2 k.next⟩
  ·exact .inr ⟨Nat.le_trans h.next h1.1,h1.2⟩
 ·cases hm:ρ' id ver with
  | some L1=>
    rcases h.ids id ver L1 hm hn with h1 | h1
    ·exact .inl ⟨h1.1,Nat.lt_of_lt_of_le h1.2 k.next⟩
    ·exact .inr h1
  | none=>
    rcases k.ids id ver L hL hm with h1 | ⟨h1,ver0,L0,h2⟩
    ·exact .inl ⟨Nat.le_trans h.next h1.1,h1.2⟩
    ·rcases known id ver0 L0 h2 h1 with h3 | h3
     ·exact .inr h3
     ·exact .inl ⟨h3.1,Nat.lt_of_lt_of_le h3.2 k.next⟩
 ·cases hm:ρ' id ver with
  | some L1=>
    have e:L1=L:=by have:=k.le _ _ _ hm;rw[hL]at this;injection this with this;exact this.symm
    subst e
    exact h.blk id ver L1 hm hn
  | none=>
    rcases k.blk id ver L hL hm with h1 | ⟨ver0,L0,h1,h2,h3⟩
    ·exact .inl (Nat.le_trans h.size h1)
    ·cases ho:ρ id ver0 with
     | some L2=>
       have e:L2=L0:=by have:=h.le _ _ _ ho;rw[h1]at this;injection this with this;exact this.symm
       subst e
       rcases h.rows id h3 with h4 | h4
       ·exact .inr ⟨ver0,L2,ho,h2,h4⟩
       ·have:=hf id ver0 h4.1 h4.2
        rw[ho]at this;cases this
     | none=>
       rcases h.blk id ver0 L0 h1 ho with h4 | ⟨ver1,L3,h4,h5,h6⟩
       ·exact .inl (by omega)
       ·exact .inr ⟨ver1,L3,h4,h5.trans h2,h6⟩
 ·rw[k.frame b (Nat.lt_of_lt_of_le hb h.size) (fun id ver L hL hs e=>?_),h.frame b hb hne]
  cases ho:ρ id ver with
  | some L2=>
    have e2:L2=L:=by have:=h.le _ _ _ ho;rw[hL]at this;injection this with this;exact this.symm
    subst e2
    rcases h.rows id hs with h4 | h4
    ·exact hne id ver L2 ho h4 e
    ·have:=hf id ver h4.1 h4.2
     rw[ho]at this;cases this
  | none=>
    rcases h.blk id ver L hL ho with h4 | ⟨ver1,L3,h4,h5,h6⟩
    ·omega
    ·exact hne id ver1 L3 h4 h6 (h5.trans e)
theorem bC (b off i:Nat):(Addr.mk b off none).add i=⟨b,off+i,none⟩:=by
 unfold Addr.add
 split
 ·rename_i h;subst h;rfl
 ·rfl
theorem cell_of_heap {w:World} {b:Nat} {C:Array Value} {t:TypeId} {fr:Nat×Nat} (h:w.heap[b]?=some (.cells C t fr)) (off:Nat):w.cell? ⟨b,off,none⟩=C[off]?:=by
 simp[World.cell?,h]
theorem frozen_of_heap {w:World} {b:Nat} {C:Array Value} {t:TypeId} {fr:Nat×Nat} (h:w.heap[b]?=some (.cells C t fr)) {n off:Nat} (hf:fr.1≠fr.2→n≤fr.1) (ho:off<n):w.frozen? ⟨b,off,none⟩=false:=by
 simp only[World.frozen?,h]
 obtain⟨lo,hi⟩:=fr
 simp only at hf ⊢
 by_cases h1:lo≤off
 ·by_cases h2:off<hi
  ·have:=hf (by omega);omega
  ·simp[h2]
 ·simp[h1]
theorem HR.read {ρ:Rho} {H:af} {w:World} (h:HR ρ H w) {id ver:Nat} {L:Loc} {r:bH} (hL:ρ id ver=some L) (hr:H.get id=some r) (hlo:r.lo≤ver) {off k:Nat} (hk:off+k≤L.ext):
 ∃ vs,vs.length=k∧VRs ρ ((r.cells.drop off).take k) vs∧(∀ u ∈ vs,u.oneCell'=true) ∧ ∀ (j:Nat) u,vs[j]?=some u→w.cell? ⟨L.b,off+j,none⟩=some u:=by
 obtain⟨h2,h3,C,t,fr,h4,h5,h6,h7,h8⟩:=h.row id ver L r hL hr
 obtain⟨h9,h10⟩:=h8 hlo
 have hC:(C.toList.drop off).take k=(C.toList.drop off).take k:=rfl
 have hlen:((C.toList.drop off).take k).length=k:=by
  rw[List.length_take,List.length_drop,Array.length_toList];omega
 refine⟨(C.toList.drop off).take k,hlen,?_,fun u hu=>?_,fun j u hj=>?_⟩
 ·refine VRs.of_get ?_ (fun i x hx=>?_)
  ·rw[hlen,List.length_take,List.length_drop];omega
  ·rw[List.getElem?_take]at hx
   split at hx
   ·rename_i hi
    rw[List.getElem?_drop]at hx
    obtain⟨u,k1,k2,k3⟩:=h10 (off+i) x (by omega) hx
    refine⟨u,?_,k3⟩
    rw[List.getElem?_take,if_pos hi,List.getElem?_drop]
    simpa using k1
   ·cases hx
 ·obtain⟨i,hi⟩:=List.mem_iff_getElem?.1 hu
  rw[List.getElem?_take]at hi
  split at hi
  ·rename_i hik
   rw[List.getElem?_drop]at hi
   have hc:off+i<r.cells.length:=by omega
   obtain⟨u',k1,k2,k3⟩:=h10 (off+i) _ (by omega) (List.getElem?_eq_getElem hc)
   have:u'=u:=by
    have e:C.toList[off+i]?=some u':=by simpa using k1
    rw[e]at hi;injection hi
   rw[←this];exact k2
  ·cases hi
 ·rw[cell_of_heap h4]
  rw[List.getElem?_take]at hj
  split at hj
  ·rw[List.getElem?_drop]at hj
   simpa using hj
  ·cases hj
theorem bZ (w:World) (b off:Nat) (v:Value) (b':Nat):(w.setCell ⟨b,off,none⟩ v).heap[b']?=if b=b' then(match w.heap[b']? with | some (.cells C t fr)=>some (.cells (C.setIfInBounds off v) t fr) | o=>o) else w.heap[b']?:=by
 simp only[World.setCell,Array.getElem?_modify]
 split
 ·cases w.heap[b']? with
  | none=>rfl
  | some o=>cases o<;>rfl
 ·rfl
theorem Cq (w:World) (b off:Nat) (v:Value) (b':Nat):gZ (w.setCell ⟨b,off,none⟩ v) b'=gZ w b':=by
 unfold gZ
 rw[bZ]
 by_cases e:b=b'
 ·rw[if_pos e]
  cases w.heap[b']? with
  | none=>rfl
  | some o=>cases o<;>rfl
 ·rw[if_neg e]
theorem HR.raise {ρ:Rho} {H:af} {w:World} (h:HR ρ H w) {id:Nat} {r:bH} (hr:H.get id=some r) (lo:Nat) (hlo:r.lo≤lo):HR ρ (H.put id { r with lo:=lo }) w:=by
 refine⟨h.ok.put hr _,h.dom,h.inj,fun id' ver L r' hL hr'=>?_,h.gl,h.ty.put h.ok hr rfl⟩
 rw[af.get_put h.ok hr]at hr'
 by_cases e:id'=id
 ·subst e
  rw[if_pos rfl]at hr'
  injection hr' with hr'
  subst hr'
  obtain⟨h2,h3,C,t,fr,h4,h5,h6,h7,h8⟩:=h.row id' ver L r hL hr
  exact⟨h2,h3,C,t,fr,h4,h5,h6,h7,fun hl=>h8 (Nat.le_trans hlo hl)⟩
 ·rw[if_neg e]at hr'
  exact h.row _ _ _ _ hL hr'
theorem Ext.put {ρ:Rho} {H:af} {w:World} (ok:H.Ok) {id:Nat} {r0 r:bH} (h0:H.get id=some r0):Ext ρ H w ρ (H.put id r) w:=
 ⟨fun _ _ _ h=>h,Nat.le_refl _,fun j hj=>by
  rw[af.get_put ok h0]at hj
  by_cases e:j=id
  ·subst e;exact .inl (by rw[h0];rfl)
  ·rw[if_neg e]at hj;exact .inl hj,fun j hj=>by
  rw[af.get_put ok h0]
  by_cases e:j=id
  ·rw[if_pos e];rfl
  ·rw[if_neg e];exact hj,fun id ver L h h'=>(by rw[h]at h';cases h'),fun id ver L h h'=>(by rw[h]at h';cases h'),fun _ _ _=>rfl,Nat.le_refl _,rfl,rfl,rfl⟩
theorem HR.set1 {ρ:Rho} {H:af} {w:World} (h:HR ρ H w) {id:Nat} {L:Loc} {r:bH} (hL:ρ id r.ver=some L) (hr:H.get id=some r) (hlo:r.lo=r.ver) {off:Nat} (ho:off<r.cells.length) {x:ah} {v:Value} (hx:VR ρ x v) (h1:v.oneCell'=true):
 HR ρ (H.put id { r with cells:=r.cells.set off x }) (w.setCell ⟨L.b,off,none⟩ v)∧Ext ρ H w ρ (H.put id { r with cells:=r.cells.set off x }) (w.setCell ⟨L.b,off,none⟩ v)∧w.cell? ⟨L.b,off,none⟩≠none∧w.frozen? ⟨L.b,off,none⟩=false:=by
 obtain⟨a2,a3,C,t,fr,a4,a5,a6,a7,a8⟩:=h.row id r.ver L r hL hr
 have hext:=a7 rfl
 have hsz:(w.setCell ⟨L.b,off,none⟩ v).heap.size=w.heap.size:=by simp[World.setCell]
 refine⟨⟨h.ok.put hr _,fun id' ver L' hL'=>by rw[hsz];exact h.dom id' ver L' hL',h.inj,fun id' ver L' r' hL' hr'=>?_,h.gl.same (by rw[hsz];exact Nat.le_refl _) (fun b _ hne=>by rw[bZ,if_neg (hne _ _ _ hL)]),(h.ty.put h.ok hr (r':={ r with cells:=r.cells.set off x }) rfl).world (fun _ _ _=>Cq _ _ _ _ _)⟩,?_,?_,frozen_of_heap a4 a6 (by omega)⟩
 ·rw[af.get_put h.ok hr]at hr'
  by_cases e:id'=id
  ·subst e
   rw[if_pos rfl]at hr'
   injection hr' with hr'
   subst hr'
   obtain⟨b2,b3,C',t',fr',b4,b5,b6,b7,b8⟩:=h.row id' ver L' r hL' hr
   by_cases eb:L.b=L'.b
   ·rw[←eb]at b4
    rw[a4]at b4
    injection b4 with b4
    injection b4 with e1 e2 e3
    subst e1 e2 e3
    refine⟨b2,b3,C.setIfInBounds off v,t,fr,by rw[←eb,bZ,if_pos rfl,a4],by simpa using b5,b6,fun hv=>by simp only[List.length_set];exact b7 hv,fun hl=>?_⟩
    simp only at hl
    have hv:ver=r.ver:=by have:ver≤r.ver:=b2;omega
    subst hv
    have eL:L'=L:=by rw[hL]at hL';injection hL' with hL';exact hL'.symm
    subst eL
    refine⟨by simp only[List.length_set];omega,fun j y hj hy=>?_⟩
    simp only[List.getElem?_set]at hy
    by_cases ej:off=j
    ·subst ej
     rw[if_pos rfl,if_pos ho]at hy
     injection hy with hy
     subst hy
     refine⟨v,?_,h1,hx⟩
     rw[Array.getElem?_setIfInBounds_self_of_lt (by omega)]
    ·rw[if_neg ej]at hy
     obtain⟨u,k1,k2,k3⟩:=(a8 (by omega)).2 j y hj hy
     exact⟨u,by rw[Array.getElem?_setIfInBounds_ne ej];exact k1,k2,k3⟩
   ·refine⟨b2,b3,C',t',fr',by rw[bZ,if_neg eb];exact b4,b5,b6,fun hv=>by simp only[List.length_set];exact b7 hv,fun hl=>?_⟩
    simp only at hl
    have hv:ver=r.ver:=by have:ver≤r.ver:=b2;omega
    subst hv
    rw[hL]at hL'
    injection hL' with hL'
    exact absurd (by rw[hL']) eb
  ·rw[if_neg e]at hr'
   refine(h.row _ _ _ _ hL' hr').mono (fun _ _ _ h=>h) ?_
   rw[bZ,if_neg (fun eb=>e (h.inj _ _ _ _ _ _ hL' hL eb.symm))]
 ·refine(Ext.put h.ok hr).trans (H':=H.put id { r with cells:=r.cells.set off x }) ⟨fun _ _ _ h=>h,Nat.le_refl _,fun _ h=>.inl h,fun _ h=>h,fun id ver L h h'=>(by rw[h]at h';cases h'),fun id ver L h h'=>(by rw[h]at h';cases h'),fun b hb hne=>?_,by rw[hsz];exact Nat.le_refl _,rfl,rfl,rfl⟩ h.ok (fun id ver h1 h2=>by rw[af.next_put]at h2;omega)
  rw[bZ,if_neg (hne id r.ver L hL (by rw[af.get_put h.ok hr,if_pos rfl];rfl))]
 ·rw[cell_of_heap a4]
  intro hn
  rw[Array.getElem?_eq_none_iff]at hn
  omega
def setAll:List ah→Nat→List ah→List ah
 | cs,_,[]=>cs
 | cs,off,x::xs=>setAll (cs.set off x) (off+1) xs
theorem kK:∀ (xs cs:List ah) (off:Nat),(setAll cs off xs).length=cs.length
 | [],cs,off=>rfl
 | x::xs,cs,off=>by rw[setAll,kK xs,List.length_set]
theorem Aw {H:af} {id:Nat} {r r':bH} (j:Nat) (ok:H.Ok) {r0:bH} (h0:H.get id=some r0):((H.put id r).put id r').get j=(H.put id r').get j:=by
 rw[af.get_put (ok.put h0 r) (r0:=r) (by rw[af.get_put ok h0,if_pos rfl]),af.get_put ok h0]
 by_cases e:j=id
 ·rw[if_pos e,af.get_put ok h0,if_pos e]
 ·rw[if_neg e,if_neg e,af.get_put ok h0,if_neg e]
def af.same (H H':af):Prop:=H.next=H'.next ∧ ∀ j,H.get j=H'.get j
theorem HR.of_same {ρ:Rho} {H H':af} {w:World} (h:HR ρ H w) (hs:H.same H'):HR ρ H' w:=
 ⟨⟨hs.1 ▸ h.ok.next,fun id r hr=>hs.1 ▸ h.ok.lt id r (by rw[hs.2];exact hr)⟩,h.dom,h.inj,fun id ver L r hL hr=>h.row id ver L r hL (by rw[hs.2];exact hr),h.gl,fun id L r h1 h2=>h.ty id L r h1 (by rw[hs.2];exact h2)⟩
theorem Ext.of_same {ρ:Rho} {H:af} {w:World} {ρ':Rho} {H' H'':af} {w':World} (h:Ext ρ H w ρ' H' w') (hs:H'.same H''):Ext ρ H w ρ' H'' w':=
 ⟨h.le,hs.1 ▸ h.next,fun id hi=>by have:=h.rows id (by rw[hs.2];exact hi);rw[hs.1]at this;exact this,fun id hi=>by rw[←hs.2];exact h.keep id hi,fun id ver L h1 h2=>by have:=h.ids id ver L h1 h2;rw[hs.1]at this;exact this,h.blk,h.frame,h.size,h.os,h.tape,h.output⟩
theorem HR.setAll {P:Program} {ρ:Rho} {id:Nat} {L:Loc}:∀ (xs:List ah) (vs:List Value) {H:af} {w:World} (h:HR ρ H w) {r:bH} (hL:ρ id r.ver=some L) (hr:H.get id=some r) (hlo:r.lo=r.ver) (a:Addr) (off i:Nat) (ha:∀ j,a.add (i+j)=⟨L.b,off+j,none⟩) (ho:off+xs.length≤r.cells.length) (hx:VRs ρ xs vs) (h1:∀ u ∈ vs,u.oneCell'=true),
 ∃ w',(storeCells a vs i).run P w = .ok () w'∧HR ρ (H.put id { r with cells:=setAll r.cells off xs }) w'∧Ext ρ H w ρ (H.put id { r with cells:=setAll r.cells off xs }) w'
 | [],_,H,w,h,r,hL,hr,hlo,a,off,i,ha,ho,.nil,h1=>by
   refine⟨w,rfl,h.of_same ?_,(Ext.refl ρ H w).of_same ?_⟩ <;>
   ·refine⟨rfl,fun j=>?_⟩
    rw[af.get_put h.ok hr]
    by_cases e:j=id
    ·subst e;rw[if_pos rfl,hr];rfl
    ·rw[if_neg e]
 | x::xs,_,H,w,h,r,hL,hr,hlo,a,off,i,ha,ho,.cons _ v _ vs hx hxs,h1=>by
   simp only[List.length_cons]at ho
   have ha0:a.add i=⟨L.b,off,none⟩:=by simpa using ha 0
   obtain⟨g1,g2,g3,g4⟩:=h.set1 hL hr hlo (off:=off) (by omega) hx (h1 v (by simp))
   have hr2:(H.put id { r with cells:=r.cells.set off x }).get id=some { r with cells:=r.cells.set off x }:=by rw[af.get_put h.ok hr,if_pos rfl]
   obtain⟨w',k1,k2,k3⟩:=HR.setAll (P:=P) xs vs g1 (r:={ r with cells:=r.cells.set off x }) hL hr2 hlo a (off+1) (i+1) (fun j=>by rw[Nat.add_assoc,Nat.add_assoc];exact ha (1+j)) (by simp only[List.length_set];omega) hxs (fun u hu=>h1 u (by simp[hu]))
   have hs:((H.put id { r with cells:=r.cells.set off x }).put id { r with cells:=Go.Proofs.YtmpiinhnabmjcaaGreatDoor.setAll (r.cells.set off x) (off+1) xs }).same (H.put id { r with cells:=Go.Proofs.YtmpiinhnabmjcaaGreatDoor.setAll r.cells off (x::xs) }):=⟨rfl,fun j=>Aw j h.ok hr⟩
   refine⟨w',?_,k2.of_same hs,(g2.trans k3 h.ok (fun id ver h1 h2=>by rw[af.next_put]at h2;omega)).of_same hs⟩
   unfold storeCells
   rw[Sem.run_bind,run_store _ _ _ _ _ (h1 v (by simp)),ha0]
   cases hc:w.cell? ⟨L.b,off,none⟩ with
   | none=>exact absurd hc g3
   | some u=>simp only[g4,Bool.false_eq_true,if_false,Result.andThen_ok];exact k1
def Rho.add (ρ:Rho) (id ver:Nat) (L:Loc):Rho:=fun i v=>if i=id∧v=ver then some L else ρ i v
theorem Rho.add_le {ρ:Rho} {id ver:Nat} {L:Loc} (h:ρ id ver=none):ρ.le (ρ.add id ver L):=fun i v L' h'=>by
 unfold Rho.add
 by_cases e:i=id∧v=ver
 ·obtain⟨rfl,rfl⟩:=e;rw[h]at h';cases h'
 ·rw[if_neg e];exact h'
theorem Rho.add_self (ρ:Rho) (id ver:Nat) (L:Loc):ρ.add id ver L id ver=some L:=by unfold Rho.add;rw[if_pos ⟨rfl,rfl⟩]
theorem Rho.add_cases {ρ:Rho} {id ver:Nat} {L:Loc} {i v:Nat} {L':Loc} (h:ρ.add id ver L i v=some L'):(i=id∧v=ver∧L'=L)∨ρ i v=some L':=by
 unfold Rho.add at h
 by_cases e:i=id∧v=ver
 ·rw[if_pos e]at h;injection h with h;exact .inl ⟨e.1,e.2,h.symm⟩
 ·rw[if_neg e]at h;exact .inr h
theorem dh (w:World) (o:Obj) (b:Nat):(w.alloc o).heap[b]?=if b=w.heap.size then some o else w.heap[b]?:=by
 show(w.heap.push o)[b]?=_
 rw[Array.getElem?_push]
theorem HR.alloc {ρ:Rho} {H:af} {w:World} (h:HR ρ H w) (hn:H.next<1099511627776) (hf:bR ρ H.next (H.next+1)) (ty:TypeId) {xs:List ah} {C:Array Value} {fr:Nat×Nat} (hfr:fr.1≠fr.2→C.size≤fr.1) (hx:VRs ρ xs (C.toList.take xs.length)) (hl:xs.length≤C.size) (hbx:ty=wu→C.size=xs.length) (h1:∀ u ∈ C.toList.take xs.length,u.oneCell'=true):
 HR (ρ.add H.next 0 ⟨w.heap.size,C.size,xs.length⟩) (H.new ⟨ty,xs,0,0⟩) (w.alloc (.cells C ty fr))∧Ext ρ H w (ρ.add H.next 0 ⟨w.heap.size,C.size,xs.length⟩) (H.new ⟨ty,xs,0,0⟩) (w.alloc (.cells C ty fr)):=by
 have hle:ρ.le (ρ.add H.next 0 ⟨w.heap.size,C.size,xs.length⟩):=Rho.add_le (hf _ _ (Nat.le_refl _) (Nat.lt_succ_self _))
 have hsz:(w.alloc (.cells C ty fr)).heap.size=w.heap.size+1:=by simp
 refine⟨⟨h.ok.new hn _,fun id ver L hL=>?_,fun id ver L id' ver' L' hL hL' e=>?_,fun id ver L r hL hr=>?_,h.gl.keep (by rw[hsz];exact Nat.le_succ _) (fun b hb _=>by rw[dh,if_neg (by omega)]) (fun id ver L hL=>by
  rcases Rho.add_cases hL with⟨-,-,rfl⟩ | hL
  ·right;simp only;omega
  ·exact .inl ⟨_,_,_,hL,rfl⟩),fun id L r h1 h2=>by
  rw[af.get_new hn]at h2
  rcases Rho.add_cases h1 with⟨rfl,-,rfl⟩ | h1'
  ·rw[if_pos rfl]at h2
   injection h2 with h2
   subst h2
   exact⟨by unfold gZ;rw[dh,if_pos rfl],hbx⟩
  ·by_cases e:id=H.next
   ·subst e
    have:=hf _ 0 (Nat.le_refl _) (Nat.lt_succ_self _)
    rw[h1']at this;cases this
   ·rw[if_neg e]at h2
    exact(h.ty _ _ _ h1' h2).mono (iq (by rw[dh,if_neg (by have:=(h.dom _ _ _ h1').1;omega)]))⟩,⟨hle,Nat.le_succ _,fun id hi=>?_,fun id hi=>?_,fun id ver L hL hn'=>?_,fun id ver L hL hn'=>?_,fun b hb hne=>?_,by omega,rfl,rfl,rfl⟩⟩
 ·rw[hsz]
  rcases Rho.add_cases hL with⟨-,-,rfl⟩ | hL
  ·exact⟨Nat.lt_succ_self _,hl⟩
  ·have:=h.dom _ _ _ hL;exact⟨by omega,this.2⟩
 ·rcases Rho.add_cases hL with⟨rfl,rfl,rfl⟩ | hL
  ·rcases Rho.add_cases hL' with⟨rfl,rfl,rfl⟩ | hL'
   ·rfl
   ·have:=(h.dom _ _ _ hL').1;simp only at e;omega
  ·rcases Rho.add_cases hL' with⟨rfl,rfl,rfl⟩ | hL'
   ·have:=(h.dom _ _ _ hL).1;simp only at e;omega
   ·exact h.inj _ _ _ _ _ _ hL hL' e
 ·rw[af.get_new hn]at hr
  rcases Rho.add_cases hL with⟨rfl,rfl,rfl⟩ | hL
  ·rw[if_pos rfl]at hr
   injection hr with hr
   subst hr
   refine⟨Nat.le_refl _,hl,C,ty,fr,by rw[dh,if_pos rfl],rfl,hfr,fun _=>rfl,fun _=>⟨Nat.le_refl _,fun j x hj hxj=>?_⟩⟩
   obtain⟨u,k1,k2⟩:=(hx.mono hle).get hxj
   refine⟨u,?_,h1 u (List.mem_of_getElem? k1),k2⟩
   rw[List.getElem?_take,if_pos hj]at k1
   simpa using k1
  ·by_cases e:id=H.next
   ·subst e
    have:=hf _ ver (Nat.le_refl _) (Nat.lt_succ_self _)
    rw[hL]at this;cases this
   ·rw[if_neg e]at hr
    refine(h.row _ _ _ _ hL hr).mono hle ?_
    rw[dh,if_neg (by have:=(h.dom _ _ _ hL).1;omega)]
 ·rw[af.get_new hn]at hi
  by_cases e:id=H.next
  ·exact .inr ⟨by omega,by rw[af.next_new];omega⟩
  ·rw[if_neg e]at hi;exact .inl hi
 ·rw[af.get_new hn]
  by_cases e:id=H.next
  ·rw[if_pos e];rfl
  ·rw[if_neg e];exact hi
 ·rcases Rho.add_cases hL with⟨rfl,rfl,rfl⟩ | hL
  ·exact .inl ⟨Nat.le_refl _,by rw[af.next_new];omega⟩
  ·rw[hL]at hn';cases hn'
 ·rcases Rho.add_cases hL with⟨rfl,rfl,rfl⟩ | hL
  ·exact .inl (Nat.le_refl _)
  ·rw[hL]at hn';cases hn'
 ·rw[dh,if_neg (by omega)]
theorem fh (w:World) (b n b':Nat):(w.freeze ⟨b,n,none⟩ 1).heap[b']?=if b=b' then(match w.heap[b']? with | some (.cells C t (lo,hi))=>some (.cells C t (if lo == hi then(n,n+1) else(min lo n,max hi (n+1)))) | o=>o) else w.heap[b']?:=by
 unfold World.freeze
 rw[if_neg (by decide)]
 simp only[Array.getElem?_modify]
 split
 ·cases w.heap[b']? with
  | none=>rfl
  | some o=>cases o<;>rfl
 ·rfl
theorem vZ (w:World) (b n b':Nat):gZ (w.freeze ⟨b,n,none⟩ 1) b'=gZ w b':=by
 unfold gZ
 rw[fh]
 by_cases e:b=b'
 ·rw[if_pos e]
  cases w.heap[b']? with
  | none=>rfl
  | some o=>cases o<;>rfl
 ·rw[if_neg e]
theorem HR.freeze {ρ:Rho} {H:af} {w:World} (h:HR ρ H w) {id ver:Nat} {L:Loc} (hL:ρ id ver=some L) (hr:(H.get id).isSome=true):HR ρ H (w.freeze ⟨L.b,L.n,none⟩ 1)∧Ext ρ H w ρ H (w.freeze ⟨L.b,L.n,none⟩ 1):=by
 have hsz:(w.freeze ⟨L.b,L.n,none⟩ 1).heap.size=w.heap.size:=by unfold World.freeze;rw[if_neg (by decide)];simp
 have hos:(w.freeze ⟨L.b,L.n,none⟩ 1).os=w.os∧(w.freeze ⟨L.b,L.n,none⟩ 1).tape=w.tape∧(w.freeze ⟨L.b,L.n,none⟩ 1).output=w.output:=by unfold World.freeze;rw[if_neg (by decide)];exact⟨rfl,rfl,rfl⟩
 refine⟨⟨h.ok,fun id' ver L' hL'=>by rw[hsz];exact h.dom id' ver L' hL',h.inj,fun id' ver' L' r' hL' hr'=>?_,h.gl.same (by rw[hsz];exact Nat.le_refl _) (fun b _ hne=>by rw[fh,if_neg (hne _ _ _ hL)]),h.ty.world (fun _ _ _=>vZ _ _ _ _)⟩,⟨fun _ _ _ h=>h,Nat.le_refl _,fun _ h=>.inl h,fun _ h=>h,fun id ver L h h'=>(by rw[h]at h';cases h'),fun id ver L h h'=>(by rw[h]at h';cases h'),fun b hb hne=>?_,by rw[hsz];exact Nat.le_refl _,hos.1,hos.2.1,hos.2.2⟩⟩
 ·by_cases eb:L.b=L'.b
  ·have e:=h.inj _ _ _ _ _ _ hL hL' eb
   subst e
   obtain⟨r,hr⟩:=Option.isSome_iff_exists.1 hr
   have hrr:r'=r:=by rw[hr]at hr';injection hr' with hr';exact hr'.symm
   subst hrr
   obtain⟨a2,a3,C,t,fr,a4,a5,a6,a7,a8⟩:=h.row id ver L r' hL hr
   obtain⟨b2,b3,C',t',fr',b4,b5,b6,b7,b8⟩:=h.row id ver' L' r' hL' hr
   rw[←eb]at b4
   rw[a4]at b4
   injection b4 with b4
   injection b4 with e1 e2 e3
   subst e1 e2 e3
   obtain⟨lo,hi⟩:=fr
   refine⟨b2,b3,C,t,(if lo == hi then(L.n,L.n+1) else(min lo L.n,max hi (L.n+1))),by rw[←eb,fh,if_pos rfl,a4],b5,fun _=>?_,b7,b8⟩
   have:L'.n=L.n:=by omega
   by_cases e:lo=hi
   ·subst e;simp;omega
   ·have:=a6 e
    simp only at this
    rw[if_neg (by simpa using e)]
    simp only
    omega
  ·refine(h.row _ _ _ _ hL' hr').mono (fun _ _ _ h=>h) ?_
   rw[fh,if_neg eb]
 ·rw[fh,if_neg (hne id ver L hL hr)]
end
section
structure TI where
 und:TypeDesc
 size:Nat
 bytes:Nat
 zero:Value
 flat:Bool
def cO (P:Program) (tt:TypeId→Option TI):Prop := ∀ T i,tt T=some i → ∃ I,P.info? T=some I∧P.underlying T=some i.und∧I.size=i.size∧I.bytes=i.bytes∧I.zero=some i.zero
section
variable {P:Program} {tt:TypeId→Option TI} (ht:cO P tt) {T:TypeId} {i:TI} (hT:tt T=some i)
include ht hT
theorem cO.run_und (w:World):(underlying T).run P w = .ok i.und w:=by
 obtain⟨I,h1,h2,h3,h4,h5⟩:=ht T i hT
 exact run_underlying h2 w
theorem cO.run_size (w:World):(sizeOf T).run P w = .ok i.size w:=by
 obtain⟨I,h1,h2,h3,h4,h5⟩:=ht T i hT
 simp[sizeOf,typeInfo,h1,h3]
theorem cO.run_zero (w:World):(zeroValue T).run P w = .ok i.zero w:=by
 obtain⟨I,h1,h2,h3,h4,h5⟩:=ht T i hT
 simp[zeroValue,typeInfo,h1,h5]
def Jb:TypeDesc→Bool
 | .struct _ | .array _ _=>true
 | _=>false
theorem cO.run_agg (w:World):(isAgg T).run P w = .ok (Jb i.und) w:=by
 unfold isAgg
 rw[Sem.run_bind,cO.run_und ht hT]
 simp only[Result.andThen_ok]
 cases i.und<;>rfl
end
def cw (P:Program) (s:Sem Value) (ρ:Rho) (H:af) (w:World) (x:ah) (H':af):Prop:=
 ∃ v w' ρ',s.run P w = .ok v w'∧VR ρ' x v∧HR ρ' H' w'∧Ext ρ H w ρ' H' w'
theorem cw.pure {P:Program} {s:Sem Value} {ρ:Rho} {H:af} {w:World} {x:ah} {v:Value} (h:HR ρ H w) (hs:s.run P w = .ok v w) (hv:VR ρ x v):cw P s ρ H w x H:=
 ⟨v,w,ρ,hs,hv,h,Ext.refl _ _ _⟩
def ah.ones (xs:List ah):Bool:=xs.all ah.one
theorem VRs.ones {ρ:Rho}:∀ {xs vs},VRs ρ xs vs→ah.ones xs=true → ∀ u ∈ vs,u.oneCell'=true
 | _,_,.nil,_,u,hu=>by cases hu
 | _,_,.cons x v xs vs h hs,ho,u,hu=>by
   unfold ah.ones at ho
   rw[List.all_cons,Bool.and_eq_true]at ho
   rcases List.mem_cons.1 hu with rfl | hu
   ·rw[h.one];exact ho.1
   ·exact hs.ones (by unfold ah.ones;exact ho.2) u hu
def zX {α:Type}:Nat→Nat→List α→List α
 | 0,n,l=>l.drop n
 | c+1,n,l=>match l with
   | _::_::_::_::_::_::_::_::t=>zX c n t
   | _ => []
theorem wM {α:Type}:∀ (c n:Nat) (l:List α),zX c n l=l.drop (8*c+n)
 | 0,n,l=>by rw[Nat.mul_zero,Nat.zero_add];rfl
 | c+1,n,l=>by
   unfold zX
   split
   ·rename_i t
    rw[wM c n t,show 8*(c+1)+n=(8*c+n)+8 from by omega]
    rfl
   ·rename_i h
    symm
    apply List.drop_of_length_le
    rcases l with _ | ⟨a,_ | ⟨b,_ | ⟨c,_ | ⟨d,_ | ⟨e,_ | ⟨f,_ | ⟨g,_ | ⟨k,t⟩⟩⟩⟩⟩⟩⟩⟩<;>first | (simp only[List.length_cons,List.length_nil];omega) | exact absurd rfl (h _ _ _ _ _ _ _ _ _)
def En {α:Type} (n:Nat) (l:List α):List α:=zX (n/8) (n%8) l
theorem CQ {α:Type} (n:Nat) (l:List α):En n l=l.drop n:=by
 unfold En
 rw[wM]
 congr 1
 omega
def CI (l:List ah) (k:Nat):Option (List ah):=match Nat.beq k 1 with
 | true=>(match l with
   | x::_=>some [x]
   | []=>none)
 | false=>if(l.take k).length=k then some (l.take k) else none
theorem EX (l:List ah) (k:Nat):CI l k=if(l.take k).length=k then some (l.take k) else none:=by
 unfold CI
 split
 ·rename_i h
  have h:=Nat.eq_of_beq_eq_true h
  subst h
  cases l<;>simp
 ·rfl
def fH (H:af) (id ver off k:Nat):Option (List ah):=
 match H.get id with
 | some r=>if r.lo≤ver then CI (En off r.cells) k else none
 | none=>none
theorem vJ (H:af) (id ver off k:Nat):fH H id ver off k=(match H.get id with
 | some r=>if r.lo≤ver then(if(((r.cells.drop off).take k).length=k) then some ((r.cells.drop off).take k) else none) else none
 | none=>none):=by
 unfold fH
 simp only[CQ,EX]
theorem dj {P:Program} {ρ:Rho} {H:af} {w:World} (h:HR ρ H w) {id ver off k:Nat} {L:Loc} (hL:ρ id ver=some L) (hk:off+k≤L.ext) {xs:List ah} (hr:fH H id ver off k=some xs):
 ∃ vs:List Value,VRs ρ xs vs∧vs.length=k∧(∀ u ∈ vs,u.oneCell'=true)∧(∀ (j:Nat) u,vs[j]?=some u→w.cell? ⟨L.b,off+j,none⟩=some u)∧(loadCells ⟨L.b,off,none⟩ k).run P w = .ok ⟨vs⟩ w:=by
 rw[vJ]at hr
 split at hr
 ·rename_i r hg
  split at hr
  ·rename_i hlo
   split at hr
   ·injection hr with hr
    subst hr
    obtain⟨vs,h1,h2,h3,h4⟩:=h.read hL hg hlo hk
    refine⟨vs,h2,h1,h3,h4,?_⟩
    rw[←h1]
    exact run_loadCells_list w _ vs (fun j u hj=>by rw[bC];exact h4 j u hj)
   ·cases hr
  ·cases hr
 ·cases hr
def jM (H:af) (id ver off:Nat) (xs:List ah):Option af:=
 match H.get id with
 | some r=>if r.ver=ver∧r.lo≤r.ver∧off+xs.length≤r.cells.length∧ah.ones xs=true then some (H.put id { r with cells:=setAll r.cells off xs,lo:=r.ver }) else none
 | none=>none
theorem kj {P:Program} {ρ:Rho} {H H':af} {w:World} (h:HR ρ H w) {id ver off:Nat} {L:Loc} (hL:ρ id ver=some L) {xs:List ah} {vs:List Value} (hx:VRs ρ xs vs) (hw:jM H id ver off xs=some H'):
 ∃ w',(storeCells ⟨L.b,off,none⟩ vs).run P w = .ok () w'∧HR ρ H' w'∧Ext ρ H w ρ H' w':=by
 unfold jM at hw
 split at hw
 ·rename_i r hg
  split at hw
  ·rename_i hc
   obtain⟨rfl,hlo,h1,h2⟩:=hc
   injection hw with hw
   subst hw
   have hR:=h.raise hg r.ver hlo
   have hg2:(H.put id { r with lo:=r.ver }).get id=some { r with lo:=r.ver }:=by rw[af.get_put h.ok hg,if_pos rfl]
   obtain⟨w',k1,k2,k3⟩:=HR.setAll (P:=P) xs vs hR (r:={ r with lo:=r.ver }) hL hg2 rfl ⟨L.b,off,none⟩ off 0 (fun j=>by rw[bC,Nat.zero_add]) h1 hx (hx.ones h2)
   have hs:((H.put id { r with lo:=r.ver }).put id { r with cells:=setAll r.cells off xs,lo:=r.ver }).same (H.put id { r with cells:=setAll r.cells off xs,lo:=r.ver }):=⟨rfl,fun j=>Aw j h.ok hg⟩
   exact⟨w',k1,k2.of_same hs,((Ext.put h.ok hg).trans k3 h.ok (fun id ver h1 h2=>by rw[af.next_put]at h2;omega)).of_same hs⟩
  ·cases hw
 ·cases hw
def ji (H:af) (ty:TypeId) (xs:List ah):Option af:=
 if H.next<1099511627776∧ah.ones xs=true then some (H.new ⟨ty,xs,0,0⟩) else none
theorem gH {ρ:Rho} {H H':af} {w:World} (h:HR ρ H w) {ty:TypeId} {xs:List ah} (hn:ji H ty xs=some H') (hf:bR ρ H.next H'.next) {C:Array Value} {fr:Nat×Nat} (hfr:fr.1≠fr.2→C.size≤fr.1) {more:List Value} (hbx:ty=wu→more = []) (hC:C.toList=(C.toList.take xs.length)++more) (hx:VRs ρ xs (C.toList.take xs.length)):
 HR (ρ.add H.next 0 ⟨w.heap.size,C.size,xs.length⟩) H' (w.alloc (.cells C ty fr))∧Ext ρ H w (ρ.add H.next 0 ⟨w.heap.size,C.size,xs.length⟩) H' (w.alloc (.cells C ty fr)):=by
 unfold ji at hn
 split at hn
 ·rename_i hc
  injection hn with hn
  subst hn
  have hl:=hx.length
  rw[List.length_take,Array.length_toList (xs:=C)]at hl
  exact h.alloc hc.1 hf ty (C:=C) (fr:=fr) hfr hx (by omega) (fun e=>by have h1:=congrArg List.length hC;rw[hbx e,List.append_nil,List.length_take,Array.length_toList (xs:=C)]at h1;omega) (hx.ones hc.2)
 ·cases hn
def mX (tt:TypeId→Option TI) (H:af) (T:TypeId):ah→Option ah
 | .ptr id ver off lim=>match tt T with
   | some i=>if i.size≤lim then(if Jb i.und then(fH H id ver off i.size).map .agg else match fH H id ver off 1 with
     | some [x]=>if 1≤lim then some x else none
     | _=>none) else none
   | none=>none
 | .glob b off=>match tt T with
   | some i=>if Jb i.und then none else if b=tA then(match tv[off]? with
     | some s=>some (.str s)
     | none=>none) else none
   | none=>none
 | _=>none
theorem sL {P:Program} {tt:TypeId→Option TI} (ht:cO P tt) {ρ:Rho} {H:af} {w:World} (h:HR ρ H w) {T:TypeId} {p x:ah} {v:Value} (hp:VR ρ p v) (hx:mX tt H T p=some x):∃ u,(Instr.loadAt T v).run P w = .ok u w∧VR ρ x u:=by
 cases hp with
 | ptr id ver off lim L hL hl=>
   simp only[mX]at hx
   split at hx
   ·rename_i i hi
    split at hx
    ·rename_i hs
     have ha:=ht.run_agg hi w
     have hsz:=ht.run_size hi w
     split at hx
     ·rename_i hag
      obtain⟨xs,h1,rfl⟩:=Option.map_eq_some_iff.1 hx
      obtain⟨vs,k1,k2,k3,k4,k5⟩:=dj (P:=P) h hL (by omega) h1
      refine⟨_,?_,.agg xs vs k1⟩
      simp[Instr.loadAt,Instr.sureAddr,loadVar,ha,hag,hsz,k5]
     ·rename_i hag
      split at hx
      ·rename_i x' h1
       split at hx
       ·rename_i h1l
        injection hx with hx
        subst hx
        obtain⟨vs,k1,k2,k3,k4,k5⟩:=dj (P:=P) h hL (by omega) h1
        cases k1 with
        | cons _ u _ us g gs=>
          have hc:=k4 0 u (by simp)
          refine⟨_,?_,g⟩
          simp only[Nat.add_zero]at hc
          simp[Instr.loadAt,Instr.sureAddr,loadVar,ha,hag,hc]
       ·cases hx
      ·cases hx
    ·cases hx
   ·cases hx
 | glob b off=>
   simp only[mX]at hx
   split at hx
   ·rename_i i hi
    split at hx
    ·cases hx
    ·rename_i hag
     split at hx
     ·rename_i hb
      subst hb
      split at hx
      ·rename_i s hs
       injection hx with hx
       subst hx
       have ha:=ht.run_agg hi w
       have hc:=h.gl.cell off s hs
       refine⟨_,?_,.str s⟩
       simp[Instr.loadAt,Instr.sureAddr,loadVar,ha,hag,hc]
      ·cases hx
     ·cases hx
   ·cases hx
 | _=>simp[mX]at hx
theorem DM {P:Program} {tt:TypeId→Option TI} (ht:cO P tt) {ρ:Rho} {H:af} {w:World} (h:HR ρ H w) {T:TypeId} {p x:ah} {v:Value} (hp:VR ρ p v) (hx:mX tt H T p=some x):cw P (Instr.loadAt T v) ρ H w x H:=by
 obtain⟨u,k1,k2⟩:=sL (P:=P) ht h hp hx
 exact .pure h k1 k2
def jY (tt:TypeId→Option TI) (H:af) (T:TypeId) (p x:ah):Option af:=
 match p with
 | .ptr id ver off lim=>match tt T with
   | some i=>if x.cells.length=i.size∧i.size≤lim then jM H id ver off x.cells else none
   | none=>none
 | _=>none
theorem BZ {P:Program} {tt:TypeId→Option TI} (ht:cO P tt) {ρ:Rho} {H H':af} {w:World} (h:HR ρ H w) {T:TypeId} {p x:ah} {v u:Value} (hp:VR ρ p v) (hu:VR ρ x u) (hx:jY tt H T p x=some H'):
 ∃ w',(Instr.storeAt T v u).run P w = .ok () w'∧HR ρ H' w'∧Ext ρ H w ρ H' w':=by
 cases hp with
 | ptr id ver off lim L hL hl=>
   simp only[jY]at hx
   split at hx
   ·rename_i i hi
    split at hx
    ·rename_i hs
     obtain⟨w',k1,k2,k3⟩:=kj (P:=P) h hL hu.cells hx
     refine⟨w',?_,k2,k3⟩
     have hsz:=ht.run_size hi w
     have hl:=hu.cells.length
     rw[Array.length_toList (xs:=u.cells)]at hl
     have e:u.cells.size=i.size:=by omega
     simp[Instr.storeAt,Instr.sureAddr,storeVar,hsz,e,k1]
    ·cases hx
   ·cases hx
 | _=>simp[jY]at hx
def vo (H:af) (T:TypeId) (xs:List ah):Option (ah×af):=(ji H T xs).map fun H'=>(.ptr H.next 0 0 xs.length,H')
theorem Aj {P:Program} {ρ:Rho} {H H':af} {w:World} (h:HR ρ H w) {T:TypeId} {xs:List ah} {x:ah} {v:Value} (hx:VRs ρ xs v.cells.toList) (hn:vo H T xs=some (x,H')) (hf:bR ρ H.next H'.next):
 ∃ v' ρ',(newVar T v).run P w = .ok ⟨w.heap.size,0,none⟩ (w.alloc (.cells v.cells T))∧v' = .pointer (some ⟨w.heap.size,0,none⟩)∧VR ρ' x v'∧HR ρ' H' (w.alloc (.cells v.cells T))∧Ext ρ H w ρ' H' (w.alloc (.cells v.cells T)):=by
 unfold vo at hn
 obtain⟨H2,h1,h2⟩:=Option.map_eq_some_iff.1 hn
 injection h2 with h2 h3
 subst h2 h3
 have hl:=hx.length
 rw[Array.length_toList (xs:=v.cells)]at hl
 have e:v.cells.toList.take xs.length=v.cells.toList:=List.take_of_length_le (by rw[Array.length_toList (xs:=v.cells)];omega)
 obtain⟨k1,k2⟩:=gH h h1 hf (C:=v.cells) (fr:=(0,0)) (by simp) (more:=[]) (fun _=>rfl) (by rw[e];simp) (by rw[e];exact hx)
 refine⟨_,_,rfl,rfl,?_,k1,k2⟩
 ·exact .ptr _ _ _ _ _ (Rho.add_self _ _ _ _) (by simp)
def jN (tt:TypeId→Option TI) (H:af) (T:TypeId):Option (ah×af):=
 match tt T with
 | some i=>match aconst i.zero with
   | some z=>vo H T z.cells
   | none=>none
 | none=>none
theorem Bg {P:Program} {tt:TypeId→Option TI} (ht:cO P tt) {ρ:Rho} {H H':af} {w:World} (h:HR ρ H w) {T:TypeId} {x:ah} (hn:jN tt H T=some (x,H')) (hf:bR ρ H.next H'.next):cw P (Instr.alloc T true (.tuple #[])) ρ H w x H':=by
 unfold jN at hn
 split at hn
 ·rename_i i hi
  split at hn
  ·rename_i z hz
   obtain⟨v',ρ',k1,k2,k3,k4,k5⟩:=Aj (P:=P) h (bI (ρ:=ρ) hz).cells hn hf
   subst k2
   refine⟨_,_,ρ',?_,k3,k4,k5⟩
   simp[Instr.alloc,ht.run_zero hi,k1]
  ·cases hn
 ·cases hn
def DG (H:af) (T:TypeId) (x:ah):Option (ah×af):=vo H T x.cells
theorem Fy {P:Program} {ρ:Rho} {H H':af} {w:World} (h:HR ρ H w) {T:TypeId} {x y:ah} {v:Value} (hv:VR ρ y v) (hn:DG H T y=some (x,H')) (hf:bR ρ H.next H'.next):cw P (Instr.box T v) ρ H w x H':=by
 obtain⟨v',ρ',k1,k2,k3,k4,k5⟩:=Aj (P:=P) h hv.cells hn hf
 subst k2
 refine⟨_,_,ρ',?_,k3,k4,k5⟩
 simp[Instr.box,k1]
def kf (tt:TypeId→Option TI) (S:TypeId) (n:Nat):ah→Option ah
 | .ptr id ver off lim=>match tt S with
   | some i=>match i.und with
     | .struct fields=>match fields[n]? with
       | some f=>match tt f.type with
         | some j=>if j.size≠0∧f.offset+j.size≤lim then some (.ptr id ver (off+f.offset) j.size) else none
         | none=>none
       | none=>none
     | _=>none
   | none=>none
 | _=>none
theorem wX {P:Program} {tt:TypeId→Option TI} (ht:cO P tt) {ρ:Rho} {H:af} {w:World} (h:HR ρ H w) {S:TypeId} {n:Nat} {p x:ah} {v:Value} (hp:VR ρ p v) (hx:kf tt S n p=some x):cw P (Instr.fieldAt S v n) ρ H w x H:=by
 cases hp with
 | ptr id ver off lim L hL hl=>
   simp only[kf]at hx
   split at hx
   ·rename_i i hi
    split at hx
    ·rename_i fields hu
     split at hx
     ·rename_i f hf
      split at hx
      ·rename_i j hj
       split at hx
       ·rename_i hc
        injection hx with hx
        subst hx
        have h1:=ht.run_und hi w
        rw[hu]at h1
        have h2:=ht.run_size hj w
        refine .pure h (v := .pointer (some ⟨L.b,off+f.offset,none⟩)) ?_ (.ptr _ _ _ _ L hL (by omega))
        simp[Instr.fieldAt,Instr.sureAddr,h1,hf,fieldPlace,h2,hc.1,bC]
       ·cases hx
      ·cases hx
     ·cases hx
    ·cases hx
   ·cases hx
 | _=>simp[kf]at hx
def oM (tt:TypeId→Option TI) (T:TypeId) (cs:List ah) (off:Nat):Option ah:=
 match tt T with
 | some i=>if Jb i.und then some (.agg ((cs.take (off+i.size)).drop off)) else cs[off]?
 | none=>none
theorem iI {P:Program} {tt:TypeId→Option TI} (ht:cO P tt) {ρ:Rho} (w:World) {T:TypeId} {cs:List ah} {off:Nat} {x:ah} {vs:List Value} (hv:VRs ρ cs vs) (hx:oM tt T cs off=some x):∃ v,(part T ⟨vs⟩ off).run P w = .ok v w∧VR ρ x v:=by
 unfold oM at hx
 split at hx
 ·rename_i i hi
  have h1:=ht.run_agg hi w
  have h2:=ht.run_size hi w
  split at hx
  ·rename_i ha
   injection hx with hx
   subst hx
   refine⟨.agg ⟨(vs.take (off+i.size)).drop off⟩,?_,.agg _ _ ((hv.take _).drop _)⟩
   simp[part,h1,ha,h2,List.extract_eq_take_drop]
   rw[List.drop_take]
   congr 2
   omega
  ·rename_i ha
   obtain⟨v,k1,k2⟩:=hv.get hx
   refine⟨v,?_,k2⟩
   simp[part,h1,ha,k1]
 ·cases hx
def qG (tt:TypeId→Option TI) (S:TypeId) (n:Nat):ah→Option ah
 | .agg cs=>match tt S with
   | some i=>match i.und with
     | .struct fields=>match fields[n]? with
       | some f=>oM tt f.type cs f.offset
       | none=>none
     | _=>none
   | none=>none
 | _=>none
theorem Bb {P:Program} {tt:TypeId→Option TI} (ht:cO P tt) {ρ:Rho} {H:af} {w:World} (h:HR ρ H w) {S:TypeId} {n:Nat} {p x:ah} {v:Value} (hp:VR ρ p v) (hx:qG tt S n p=some x):cw P (Instr.field S v n) ρ H w x H:=by
 cases hp with
 | agg cs vs hvs=>
   simp only[qG]at hx
   split at hx
   ·rename_i i hi
    split at hx
    ·rename_i fields hu
     split at hx
     ·rename_i f hf
      have h1:=ht.run_und hi w
      rw[hu]at h1
      obtain⟨u,k1,k2⟩:=iI ht w hvs hx
      refine .pure h ?_ k2
      simp[Instr.field,h1,hf,asAgg,k1]
     ·cases hx
    ·cases hx
   ·cases hx
 | _=>simp[qG]at hx
end
section
def mS (tt:TypeId→Option TI) (T:TypeId) (x y:ah):Option ah:=
 match tt T,y with
 | some i,.int _ k=>match i.und,x with
   | .slice e,.slc id ver off len cap sz _=>match tt e with
     | some j=>if 0≤k∧k<(len:Int)∧j.size=sz then some (.ptr id ver (off+k.toNat*j.size) j.size) else none
     | none=>none
   | .array n e,.ptr id ver off lim=>match tt e with
     | some j=>if 0≤k∧k<(n:Int)∧n*j.size≤lim then some (.ptr id ver (off+k.toNat*j.size) j.size) else none
     | none=>none
   | .array n e,.glob b off=>match tt e with
     | some j=>if 0≤k∧k<(n:Int) then some (.glob b (off+k.toNat*j.size)) else none
     | none=>none
   | _,_=>none
 | _,_=>none
theorem DK {k n s:Nat} (h:k<n):k*s+s≤n*s:=by
 have:=Nat.mul_le_mul_right s (Nat.succ_le_of_lt h)
 rw[Nat.succ_mul]at this
 exact this
theorem xH {P:Program} {tt:TypeId→Option TI} (ht:cO P tt) {ρ:Rho} {H:af} {w:World} (h:HR ρ H w) {T:TypeId} {x y z:ah} {u v:Value} (hu:VR ρ x u) (hv:VR ρ y v) (hx:mS tt T x y=some z):cw P (Instr.indexAt T u v) ρ H w z H:=by
 unfold mS at hx
 split at hx
 ·rename_i i k' k hi
  cases hv with
  | int _ _=>
  split at hx
  ·rename_i e id ver off len cap sz ex hd
   cases hu with
   | slc _ _ _ _ _ _ _ L c hL h1 h2 h3 h4 h5=>
   split at hx
   ·rename_i j hj
    split at hx
    ·rename_i hk
     injection hx with hx
     subst hx
     have hjs:=hk.2.2
     obtain⟨k,rfl⟩:=Int.eq_ofNat_of_zero_le hk.1
     have hk2:(k:Int)<(len:Int):=hk.2.1
     have hkl:k<cap:=by omega
     have hm:=DK (s:=sz) hkl
     have e1:=ht.run_und hi w
     rw[hd]at e1
     have e2:=ht.run_size hj w
     refine .pure h (v := .pointer (some ⟨L.b,off+k*j.size,none⟩)) ?_ (.ptr _ _ _ _ L hL (by simp only[Int.toNat_natCast,Int.ofNat_eq_natCast];rw[hjs];omega))
     have hk3:k<len:=by omega
     simp[Instr.indexAt,asIntOf,e1,hk3,e2,bC]
    ·cases hx
   ·cases hx
  ·rename_i n e id ver off lim hd
   cases hu with
   | ptr _ _ _ _ L hL hl=>
   split at hx
   ·rename_i j hj
    split at hx
    ·rename_i hk
     injection hx with hx
     subst hx
     obtain⟨k,rfl⟩:=Int.eq_ofNat_of_zero_le hk.1
     have hk2:(k:Int)<(n:Int):=hk.2.1
     have hm:=DK (s:=j.size) (show k<n by omega)
     have e1:=ht.run_und hi w
     rw[hd]at e1
     have e2:=ht.run_size hj w
     refine .pure h (v := .pointer (some ⟨L.b,off+k*j.size,none⟩)) ?_ (.ptr _ _ _ _ L hL (by have h3:=hk.2.2;simp only[Int.toNat_natCast,Int.ofNat_eq_natCast];omega))
     have hk3:k<n:=by omega
     simp[Instr.indexAt,asIntOf,e1,hk3,e2,bC,Instr.sureAddr]
    ·cases hx
   ·cases hx
  ·rename_i n e b off hd
   cases hu with
   | glob _ _=>
   split at hx
   ·rename_i j hj
    split at hx
    ·rename_i hk
     injection hx with hx
     subst hx
     obtain⟨k,rfl⟩:=Int.eq_ofNat_of_zero_le hk.1
     have hk2:(k:Int)<(n:Int):=hk.2
     have e1:=ht.run_und hi w
     rw[hd]at e1
     have e2:=ht.run_size hj w
     refine .pure h (v := .pointer (some ⟨b,off+k*j.size,none⟩)) ?_ (.glob _ _)
     have hk3:k<n:=by omega
     simp[Instr.indexAt,asIntOf,e1,hk3,e2,bC,Instr.sureAddr]
    ·cases hx
   ·cases hx
  ·cases hx
 ·cases hx
def uQ (tt:TypeId→Option TI) (T:TypeId) (x y:ah):Option ah:=
 match tt T,y with
 | some i,.int _ k=>match i.und,x with
   | .array n e,.agg cs=>match tt e with
     | some j=>if 0≤k∧k<(n:Int) then oM tt e cs (k.toNat*j.size) else none
     | none=>none
   | .string,.str s=>if 0≤k then(match s[k.toNat]? with
     | some b=>some (.int .u8 (b.toNat:Int))
     | none=>none) else none
   | _,_=>none
 | _,_=>none
theorem Cb {P:Program} {tt:TypeId→Option TI} (ht:cO P tt) {ρ:Rho} {H:af} {w:World} (h:HR ρ H w) {T:TypeId} {x y z:ah} {u v:Value} (hu:VR ρ x u) (hv:VR ρ y v) (hx:uQ tt T x y=some z):cw P (Instr.index T u v) ρ H w z H:=by
 unfold uQ at hx
 split at hx
 ·rename_i i k' k hi
  cases hv with
  | int _ _=>
  have e1:=ht.run_und hi w
  split at hx
  ·rename_i n e cs hd
   rw[hd]at e1
   cases hu with
   | agg _ vs hvs=>
   split at hx
   ·rename_i j hj
    split at hx
    ·rename_i hk
     obtain⟨u,k1,k2⟩:=iI ht w hvs hx
     have e2:=ht.run_size hj w
     refine .pure h ?_ k2
     simp[Instr.index,asIntOf,e1,e2,hk,k1]
    ·cases hx
   ·cases hx
  ·rename_i s hd
   rw[hd]at e1
   cases hu with
   | str _=>
   split at hx
   ·rename_i hk
    split at hx
    ·rename_i b hb
     injection hx with hx
     subst hx
     refine .pure h ?_ (.int _ _)
     have hb2:(⟨⟨s⟩⟩:ByteArray)[k.toNat]?=some b:=by
      obtain⟨hl,he⟩:=List.getElem?_eq_some_iff.1 hb
      have hsz:k.toNat<(⟨⟨s⟩⟩:ByteArray).size:=hl
      rw[getElem?_pos (⟨⟨s⟩⟩:ByteArray) k.toNat hsz]
      congr 1
     simp[Instr.index,asIntOf,e1,hk,hb2]
    ·cases hx
   ·cases hx
  ·cases hx
 ·cases hx
def aT (y:Nat):Option ah→Option (Option Nat)
 | none=>some none
 | some (.int _ k)=>if 0≤k∧k≤(y:Int) then some (some k.toNat) else none
 | some _=>none
theorem fO {P:Program} {ρ:Rho} {w:World} {y y':Nat} (hy:y≤y') {x:ah} {v:Value} {n:Nat} {code:BoundsCode} (hv:VR ρ x v) (hx:aT y (some x)=some (some n)):(Instr.sliceBound v y' code).run P w = .ok n w∧n≤y:=by
 cases hv with
 | int k m=>
   simp only[aT]at hx
   split at hx
   ·rename_i hk
    injection hx with hx
    injection hx with hx
    subst hx
    refine⟨?_,by omega⟩
    have hk2:0≤m∧m≤(y':Int):=⟨hk.1,by omega⟩
    simp[Instr.sliceBound,asIntOf,hk2]
   ·cases hx
 | _=>simp[aT]at hx
def yQ (tt:TypeId→Option TI) (T:TypeId) (x:ah) (lo hi mx:Option ah):Option ah:=
 match tt T with
 | some i=>match i.und,x with
   | .string,.str s=>match mx with
     | some _=>none
     | none=>match aT s.length hi with
       | none=>none
       | some h=>match aT (h.getD s.length) lo with
         | none=>none
         | some l=>some (.str ((s.take (h.getD s.length)).drop (l.getD 0)))
   | .slice e,.slc id ver off len cap sz ex=>match tt e with
     | none=>none
     | some j=>if j.size≠sz then none else match aT cap mx with
       | none=>none
       | some m=>match aT (m.getD cap) hi with
         | none=>none
         | some h=>match aT (h.getD len) lo with
           | none=>none
           | some l=>if mx.isSome∧hi.isNone then none else if m.getD cap=l.getD 0 then(if ex∨mx.isSome then some (.slc id ver off (h.getD len-l.getD 0) 0 sz true) else some (.emp id ver sz))
             else some (.slc id ver (off+l.getD 0*j.size) (h.getD len-l.getD 0) (m.getD cap-l.getD 0) sz (ex || mx.isSome))
   | .slice e,.emp id ver sz=>match tt e with
     | none=>none
     | some j=>if j.size≠sz then none else match aT 0 mx with
       | none=>none
       | some m=>match aT (m.getD 0) hi with
         | none=>none
         | some h=>match aT (h.getD 0) lo with
           | none=>none
           | some _=>if mx.isSome∧hi.isNone then none else some (.emp id ver sz)
   | .slice e,.nils=>match tt e with
     | none=>none
     | some _=>match aT 0 mx with
       | none=>none
       | some _=>match aT 0 hi with
         | none=>none
         | some _=>match aT 0 lo with
           | none=>none
           | some _=>if mx.isSome∧hi.isNone then none else some .nils
   | .array n e,.ptr id ver off lim=>match tt e with
     | none=>none
     | some j=>match mx with
       | some _=>none
       | none=>match aT n hi with
         | none=>none
         | some h=>match aT (h.getD n) lo with
           | none=>none
           | some l=>if n*j.size≤lim∧0<j.size∧n≠l.getD 0∧n≤9223372036854775807 then some (.slc id ver (off+l.getD 0*j.size) (h.getD n-l.getD 0) (n-l.getD 0) j.size true) else none
   | _,_=>none
 | none=>none
theorem fX {P:Program} {w:World} {ρ:Rho} {isS:Bool} {len cap c:Nat} (hc:cap≤c) {lo hi mx:Option ah} {lo' hi' mx':Option Value} {m h l:Option Nat}
 (hlo:∀ x,lo=some x → ∃ v,lo'=some v∧VR ρ x v) (hlo0:lo=none→lo'=none) (hhi:∀ x,hi=some x → ∃ v,hi'=some v∧VR ρ x v) (hhi0:hi=none→hi'=none) (hmx:∀ x,mx=some x → ∃ v,mx'=some v∧VR ρ x v) (hmx0:mx=none→mx'=none)
 (h1:aT cap mx=some m) (h2:aT (m.getD cap) hi=some h) (h3:aT (h.getD len) lo=some l) (h4:¬ (mx.isSome=true∧hi.isNone=true)) (hlen:len≤cap):
 (Instr.sliceBounds isS len c lo' hi' mx').run P w = .ok (l.getD 0,h.getD len,m.getD c) w∧l.getD 0≤h.getD len∧h.getD len≤m.getD cap∧m.getD cap≤cap∧(m.isSome=mx.isSome):=by
 unfold Instr.sliceBounds
 cases mx with
 | none=>
   have e:=hmx0 rfl
   subst e
   simp only[aT]at h1
   injection h1 with h1
   subst h1
   simp only[Option.getD_none]at h2 ⊢
   cases hi with
   | none=>
     have e:=hhi0 rfl
     subst e
     simp only[aT]at h2
     injection h2 with h2
     subst h2
     simp only[Option.getD_none]at h3 ⊢
     cases lo with
     | none=>
       have e:=hlo0 rfl
       subst e
       simp only[aT]at h3
       injection h3 with h3
       subst h3
       simp[hlen]
     | some x=>
       obtain⟨v,rfl,hv⟩:=hlo x rfl
       cases l with
       | none=>cases hv<;>simp[aT]at h3
       | some l=>
         obtain⟨k1,k2⟩:=fO (P:=P) (w:=w) (code := .sliceB) (Nat.le_refl _) hv h3
         simp[k1,k2,hlen]
   | some x=>
     obtain⟨v,rfl,hv⟩:=hhi x rfl
     cases h with
     | none=>cases hv<;>simp[aT]at h2
     | some h=>
       simp only[Option.getD_some]at h3 ⊢
       have kk:=fun code=>fO (P:=P) (w:=w) (code:=code) hc hv h2
       cases lo with
       | none=>
         have e:=hlo0 rfl
         subst e
         simp only[aT]at h3
         injection h3 with h3
         subst h3
         simp[(kk _).1,(kk .sliceB).2]
       | some y=>
         obtain⟨u,rfl,hu⟩:=hlo y rfl
         cases l with
         | none=>cases hu<;>simp[aT]at h3
         | some l=>
           obtain⟨k1,k2⟩:=fO (P:=P) (w:=w) (code := .sliceB) (Nat.le_refl _) hu h3
           simp[(kk _).1,(kk .sliceB).2,k1,k2]
 | some z=>
   obtain⟨vz,rfl,hvz⟩:=hmx z rfl
   cases m with
   | none=>cases hvz<;>simp[aT]at h1
   | some m=>
     have km:=fun code=>fO (P:=P) (w:=w) (code:=code) hc hvz h1
     simp only[Option.getD_some]at h2 ⊢
     cases hi with
     | none=>exact absurd ⟨rfl,rfl⟩ h4
     | some x=>
       obtain⟨v,rfl,hv⟩:=hhi x rfl
       cases h with
       | none=>cases hv<;>simp[aT]at h2
       | some h=>
         simp only[Option.getD_some]at h3 ⊢
         have kk:=fun code=>fO (P:=P) (w:=w) (code:=code) (Nat.le_refl _) hv h2
         cases lo with
         | none=>
           have e:=hlo0 rfl
           subst e
           simp only[aT]at h3
           injection h3 with h3
           subst h3
           simp[(km _).1,(km .sliceB).2,(kk _).1,(kk .sliceB).2]
         | some y=>
           obtain⟨u,rfl,hu⟩:=hlo y rfl
           cases l with
           | none=>cases hu<;>simp[aT]at h3
           | some l=>
             have kl:=fun code=>fO (P:=P) (w:=w) (code:=code) (Nat.le_refl _) hu h3
             simp[(km _).1,(km .sliceB).2,(kk _).1,(kk .sliceB).2,(kl _).1,(kl .sliceB).2]
def AP (ρ:Rho) (x:Option ah) (v:Option Value):Prop:=(∀ y,x=some y → ∃ u,v=some u∧VR ρ y u)∧(x=none→v=none)
theorem gI (s:List UInt8) (l h:Nat):(⟨⟨s⟩⟩:ByteArray).extract l h=⟨⟨(s.take h).drop l⟩⟩:=by
 apply ByteArray.ext
 rw[ByteArray.data_extract]
 apply Array.ext'
 simp[Array.toList_extract,List.extract_eq_take_drop,List.drop_take]
theorem BO {P:Program} {tt:TypeId→Option TI} (ht:cO P tt) {ρ:Rho} {H:af} {w:World} (h:HR ρ H w) {T:TypeId} {x z:ah} {u:Value} {lo hi mx:Option ah} {lo' hi' mx':Option Value} (hu:VR ρ x u) (hlo:AP ρ lo lo') (hhi:AP ρ hi hi') (hmx:AP ρ mx mx') (hx:yQ tt T x lo hi mx=some z):cw P (Instr.sliceAt T u lo' hi' mx') ρ H w z H:=by
 unfold yQ at hx
 split at hx
 ·rename_i i hT
  have e1:=ht.run_und hT w
  split at hx
  ·rename_i s hd
   rw[hd]at e1
   cases hu with
   | str _=>
   split at hx
   ·cases hx
   ·have hm':=hmx.2 rfl
    subst hm'
    split at hx
    ·cases hx
    ·rename_i hh h2
     split at hx
     ·cases hx
     ·rename_i ll h3
      injection hx with hx
      subst hx
      obtain⟨k1,k2,k3,-,-⟩:=fX (P:=P) (w:=w) (Nat.le_refl _) (isS:=false) (len:=s.length) (cap:=s.length) (m:=none) (mx:=none) (mx':=none) hlo.1 hlo.2 hhi.1 hhi.2 (by simp) (by simp) rfl h2 h3 (by simp) (Nat.le_refl _)
      refine .pure h ?_ (.str _)
      have hsz:(⟨⟨s⟩⟩:ByteArray).size=s.length:=rfl
      simp only[Option.getD_none]at k1
      simp[Instr.sliceAt,Instr.slice,e1,hsz,k1,gI]
  ·rename_i e id ver off len cap sz ex hd
   rw[hd]at e1
   cases hu with
   | slc _ _ _ _ _ _ _ L c hL g1 g2 g3 g4 g5=>
   split at hx
   ·cases hx
   ·rename_i j hj
    have e2:=ht.run_size hj w
    split at hx
    ·cases hx
    ·rename_i hsz
     have hsz:j.size=sz:=Classical.not_not.1 hsz
     subst hsz
     split at hx
     ·cases hx
     ·rename_i m h1
      split at hx
      ·cases hx
      ·rename_i hh h2
       split at hx
       ·cases hx
       ·rename_i ll h3
        split at hx
        ·cases hx
        ·rename_i h4
         obtain⟨k1,k2,k3,k4,k5⟩:=fX (P:=P) (w:=w) (isS:=true) (len:=len) (cap:=cap) (c:=c) g3.1 (m:=m) (h:=hh) (l:=ll) hlo.1 hlo.2 hhi.1 hhi.2 hmx.1 hmx.2 h1 h2 h3 h4 g1
         have hn:=(h.dom _ _ _ hL).2
         have hmc:m.getD c≤c∧m.getD cap≤m.getD c∧(m.isSome=true→m.getD c=m.getD cap)∧(m.isSome=false→m.getD c=c∧m.getD cap=cap):=by
          cases m with
          | none=>simpa using g3.1
          | some m=>simp only[Option.getD_some]at k4 ⊢;simp;omega
         split at hx
         ·rename_i h6
          split at hx
          ·rename_i h7
           injection hx with hx
           subst hx
           have e0:m.getD c=ll.getD 0:=by
            rw[←h6]
            cases hm:m.isSome with
            | true=>exact hmc.2.2.1 hm
            | false=>
              have h8:=hmc.2.2.2 hm
              rw[h8.1,h8.2]
              rcases h7 with h7 | h7
              ·exact g5 h7
              ·rw[←k5,hm]at h7;cases h7
           refine .pure h (v := .slice (some ⟨L.b,off,none⟩) (hh.getD len-ll.getD 0) 0) ?_ (.slc _ _ _ _ _ _ _ L 0 hL (by omega) (by omega) ⟨Nat.le_refl _,by omega⟩ (by omega) (fun _=>rfl))
           simp[Instr.sliceAt,Instr.slice,e1,k1,e2,e0]
          ·injection hx with hx
           subst hx
           have hz0:hh.getD len-ll.getD 0=0:=by omega
           by_cases e0:m.getD c=ll.getD 0
           ·refine .pure h (v := .slice (some ⟨L.b,off,none⟩) 0 0) ?_ (.emp _ _ _ L off 0 hL (by omega) (by omega))
            simp[Instr.sliceAt,Instr.slice,e1,k1,e2,e0,hz0]
           ·have q2:ll.getD 0*j.size+(m.getD c-ll.getD 0)*j.size=m.getD c*j.size:=by rw[←Nat.add_mul];congr 1;omega
            have q4:m.getD c*j.size≤c*j.size:=Nat.mul_le_mul_right _ hmc.1
            refine .pure h (v := .slice (some ⟨L.b,off+ll.getD 0*j.size,none⟩) 0 (m.getD c-ll.getD 0)) ?_ (.emp _ _ _ L _ _ hL (by omega) (by omega))
            simp[Instr.sliceAt,Instr.slice,e1,k1,e2,e0,bC,hz0]
         ·rename_i h6
          injection hx with hx
          subst hx
          have e0:¬ (m.getD c=ll.getD 0):=by
           cases hm:m.isSome with
           | true=>rw[hmc.2.2.1 hm];exact h6
           | false=>have h8:=hmc.2.2.2 hm;omega
          have q1:ll.getD 0*j.size+(m.getD cap-ll.getD 0)*j.size=m.getD cap*j.size:=by rw[←Nat.add_mul];congr 1;omega
          have q2:ll.getD 0*j.size+(m.getD c-ll.getD 0)*j.size=m.getD c*j.size:=by rw[←Nat.add_mul];congr 1;omega
          have q3:m.getD cap*j.size≤cap*j.size:=Nat.mul_le_mul_right _ k4
          have q4:m.getD c*j.size≤c*j.size:=Nat.mul_le_mul_right _ hmc.1
          refine .pure h (v := .slice (some ⟨L.b,off+ll.getD 0*j.size,none⟩) (hh.getD len-ll.getD 0) (m.getD c-ll.getD 0)) ?_ (.slc _ _ _ _ _ _ _ L (m.getD c-ll.getD 0) hL (by omega) (by omega) (by omega) (by omega) (fun hex=>?_))
          ·simp[Instr.sliceAt,Instr.slice,e1,k1,e2,e0,bC]
          ·rw[Bool.or_eq_true]at hex
           cases hm:m.isSome with
           | true=>rw[hmc.2.2.1 hm]
           | false=>
             have h8:=hmc.2.2.2 hm
             rw[h8.1,h8.2]
             rcases hex with h7 | h7
             ·rw[g5 h7]
             ·rw[←k5,hm]at h7;cases h7
  ·rename_i e id ver sz hd
   rw[hd]at e1
   cases hu with
   | emp _ _ _ L o c hL g3 g4=>
   split at hx
   ·cases hx
   ·rename_i j hj
    have e2:=ht.run_size hj w
    split at hx
    ·cases hx
    ·rename_i hsz
     have hsz:j.size=sz:=Classical.not_not.1 hsz
     subst hsz
     split at hx
     ·cases hx
     ·rename_i m h1
      split at hx
      ·cases hx
      ·rename_i hh h2
       split at hx
       ·cases hx
       ·rename_i ll h3
        split at hx
        ·cases hx
        ·rename_i h4
         obtain⟨k1,k2,k3,k4,k5⟩:=fX (P:=P) (w:=w) (isS:=true) (len:=0) (cap:=0) (c:=c) (Nat.zero_le _) (m:=m) (h:=hh) (l:=ll) hlo.1 hlo.2 hhi.1 hhi.2 hmx.1 hmx.2 h1 h2 h3 h4 (Nat.le_refl _)
         injection hx with hx
         subst hx
         have z1:hh.getD 0=0:=by omega
         have z2:ll.getD 0=0:=by omega
         have hmc:m.getD c≤c:=by
          cases m with
          | none=>simp
          | some m=>simp only[Option.getD_some]at k4 ⊢;omega
         rw[z1,z2]at k1
         by_cases e0:m.getD c=0
         ·refine .pure h (v := .slice (some ⟨L.b,o,none⟩) 0 0) ?_ (.emp _ _ _ L o 0 hL (by omega) (by omega))
          simp[Instr.sliceAt,Instr.slice,e1,k1,e2,e0]
         ·have q4:m.getD c*j.size≤c*j.size:=Nat.mul_le_mul_right _ hmc
          refine .pure h (v := .slice (some ⟨L.b,o,none⟩) 0 (m.getD c)) ?_ (.emp _ _ _ L o _ hL (by omega) (by omega))
          simp[Instr.sliceAt,Instr.slice,e1,k1,e2,e0,bC]
  ·rename_i e hd
   rw[hd]at e1
   cases hu with
   | nils=>
   split at hx
   ·cases hx
   ·rename_i j hj
    have e2:=ht.run_size hj w
    split at hx
    ·cases hx
    ·rename_i m h1
     split at hx
     ·cases hx
     ·rename_i hh h2
      split at hx
      ·cases hx
      ·rename_i ll h3
       split at hx
       ·cases hx
       ·rename_i h4
        injection hx with hx
        subst hx
        have hb0:∀ (o:Option ah) (r:Option Nat),aT 0 o=some r→r.getD 0=0:=by
         intro o r ho
         cases o with
         | none=>simp[aT]at ho;subst ho;rfl
         | some y=>cases y<;>simp[aT]at ho;obtain⟨ho1,ho2⟩:=ho;subst ho2;simp;omega
        have m0:=hb0 _ _ h1
        have hh0:=hb0 _ _ h2
        have ll0:=hb0 _ _ h3
        obtain⟨k1,k2,k3,k4,k5⟩:=fX (P:=P) (w:=w) (Nat.le_refl _) (isS:=true) (len:=0) (cap:=0) (m:=m) (h:=hh) (l:=ll) hlo.1 hlo.2 hhi.1 hhi.2 hmx.1 hmx.2 h1 (by rw[m0];exact h2) (by rw[hh0];exact h3) h4 (Nat.le_refl _)
        rw[m0,hh0,ll0]at k1
        refine .pure h ?_ .nils
        simp[Instr.sliceAt,Instr.slice,e1,k1,e2]
  ·rename_i n e id ver off lim hd
   rw[hd]at e1
   cases hu with
   | ptr _ _ _ _ L hL hl=>
   split at hx
   ·cases hx
   ·rename_i j hj
    have e2:=ht.run_size hj w
    split at hx
    ·cases hx
    ·have hm':=hmx.2 rfl
     subst hm'
     split at hx
     ·cases hx
     ·rename_i hh h2
      split at hx
      ·cases hx
      ·rename_i ll h3
       split at hx
       ·rename_i h4
        injection hx with hx
        subst hx
        obtain⟨k1,k2,k3,-,-⟩:=fX (P:=P) (w:=w) (Nat.le_refl _) (isS:=false) (len:=n) (cap:=n) (m:=none) (mx:=none) (mx':=none) hlo.1 hlo.2 hhi.1 hhi.2 (by simp) (by simp) rfl h2 h3 (by simp) (Nat.le_refl _)
        simp only[Option.getD_none]at k1 k3
        have hmul:ll.getD 0*j.size+(n-ll.getD 0)*j.size=n*j.size:=by rw[←Nat.add_mul];congr 1;omega
        refine .pure h (v := .slice (some ⟨L.b,off+ll.getD 0*j.size,none⟩) (hh.getD n-ll.getD 0) (n-ll.getD 0)) ?_ (.slc _ _ _ _ _ _ _ L _ hL (by omega) (by omega) ⟨Nat.le_refl _,by omega⟩ (by have:=(h.dom _ _ _ hL).2;omega) (fun _=>rfl))
        simp[Instr.sliceAt,e1,Instr.sureAddr,k1,e2,h4.2.2.1,bC]
       ·cases hx
  ·cases hx
 ·cases hx
end
section
section
variable {P:Program} {w w':World} {t xt ty e:TypeId} {d:TypeDesc} {I:TypeInfo} {z:Value} {size m sLen sCap:Nat} {vs olds:List Value} {x:Value}
def GG:TypeDesc→Bool
 | .int _=>true
 | _=>false
def Ez:TypeDesc→Bool
 | .slice _ | .string=>true
 | _=>false
theorem nF (hd:Ez d=true):(∃ e,d = .slice e)∨d = .string:=by cases d<;>first | exact .inl ⟨_,rfl⟩ | exact .inr rfl | cases hd
theorem sU (hd:GG d=true):∃ k,d = .int k:=by cases d<;>first | exact⟨_,rfl⟩ | cases hd
set_option maxHeartbeats 1000000 in
theorem mm (ht:P.underlying t=some (.slice e)) (hu:P.underlying xt=some d) (hd:Ez d=true) (hi:P.info? e=some I) (hl:(Builtin.lenOf x).run P w = .ok m w) (hf:(Builtin.firstCells I.size m x).run P w = .ok ⟨vs⟩ w) {a:Addr}
 (hs:(storeCells (a.add (sLen*I.size)) vs).run P w = .ok () w') (hroom:sLen+m≤sCap):(Builtin.append_ #[t,xt] ty #[.slice (some a) sLen sCap,x]).run P w = .ok (.slice (some a) (sLen+m) sCap) w':=by
 rcases nF hd with⟨e',rfl⟩ | rfl<;>simp[Builtin.append_,run_underlying ht,run_underlying hu,sizeOf,typeInfo,hi,hl,hroom,hf,hs]
set_option maxHeartbeats 1000000 in
theorem mB (ht:P.underlying t=some (.slice e)) (hu:P.underlying xt=some d) (hd:Ez d=true) (hi:P.info? e=some I) (hl:(Builtin.lenOf x).run P w = .ok 0 w) (hf:(Builtin.firstCells I.size 0 x).run P w = .ok #[] w) {b:Option Addr}
 (hroom:sLen≤sCap):(Builtin.append_ #[t,xt] ty #[.slice b sLen sCap,x]).run P w = .ok (.slice b sLen sCap) w:=by
 cases b<;>rcases nF hd with⟨e',rfl⟩ | rfl<;>simp[Builtin.append_,run_underlying ht,run_underlying hu,sizeOf,typeInfo,hi,hl,hroom,hf,storeCells]
set_option maxHeartbeats 1000000 in
theorem iR (ht:P.underlying t=some (.slice e)) (hu:P.underlying xt=some d) (hd:Ez d=true) (hi:P.info? e=some I) (hz:I.zero=some z) (hl:(Builtin.lenOf x).run P w = .ok m w) (hf:(Builtin.firstCells I.size m x).run P w.drew = .ok ⟨vs⟩ w.drew) {b:Option Addr}
 (hfo:(Builtin.firstCells I.size sLen (.slice b sLen sCap)).run P w.drew = .ok ⟨olds⟩ w.drew) (hroom:sCap<sLen+m) (h63:sLen+m≤1048576) (hb:I.bytes≤1048576):
 (Builtin.append_ #[t,xt] ty #[.slice b sLen sCap,x]).run P w = .ok (.slice (some ⟨w.heap.size,0,none⟩) (sLen+m) (grownCap w (sLen+m) sCap e)) (w.drew.alloc (.cells ⟨olds++vs++(Builtin.zeroCells z.cells (grownCap w (sLen+m) sCap e-(sLen+m))).toList⟩ e)):=by
 have hn:¬ (sLen+m≤sCap):=by omega
 have h63':¬ (9223372036854775807<((sLen:Int)+(m:Int))):=by omega
 have hmul:(sLen+m)*I.bytes≤1048576*1048576:=Nat.mul_le_mul h63 hb
 have h48:=growslice_fits (bytes:=I.bytes) hroom (by omega)
 have h48':¬ (281474976710656<Builtin.nextslicecap (sLen+m) sCap*I.bytes):=by omega
 rcases nF hd with⟨e',rfl⟩ | rfl<;>simp[Builtin.append_,run_underlying ht,run_underlying hu,sizeOf,typeInfo,zeroValue,hi,hz,hl,hn,h63',h48',Question.forced,hf,hfo,newRow,grownCap]<;>(congr 2;apply Array.ext';simp[List.append_assoc])
set_option maxHeartbeats 1000000 in
theorem Fc (ht:P.underlying t=some (.slice e)) (hu:P.underlying xt=some d) (hd:GG d=true) (hi:P.info? e=some I) (hz:I.zero=some z) {k:IntKind} (hm:m*I.size≠0) (h1:m≤1048576) (h2:I.bytes≤1048576) {a:Addr}
 (hs:(storeCells (a.add (sLen*I.size)) (Builtin.zeroCells z.cells m).toList).run P w = .ok () w') (hroom:sLen+m≤sCap):(Builtin.append_ #[t,xt] ty #[.slice (some a) sLen sCap,.int k (m:Int)]).run P w = .ok (.slice (some a) (sLen+m) sCap) w':=by
 obtain⟨k',rfl⟩:=sU hd
 have hw:IntKind.i64.wrap (m:Int)=(m:Int):=by rw[IntKind.wrap_i64];omega
 have hmul:m*I.bytes≤1048576*1048576:=Nat.mul_le_mul h1 h2
 have h3:¬ ((281474976710656:Int)<(m:Int)*(I.bytes:Int)):=by rw[←Int.natCast_mul];omega
 have hm3:¬ ((m:Int)<0):=by omega
 have hm4:¬ (m*I.size=0):=hm
 have hm0:¬ (m=0∨I.size=0):=by rw[←Nat.mul_eq_zero];exact hm
 have hm1:¬ m=0:=fun h=>hm0 (.inl h)
 have hm2:¬ I.size=0:=fun h=>hm0 (.inr h)
 simp[Builtin.append_,run_underlying ht,run_underlying hu,sizeOf,typeInfo,hi,asInt,asIntOf,hw,h3,hroom,hm1,hm2,hm3,hm4,zeroValue,hz,hs]
set_option maxHeartbeats 1000000 in
theorem rZ (ht:P.underlying t=some (.slice e)) (hu:P.underlying xt=some d) (hd:GG d=true) (hi:P.info? e=some I) (hz:I.zero=some z) {k:IntKind} (hm:m*I.size≠0) {b:Option Addr}
 (hfo:(Builtin.firstCells I.size sLen (.slice b sLen sCap)).run P w.drew = .ok ⟨olds⟩ w.drew) (hroom:sCap<sLen+m) (h63:sLen+m≤1048576) (hb:I.bytes≤1048576):
 (Builtin.append_ #[t,xt] ty #[.slice b sLen sCap,.int k (m:Int)]).run P w = .ok (.slice (some ⟨w.heap.size,0,none⟩) (sLen+m) (grownCap w (sLen+m) sCap e)) (w.drew.alloc (.cells ⟨olds++(Builtin.zeroCells z.cells m).toList++(Builtin.zeroCells z.cells (grownCap w (sLen+m) sCap e-(sLen+m))).toList⟩ e)):=by
 obtain⟨k',rfl⟩:=sU hd
 have hw:IntKind.i64.wrap (m:Int)=(m:Int):=by rw[IntKind.wrap_i64];omega
 have hmul0:m*I.bytes≤1048576*1048576:=Nat.mul_le_mul (by omega) hb
 have h3:¬ ((281474976710656:Int)<(m:Int)*(I.bytes:Int)):=by rw[←Int.natCast_mul];omega
 have hm3:¬ ((m:Int)<0):=by omega
 have hm4:¬ (m*I.size=0):=hm
 have hm0:¬ (m=0∨I.size=0):=by rw[←Nat.mul_eq_zero];exact hm
 have hm1:¬ m=0:=fun h=>hm0 (.inl h)
 have hm2:¬ I.size=0:=fun h=>hm0 (.inr h)
 have hn:¬ (sLen+m≤sCap):=by omega
 have h63':¬ (9223372036854775807<((sLen:Int)+(m:Int))):=by omega
 have hmul:(sLen+m)*I.bytes≤1048576*1048576:=Nat.mul_le_mul h63 hb
 have h48:=growslice_fits (bytes:=I.bytes) hroom (by omega)
 have h48':¬ (281474976710656<Builtin.nextslicecap (sLen+m) sCap*I.bytes):=by omega
 simp[Builtin.append_,run_underlying ht,run_underlying hu,sizeOf,typeInfo,zeroValue,hi,hz,asInt,asIntOf,hw,h3,hm1,hm2,hm3,hm4,hn,h63',h48',Question.forced,hfo,newRow,grownCap]
 congr 2
 apply Array.ext'
 simp[List.append_assoc]
end
end
section
theorem uc {P:Program} {b:Nat} {t:TypeId} {fr:Nat×Nat}:∀ (vs:List Value) (w:World) (C:Array Value) (a:Addr) (off i:Nat) (ha:∀ j,a.add (i+j)=⟨b,off+j,none⟩) (hb:w.heap[b]?=some (.cells C t fr)) (hfr:fr.1≠fr.2→C.size≤fr.1) (ho:off+vs.length≤C.size) (h1:∀ u ∈ vs,u.oneCell'=true),
 ∃ (w':World) (C':Array Value),(storeCells a vs i).run P w = .ok () w'∧w'.heap[b]?=some (.cells C' t fr)∧C'.size=C.size∧(∀ j,j<off→C'[j]?=C[j]?)∧(∀ j,off+vs.length≤j→C'[j]?=C[j]?)∧(∀ (j:Nat) u,vs[j]?=some u→C'[off+j]?=some u) ∧
   (∀ b',b'≠b→w'.heap[b']?=w.heap[b']?)∧w'.heap.size=w.heap.size∧w'.os=w.os∧w'.tape=w.tape∧w'.output=w.output
 | [],w,C,a,off,i,ha,hb,hfr,ho,h1=>⟨w,C,rfl,hb,rfl,fun _ _=>rfl,fun _ _=>rfl,fun j u h=>by simp at h,fun _ _=>rfl,rfl,rfl,rfl,rfl⟩
 | v::vs,w,C,a,off,i,ha,hb,hfr,ho,h1=>by
   simp only[List.length_cons]at ho
   have ha0:a.add i=⟨b,off,none⟩:=by simpa using ha 0
   have hc:w.cell? ⟨b,off,none⟩=some (C[off]'(by omega)):=by rw[cell_of_heap hb];exact Array.getElem?_eq_getElem (by omega)
   have hz:=frozen_of_heap hb hfr (off:=off) (by omega)
   obtain⟨w',C',k1,k2,k3,k4,k5,k6,k7,k8,k9,k10,k11⟩:=uc (P:=P) vs (w.setCell ⟨b,off,none⟩ v) (C.setIfInBounds off v) a (off+1) (i+1) (fun j=>by rw[Nat.add_assoc,Nat.add_assoc];exact ha (1+j)) (by rw[bZ,if_pos rfl,hb]) (by simpa using hfr) (by simp;omega) (fun u hu=>h1 u (by simp[hu]))
   refine⟨w',C',?_,k2,by simpa using k3,fun j hj=>?_,fun j hj=>?_,fun j u hj=>?_,fun b' hb'=>?_,by rw[k8];simp[World.setCell],k9,k10,k11⟩
   ·unfold storeCells
    rw[Sem.run_bind,run_store _ _ _ _ _ (h1 v (by simp)),ha0,hc]
    simp only[hz,Bool.false_eq_true,if_false,Result.andThen_ok]
    exact k1
   ·rw[k4 j (by omega),Array.getElem?_setIfInBounds_ne (by omega)]
   ·rw[List.length_cons]at hj
    rw[k5 j (by omega),Array.getElem?_setIfInBounds_ne (by omega)]
   ·cases j with
    | zero=>
      simp at hj
      subst hj
      rw[Nat.add_zero,k4 off (by omega),Array.getElem?_setIfInBounds_self_of_lt (by omega)]
    | succ j=>
      rw[show off+(j+1)=off+1+j from by omega]
      exact k6 j u (by simpa using hj)
   ·rw[k7 b' hb',bZ,if_neg (fun e=>hb' e.symm)]
def pT (H:af) (id ver n:Nat) (xs:List ah):Option af:=
 match H.get id with
 | some r=>if r.ver=ver∧r.lo≤r.ver∧r.cells.length=n∧ah.ones xs=true then some (H.put id { r with cells:=r.cells++xs,ver:=ver+1 }) else none
 | none=>none
theorem rS.mono' {ρ ρ':Rho} {H:af} {w w':World} (h:rS ρ H w) (hw:∀ id L,ρ' id 0=some L→ρ id 0=some L∧gZ w' L.b=gZ w L.b):rS ρ' H w':=fun id L r h1 h2=>(h id L r (hw id L h1).1 h2).mono (hw id L h1).2
theorem HR.grown {ρ:Rho} {H:af} {w w':World} (h:HR ρ H w) {id:Nat} {L L':Loc} {r:bH} (hL:ρ id r.ver=some L) (hr:H.get id=some r) (xs:List ah)
 (hb:(L'.b=L.b∧L'.n=L.n)∨L'.b=w.heap.size) (he:L'.ext=r.cells.length+xs.length) (hn:L'.ext≤L'.n)
 (hsz:w.heap.size≤w'.heap.size) (hlt:L'.b<w'.heap.size) (hos:w'.os=w.os) (hta:w'.tape=w.tape) (hou:w'.output=w.output)
 (htt:L'.b=L.b→gZ w' L'.b=gZ w L'.b) (hoth:∀ b,b<w.heap.size→b≠L'.b→w'.heap[b]?=w.heap[b]?)
 (hnew:∃ C t fr,w'.heap[L'.b]?=some (.cells C t fr)∧C.size=L'.n∧(fr.1≠fr.2→L'.n≤fr.1) ∧ ∀ j x,j<L'.ext→(r.cells++xs)[j]?=some x → ∃ u,C[j]?=some u∧u.oneCell'=true∧VR ρ x u):
 HR (ρ.add id (r.ver+1) L') (H.put id { r with cells:=r.cells++xs,ver:=r.ver+1 }) w'∧Ext ρ H w (ρ.add id (r.ver+1) L') (H.put id { r with cells:=r.cells++xs,ver:=r.ver+1 }) w':=by
 have hnone:ρ id (r.ver+1)=none:=by
  cases hc:ρ id (r.ver+1) with
  | none=>rfl
  | some L2=>have:=(h.row _ _ _ _ hc hr).1;omega
 have hle:ρ.le (ρ.add id (r.ver+1) L'):=Rho.add_le hnone
 have hk:(H.get id).isSome=true:=by rw[hr];rfl
 have key:∀ i v M,ρ i v=some M→M.b=L'.b→i=id:=by
  intro i v M hM e
  rcases hb with hb | hb
  ·exact h.inj _ _ _ _ _ _ hM hL (e.trans hb.1)
  ·have:=(h.dom _ _ _ hM).1;omega
 obtain⟨C,t,fr,n1,n2,n3,n4⟩:=hnew
 refine⟨⟨h.ok.put hr _,fun i v M hM=>?_,fun i v M i' v' M' hM hM' e=>?_,fun i v M r' hM hr'=>?_,h.gl.keep hsz (fun b hlb hne=>hoth b hlb (fun e=>by
  rcases hb with hb | hb
  ·exact hne _ _ _ hL (by rw[e,hb.1])
  ·omega)) (fun i v M hM=>by
  rcases Rho.add_cases hM with⟨-,-,rfl⟩ | hN
  ·rcases hb with hb | hb
   ·exact .inl ⟨_,_,_,hL,hb.1.symm⟩
   ·exact .inr (by omega)
  ·exact .inl ⟨_,_,_,hN,rfl⟩),(h.ty.put h.ok hr (r':={ r with cells:=r.cells++xs,ver:=r.ver+1 }) rfl).mono' (fun i M hM=>by
  rcases Rho.add_cases hM with⟨-,e,-⟩ | hN
  ·omega
  ·refine⟨hN,?_⟩
   have hd:=(h.dom _ _ _ hN).1
   by_cases e:M.b=L'.b
   ·rw[e]
    refine htt ?_
    rcases hb with hb | hb
    ·exact hb.1
    ·omega
   ·exact iq (hoth _ hd e))⟩,⟨hle,Nat.le_refl _,(Ext.put (ρ:=ρ) (w:=w) h.ok hr).rows,(Ext.put (ρ:=ρ) (w:=w) h.ok hr).keep,fun i v M hM hn'=>?_,fun i v M hM hn'=>?_,fun b hb' hne=>?_,hsz,hos,hta,hou⟩⟩
 ·rcases Rho.add_cases hM with⟨-,-,rfl⟩ | hN
  ·exact⟨hlt,hn⟩
  ·have:=h.dom _ _ _ hN;exact⟨by omega,this.2⟩
 ·rcases Rho.add_cases hM with⟨rfl,rfl,rfl⟩ | hN
  ·rcases Rho.add_cases hM' with⟨rfl,rfl,rfl⟩ | hN'
   ·rfl
   ·exact(key _ _ _ hN' e.symm).symm
  ·rcases Rho.add_cases hM' with⟨rfl,rfl,rfl⟩ | hN'
   ·exact key _ _ _ hN e
   ·exact h.inj _ _ _ _ _ _ hN hN' e
 ·rw[af.get_put h.ok hr]at hr'
  rcases Rho.add_cases hM with⟨rfl,rfl,rfl⟩ | hN
  ·rw[if_pos rfl]at hr'
   injection hr' with hr'
   subst hr'
   refine⟨Nat.le_refl _,hn,C,t,fr,n1,n2,n3,fun _=>by simp[he],fun _=>⟨by simp[he],fun j x hj hx=>?_⟩⟩
   obtain⟨u,q1,q2,q3⟩:=n4 j x hj hx
   exact⟨u,q1,q2,q3.mono hle⟩
  ·by_cases e:i=id
   ·subst e
    rw[if_pos rfl]at hr'
    injection hr' with hr'
    subst hr'
    obtain⟨a2,a3,C0,t0,fr0,a4,a5,a6,a7,a8⟩:=h.row _ _ _ _ hN hr
    by_cases eb:M.b=L'.b
    ·refine⟨by simp only;omega,a3,C,t,fr,by rw[eb];exact n1,?_,?_,fun hv=>by simp only at hv;omega,fun hl=>?_⟩
     ·rcases hb with hb | hb
      ·rw[n2,hb.2]
       obtain⟨c2,c3,C1,t1,fr1,c4,c5,-⟩:=h.row _ _ _ _ hL hr
       rw[eb,hb.1,c4]at a4
       injection a4 with a4
       injection a4 with e1 e2 e3
       subst e1
       omega
      ·have:=(h.dom _ _ _ hN).1;omega
     ·rcases hb with hb | hb
      ·obtain⟨c2,c3,C1,t1,fr1,c4,c5,-⟩:=h.row _ _ _ _ hL hr
       rw[eb,hb.1,c4]at a4
       injection a4 with a4
       injection a4 with e1 e2 e3
       subst e1
       intro hf
       have:=n3 hf
       omega
      ·have:=(h.dom _ _ _ hN).1;omega
     ·obtain⟨d1,d2⟩:=a8 hl
      refine⟨by simp only[List.length_append];omega,fun j x hj hx=>?_⟩
      obtain⟨u,q1,q2,q3⟩:=n4 j x (by omega) hx
      exact⟨u,q1,q2,q3.mono hle⟩
    ·refine⟨by simp only;omega,a3,C0,t0,fr0,by rw[hoth _ (h.dom _ _ _ hN).1 eb];exact a4,a5,a6,fun hv=>by simp only at hv;omega,fun hl=>?_⟩
     obtain⟨d1,d2⟩:=a8 hl
     refine⟨by simp only[List.length_append];omega,fun j x hj hx=>?_⟩
     simp only at hx
     rw[List.getElem?_append_left (by omega)]at hx
     obtain⟨u,q1,q2,q3⟩:=d2 j x hj hx
     exact⟨u,q1,q2,q3.mono hle⟩
   ·rw[if_neg e]at hr'
    exact(h.row _ _ _ _ hN hr').mono hle (hoth _ (h.dom _ _ _ hN).1 (fun eb=>e (key _ _ _ hN eb)))
 ·rcases Rho.add_cases hM with⟨rfl,rfl,rfl⟩ | hN
  ·exact .inr ⟨hk,r.ver,L,hL⟩
  ·rw[hN]at hn';cases hn'
 ·rcases Rho.add_cases hM with⟨rfl,rfl,rfl⟩ | hN
  ·rcases hb with hb | hb
   ·exact .inr ⟨r.ver,L,hL,hb.1.symm,hk⟩
   ·exact .inl (by omega)
  ·rw[hN]at hn';cases hn'
 ·refine hoth b hb' (fun e=>?_)
  rcases hb with hb | hb
  ·exact hne id r.ver L hL hk (by omega)
  ·omega
theorem Dq {P:Program} {ρ:Rho} {H H':af} {w:World} (h:HR ρ H w) {id ver n:Nat} {L:Loc} (hL:ρ id ver=some L) {xs:List ah} {vs:List Value} (hx:VRs ρ xs vs) (hg:pT H id ver n xs=some H') (hroom:n+xs.length≤L.n):
 ∃ w',(storeCells ⟨L.b,n,none⟩ vs).run P w = .ok () w'∧HR (ρ.add id (ver+1) ⟨L.b,L.n,n+xs.length⟩) H' w'∧Ext ρ H w (ρ.add id (ver+1) ⟨L.b,L.n,n+xs.length⟩) H' w':=by
 unfold pT at hg
 split at hg
 ·rename_i r hr
  split at hg
  ·rename_i hc
   obtain⟨rfl,c1,c2,c3⟩:=hc
   injection hg with hg
   subst hg
   obtain⟨a2,a3,C,t,fr,a4,a5,a6,a7,a8⟩:=h.row _ _ _ _ hL hr
   have hlen:=hx.length
   obtain⟨w',C',k1,k2,k3,k4,k5,k6,k7,k8,k9,k10,k11⟩:=uc (P:=P) vs w C ⟨L.b,n,none⟩ n 0 (fun j=>by rw[bC,Nat.zero_add]) a4 (by rw[a5];exact a6) (by omega) (hx.ones c3)
   have hd:=(h.dom _ _ _ hL).1
   have:=h.grown (L':=⟨L.b,L.n,n+xs.length⟩) (w':=w') hL hr xs (.inl ⟨rfl,rfl⟩) (by simp only;omega) hroom (by omega) (by rw[k8];exact hd) k9 k10 k11 (fun _=>by unfold gZ;rw[k2,a4]) (fun b hb hne=>k7 b hne) ⟨C',t,fr,k2,(by show C'.size=L.n;omega),a6,fun j x hj hxj=>by
    by_cases hjl:j<r.cells.length
    ·rw[List.getElem?_append_left hjl]at hxj
     obtain⟨u,q1,q2,q3⟩:=(a8 c1).2 j x (by have:=a7 rfl;omega) hxj
     exact⟨u,(k4 j (by omega)).trans q1,q2,q3⟩
    ·rw[List.getElem?_append_right (by omega)]at hxj
     obtain⟨u,q1,q2⟩:=hx.get hxj
     refine⟨u,?_,hx.ones c3 u (List.mem_of_getElem? q1),q2⟩
     have:=k6 _ u q1
     rw[show n+(j-r.cells.length)=j from by omega]at this
     exact this⟩
   exact⟨w',k1,this⟩
  ·cases hg
 ·cases hg
theorem Be {ρ:Rho} {H H':af} {w:World} (h:HR ρ H w) {id ver n:Nat} {L:Loc} (hL:ρ id ver=some L) {olds xs:List ah} {os vs more:List Value} (ho:VRs ρ olds os) (hx:VRs ρ xs vs) (hg:pT H id ver n xs=some H') (hold:fH H id ver 0 n=some olds) (t:TypeId):
 HR (ρ.add id (ver+1) ⟨w.heap.size,(os++vs++more).length,n+xs.length⟩) H' (w.alloc (.cells ⟨os++vs++more⟩ t))∧Ext ρ H w (ρ.add id (ver+1) ⟨w.heap.size,(os++vs++more).length,n+xs.length⟩) H' (w.alloc (.cells ⟨os++vs++more⟩ t)):=by
 unfold pT at hg
 rw[vJ]at hold
 split at hg
 ·rename_i r hr
  rw[hr]at hold
  split at hg
  ·rename_i hc
   obtain⟨rfl,c1,c2,c3⟩:=hc
   injection hg with hg
   subst hg
   simp only[if_pos c1,List.drop_zero]at hold
   split at hold
   ·rename_i hln
    injection hold with hold
    have e:r.cells=olds:=by rw[←hold,List.take_of_length_le (by omega)]
    subst e
    have hl1:=ho.length
    have hl2:=hx.length
    refine h.grown (L':=⟨w.heap.size,(os++vs++more).length,n+xs.length⟩) hL hr xs (.inr rfl) (by simp only;omega) (by simp;omega) (by simp) (by simp) rfl rfl rfl (fun e=>by have:=(h.dom _ _ _ hL).1;simp only at e;omega) (fun b hb hne=>by rw[dh,if_neg (by omega)]) ⟨_,t,(0,0),by rw[dh,if_pos rfl],rfl,by simp,fun j x hj hxj=>?_⟩
    have ha:=ho.append hx
    obtain⟨u,q1,q2⟩:=ha.get hxj
    refine⟨u,?_,?_,q2⟩
    ·have:(os++vs++more)[j]?=some u:=by rw[List.getElem?_append_left (by rw[ha.length];exact(List.getElem?_eq_some_iff.1 hxj).1)];exact q1
     simpa using this
    ·by_cases hjl:j<os.length
     ·rw[List.getElem?_append_left hjl]at q1
      obtain⟨a2,a3,C,t',fr,a4,a5,a6,a7,a8⟩:=h.row _ _ _ _ hL hr
      rw[List.getElem?_append_left (by omega)]at hxj
      rw[q2.one]
      obtain⟨u',z1,z2,z3⟩:=(a8 c1).2 j x (by have:=a7 rfl;omega) hxj
      rw[←z3.one]
      exact z2
     ·rw[List.getElem?_append_right (by omega)]at q1
      exact hx.ones c3 u (List.mem_of_getElem? q1)
   ·cases hold
  ·cases hg
 ·cases hg
end
section
theorem iA {w:World} {need old:Nat} {e:TypeId} (h:need≤1048576):grownCap w need old e≤9223372036854775807:=grownCap_le_maxLen w need old e (Nat.le_trans h (by decide))
def rH (zc:List ah):Nat→List ah
 | 0 => []
 | n+1=>zc++rH zc n
theorem dP (zc:List ah):∀ n,(rH zc n).length=n*zc.length
 | 0=>by simp[rH]
 | n+1=>by rw[rH,List.length_append,dP zc n,Nat.succ_mul];omega
theorem yd (zc:List ah):∀ (n i:Nat),i<n*zc.length→(rH zc n)[i]?=zc[i%zc.length]?
 | 0,i,h=>by omega
 | n+1,i,h=>by
   rw[rH]
   rw[Nat.succ_mul]at h
   by_cases hi:i<zc.length
   ·rw[List.getElem?_append_left hi,Nat.mod_eq_of_lt hi]
   ·rw[List.getElem?_append_right (by omega),yd zc n (i-zc.length) (by omega),←Nat.mod_eq_sub_mod (by omega)]
theorem iM {ρ:Rho} {z:Value} {zx:ah} (h:VR ρ zx z) (n:Nat):VRs ρ (rH zx.cells n) (Builtin.zeroCells z.cells n).toList:=by
 have hc:=h.cells
 have hl:=hc.length
 rw[Array.length_toList (xs:=z.cells)]at hl
 refine VRs.of_get ?_ (fun i x hx=>?_)
 ·rw[Array.length_toList,size_zeroCells,dP,hl]
 ·have hi:i<n*zx.cells.length:=by
   have:=(List.getElem?_eq_some_iff.1 hx).1
   rwa [dP]at this
  rw[yd _ _ _ hi]at hx
  obtain⟨v,k1,k2⟩:=hc.get hx
  refine⟨v,?_,k2⟩
  have hp:i%z.cells.size<z.cells.size:=Nat.mod_lt _ (by rw[hl];rcases Nat.eq_zero_or_pos zx.cells.length with h0 | h0;(rw[h0]at hi;omega);exact h0)
  simp only[Builtin.zeroCells,Array.toList_map,List.getElem?_map,Array.toList_range]
  rw[List.getElem?_range (by rw[hl];exact hi),Option.map_some]
  congr 1
  rw[getElem!_pos z.cells _ hp]
  rw[←hl]at k1
  have:z.cells[i%z.cells.size]?=some v:=by simpa using k1
  rw[Array.getElem?_eq_getElem hp]at this
  injection this
def fI (H:af) (sz:Nat):ah→Option (Nat×List ah)
 | .nils=>some (0,[])
 | .emp _ _ _=>some (0,[])
 | .slc id ver off len cap z _=>if z=sz then(fH H id ver off (len*sz)).map fun xs=>(len,xs) else none
 | .str s=>if sz=1 then some (s.length,s.map fun b=>.int .u8 (b.toNat:Int)) else none
 | _=>none
theorem fN {ρ:Rho}:∀ s:List UInt8,VRs ρ (s.map fun b=>ah.int .u8 (b.toNat:Int)) (s.map fun b=>Value.int .u8 (b.toNat:Int))
 | []=>.nil
 | b::s=>.cons _ _ _ _ (.int _ _) (fN s)
theorem Bl {P:Program} (size:Nat) (s:List UInt8) (w:World):(Builtin.firstCells size s.length (.string ⟨⟨s⟩⟩)).run P w = .ok ⟨s.map fun b=>Value.int .u8 (b.toNat:Int)⟩ w:=by
 unfold Builtin.firstCells
 have:((⟨⟨s⟩⟩:ByteArray).extract 0 s.length).data=⟨s⟩:=by rw[gI];simp
 simp[this]
theorem mO {P:Program} {ρ:Rho} {H:af} {w:World} (h:HR ρ H w) {sz m:Nat} {x:ah} {v:Value} {xs:List ah} (hv:VR ρ x v) (hn:fI H sz x=some (m,xs)):(Builtin.lenOf v).run P w = .ok m w ∧ ∃ vs,VRs ρ xs vs∧(Builtin.firstCells sz m v).run P w = .ok ⟨vs⟩ w∧(m=0→vs = []):=by
 cases hv with
 | nils=>
   simp only[fI]at hn
   injection hn with hn
   injection hn with h1 h2
   subst h1 h2
   exact⟨rfl,[],.nil,rfl,fun _=>rfl⟩
 | emp=>
   simp only[fI]at hn
   injection hn with hn
   injection hn with h1 h2
   subst h1 h2
   exact⟨rfl,[],.nil,by simp[Builtin.firstCells,loadCells,loadCellsFrom],fun _=>rfl⟩
 | str s=>
   simp only[fI]at hn
   split at hn
   ·rename_i h1
    injection hn with hn
    injection hn with h2 h3
    subst h1 h2 h3
    exact⟨rfl,_,fN s,Bl _ _ _,fun h=>by rw[List.eq_nil_of_length_eq_zero h];rfl⟩
   ·cases hn
 | slc id ver off len cap z ex L c hL h1 h2 h3 h4 h5=>
   simp only[fI]at hn
   split at hn
   ·rename_i hz
    subst hz
    obtain⟨ys,k1,k2⟩:=Option.map_eq_some_iff.1 hn
    injection k2 with k2 k3
    subst k2 k3
    have hm:len*z≤cap*z:=Nat.mul_le_mul_right _ h1
    obtain⟨vs,q1,q2,q3,q4,q5⟩:=dj (P:=P) h hL (by omega) k1
    exact⟨rfl,vs,q1,q5,fun h0=>by subst h0;simpa using q2⟩
   ·cases hn
 | _=>simp[fI]at hn
def mJ (tt:TypeId→Option TI) (H:af) (t xt:TypeId) (s x:ah):Option (ah×af):=
 match tt t,tt xt with
 | some i,some d=>match i.und with
   | .slice e=>match tt e with
     | some j=>if j.bytes≤1048576∧Ez d.und ∧ ¬ e=wu then match fI H j.size x with
       | some (m,news)=>match s with
         | .nils=>if m=0 then some (.nils,H) else if m≤1048576∧m*j.size=news.length then(ji H e news).map fun H'=>(.slc H.next 0 0 m m j.size false,H') else none
         | .slc id ver off len cap sz ex=>if sz=j.size∧m*sz=news.length then
          (if m=0 then some (s,H) else if len+m≤cap then(jM H id ver (off+len*sz) news).map fun H'=>(.slc id ver off (len+m) cap sz ex,H')
          else if len+m≤1048576 then(if ex then(match fH H id ver off (len*sz) with
           | some olds=>(ji H e (olds++news)).map fun H'=>(.slc H.next 0 0 (len+m) (len+m) sz false,H')
           | none=>none) else if off=0∧len=cap∧(fH H id ver 0 (len*sz)).isSome then(pT H id ver (len*sz) news).map fun H'=>(.slc id (ver+1) 0 (len+m) (len+m) sz false,H') else none) else none) else none
         | _=>none
       | none=>none
       else none
     | none=>none
   | _=>none
 | _,_=>none
theorem fT {w:World} {need old:Nat} {e:TypeId}:need≤grownCap w need old e:=grownCap_ge w need old e
set_option maxHeartbeats 1000000 in
theorem yP {P:Program} {tt:TypeId→Option TI} (ht:cO P tt) (hzs:∀ e j,tt e=some j→j.zero.cells.size=j.size) {ρ:Rho} {H H':af} {w:World} (h:HR ρ H w) {t xt ty:TypeId} {s x y:ah} {sv xv:Value} (hs:VR ρ s sv) (hx:VR ρ x xv) (ha:mJ tt H t xt s x=some (y,H')) (hf:bR ρ H.next H'.next):
 cw P (Builtin.append_ #[t,xt] ty #[sv,xv]) ρ H w y H':=by
 unfold mJ at ha
 split at ha
 ·rename_i i d hi hd
  split at ha
  ·rename_i e hu
   split at ha
   ·rename_i j hj
    split at ha
    ·rename_i hc
     obtain⟨hc1,hc2,hbx⟩:=hc
     split at ha
     ·rename_i m news hnw
      obtain⟨_,_,e1,_⟩:=ht t i hi
      obtain⟨_,_,e2,_⟩:=ht xt d hd
      obtain⟨I,e3,e4,e5,e6,e7⟩:=ht e j hj
      rw[hu]at e1
      have hd0:HR ρ H w.drew:=h.of_heap rfl
      obtain⟨n1,vs,n2,n3,n4⟩:=mO (P:=P) h hx hnw
      obtain⟨-,vs',n2',n3',-⟩:=mO (P:=P) hd0 hx hnw
      have hvs:=n2.length
      have hvs':=n2'.length
      have hzz:=hzs e j hj
      split at ha
      ·cases hs with
       | nils=>
       split at ha
       ·rename_i hm
        subst hm
        injection ha with ha
        injection ha with h1 h2
        subst h1 h2
        have hvn:=n4 rfl
        subst hvn
        exact .pure h (mB e1 e2 hc2 e3 n1 (by rw[e5];exact n3) (Nat.le_refl _)) .nils
       ·rename_i hm
        split at ha
        ·rename_i hm2
         obtain⟨H2,k1,k2⟩:=Option.map_eq_some_iff.1 ha
         injection k2 with k2 k3
         subst k2 k3
         have hr:=iR (P:=P) (ty:=ty) e1 e2 hc2 e3 e7 n1 (by rw[e5];exact n3') (b:=none) (sLen:=0) (sCap:=0) (olds:=[]) rfl (by omega) (by omega) (by omega)
         simp only[Nat.zero_add,List.nil_append]at hr
         have hg:=fT (w:=w) (need:=m) (old:=0) (e:=e)
         have hzl:(Builtin.zeroCells j.zero.cells (grownCap w m 0 e-m)).toList.length=(grownCap w m 0 e-m)*j.size:=by rw[Array.length_toList,size_zeroCells,hzz]
         have hmul:m*j.size+(grownCap w m 0 e-m)*j.size=grownCap w m 0 e*j.size:=by rw[←Nat.add_mul];congr 1;omega
         obtain⟨q1,q2⟩:=gH hd0 k1 hf (C:=⟨vs'++(Builtin.zeroCells j.zero.cells (grownCap w m 0 e-m)).toList⟩) (fr:=(0,0)) (by simp) (more:=(Builtin.zeroCells j.zero.cells (grownCap w m 0 e-m)).toList) (fun e=>absurd e hbx) (by simp[hvs']) (by simp only[List.take_left' hvs'];exact n2')
         refine⟨_,_,_,hr,?_,q1,?_⟩
         ·refine .slc _ _ _ _ _ _ _ _ _ (Rho.add_self _ _ _ _) (Nat.le_refl _) (by simp only;omega) ⟨hg,iA (by omega)⟩ ?_ (by simp)
          simp only[List.size_toArray,List.length_append]
          omega
         ·exact(Ext.same (w:=w) (w':=w.drew) rfl rfl rfl rfl).trans q2 h.ok (fun id ver h1 h2=>by omega)
        ·cases ha
      ·rename_i id ver off len cap sz ex
       cases hs with
       | slc _ _ _ _ _ _ _ L c hL g1 g2 g3 g4 g5=>
       split at ha
       ·rename_i hsz
        obtain⟨rfl,hml⟩:=hsz
        have hlc:len*j.size≤cap*j.size:=Nat.mul_le_mul_right _ g1
        split at ha
        ·rename_i hm
         subst hm
         injection ha with ha
         injection ha with h1 h2
         subst h1 h2
         have hvn:=n4 rfl
         subst hvn
         exact .pure h (mB e1 e2 hc2 e3 n1 (by rw[e5];exact n3) (by omega)) (.slc _ _ _ _ _ _ _ L c hL g1 g2 g3 g4 g5)
        ·rename_i hm
         split at ha
         ·rename_i hroom
          obtain⟨H2,k1,k2⟩:=Option.map_eq_some_iff.1 ha
          injection k2 with k2 k3
          subst k2 k3
          obtain⟨w',q1,q2,q3⟩:=kj (P:=P) h hL n2 k1
          refine⟨_,w',ρ,mm (P:=P) e1 e2 hc2 e3 n1 (by rw[e5];exact n3) (by rw[e5,bC];exact q1) (by omega),.slc _ _ _ _ _ _ _ L c hL hroom g2 g3 g4 g5,q2,q3⟩
         ·rename_i hroom
          split at ha
          ·rename_i hbig
           split at ha
           ·rename_i hex
            split at ha
            ·rename_i olds hol
             obtain⟨H2,k1,k2⟩:=Option.map_eq_some_iff.1 ha
             injection k2 with k2 k3
             subst k2 k3
             have hcc:=g5 hex
             obtain⟨os,o1,o2,o3,o4,o5⟩:=dj (P:=P) hd0 hL (by omega) hol
             have hr:=iR (P:=P) (ty:=ty) e1 e2 hc2 e3 e7 n1 (by rw[e5];exact n3') (b:=some ⟨L.b,off,none⟩) (sLen:=len) (sCap:=c) (olds:=os) (by rw[e5];exact o5) (by omega) hbig (by omega)
             have hg:=fT (w:=w) (need:=len+m) (old:=c) (e:=e)
             have hol2:=o1.length
             have hzl:(Builtin.zeroCells j.zero.cells (grownCap w (len+m) c e-(len+m))).toList.length=(grownCap w (len+m) c e-(len+m))*j.size:=by rw[Array.length_toList,size_zeroCells,hzz]
             have hmul:(len+m)*j.size+(grownCap w (len+m) c e-(len+m))*j.size=grownCap w (len+m) c e*j.size:=by rw[←Nat.add_mul];congr 1;omega
             have hadd:(len+m)*j.size=len*j.size+m*j.size:=Nat.add_mul _ _ _
             obtain⟨q1,q2⟩:=gH hd0 k1 hf (C:=⟨os++vs'++(Builtin.zeroCells j.zero.cells (grownCap w (len+m) c e-(len+m))).toList⟩) (fr:=(0,0)) (by simp) (more:=(Builtin.zeroCells j.zero.cells (grownCap w (len+m) c e-(len+m))).toList) (fun e=>absurd e hbx) (by simp only;rw[List.take_left' (by simp;omega)]) (by simp only;rw[List.take_left' (by simp;omega)];exact o1.append n2')
             refine⟨_,_,_,hr,?_,q1,?_⟩
             ·refine .slc _ _ _ _ _ _ _ _ _ (Rho.add_self _ _ _ _) (Nat.le_refl _) (by simp only[List.length_append];omega) ⟨hg,iA (by omega)⟩ ?_ (by simp)
              simp only[List.size_toArray,List.length_append]
              omega
             ·exact(Ext.same (w:=w) (w':=w.drew) rfl rfl rfl rfl).trans q2 h.ok (fun id ver h1 h2=>by omega)
            ·cases ha
           ·split at ha
            ·rename_i hoff
             obtain⟨rfl,rfl,hsome⟩:=hoff
             obtain⟨olds,hol⟩:=Option.isSome_iff_exists.1 hsome
             obtain⟨H2,k1,k2⟩:=Option.map_eq_some_iff.1 ha
             injection k2 with k2 k3
             subst k2 k3
             by_cases hin:len+m≤c
             ·have hmul:(len+m)*j.size≤c*j.size:=Nat.mul_le_mul_right _ hin
              have hadd:(len+m)*j.size=len*j.size+m*j.size:=Nat.add_mul _ _ _
              obtain⟨w',q1,q2,q3⟩:=Dq (P:=P) h hL n2 k1 (by omega)
              refine⟨_,w',_,mm (P:=P) e1 e2 hc2 e3 n1 (by rw[e5];exact n3) (by rw[e5,bC,Nat.zero_add];exact q1) hin,?_,q2,q3⟩
              exact .slc _ _ _ _ _ _ _ ⟨L.b,L.n,len*j.size+news.length⟩ c (Rho.add_self _ _ _ _) (Nat.le_refl _) (by simp only;omega) ⟨hin,g3.2⟩ (by simp only;omega) (by simp)
             ·obtain⟨os,o1,o2,o3,o4,o5⟩:=dj (P:=P) hd0 hL (by omega) hol
              have hr:=iR (P:=P) (ty:=ty) e1 e2 hc2 e3 e7 n1 (by rw[e5];exact n3') (b:=some ⟨L.b,0,none⟩) (sLen:=len) (sCap:=c) (olds:=os) (by rw[e5];exact o5) (by omega) hbig (by omega)
              have hg:=fT (w:=w) (need:=len+m) (old:=c) (e:=e)
              have hol2:=o1.length
              have hzl:(Builtin.zeroCells j.zero.cells (grownCap w (len+m) c e-(len+m))).toList.length=(grownCap w (len+m) c e-(len+m))*j.size:=by rw[Array.length_toList,size_zeroCells,hzz]
              have hmul:(len+m)*j.size+(grownCap w (len+m) c e-(len+m))*j.size=grownCap w (len+m) c e*j.size:=by rw[←Nat.add_mul];congr 1;omega
              have hadd:(len+m)*j.size=len*j.size+m*j.size:=Nat.add_mul _ _ _
              obtain⟨q1,q2⟩:=Be hd0 hL o1 n2' (more:=(Builtin.zeroCells j.zero.cells (grownCap w (len+m) c e-(len+m))).toList) k1 hol e
              refine⟨_,_,_,hr,?_,q1,?_⟩
              ·refine .slc _ _ _ _ _ _ _ _ _ (Rho.add_self _ _ _ _) (Nat.le_refl _) (by simp only;omega) ⟨hg,iA (by omega)⟩ ?_ (by simp)
               simp only[List.length_append]
               omega
              ·exact(Ext.same (w:=w) (w':=w.drew) rfl rfl rfl rfl).trans q2 h.ok (fun id ver h1 h2=>by omega)
            ·cases ha
          ·cases ha
       ·cases ha
      ·cases ha
     ·cases ha
    ·cases ha
   ·cases ha
  ·cases ha
 ·cases ha
end
section
def ZOk (tt:TypeId→Option TI):Prop := ∀ e j,tt e=some j→j.zero.cells.size=j.size
def ke (tt:TypeId→Option TI) (H:af) (t xt:TypeId) (s x:ah):Option (ah×af):=
 match tt t,tt xt,x with
 | some i,some d,.int _ k=>match i.und with
   | .slice e=>match tt e with
     | some j=>match aconst j.zero with
       | some z=>if j.bytes≤1048576∧GG d.und∧0<k∧k≤1048576∧0<j.size∧z.cells.length=j.size ∧ ¬ e=wu then(match s with
         | .nils=>(ji H e (rH z.cells k.toNat)).map fun H'=>(.slc H.next 0 0 k.toNat k.toNat j.size false,H')
         | _=>none) else none
       | none=>none
     | none=>none
   | _=>none
 | _,_,_=>none
set_option maxHeartbeats 1000000 in
theorem wm {P:Program} {tt:TypeId→Option TI} (ht:cO P tt) {ρ:Rho} {H H':af} {w:World} (h:HR ρ H w) {t xt ty:TypeId} {s x y:ah} {sv xv:Value} (hs:VR ρ s sv) (hx:VR ρ x xv) (ha:ke tt H t xt s x=some (y,H')) (hf:bR ρ H.next H'.next):
 cw P (Builtin.append_ #[t,xt] ty #[sv,xv]) ρ H w y H':=by
 unfold ke at ha
 split at ha
 ·rename_i i d k' k hi hd
  cases hx with
  | int _ _=>
  split at ha
  ·rename_i e hu
   split at ha
   ·rename_i j hj
    split at ha
    ·rename_i z hz
     split at ha
     ·rename_i hc
      obtain⟨hc1,hc2,hc3,hc4,hc5,hc6,hbx⟩:=hc
      obtain⟨_,_,e1,_⟩:=ht t i hi
      obtain⟨_,_,e2,_⟩:=ht xt d hd
      obtain⟨I,e3,e4,e5,e6,e7⟩:=ht e j hj
      rw[hu]at e1
      have hd0:HR ρ H w.drew:=h.of_heap rfl
      obtain⟨k,rfl⟩:=Int.eq_ofNat_of_zero_le (show 0≤k by omega)
      have hk:0<k:=by omega
      split at ha
      ·cases hs with
       | nils=>
       obtain⟨H2,k1,k2⟩:=Option.map_eq_some_iff.1 ha
       injection k2 with k2 k3
       subst k2 k3
       rw[Int.toNat_natCast]at k1 ⊢
       have hkm:k*I.size≠0:=by rw[e5];exact Nat.mul_ne_zero (by omega) (by omega)
       have hr:=rZ (P:=P) (w:=w) (ty:=ty) (k:=k') e1 e2 hc2 e3 e7 hkm (b:=none) (sLen:=0) (sCap:=0) (olds:=[]) rfl (by omega) (by omega) (by omega)
       simp only[Nat.zero_add,List.nil_append]at hr
       have hg:=fT (w:=w) (need:=k) (old:=0) (e:=e)
       have hzv:=iM (ρ:=ρ) (bI hz) k
       have hl1:=hzv.length
       have hl2:=dP z.cells k
       have hzz:j.zero.cells.size=j.size:=by
        have:=(bI (ρ:=ρ) hz).cells.length
        rw[Array.length_toList]at this
        omega
       have hzl:(Builtin.zeroCells j.zero.cells (grownCap w k 0 e-k)).toList.length=(grownCap w k 0 e-k)*j.size:=by rw[Array.length_toList,size_zeroCells,hzz]
       have hmul:k*j.size+(grownCap w k 0 e-k)*j.size=grownCap w k 0 e*j.size:=by rw[←Nat.add_mul];congr 1;omega
       rw[hc6]at hl2
       obtain⟨q1,q2⟩:=gH hd0 k1 hf (C:=⟨(Builtin.zeroCells j.zero.cells k).toList++(Builtin.zeroCells j.zero.cells (grownCap w k 0 e-k)).toList⟩) (fr:=(0,0)) (by simp) (more:=(Builtin.zeroCells j.zero.cells (grownCap w k 0 e-k)).toList) (fun e=>absurd e hbx) (by simp only;rw[List.take_left' hl1]) (by simp only;rw[List.take_left' hl1];exact hzv)
       refine⟨_,_,_,hr,?_,q1,?_⟩
       ·refine .slc _ _ _ _ _ _ _ _ _ (Rho.add_self _ _ _ _) (Nat.le_refl _) (by simp only;omega) ⟨hg,iA (by omega)⟩ ?_ (by simp)
        simp only[List.size_toArray,List.length_append]
        omega
       ·exact(Ext.same (w:=w) (w':=w.drew) rfl rfl rfl rfl).trans q2 h.ok (fun id ver h1 h2=>by omega)
      ·cases ha
     ·cases ha
    ·cases ha
   ·cases ha
  ·cases ha
 ·cases ha
def xP (tt:TypeId→Option TI) (H:af) (t:TypeId) (s x:ah):Option (ah×af):=
 match tt t with
 | some i=>match i.und with
   | .slice e=>match tt e with
     | some j=>match s with
       | .slc id ver off len cap sz ex=>if sz=j.size then(match fI H j.size x with
        | some (m,news)=>if m*sz=news.length then(match jM H id ver off (news.take (Nat.min m len*sz)) with
          | some H'=>some (.int .i64 (Nat.min m len:Nat),H')
          | none=>none) else none
        | none=>none) else none
       | .nils=>match fI H j.size x with
        | some (m,news)=>some (.int .i64 0,H)
        | none=>none
       | _=>none
     | none=>none
   | _=>none
 | none=>none
theorem yI {P:Program} {ρ:Rho} {H:af} {w:World} (h:HR ρ H w) {sz m:Nat} {x:ah} {v:Value} {xs:List ah} (hv:VR ρ x v) (hn:fI H sz x=some (m,xs)) (hm:m*sz=xs.length) (k:Nat) (hk:k≤m):∃ vs,VRs ρ (xs.take (k*sz)) vs∧(Builtin.firstCells sz k v).run P w = .ok ⟨vs⟩ w:=by
 have hkm:k*sz≤m*sz:=Nat.mul_le_mul_right _ hk
 cases hv with
 | nils=>
   simp only[fI]at hn
   injection hn with hn
   injection hn with h1 h2
   subst h1 h2
   exact⟨[],by simp;exact .nil,by rw[show k=0 by omega];rfl⟩
 | str s=>
   simp only[fI]at hn
   split at hn
   ·rename_i h1
    injection hn with hn
    injection hn with h2 h3
    subst h1 h2 h3
    refine⟨_,(fN s).take _,?_⟩
    unfold Builtin.firstCells
    have:((⟨⟨s⟩⟩:ByteArray).extract 0 k).data=⟨s.take k⟩:=by rw[gI];simp
    simp[this]
   ·cases hn
 | slc id ver off len cap z ex L c hL h1 h2 h3 h4 h5=>
   simp only[fI]at hn
   split at hn
   ·rename_i hz
    subst hz
    obtain⟨ys,k1,k2⟩:=Option.map_eq_some_iff.1 hn
    injection k2 with k2 k3
    subst k2 k3
    have hm:len*z≤cap*z:=Nat.mul_le_mul_right _ h1
    obtain⟨vs,q1,q2,q3,q4,q5⟩:=dj (P:=P) h hL (by omega) k1
    refine⟨vs.take (k*z),q1.take _,?_⟩
    have hl:(vs.take (k*z)).length=k*z:=by rw[List.length_take];omega
    refine run_firstCells_some w z k ⟨L.b,off,none⟩ len c _ hl (fun j u hj=>?_)
    rw[bC]
    rw[List.getElem?_take]at hj
    split at hj
    ·exact q4 j u hj
    ·cases hj
   ·cases hn
 | emp=>
   simp only[fI]at hn
   injection hn with hn
   injection hn with h1 h2
   subst h1 h2
   exact⟨[],by simp;exact .nil,by rw[show k=0 by omega];simp[Builtin.firstCells,loadCells,loadCellsFrom]⟩
 | _=>simp[fI]at hn
theorem EE {P:Program} {tt:TypeId→Option TI} (ht:cO P tt) {ρ:Rho} {H H':af} {w:World} (h:HR ρ H w) {t xt ty:TypeId} {s x y:ah} {sv xv:Value} (hs:VR ρ s sv) (hx:VR ρ x xv) (ha:xP tt H t s x=some (y,H')):
 cw P (Builtin.copy_ #[t,xt] ty #[sv,xv]) ρ H w y H':=by
 unfold xP at ha
 split at ha
 ·rename_i i hi
  split at ha
  ·rename_i e hu
   split at ha
   ·rename_i j hj
    have e1:=ht.run_und hi w
    rw[hu]at e1
    have e2:=ht.run_size hj w
    split at ha
    ·rename_i id ver off len cap sz ex
     cases hs with
     | slc _ _ _ _ _ _ _ L c hL g1 g2 g3 g4 g5=>
     split at ha
     ·rename_i hsz
      subst hsz
      split at ha
      ·rename_i m news hnw
       split at ha
       ·rename_i hml
        split at ha
        ·rename_i H2 hw
         injection ha with ha
         injection ha with h1 h2
         subst h1 h2
         obtain⟨n1,-⟩:=mO (P:=P) h hx hnw
         obtain⟨vs,k1,k2⟩:=yI (P:=P) h hx hnw hml (Nat.min m len) (Nat.min_le_left _ _)
         obtain⟨w',q1,q2,q3⟩:=kj (P:=P) h hL k1 hw
         refine⟨_,w',ρ,?_,.int _ _,q2,q3⟩
         simp[Builtin.copy_,e1,n1,e2,k2,q1,goInt]
        ·cases ha
       ·cases ha
      ·cases ha
     ·cases ha
    ·cases hs with
     | nils=>
     split at ha
     ·rename_i m news hnw
      injection ha with ha
      injection ha with h1 h2
      subst h1 h2
      obtain⟨n1,-⟩:=mO (P:=P) h hx hnw
      refine .pure h ?_ (.int _ _)
      have hz:(Builtin.firstCells j.size 0 xv).run P w = .ok #[] w∨True := .inr trivial
      cases hx with
      | nils=>simp[Builtin.copy_,e1,e2,goInt,Builtin.firstCells,Builtin.lenOf]
      | str s=>
        have:((⟨⟨s⟩⟩:ByteArray).extract 0 0).data=⟨[]⟩:=by rw[gI];simp
        simp[Builtin.copy_,e1,e2,goInt,Builtin.firstCells,Builtin.lenOf]
      | slc=>simp[Builtin.copy_,e1,e2,goInt,Builtin.firstCells,Builtin.lenOf,loadCells,loadCellsFrom]
      | emp=>simp[Builtin.copy_,e1,e2,goInt,Builtin.firstCells,Builtin.lenOf,loadCells,loadCellsFrom]
      | _=>simp[fI]at hnw
     ·cases ha
    ·cases ha
   ·cases ha
  ·cases ha
 ·cases ha
def qA (tt:TypeId→Option TI) (H:af) (t:TypeId) (l c:ah):Option (ah×af):=
 match tt t,l,c with
 | some i,.int _ l,.int _ c=>match i.und with
   | .slice e=>match tt e with
     | some j=>match aconst j.zero with
       | some z=>if 0≤l∧l≤c∧c≤1048576∧j.bytes≤1048576∧z.cells.length=j.size∧0<j.size then
        (ji H e (rH z.cells c.toNat)).map fun H'=>(.slc H.next 0 0 l.toNat c.toNat j.size true,H') else none
       | none=>none
     | none=>none
   | _=>none
 | _,_,_=>none
theorem BS (z:Array Value) (n:Nat):madeCells z (n*z.size)=Builtin.zeroCells z n:=rfl
theorem DU {P:Program} {tt:TypeId→Option TI} (ht:cO P tt) {ρ:Rho} {H H':af} {w:World} (h:HR ρ H w) {t:TypeId} {l c y:ah} {lv cv:Value} (hl:VR ρ l lv) (hc:VR ρ c cv) (ha:qA tt H t l c=some (y,H')) (hf:bR ρ H.next H'.next):
 cw P (Instr.makeSlice t lv cv) ρ H w y H':=by
 unfold qA at ha
 split at ha
 ·rename_i i kl l kc c hi
  cases hl with
  | int _ _=>
  cases hc with
  | int _ _=>
  split at ha
  ·rename_i e hu
   split at ha
   ·rename_i j hj
    split at ha
    ·rename_i z hz
     split at ha
     ·rename_i hc
      obtain⟨c1,c2,c3,c4,c5,c6⟩:=hc
      obtain⟨H2,k1,k2⟩:=Option.map_eq_some_iff.1 ha
      injection k2 with k2 k3
      subst k2 k3
      obtain⟨_,_,e1,_⟩:=ht t i hi
      obtain⟨I,e3,e4,e5,e6,e7⟩:=ht e j hj
      rw[hu]at e1
      have hmul:j.bytes*c.toNat≤1048576*1048576:=Nat.mul_le_mul c4 (by omega)
      have hmul2:(I.bytes:Int)*c≤281474976710656:=by
       rw[e6,show c=((c.toNat:Nat):Int) from by omega,←Int.natCast_mul]
       omega
      have hr:=run_make (P:=P) w t e I j.zero e1 e3 e7 kl kc l c c1 c2 hmul2 (by omega)
      have hzz:j.zero.cells.size=j.size:=by
       have:=(bI (ρ:=ρ) hz).cells.length
       rw[Array.length_toList]at this
       omega
      rw[e5,←hzz,BS]at hr
      have hzv:=iM (ρ:=ρ) (bI hz) c.toNat
      have hl1:=hzv.length
      have hl2:=dP z.cells c.toNat
      obtain⟨q1,q2⟩:=gH h k1 hf (C:=Builtin.zeroCells j.zero.cells c.toNat) (fr:=(0,0)) (by simp) (more:=[]) (fun _=>rfl) (by rw[List.take_of_length_le (by omega)];simp) (by rw[List.take_of_length_le (by omega)];exact hzv)
      refine⟨_,_,_,hr,?_,q1,q2⟩
      refine .slc _ _ _ _ _ _ _ _ _ (Rho.add_self _ _ _ _) (by omega) (by simp only;rw[hl2,c5];omega) ⟨Nat.le_refl _,by omega⟩ ?_ (fun _=>rfl)
      simp only
      rw[size_zeroCells,hzz]
      omega
     ·cases ha
    ·cases ha
   ·cases ha
  ·cases ha
 ·cases ha
def Dg (tt:TypeId→Option TI) (t:TypeId) (x:ah):Option ah:=
 match tt t with
 | some i=>match i.und,x with
   | .string,.str s=>some (.int .i64 (s.length:Int))
   | .slice _,.slc _ _ _ len _ _ _=>some (.int .i64 (len:Int))
   | .slice _,.nils=>some (.int .i64 0)
   | .slice _,.emp _ _ _=>some (.int .i64 0)
   | .slice _,.opq n=>some (.int .i64 (n:Int))
   | .array n _,_=>some (.int .i64 (n:Int))
   | _,_=>none
 | none=>none
theorem II {P:Program} {tt:TypeId→Option TI} (ht:cO P tt) {ρ:Rho} {H:af} {w:World} (h:HR ρ H w) {t ty:TypeId} {x y:ah} {v:Value} (hv:VR ρ x v) (ha:Dg tt t x=some y):cw P (Builtin.len_ #[t] ty #[v]) ρ H w y H:=by
 unfold Dg at ha
 split at ha
 ·rename_i i hi
  have e1:=ht.run_und hi w
  split at ha
  ·rename_i s hd
   rw[hd]at e1
   injection ha with ha
   subst ha
   cases hv with
   | str _=>
   refine .pure h ?_ (.int _ _)
   have:(⟨⟨s⟩⟩:ByteArray).size=s.length:=rfl
   simp[Builtin.len_,e1,goInt,this]
  ·rename_i hd
   rw[hd]at e1
   injection ha with ha
   subst ha
   cases hv with
   | slc=>
   refine .pure h ?_ (.int _ _)
   simp[Builtin.len_,e1,goInt]
  ·rename_i hd
   rw[hd]at e1
   injection ha with ha
   subst ha
   cases hv with
   | nils=>
   refine .pure h ?_ (.int _ _)
   simp[Builtin.len_,e1,goInt]
  ·rename_i hd
   rw[hd]at e1
   injection ha with ha
   subst ha
   cases hv with
   | emp=>
   refine .pure h ?_ (.int _ _)
   simp[Builtin.len_,e1,goInt]
  ·rename_i hd
   rw[hd]at e1
   injection ha with ha
   subst ha
   cases hv with
   | opq=>
   refine .pure h ?_ (.int _ _)
   simp[Builtin.len_,e1,goInt]
  ·rename_i hd
   rw[hd]at e1
   injection ha with ha
   subst ha
   refine .pure h ?_ (.int _ _)
   simp[Builtin.len_,e1,goInt]
  ·cases ha
 ·cases ha
def JY (tt:TypeId→Option TI) (t:TypeId) (x:ah):Option ah:=
 match tt t with
 | some i=>match i.und,x with
   | .slice _,.slc _ _ _ _ cap _ true=>some (.int .i64 (cap:Int))
   | .slice _,.nils=>some (.int .i64 0)
   | _,_=>none
 | none=>none
theorem Jg {P:Program} {tt:TypeId→Option TI} (ht:cO P tt) {ρ:Rho} {H:af} {w:World} (h:HR ρ H w) {t ty:TypeId} {x y:ah} {v:Value} (hv:VR ρ x v) (ha:JY tt t x=some y):cw P (Builtin.cap_ #[t] ty #[v]) ρ H w y H:=by
 unfold JY at ha
 split at ha
 ·rename_i i hi
  have e1:=ht.run_und hi w
  split at ha
  ·rename_i hd
   rw[hd]at e1
   injection ha with ha
   subst ha
   cases hv with
   | slc _ _ _ _ _ _ _ L c hL g1 g2 g3 g4 g5=>
   have:=g5 rfl
   subst this
   refine .pure h ?_ (.int _ _)
   simp[Builtin.cap_,e1,goInt]
  ·rename_i hd
   rw[hd]at e1
   injection ha with ha
   subst ha
   cases hv with
   | nils=>
   refine .pure h ?_ (.int _ _)
   simp[Builtin.cap_,e1,goInt]
  ·cases ha
 ·cases ha
end
section
def FOk (P:Program) (tt:TypeId→Option TI):Prop := ∀ T i,tt T=some i→i.flat=true→P.stoodInHeld T=false∧P.eqGuardType P.depth T=false
def fR (tt:TypeId→Option TI) (eq:TypeId→ah→ah→Option Bool) (xs ys:List ah):List Field→Option Bool
 | []=>some true
 | f::fs=>if f.name ≠ "_" then(match oM tt f.type xs f.offset,oM tt f.type ys f.offset with
   | some a,some b=>match eq f.type a b with
     | some true=>fR tt eq xs ys fs
     | some false=>some false
     | none=>none
   | _,_=>none) else fR tt eq xs ys fs
def jR (tt:TypeId→Option TI) (eq:TypeId→ah→ah→Option Bool) (e:TypeId) (s:Nat) (xs ys:List ah):List Nat→Option Bool
 | []=>some true
 | i::is=>match oM tt e xs (i*s),oM tt e ys (i*s) with
   | some a,some b=>match eq e a b with
     | some true=>jR tt eq e s xs ys is
     | some false=>some false
     | none=>none
   | _,_=>none
def pS:TypeDesc→ah→ah→Option Bool
 | .slice _,.nils,.nils=>some true
 | .slice _,.nils,.slc _ _ _ _ _ _ _=>some false
 | .slice _,.slc _ _ _ _ _ _ _,.nils=>some false
 | .slice _,.nils,.emp _ _ _=>some false
 | .slice _,.emp _ _ _,.nils=>some false
 | .pointer _,.nilp,.nilp=>some true
 | .pointer _,.nilp,.ptr _ _ _ _=>some false
 | .pointer _,.ptr _ _ _ _,.nilp=>some false
 | .func _ _ _,.nilf,.nilf=>some true
 | .func _ _ _,.nilf,.func _ _=>some false
 | .func _ _ _,.func _ _,.nilf=>some false
 | _,_,_=>none
theorem tJ {P:Program} {ρ:Rho} {D:TypeDesc} {x y:ah} {u v:Value} {b:Bool} (hx:VR ρ x u) (hy:VR ρ y v) (h:pS D x y=some b) {T:TypeId} (hT:∀ w:World,(underlying T).run P w = .ok D w) (d:Nat) (w:World):(Op.equalIn (d+1) T u v).run P w = .ok b w:=by
 have e1:=hT w
 unfold pS at h
 split at h
 all_goals first
  | (cases h;done)
  | (cases hx;cases hy;injection h with h;subst h;simp[Op.equalIn,e1])
def aEq (tt:TypeId→Option TI):Nat→TypeId→ah→ah→Option Bool
 | 0,_,_,_=>none
 | d+1,T,x,y=>match tt T with
   | none=>none
   | some i=>match i.und,x,y with
     | .bool,.bool a,.bool b=>some (a == b)
     | .int _,.int k a,.int k' b=>if k=k' then some (a == b) else none
     | .string,.str a,.str b=>some (a == b)
     | .interface _,.nili,.nili=>some true
     | .struct fs,.agg xs,.agg ys=>if i.flat then fR tt (aEq tt d) xs ys fs.toList else none
     | .array n e,.agg xs,.agg ys=>match tt e with
       | some j=>jR tt (aEq tt d) e j.size xs ys (List.range n)
       | none=>none
     | D,x,y=>pS D x y
section
variable {P:Program} {tt:TypeId→Option TI} (ht:cO P tt) {ρ:Rho}
include ht
theorem iO (d:Nat) (eq:TypeId→ah→ah→Option Bool) (heq:∀ T x y u v b (w:World),VR ρ x u→VR ρ y v→eq T x y=some b→(Op.equalIn d T u v).run P w = .ok b w) {xs ys:List ah} {us vs:List Value} (hx:VRs ρ xs us) (hy:VRs ρ ys vs) (w:World):
 ∀ (fs:List Field) (b:Bool),fR tt eq xs ys fs=some b→(Op.eqFields d ⟨us⟩ ⟨vs⟩ fs).run P w = .ok b w
 | [],b,h=>by simp[fR]at h;subst h;simp[Op.eqFields]
 | f::fs,b,h=>by
   unfold fR at h
   unfold Op.eqFields
   split at h
   ·rename_i hn
    rw[if_pos hn]
    split at h
    ·rename_i a c h1 h2
     obtain⟨a',k1,k2⟩:=iI ht w hx h1
     obtain⟨c',q1,q2⟩:=iI ht w hy h2
     split at h
     ·rename_i h3
      have:=heq _ _ _ _ _ _ w k2 q2 h3
      simp[k1,q1,this]
      exact iO d eq heq hx hy w fs b h
     ·rename_i h3
      injection h with h
      subst h
      have:=heq _ _ _ _ _ _ w k2 q2 h3
      simp[k1,q1,this]
     ·cases h
    ·cases h
   ·rename_i hn
    rw[if_neg hn]
    exact iO d eq heq hx hy w fs b h
theorem oI (d:Nat) (eq:TypeId→ah→ah→Option Bool) (heq:∀ T x y u v b (w:World),VR ρ x u→VR ρ y v→eq T x y=some b→(Op.equalIn d T u v).run P w = .ok b w) {xs ys:List ah} {us vs:List Value} (hx:VRs ρ xs us) (hy:VRs ρ ys vs) (e:TypeId) (s:Nat) (w:World):
 ∀ (is:List Nat) (b:Bool),jR tt eq e s xs ys is=some b→(Op.eqItems d e s ⟨us⟩ ⟨vs⟩ is).run P w = .ok b w
 | [],b,h=>by simp[jR]at h;subst h;simp[Op.eqItems]
 | i::is,b,h=>by
   unfold jR at h
   unfold Op.eqItems
   split at h
   ·rename_i a c h1 h2
    obtain⟨a',k1,k2⟩:=iI ht w hx h1
    obtain⟨c',q1,q2⟩:=iI ht w hy h2
    split at h
    ·rename_i h3
     have:=heq _ _ _ _ _ _ w k2 q2 h3
     simp[k1,q1,this]
     exact oI d eq heq hx hy e s w is b h
    ·rename_i h3
     injection h with h
     subst h
     have:=heq _ _ _ _ _ _ w k2 q2 h3
     simp[k1,q1,this]
    ·cases h
   ·cases h
theorem jD (hf:FOk P tt):∀ (d m:Nat) (T:TypeId) (x y:ah) (u v:Value) (b:Bool) (w:World),VR ρ x u→VR ρ y v→aEq tt d T x y=some b→(Op.equalIn (d+m) T u v).run P w = .ok b w
 | 0,m,T,x,y,u,v,b,w,hx,hy,h=>by simp[aEq]at h
 | d+1,m,T,x,y,u,v,b,w,hx,hy,h=>by
   unfold aEq at h
   split at h
   ·cases h
   ·rename_i i hi
    have e1:=ht.run_und hi w
    obtain⟨I,e2,e3,-⟩:=ht T i hi
    rw[show d+1+m=(d+m)+1 from by omega]
    split at h
    ·rename_i hd
     rw[hd]at e1
     cases hx;cases hy
     injection h with h
     subst h
     simp[Op.equalIn,e1]
    ·rename_i hd
     rw[hd]at e1
     cases hx;cases hy
     split at h
     ·rename_i hk
      subst hk
      injection h with h
      subst h
      simp[Op.equalIn,e1]
     ·cases h
    ·rename_i a c hd
     rw[hd]at e1 e3
     cases hx;cases hy
     injection h with h
     subst h
     rw[run_equalIn_string w (d+m) T _ _ e3,ByteArray.toList_eq,ByteArray.toList_eq]
    ·rename_i hd
     rw[hd]at e1
     cases hx;cases hy
     injection h with h
     subst h
     simp[Op.equalIn,e1]
    ·rename_i fs xs ys hd
     rw[hd]at e1 e3
     cases hx with
     | agg _ us hus=>
     cases hy with
     | agg _ vs hvs=>
     split at h
     ·rename_i hfl
      have hfo:P.fieldsOf T=fs:=by unfold Program.fieldsOf;rw[e3]
      rw[run_equalIn_struct w (d+m) T _ _ (by rw[hfo];exact e3) (hf T i hi hfl).1,hfo]
      exact iO ht (d+m) (aEq tt d) (fun T x y u v b w hx hy h=>jD hf d m T x y u v b w hx hy h) hus hvs w _ _ h
     ·cases h
    ·rename_i n e xs ys hd
     rw[hd]at e1 e3
     cases hx with
     | agg _ us hus=>
     cases hy with
     | agg _ vs hvs=>
     split at h
     ·rename_i j hj
      obtain⟨J,f2,f3,f4,-⟩:=ht e j hj
      rw[run_equalIn_array w (d+m) _ _ e3 f2]
      have hc:P.cellsOf e=j.size:=by unfold Program.cellsOf;rw[f2];simpa using f4
      rw[hc]
      exact oI ht (d+m) (aEq tt d) (fun T x y u v b w hx hy h=>jD hf d m T x y u v b w hx hy h) hus hvs e j.size w _ _ h
     ·cases h
    ·exact tJ hx hy h (fun w=>ht.run_und hi w) (d+m) w
end
def isLit:Operand→Bool
 | .const _=>true
 | _=>false
def fL:List UInt8→List UInt8→Bool
 | _,[]=>false
 | [],_::_=>true
 | a::x,b::y=>a<b || (a == b&&fL x y)
theorem ql:∀ x y:List UInt8,Op.bytesLess x y=fL x y
 | _,[]=>by cases ‹List UInt8› <;> simp[Op.bytesLess,fL]
 | [],_::_=>by simp[Op.bytesLess,fL]
 | a::x,b::y=>by simp[Op.bytesLess,fL,ql x y]
def mF (op:BinOp) (k:IntKind) (a b:Int):Option ah:=
 match op with
 | .add=>some (.int k (k.wrap (a+b)))
 | .sub=>some (.int k (k.wrap (a-b)))
 | .mul=>some (.int k (k.wrap (a*b)))
 | .quo=>if b=0 then none else some (.int k (k.wrap (a.tdiv b)))
 | .rem=>if b=0 then none else some (.int k (a.tmod b))
 | .and=>some (.int k (bits .and k a b))
 | .or=>some (.int k (bits .or k a b))
 | .xor=>some (.int k (bits .xor k a b))
 | .andNot=>some (.int k (bits .andNot k a b))
 | .eql=>some (.bool (a == b))
 | .neq=>some (.bool (a != b))
 | .lss=>some (.bool (decide (a<b)))
 | .leq=>some (.bool (decide (a≤b)))
 | .gtr=>some (.bool (decide (a > b)))
 | .geq=>some (.bool (decide (a ≥ b)))
 | _=>none
def Lc (op:BinOp) (a b:List UInt8):Option ah:=
 match op with
 | .add=>if a.length+b.length≤1048576 then some (.str (a++b)) else none
 | .eql=>some (.bool (a == b))
 | .neq=>some (.bool (!(a == b)))
 | .lss=>some (.bool (fL a b))
 | .leq=>some (.bool (fL a b || a == b))
 | .gtr=>some (.bool (!(fL a b || a == b)))
 | .geq=>some (.bool (!(fL a b)))
 | _=>none
def yG (op:BinOp) (k:IntKind) (a b:Int):Option ah:=
 match op with
 | .shl=>if b<0 then none else some (.int k (k.wrap (a*2^(min b.toNat k.bits))))
 | .shr=>if b<0 then none else some (.int k (a.fdiv (2^(min b.toNat k.bits))))
 | _=>none
def yz (tt:TypeId→Option TI) (op:BinOp) (T:TypeId) (x y:ah):Option ah:=
 match tt T with
 | some i=>match pS i.und x y with
   | some b=>match op with
     | .eql=>some (.bool b)
     | .neq=>some (.bool (!b))
     | _=>none
   | none=>none
 | none=>none
def se (tt:TypeId→Option TI) (op:BinOp) (T:TypeId) (xo yo:Operand) (x y:ah):Option ah:=
 match x,y with
 | .int k a,.int k' b=>match op with
   | .shl | .shr=>yG op k a b
   | _=>if k=k' then mF op k a b else none
 | .str a,.str b=>Lc op a b
 | .bool _,.bool _=>match op with
   | .eql=>(aEq tt 1 T x y).map .bool
   | .neq=>(aEq tt 1 T x y).map fun b=>.bool (!b)
   | _=>none
 | .nili,.nili=>if isLit xo || isLit yo then(match op with
   | .eql=>(aEq tt 1 T x y).map .bool
   | .neq=>(aEq tt 1 T x y).map fun b=>.bool (!b)
   | _=>none) else none
 | .agg _,.agg _=>match tt T with
   | some i=>if i.flat then(match op with
     | .eql=>(aEq tt 8 T x y).map .bool
     | .neq=>(aEq tt 8 T x y).map fun b=>.bool (!b)
     | _=>none) else none
   | none=>none
 | x,y=>yz tt op T x y
end
section
theorem Fi {P:Program} {ρ:Rho} {w:World} {op:BinOp} {T:TypeId} {k:IntKind} {a b:Int} {x:ah} (h:mF op k a b=some x):∃ v,(binOp op T (.int k a) (.int k b)).run P w = .ok v w∧VR ρ x v:=by
 unfold mF at h
 cases op<;>simp only at h
 case quo=>
  split at h
  ·cases h
  ·rename_i h0
   injection h with h
   subst h
   exact⟨_,by simp[binOp,Op.intDiv,h0],.int _ _⟩
 case rem=>
  split at h
  ·cases h
  ·rename_i h0
   injection h with h
   subst h
   exact⟨_,by simp[binOp,Op.intDiv,h0],.int _ _⟩
 case shl=>cases h
 case shr=>cases h
 case and=>injection h with h;subst h;exact⟨_,by simp[binOp,intBits_and],.int _ _⟩
 case or=>injection h with h;subst h;exact⟨_,by simp[binOp,intBits_or],.int _ _⟩
 case xor=>injection h with h;subst h;exact⟨_,by simp[binOp,intBits_xor],.int _ _⟩
 case andNot=>injection h with h;subst h;exact⟨_,by simp[binOp,intBits_andNot],.int _ _⟩
 all_goals (injection h with h;subst h;first | exact⟨_,by simp[binOp,Op.intArith],.int _ _⟩ | exact⟨_,by simp[binOp,Op.intCmp],.bool _⟩)
theorem tT {P:Program} {ρ:Rho} {w:World} {op:BinOp} {T:TypeId} {k k':IntKind} {a b:Int} {x:ah} (h:yG op k a b=some x) (hop:op = .shl∨op = .shr):∃ v,(binOp op T (.int k a) (.int k' b)).run P w = .ok v w∧VR ρ x v:=by
 unfold yG at h
 rcases hop with rfl | rfl<;>simp only at h<;>split at h
 ·cases h
 ·rename_i hb
  injection h with h
  subst h
  exact⟨_,by simp[binOp,Op.shift,hb],.int _ _⟩
 ·cases h
 ·rename_i hb
  injection h with h
  subst h
  exact⟨_,by simp[binOp,Op.shift,hb],.int _ _⟩
theorem GJ (a b:List UInt8):(⟨⟨a⟩⟩:ByteArray)++⟨⟨b⟩⟩=⟨⟨a++b⟩⟩:=by
 apply ByteArray.ext
 rw[ByteArray.data_append]
 simp
theorem Hp {P:Program} {ρ:Rho} {w:World} {op:BinOp} {T:TypeId} {a b:List UInt8} {x:ah} (h:Lc op a b=some x):∃ v,(binOp op T (.string ⟨⟨a⟩⟩) (.string ⟨⟨b⟩⟩)).run P w = .ok v w∧VR ρ x v:=by
 unfold Lc at h
 have t1:(⟨⟨a⟩⟩:ByteArray).toList=a:=by rw[ByteArray.toList_eq]
 have t2:(⟨⟨b⟩⟩:ByteArray).toList=b:=by rw[ByteArray.toList_eq]
 have s1:(⟨⟨a⟩⟩:ByteArray).size=a.length:=rfl
 have s2:(⟨⟨b⟩⟩:ByteArray).size=b.length:=rfl
 cases op<;>simp only at h
 case add=>
  split at h
  ·rename_i hl
   injection h with h
   subst h
   refine⟨.string ⟨⟨a++b⟩⟩,?_,.str _⟩
   have hm:¬ (IntKind.i64.max<((a.length:Int)+(b.length:Int))):=by
    have:IntKind.i64.max=9223372036854775807:=by decide
    omega
   simp[binOp,Op.stringOp,s1,s2,hm,GJ]
   omega
  ·cases h
 all_goals first
  | (cases h;done)
  | (injection h with h;subst h;exact⟨_,by simp only[binOp,Op.stringOp,t1,t2,ql];rfl,.bool _⟩)
theorem nY {P:Program} {w:World} {op:BinOp} {T:TypeId} {xo yo:Operand} {u v:Value} (h:(∃ b,u = .bool b)∨(∃ k n,u = .int k n)∨(∃ s,u = .string s)):(eqGuard op T xo yo u v).run P w = .ok () w:=by
 rcases h with⟨b,rfl⟩ | ⟨k,n,rfl⟩ | ⟨s,rfl⟩<;>(unfold eqGuard;cases op<;>rfl)
theorem xM {P:Program} {w:World} {op:BinOp} {T:TypeId} {xo yo:Operand} (h:(isLit xo || isLit yo)=true):(eqGuard op T xo yo .nilIface .nilIface).run P w = .ok () w:=by
 unfold eqGuard
 cases xo<;>cases yo<;>first | (cases h;done) | (cases op<;>rfl)
theorem AZ {P:Program} {tt:TypeId→Option TI} (ht:cO P tt) {ρ:Rho} {H:af} {w:World} (h:HR ρ H w) {op:BinOp} {T:TypeId} {xo yo:Operand} {x y z:ah} {u v:Value} (hx:VR ρ x u) (hy:VR ρ y v) (ha:yz tt op T x y=some z):
 cw P (do eqGuard op T xo yo u v;binOp op T u v) ρ H w z H:=by
 unfold yz at ha
 split at ha
 ·rename_i i hi
  split at ha
  ·rename_i b hb
   have key:=tJ (P:=P) hx hy hb (fun w=>ht.run_und hi w) 9999 w
   have hg:(eqGuard op T xo yo u v).run P w = .ok () w:=by
    unfold pS at hb
    split at hb
    all_goals first
     | (cases hb;done)
     | (cases hx;cases hy;unfold eqGuard;cases op<;>rfl)
   split at ha
   ·injection ha with ha
    subst ha
    refine .pure h (v := .bool b) ?_ (.bool _)
    unfold pS at hb
    split at hb
    all_goals first
     | (cases hb;done)
     | (cases hx;cases hy;simp[hg,binOp,Op.equal,Op.maxDepth,key])
   ·injection ha with ha
    subst ha
    refine .pure h (v := .bool (!b)) ?_ (.bool _)
    unfold pS at hb
    split at hb
    all_goals first
     | (cases hb;done)
     | (cases hx;cases hy;simp[hg,binOp,Op.equal,Op.maxDepth,key])
   ·cases ha
  ·cases ha
 ·cases ha
theorem FX {P:Program} {tt:TypeId→Option TI} (ht:cO P tt) (hf:FOk P tt) {ρ:Rho} {H:af} {w:World} (h:HR ρ H w) {op:BinOp} {T:TypeId} {xo yo:Operand} {x y z:ah} {u v:Value} (hx:VR ρ x u) (hy:VR ρ y v) (ha:se tt op T xo yo x y=some z):
 cw P (do eqGuard op T xo yo u v;binOp op T u v) ρ H w z H:=by
 unfold se at ha
 split at ha
 ·rename_i k a k' b
  cases hx;cases hy
  have hg:=nY (P:=P) (w:=w) (op:=op) (T:=T) (xo:=xo) (yo:=yo) (u := .int k a) (v := .int k' b) (.inr (.inl ⟨k,a,rfl⟩))
  have key:∃ r,(binOp op T (.int k a) (.int k' b)).run P w = .ok r w∧VR ρ z r:=by
   split at ha
   ·exact tT ha (.inl rfl)
   ·exact tT ha (.inr rfl)
   ·split at ha
    ·rename_i hk
     subst hk
     exact Fi ha
    ·cases ha
  obtain⟨r,k1,k2⟩:=key
  exact .pure h (by simp[hg,k1]) k2
 ·rename_i a b
  cases hx;cases hy
  have hg:=nY (P:=P) (w:=w) (op:=op) (T:=T) (xo:=xo) (yo:=yo) (u := .string ⟨⟨a⟩⟩) (v := .string ⟨⟨b⟩⟩) (.inr (.inr ⟨_,rfl⟩))
  obtain⟨r,k1,k2⟩:=Hp (P:=P) (ρ:=ρ) (w:=w) (T:=T) ha
  exact .pure h (by simp[hg,k1]) k2
 ·rename_i a b
  cases hx;cases hy
  have hg:=nY (P:=P) (w:=w) (op:=op) (T:=T) (xo:=xo) (yo:=yo) (u := .bool a) (v := .bool b) (.inl ⟨_,rfl⟩)
  split at ha
  ·obtain⟨r,q1,q2⟩:=Option.map_eq_some_iff.1 ha
   subst q2
   have:=jD ht hf 1 9999 T _ _ _ _ r w (.bool (ρ:=ρ) a) (.bool b) q1
   refine .pure h (v := .bool r) ?_ (.bool _)
   simp[hg,binOp,Op.equal,Op.maxDepth,this]
  ·obtain⟨r,q1,q2⟩:=Option.map_eq_some_iff.1 ha
   subst q2
   have:=jD ht hf 1 9999 T _ _ _ _ r w (.bool (ρ:=ρ) a) (.bool b) q1
   refine .pure h (v := .bool (!r)) ?_ (.bool _)
   simp[hg,binOp,Op.equal,Op.maxDepth,this]
  ·cases ha
 ·cases hx;cases hy
  split at ha
  ·rename_i hl
   have hg:=xM (P:=P) (w:=w) (op:=op) (T:=T) hl
   split at ha
   ·obtain⟨r,q1,q2⟩:=Option.map_eq_some_iff.1 ha
    subst q2
    have:=jD ht hf 1 9999 T _ _ _ _ r w (.nili (ρ:=ρ)) .nili q1
    refine .pure h (v := .bool r) ?_ (.bool _)
    simp[hg,binOp,Op.equal,Op.maxDepth,this]
   ·obtain⟨r,q1,q2⟩:=Option.map_eq_some_iff.1 ha
    subst q2
    have:=jD ht hf 1 9999 T _ _ _ _ r w (.nili (ρ:=ρ)) .nili q1
    refine .pure h (v := .bool (!r)) ?_ (.bool _)
    simp[hg,binOp,Op.equal,Op.maxDepth,this]
   ·cases ha
  ·cases ha
 ·rename_i xs ys
  cases hx with
  | agg _ us hus=>
  cases hy with
  | agg _ vs hvs=>
  split at ha
  ·rename_i i hi
   split at ha
   ·rename_i hfl
    have hg:=run_eqGuard_agg (P:=P) w op T xo yo ⟨us⟩ ⟨vs⟩ (hf T i hi hfl).2
    split at ha
    ·obtain⟨r,q1,q2⟩:=Option.map_eq_some_iff.1 ha
     subst q2
     have:=jD ht hf 8 9992 T _ _ _ _ r w (.agg xs us hus) (.agg ys vs hvs) q1
     refine .pure h (v := .bool r) ?_ (.bool _)
     simp[hg,run_eql_struct,this]
    ·obtain⟨r,q1,q2⟩:=Option.map_eq_some_iff.1 ha
     subst q2
     have:=jD ht hf 8 9992 T _ _ _ _ r w (.agg xs us hus) (.agg ys vs hvs) q1
     refine .pure h (v := .bool (!r)) ?_ (.bool _)
     simp[hg,run_neq_struct,this]
    ·cases ha
   ·cases ha
  ·cases ha
 ·exact AZ ht h hx hy ha
def aUn (op:UnOp):ah→Option ah
 | .int k n=>match op with
   | .neg=>some (.int k (k.wrap (0-n)))
   | .xor=>some (.int k (bits .xor k (if k.signed then -1 else k.max) n))
   | _=>none
 | .bool b=>match op with
   | .not=>some (.bool !b)
   | _=>none
 | _=>none
theorem Lh {P:Program} {ρ:Rho} {H:af} {w:World} (h:HR ρ H w) {op:UnOp} {x z:ah} {u:Value} (hx:VR ρ x u) (ha:aUn op x=some z):cw P (Op.unary op u) ρ H w z H:=by
 cases hx with
 | int k n=>
   simp only[aUn]at ha
   split at ha
   ·injection ha with ha
    subst ha
    exact .pure h (by simp[Op.unary,Op.intArith]) (.int _ _)
   ·injection ha with ha
    subst ha
    exact .pure h (by simp only[Op.unary,intBits_xor];rfl) (.int _ _)
   ·cases ha
 | bool b=>
   simp only[aUn]at ha
   split at ha
   ·injection ha with ha
    subst ha
    exact .pure h (by simp[Op.unary]) (.bool _)
   ·cases ha
 | _=>simp[aUn]at ha
def bytesOf:List ah→Option (List UInt8)
 | []=>some []
 | .int .u8 n::xs=>match bytesOf xs with
   | some l=>some (UInt8.ofNat n.toNat::l)
   | none=>none
 | _::_=>none
theorem qU {ρ:Rho}:∀ {xs:List ah} {vs:List Value} {l:List UInt8},VRs ρ xs vs→bytesOf xs=some l → ∃ ns:List Int,vs=ns.map (Value.int .u8)∧l=ns.map fun n=>UInt8.ofNat n.toNat
 | _,_,l,.nil,h=>by simp[bytesOf]at h;subst h;exact⟨[],rfl,rfl⟩
 | _,_,l,.cons x v xs vs hx hs,h=>by
   unfold bytesOf at h
   split at h
   ·rename_i h1;cases h1
   ·rename_i n ys h1
    injection h1 with h1 h2
    subst h1 h2
    cases hx
    split at h
    ·rename_i l' h3
     injection h with h
     subst h
     obtain⟨ns,k1,k2⟩:=qU hs h3
     exact⟨n::ns,by rw[k1];rfl,by rw[k2];rfl⟩
    ·cases h
   ·cases h
def jd (tt:TypeId→Option TI) (H:af) (src dst:TypeId) (x:ah):Option (ah×af):=
 match tt src,tt dst with
 | some i,some j=>match i.und,j.und,x with
   | .int _,.int k,.int _ n=>some (.int k (k.wrap n),H)
   | .string,.string,.str s=>some (.str s,H)
   | .string,.slice e,.str s=>match tt e with
     | some m=>match m.und with
       | .int .u8=>if s.length≤1048576 ∧ ¬ e=wu then(ji H e (s.map fun b=>.int .u8 (b.toNat:Int))).map fun H'=>(.slc H.next 0 0 s.length s.length 1 false,H') else none
       | _=>none
     | none=>none
   | .slice _,.slice e,.slc id ver off len cap sz ex=>match tt e with
     | some m=>match m.und with
       | .int .u8=>if src=dst∧(H.get id).isSome=true then some (.slc id ver off len cap sz ex,H) else none
       | _=>none
     | none=>none
   | .slice e,.string,.emp _ _ _=>match tt e with
     | some m=>match m.und with
       | .int .u8=>some (.str [],H)
       | _=>none
     | none=>none
   | .slice e,.string,.nils=>match tt e with
     | some m=>match m.und with
       | .int .u8=>some (.str [],H)
       | _=>none
     | none=>none
   | .slice e,.string,.slc id ver off len cap sz _=>match tt e with
     | some m=>match m.und with
       | .int .u8=>if sz=1 then(match fH H id ver off len with
         | some xs=>(bytesOf xs).map fun l=>(.str l,H)
         | none=>none) else none
       | _=>none
     | none=>none
   | _,_,_=>none
 | _,_=>none
theorem foldl_push:∀ (ns:List Int) (s:List UInt8),ns.foldl (fun(r:ByteArray) n=>r.push (UInt8.ofNat n.toNat)) ⟨⟨s⟩⟩=⟨⟨s++ns.map fun n=>UInt8.ofNat n.toNat⟩⟩
 | [],s=>by simp
 | n::ns,s=>by
   rw[List.foldl_cons]
   have:(⟨⟨s⟩⟩:ByteArray).push (UInt8.ofNat n.toNat)=⟨⟨s ++ [UInt8.ofNat n.toNat]⟩⟩:=by
    show(⟨(⟨s⟩:Array UInt8).push _⟩:ByteArray)=_
    simp
   rw[this,foldl_push ns]
   simp
theorem zG (w:World) (C:Array Value) (e:TypeId) (n:Nat):(w.alloc (.cells C e)).freeze ⟨w.heap.size,n,none⟩ 1=w.alloc (.cells C e (n,n+1)):=by
 unfold World.freeze
 rw[if_neg (by decide)]
 unfold World.alloc
 congr 1
 apply Array.ext_getElem?
 intro i
 rw[Array.getElem?_modify,Array.getElem?_push,Array.getElem?_push]
 by_cases h:i=w.heap.size
 ·subst h;simp
 ·rw[if_neg (fun e=>h e.symm),if_neg h,if_neg h]
theorem sg {P:Program} {w:World} (e:TypeId) (s:List UInt8):(Conv.stringToBytes e ⟨⟨s⟩⟩).run P w = .ok (.slice (some ⟨w.heap.size,0,none⟩) s.length (grownCap w s.length 0 e)) (w.drew.alloc (.cells ⟨(s.map fun b=>Value.int .u8 (b.toNat:Int))++List.replicate (grownCap w s.length 0 e-s.length) (.int .u8 0)⟩ e (grownCap w s.length 0 e,grownCap w s.length 0 e+1))):=by
 have hs1:(⟨⟨s⟩⟩:ByteArray).size=s.length:=rfl
 have hg:=fT (w:=w) (need:=s.length) (old:=0) (e:=e)
 unfold Conv.stringToBytes
 simp only[Sem.run_bind,run_choose,Question.forced,Bool.false_eq_true,if_false,Result.andThen_ok,newRow,run_newObj,markStringish,run_shape,hs1]
 have hc:(Question.appendCap s.length 0 e).cut (w.tape w.drawn (.appendCap s.length 0 e))=grownCap w s.length 0 e:=rfl
 rw[hc]
 have ha:(Array.map (fun b:UInt8=>Value.int IntKind.u8 (b.toNat:Int)) (⟨⟨s⟩⟩:ByteArray).data++Array.replicate (grownCap w s.length 0 e-s.length) (Value.int .u8 0))=⟨(s.map fun b=>Value.int .u8 (b.toNat:Int))++List.replicate (grownCap w s.length 0 e-s.length) (.int .u8 0)⟩:=by
  apply Array.ext'
  simp
 rw[ha]
 generalize hC:(⟨(s.map fun b=>Value.int .u8 (b.toNat:Int))++List.replicate (grownCap w s.length 0 e-s.length) (.int .u8 0)⟩:Array Value)=C
 have hCs:C.size=grownCap w s.length 0 e:=by rw[←hC];simp;omega
 have hsh:World.shape? { w.drew with heap:=w.heap.push (.cells C e) } w.heap.size=some (e,C.size):=by simp[World.shape?]
 have hfr:=zG w.drew C e C.size
 simp only[World.drew]at hsh hfr ⊢
 simp only[hsh,run_freeze,Sem.run_bind,Result.andThen_ok,Sem.run_pure]
 rw[hCs]at hfr ⊢
 rw[←hfr]
 rfl
theorem Dy {P:Program} {tt:TypeId→Option TI} (ht:cO P tt) {ρ:Rho} {H H':af} {w:World} (h:HR ρ H w) {src dst:TypeId} {x z:ah} {u:Value} (hx:VR ρ x u) (ha:jd tt H src dst x=some (z,H')) (hf:bR ρ H.next H'.next):cw P (convert src dst u) ρ H w z H':=by
 unfold jd at ha
 split at ha
 ·rename_i i j hi hj
  have e1:=ht.run_und hi w
  have e2:=ht.run_und hj w
  split at ha
  ·rename_i hd1 hd2
   rw[hd1]at e1
   rw[hd2]at e2
   cases hx
   injection ha with ha
   injection ha with h1 h2
   subst h1 h2
   refine .pure h ?_ (.int _ _)
   simp[convert,e1,e2,Conv.intToInt]
  ·rename_i hd1 hd2
   rw[hd1]at e1
   rw[hd2]at e2
   cases hx
   injection ha with ha
   injection ha with h1 h2
   subst h1 h2
   refine .pure h ?_ (.str _)
   simp[convert,e1,e2]
  ·rename_i e s hd1 hd2
   rw[hd1]at e1
   rw[hd2]at e2
   cases hx
   split at ha
   ·rename_i m hm
    have e3:=ht.run_und hm w
    split at ha
    ·rename_i hmu
     rw[hmu]at e3
     split at ha
     ·rename_i hl
      obtain⟨hl,hbx⟩:=hl
      obtain⟨H2,k1,k2⟩:=Option.map_eq_some_iff.1 ha
      injection k2 with k2 k3
      subst k2 k3
      have hg:=fT (w:=w) (need:=s.length) (old:=0) (e:=e)
      have hd0:HR ρ H w.drew:=h.of_heap rfl
      have hsl:(s.map fun b=>Value.int .u8 (b.toNat:Int)).length=s.length:=by simp
      obtain⟨q1,q2⟩:=gH hd0 k1 hf (C:=⟨(s.map fun b=>Value.int .u8 (b.toNat:Int))++List.replicate (grownCap w s.length 0 e-s.length) (.int .u8 0)⟩) (fr:=(grownCap w s.length 0 e,grownCap w s.length 0 e+1)) (by simp;omega) (more:=List.replicate (grownCap w s.length 0 e-s.length) (.int .u8 0)) (fun e=>absurd e hbx) (by simp only[List.length_map];rw[List.take_left' hsl]) (by simp only[List.length_map];rw[List.take_left' hsl];exact fN s)
      refine⟨.slice (some ⟨w.heap.size,0,none⟩) s.length (grownCap w s.length 0 e),_,_,?_,?_,q1,(Ext.same (w:=w) (w':=w.drew) rfl rfl rfl rfl).trans q2 h.ok (fun id ver h1 h2=>by omega)⟩
      ·simp[convert,e1,e2,e3,sg]
      ·exact .slc _ _ _ _ _ _ _ _ _ (Rho.add_self _ _ _ _) (Nat.le_refl _) (by simp) ⟨hg,iA (by omega)⟩ (by simp;omega) (by simp)
     ·cases ha
    ·cases ha
   ·cases ha
  ·rename_i e0 e id ver off len cap sz ex hd1 hd2
   rw[hd1]at e1
   rw[hd2]at e2
   cases hx with
   | slc _ _ _ _ _ _ _ L c hL g1 g2 g3 g4 g5=>
   split at ha
   ·rename_i m hm
    have e3:=ht.run_und hm w
    split at ha
    ·rename_i hmu
     rw[hmu]at e3
     split at ha
     ·rename_i hc
      obtain⟨rfl,hs⟩:=hc
      rw[hi]at hj;injection hj with hj;subst hj
      rw[hd1]at hd2;injection hd2 with hd2;subst hd2
      injection ha with ha
      injection ha with h1 h2
      subst h1 h2
      obtain⟨r1,r2⟩:=h.freeze hL hs
      obtain⟨r0,hr0⟩:=Option.isSome_iff_exists.1 hs
      obtain⟨a2,a3,C,t,fr,a4,a5,a6,a7,a8⟩:=h.row id ver L r0 hL hr0
      refine⟨_,_,ρ,?_,.slc _ _ _ _ _ _ _ L c hL g1 g2 g3 g4 g5,r1,r2⟩
      have hsh:w.shape? L.b=some (t,L.n):=by unfold World.shape?;rw[a4];simp only[a5]
      simp[convert,e1,e2,e3,markStringish,hsh]
     ·cases ha
    ·cases ha
   ·cases ha
  ·rename_i e id ver sz hd1 hd2
   rw[hd1]at e1
   rw[hd2]at e2
   cases hx with
   | emp _ _ _ L o c hL g3 g4=>
   split at ha
   ·rename_i m hm
    have e3:=ht.run_und hm w
    split at ha
    ·rename_i hmu
     rw[hmu]at e3
     injection ha with ha
     injection ha with h1 h2
     subst h1 h2
     have:=run_bytesToString (P:=P) w ⟨L.b,o,none⟩ 0 c [] (by simp[loadCells,loadCellsFrom])
     refine .pure h (v := .string ⟨⟨[]⟩⟩) ?_ (.str [])
     simp[convert,e1,e2,e3,this]
     rfl
    ·cases ha
   ·cases ha
  ·rename_i e hd1 hd2
   rw[hd1]at e1
   rw[hd2]at e2
   cases hx
   split at ha
   ·rename_i m hm
    have e3:=ht.run_und hm w
    split at ha
    ·rename_i hmu
     rw[hmu]at e3
     injection ha with ha
     injection ha with h1 h2
     subst h1 h2
     refine .pure h ?_ (.str [])
     simp[convert,e1,e2,e3,Conv.bytesToString]
     rfl
    ·cases ha
   ·cases ha
  ·rename_i e id ver off len cap sz ex hd1 hd2
   rw[hd1]at e1
   rw[hd2]at e2
   cases hx with
   | slc _ _ _ _ _ _ _ L c hL g1 g2 g3 g4 g5=>
   split at ha
   ·rename_i m hm
    have e3:=ht.run_und hm w
    split at ha
    ·rename_i hmu
     rw[hmu]at e3
     split at ha
     ·rename_i hsz
      subst hsz
      split at ha
      ·rename_i xs hr
       obtain⟨l,k1,k2⟩:=Option.map_eq_some_iff.1 ha
       injection k2 with k2 k3
       subst k2 k3
       obtain⟨vs,q1,q2,q3,q4,q5⟩:=dj (P:=P) h hL (by omega) hr
       obtain⟨ns,r1,r2⟩:=qU q1 k1
       subst r1 r2
       have:=run_bytesToString (P:=P) w ⟨L.b,off,none⟩ len c ns q5
       refine .pure h (v := .string ⟨⟨ns.map fun n=>UInt8.ofNat n.toNat⟩⟩) ?_ (.str _)
       have hfp:=foldl_push ns []
       rw[List.nil_append]at hfp
       rw[show ByteArray.empty=⟨⟨[]⟩⟩ from rfl,hfp]at this
       simp[convert,e1,e2,e3,this]
      ·cases ha
     ·cases ha
    ·cases ha
   ·cases ha
  ·cases ha
 ·cases ha
end
section
def kM (place:Nat→Option (Nat×Nat)) (cells:List ah):List (Nat×ah)→Option (List ah)
 | []=>some cells
 | (i,x)::rest=>match place i with
   | none=>none
   | some (off,size)=>if x.cells.length=size∧off+size≤cells.length then kM place (setAll cells off x.cells) rest else none
def pn:List Value→Nat→List Value→List Value
 | cs,_,[]=>cs
 | cs,off,x::xs=>pn (cs.set off x) (off+1) xs
theorem VRs.set {ρ:Rho}:∀ {xs:List ah} {vs:List Value},VRs ρ xs vs → ∀ (i:Nat) {x:ah} {v:Value},VR ρ x v→VRs ρ (xs.set i x) (vs.set i v)
 | _,_,.nil,i,x,v,h=>by simp;exact .nil
 | _,_,.cons y u ys us hy hys,0,x,v,h=>.cons _ _ _ _ h hys
 | _,_,.cons y u ys us hy hys,i+1,x,v,h=>.cons _ _ _ _ hy (hys.set i h)
theorem VRs.setAll {ρ:Rho}:∀ {xs:List ah} {vs:List Value},VRs ρ xs vs → ∀ {cs:List ah} {us:List Value},VRs ρ cs us → ∀ off,VRs ρ (setAll cs off xs) (pn us off vs)
 | _,_,.nil,cs,us,h,off=>h
 | _,_,.cons x v xs vs hx hs,cs,us,h,off=>hs.setAll (h.set off hx) (off+1)
theorem wP (off:Nat):∀ (vs:List Value) (k:Nat) (C:Array Value),(vs.zipIdx k).foldl (fun(cs:Array Value) (p:Value×Nat)=>cs.setIfInBounds (off+p.2) p.1) C=⟨pn C.toList (off+k) vs⟩
 | [],k,C=>rfl
 | v::vs,k,C=>by
   rw[List.zipIdx_cons,List.foldl_cons,wP off vs (k+1)]
   simp only[Array.toList_setIfInBounds]
   rw[pn,Nat.add_assoc]
inductive iK (ρ:Rho):List (Nat×ah)→List (Nat×Value)→Prop where
 | nil:iK ρ [] []
 | cons (i:Nat) (x:ah) (v:Value) (xs:List (Nat×ah)) (vs:List (Nat×Value)) (h:VR ρ x v) (hs:iK ρ xs vs):iK ρ ((i,x)::xs) ((i,v)::vs)
theorem nh {ρ:Rho} {place place':Nat→Option (Nat×Nat)} (hp:∀ i p,place i=some p→place' i=some p):∀ {xs:List (Nat×ah)} {vs:List (Nat×Value)},iK ρ xs vs → ∀ {cs:List ah} {us:List Value} {out:List ah},VRs ρ cs us→kM place cs xs=some out → ∃ os,Instr.fill place' ⟨us⟩ vs=some ⟨os⟩∧VRs ρ out os
 | _,_,.nil,cs,us,out,h,ha=>by simp[kM]at ha;subst ha;exact⟨us,rfl,h⟩
 | _,_,.cons i x v xs vs hx hs,cs,us,out,h,ha=>by
   unfold kM at ha
   split at ha
   ·cases ha
   ·rename_i off size hpl
    split at ha
    ·rename_i hc
     have hl:=hx.cells.length
     rw[Array.length_toList (xs:=v.cells)]at hl
     have hul:=h.length
     obtain⟨os,k1,k2⟩:=nh hp hs (hx.cells.setAll h off) ha
     refine⟨os,?_,k2⟩
     unfold Instr.fill
     rw[hp i _ hpl]
     simp only
     have e1:¬ (v.cells.size≠size):=by omega
     have e2:¬ (off+v.cells.size > us.length):=by omega
     have e3:(v.cells.size≠size || decide (off+v.cells.size > (⟨us⟩:Array Value).size))=false:=by
      have:(⟨us⟩:Array Value).size=us.length:=rfl
      simp[this];omega
     rw[show(decide (v.cells.size≠size) || decide (off+v.cells.size > (⟨us⟩:Array Value).size))=false from by simpa using e3]
     simp only[Bool.false_eq_true,if_false]
     rw[←Array.foldl_toList,Array.toList_zipIdx]
     have hfs:=wP off v.cells.toList 0 ⟨us⟩
     rw[Nat.add_zero]at hfs
     rw[hfs]
     exact k1
    ·cases ha
def lW (tt:TypeId→Option TI):List Field→Option (List (Nat×Nat))
 | []=>some []
 | f::fs=>match tt f.type,lW tt fs with
   | some i,some l=>some ((f.offset,i.size)::l)
   | _,_=>none
theorem rI {P:Program} {tt:TypeId→Option TI} (ht:cO P tt) (w:World):∀ {fs:List Field} {l:List (Nat×Nat)},lW tt fs=some l→(fs.mapM (m:=Sem) fun f=>Functor.map (Prod.mk f.offset) (sizeOf f.type)).run P w = .ok l w
 | [],l,h=>by simp[lW]at h;subst h;simp
 | f::fs,l,h=>by
   unfold lW at h
   split at h
   ·rename_i i l' h1 h2
    injection h with h
    subst h
    have e1:=ht.run_size h1 w
    have e2:=rI ht w h2
    simp only[List.mapM_cons,Sem.run_bind,Sem.run_map,e1,Result.andThen_ok,e2,Sem.run_pure]
   ·cases h
def vk (tt:TypeId→Option TI) (t:TypeId) (parts:List (Nat×ah)):Option ah:=
 match tt t with
 | some i=>match aconst i.zero with
   | some z=>match i.und with
     | .struct fields=>match lW tt fields.toList with
       | some l=>(kM (fun k=>l[k]?) z.cells parts).map .agg
       | none=>none
     | .array _ e=>match tt e with
       | some j=>(kM (fun k=>some (k*j.size,j.size)) z.cells parts).map .agg
       | none=>none
     | _=>none
   | none=>none
 | none=>none
theorem Bq {P:Program} {tt:TypeId→Option TI} (ht:cO P tt) {ρ:Rho} {H:af} {w:World} (h:HR ρ H w) {t:TypeId} {parts:List (Nat×ah)} {pv:Array (Nat×Value)} {x:ah} (hp:iK ρ parts pv.toList) (ha:vk tt t parts=some x):cw P (Instr.build t pv) ρ H w x H:=by
 unfold vk at ha
 split at ha
 ·rename_i i hi
  have e1:=ht.run_und hi w
  have e2:=ht.run_zero hi w
  split at ha
  ·rename_i z hz
   have hzc:=(bI (ρ:=ρ) hz).cells
   split at ha
   ·rename_i fields hu
    rw[hu]at e1
    split at ha
    ·rename_i l hl
     obtain⟨out,k1,k2⟩:=Option.map_eq_some_iff.1 ha
     subst k2
     obtain⟨os,q1,q2⟩:=nh (place':=fun k=>(⟨l⟩:Array (Nat×Nat))[k]?) (fun i p h=>by simpa using h) hp hzc k1
     have e3:=rI (P:=P) ht w hl
     have e4:(fields.mapM (m:=Sem) fun f=>Functor.map (Prod.mk f.offset) (sizeOf f.type)).run P w = .ok l.toArray w:=by
      obtain⟨fl⟩:=fields
      have hm:(fl.toArray.mapM (m:=Sem) fun f=>Functor.map (Prod.mk f.offset) (sizeOf f.type))=Functor.map List.toArray (fl.mapM fun f=>Functor.map (Prod.mk f.offset) (sizeOf f.type)):=List.mapM_toArray
      rw[show(⟨fl⟩:Array Field)=fl.toArray from rfl,hm,Sem.run_map,e3]
      rfl
     refine .pure h ?_ (.agg _ _ q2)
     have:(⟨i.zero.cells.toList⟩:Array Value)=i.zero.cells:=rfl
     rw[this]at q1
     simp[Instr.build,e1,e2,e4]
     simp at q1
     simp[q1]
    ·cases ha
   ·rename_i n e hu
    rw[hu]at e1
    split at ha
    ·rename_i j hj
     have e3:=ht.run_size hj w
     obtain⟨out,k1,k2⟩:=Option.map_eq_some_iff.1 ha
     subst k2
     obtain⟨os,q1,q2⟩:=nh (place':=fun k=>some (k*j.size,j.size)) (fun i p h=>h) hp hzc k1
     refine .pure h ?_ (.agg _ _ q2)
     have:(⟨i.zero.cells.toList⟩:Array Value)=i.zero.cells:=rfl
     rw[this]at q1
     simp[Instr.build,e1,e2,e3,q1]
    ·cases ha
   ·cases ha
  ·cases ha
 ·cases ha
end
section
def ck (tt:TypeId→Option TI) (H:af) (t:TypeId) (len:Nat) (parts:List (Nat×ah)):Option (ah×af):=
 match tt t with
 | some i=>match i.und with
   | .slice e=>match tt e with
     | some j=>if len=0 then(match parts with
       | []=>(ji H e []).map fun H'=>(.slc H.next 0 0 0 0 j.size true,H')
       | _::_=>none) else match aconst j.zero with
       | some z=>if 0<len*j.size∧len*j.size≤1048576∧z.cells.length=j.size then
        (match kM (fun k=>some (k*j.size,j.size)) (rH z.cells len) parts with
        | some out=>(ji H e out).map fun H'=>(.slc H.next 0 0 len len j.size true,H')
        | none=>none) else none
       | none=>none
     | none=>none
   | _=>none
 | none=>none
theorem nj {place:Nat→Option (Nat×Nat)}:∀ {xs:List (Nat×ah)} {cs out:List ah},kM place cs xs=some out→out.length=cs.length
 | [],cs,out,h=>by simp[kM]at h;subst h;rfl
 | (i,x)::xs,cs,out,h=>by
   unfold kM at h
   split at h
   ·cases h
   ·split at h
    ·rw[nj h,kK]
    ·cases h
theorem ry {P:Program} {tt:TypeId→Option TI} (ht:cO P tt) {ρ:Rho} {H H':af} {w:World} (h:HR ρ H w) {t:TypeId} {len:Nat} {parts:List (Nat×ah)} {pv:Array (Nat×Value)} {x:ah} (hp:iK ρ parts pv.toList) (ha:ck tt H t len parts=some (x,H')) (hf:bR ρ H.next H'.next):cw P (Instr.buildSlice t len pv) ρ H w x H':=by
 unfold ck at ha
 split at ha
 ·rename_i i hi
  have e1:=ht.run_und hi w
  split at ha
  ·rename_i e hu
   rw[hu]at e1
   split at ha
   ·rename_i j hj
    have e2:=ht.run_size hj w
    have e3:=ht.run_zero hj w
    split at ha
    ·rename_i hz0
     subst hz0
     split at ha
     ·obtain⟨H2,k1,k2⟩:=Option.map_eq_some_iff.1 ha
      injection k2 with k2 k3
      subst k2 k3
      obtain⟨r1,r2⟩:=gH h k1 hf (C:=#[]) (fr:=(0,0)) (by simp) (more:=[]) (fun _=>rfl) (by simp) (by simp;exact .nil)
      refine⟨.slice (some ⟨w.heap.size,0,none⟩) 0 0,_,_,?_,.slc _ _ _ _ _ _ _ _ _ (Rho.add_self _ _ _ _) (Nat.le_refl _) (by simp) ⟨Nat.le_refl _,by omega⟩ (by simp) (fun _=>rfl),r1,r2⟩
      have hpv:pv=#[]:=by
       have:pv.toList = []:=by
        generalize pv.toList=q at hp
        cases hp
        rfl
       exact Array.ext' this
      subst hpv
      simp[Instr.buildSlice,e1,e2,Instr.fill,newRow]
      congr 2
      exact Array.ext' (by simp)
     ·cases ha
    split at ha
    ·rename_i z hz
     split at ha
     ·rename_i hc
      obtain⟨c1,c2,c3⟩:=hc
      have hlj:len≤len*j.size:=Nat.le_mul_of_pos_right _ (by rcases Nat.eq_zero_or_pos j.size with h0 | h0;(rw[h0]at c1;simp at c1);exact h0)
      split at ha
      ·rename_i out ho
       obtain⟨H2,k1,k2⟩:=Option.map_eq_some_iff.1 ha
       injection k2 with k2 k3
       subst k2 k3
       have hzc:=iM (ρ:=ρ) (bI hz) len
       obtain⟨os,q1,q2⟩:=nh (place':=fun k=>some (k*j.size,j.size)) (fun i p h=>h) hp hzc ho
       have hzz:j.zero.cells.size=j.size:=by
        have:=(bI (ρ:=ρ) hz).cells.length
        rw[Array.length_toList (xs:=j.zero.cells)]at this
        omega
       have hol:=q2.length
       have hol2:=nj ho
       rw[dP,c3]at hol2
       obtain⟨r1,r2⟩:=gH h k1 hf (C:=⟨os⟩) (fr:=(0,0)) (by simp) (more:=[]) (fun _=>rfl) (by simp only;rw[List.take_of_length_le (by omega)];simp) (by simp only;rw[List.take_of_length_le (by omega)];exact q2)
       refine⟨.slice (some ⟨w.heap.size,0,none⟩) len len,_,_,?_,.slc _ _ _ _ _ _ _ _ _ (Rho.add_self _ _ _ _) (Nat.le_refl _) (by simp only;omega) ⟨Nat.le_refl _,by omega⟩ (by simp;omega) (fun _=>rfl),r1,r2⟩
       have hm:(Array.range (len*j.size)).map (fun k=>j.zero.cells[k%j.zero.cells.size]!)=(⟨(Builtin.zeroCells j.zero.cells len).toList⟩:Array Value):=by
        rw[←hzz];rfl
       have n1:¬ (16777216<len*j.size):=by omega
       have n2:¬ (len*j.size=0):=by omega
       have n3:¬ (len=0):=fun e=>by rw[e]at c1;omega
       have n4:¬ (j.size=0):=fun e=>by rw[e]at c1;omega
       simp only[Instr.buildSlice,Sem.run_bind,e1,Result.andThen_ok,e2]
       rw[if_neg (by omega)]
       simp only[Sem.run_bind,Sem.run_ite,if_neg n2,e3,Result.andThen_ok,Sem.run_pure,Sem.run_map]
       rw[hm,q1]
       rfl
      ·cases ha
     ·cases ha
    ·cases ha
   ·cases ha
  ·cases ha
 ·cases ha
def sX:ah→ah→Option ah
 | .int k x,.int k' y=>some (.int k (if y<x then y else x))
 | _,_=>none
def tR:ah→ah→Option ah
 | .int k x,.int k' y=>some (.int k (if y > x then y else x))
 | _,_=>none
def oN (f:ah→ah→Option ah):ah→List ah→Option ah
 | x,[]=>some x
 | x,y::ys=>match f x y with
   | some z=>oN f z ys
   | none=>none
theorem qB {P:Program} {ρ:Rho} {w:World} {f:ah→ah→Option ah} {g:Value→Value→Sem Value} (hfg:∀ x y z u v,VR ρ x u→VR ρ y v→f x y=some z → ∃ r,(g u v).run P w = .ok r w∧VR ρ z r):
 ∀ {ys:List ah} {vs:List Value},VRs ρ ys vs → ∀ {x z:ah} {u:Value},VR ρ x u→oN f x ys=some z → ∃ r,(vs.foldlM g u).run P w = .ok r w∧VR ρ z r
 | _,_,.nil,x,z,u,hx,h=>by simp[oN]at h;subst h;exact⟨u,rfl,hx⟩
 | _,_,.cons y v ys vs hy hys,x,z,u,hx,h=>by
   unfold oN at h
   split at h
   ·rename_i z' h1
    obtain⟨r,k1,k2⟩:=hfg _ _ _ _ _ hx hy h1
    obtain⟨r2,k3,k4⟩:=qB hfg hys k2 h
    exact⟨r2,by rw[List.foldlM_cons,Sem.run_bind,k1,Result.andThen_ok];exact k3,k4⟩
   ·cases h
theorem Fo {P:Program} {ρ:Rho} {H:af} {w:World} (h:HR ρ H w) {ts:Array TypeId} {ty:TypeId} {x z:ah} {ys:List ah} {vs:List Value} (hv:VRs ρ (x::ys) vs) (ha:oN sX x ys=some z):cw P (Builtin.min_ ts ty ⟨vs⟩) ρ H w z H:=by
 cases hv with
 | cons _ u _ us hx hys=>
 obtain⟨r,k1,k2⟩:=qB (P:=P) (w:=w) (f:=sX) (g:=Builtin.min2) (fun x y z u v hx hy h=>by
  cases hx with
  | int k a=>
    cases hy with
    | int k' b=>
      simp only[sX]at h
      injection h with h
      subst h
      exact⟨_,rfl,.int _ _⟩
    | _=>simp[sX]at h
  | _=>simp[sX]at h) hys hx ha
 exact .pure h (by simpa [Builtin.min_] using k1) k2
theorem IX {P:Program} {ρ:Rho} {H:af} {w:World} (h:HR ρ H w) {ts:Array TypeId} {ty:TypeId} {x z:ah} {ys:List ah} {vs:List Value} (hv:VRs ρ (x::ys) vs) (ha:oN tR x ys=some z):cw P (Builtin.max_ ts ty ⟨vs⟩) ρ H w z H:=by
 cases hv with
 | cons _ u _ us hx hys=>
 obtain⟨r,k1,k2⟩:=qB (P:=P) (w:=w) (f:=tR) (g:=Builtin.max2) (fun x y z u v hx hy h=>by
  cases hx with
  | int k a=>
    cases hy with
    | int k' b=>
      simp only[tR]at h
      injection h with h
      subst h
      exact⟨_,rfl,.int _ _⟩
    | _=>simp[tR]at h
  | _=>simp[tR]at h) hys hx ha
 exact .pure h (by simpa [Builtin.max_] using k1) k2
def qV (tt:TypeId→Option TI) (H:af) (t:TypeId) (x:ah):Option (ah×af):=
 match tt t with
 | some i=>match i.und with
   | .slice e=>match x with
     | .nils=>some (.tup [],H)
     | .slc id ver off len cap sz _=>if len=0 then some (.tup [],H) else(match tt e with
       | some j=>match aconst j.zero with
         | some z=>if z.cells.length=sz∧j.size=sz then(jM H id ver off (rH z.cells len)).map fun H'=>(.tup [],H') else none
         | none=>none
       | none=>none)
     | _=>none
   | _=>none
 | none=>none
theorem Bv {P:Program} {tt:TypeId→Option TI} (ht:cO P tt) {ρ:Rho} {H H':af} {w:World} (h:HR ρ H w) {t ty:TypeId} {x y:ah} {v:Value} (hv:VR ρ x v) (ha:qV tt H t x=some (y,H')):cw P (Builtin.clear_ #[t] ty #[v]) ρ H w y H':=by
 unfold qV at ha
 split at ha
 ·rename_i i hi
  have e1:=ht.run_und hi w
  split at ha
  ·rename_i e hu
   rw[hu]at e1
   split at ha
   ·cases hv with
    | nils=>
    injection ha with ha
    injection ha with h1 h2
    subst h1 h2
    exact .pure h (by simp[Builtin.clear_,e1]) (.tup [] [] .nil)
   ·rename_i id ver off len cap sz ex
    cases hv with
    | slc _ _ _ _ _ _ _ L c hL g1 g2 g3 g4 g5=>
    split at ha
    ·rename_i hl
     subst hl
     injection ha with ha
     injection ha with h1 h2
     subst h1 h2
     exact .pure h (by simp[Builtin.clear_,e1]) (.tup [] [] .nil)
    ·rename_i hl
     split at ha
     ·rename_i j hj
      split at ha
      ·rename_i z hz
       split at ha
       ·rename_i hc
        obtain⟨H2,k1,k2⟩:=Option.map_eq_some_iff.1 ha
        injection k2 with k2 k3
        subst k2 k3
        have e3:=ht.run_zero hj w
        have hzc:=iM (ρ:=ρ) (bI hz) len
        obtain⟨w',q1,q2,q3⟩:=kj (P:=P) h hL hzc k1
        refine⟨.tuple #[],w',ρ,?_,.tup [] [] .nil,q2,q3⟩
        obtain⟨len,rfl⟩:=Nat.exists_eq_succ_of_ne_zero hl
        simp[Builtin.clear_,e1,e3,q1]
       ·cases ha
      ·cases ha
     ·cases ha
   ·cases ha
  ·cases ha
 ·cases ha
def fB (ev:Operand→Option ah):List (Nat×Operand)→Option (List (Nat×ah))
 | []=>some []
 | (i,x)::ps=>match ev x,fB ev ps with
   | some v,some l=>some ((i,v)::l)
   | _,_=>none
def eM (ev:Operand→Option ah):List Operand→Option (List ah)
 | []=>some []
 | x::xs=>match ev x,eM ev xs with
   | some v,some l=>some (v::l)
   | _,_=>none
def Bf (ev:Operand→Option ah):Option Operand→Option (Option ah)
 | none=>some none
 | some x=>(ev x).map some
theorem nu {ρ:Rho} {ev:Operand→Option ah} {g:Operand→Value} (hev:∀ x v,ev x=some v→VR ρ v (g x)):∀ {ps:List (Nat×Operand)} {l:List (Nat×ah)},fB ev ps=some l→iK ρ l (ps.map fun p=>(p.1,g p.2))
 | [],l,h=>by simp[fB]at h;subst h;exact .nil
 | (i,x)::ps,l,h=>by
   unfold fB at h
   split at h
   ·rename_i v l' h1 h2
    injection h with h
    subst h
    exact .cons _ _ _ _ _ (hev _ _ h1) (nu hev h2)
   ·cases h
theorem jx {ρ:Rho} {ev:Operand→Option ah} {g:Operand→Value} (hev:∀ x v,ev x=some v→VR ρ v (g x)):∀ {xs:List Operand} {l:List ah},eM ev xs=some l→VRs ρ l (xs.map g)
 | [],l,h=>by simp[eM]at h;subst h;exact .nil
 | x::xs,l,h=>by
   unfold eM at h
   split at h
   ·rename_i v l' h1 h2
    injection h with h
    subst h
    exact .cons _ _ _ _ (hev _ _ h1) (jx hev h2)
   ·cases h
theorem vA {ρ:Rho} {ev:Operand→Option ah} {g:Operand→Value} (hev:∀ x v,ev x=some v→VR ρ v (g x)) {x:Option Operand} {y:Option ah} (h:Bf ev x=some y):AP ρ y (x.map g):=by
 cases x with
 | none=>simp[Bf]at h;subst h;exact⟨by simp,fun _=>rfl⟩
 | some x=>
   simp only[Bf]at h
   obtain⟨v,k1,k2⟩:=Option.map_eq_some_iff.1 h
   subst k2
   exact⟨fun y hy=>by injection hy with hy;subst hy;exact⟨_,rfl,hev _ _ k1⟩,by simp⟩
def cE (tt:TypeId→Option TI) (H:af) (b:Builtin) (ts:List TypeId) (xs:List ah):Option (ah×af):=
 match b,ts,xs with
 | .len,[t],[x]=>(Dg tt t x).map fun y=>(y,H)
 | .cap,[t],[x]=>(JY tt t x).map fun y=>(y,H)
 | .append,[t,xt],[s,x]=>match x with
   | .int _ _=>ke tt H t xt s x
   | _=>mJ tt H t xt s x
 | .copy,[t,_],[s,x]=>xP tt H t s x
 | .min,_,x::ys=>(oN sX x ys).map fun y=>(y,H)
 | .max,_,x::ys=>(oN tR x ys).map fun y=>(y,H)
 | .clear,[t],[x]=>qV tt H t x
 | _,_,_=>none
def Jl:TypeDesc→Bool
 | .interface _=>true
 | _=>false
def Kf (tt:TypeId→Option TI) (T:TypeId) (x:ah):Option ah:=match tt T with
 | some i=>if Jl i.und then none else some (.ifc T x)
 | none=>none
def vp (tt:TypeId→Option TI) (T:TypeId) (ok:Bool) (x:ah):Option ah:=match tt T with
 | some i=>if Jl i.und then none else(match x with
   | .ifc U y=>(match Nat.beq U T with
     | true=>some (if ok then .tup [y,.bool true] else y)
     | false=>if ok then(aconst i.zero).map fun z=>.tup [z,.bool false] else none)
   | .nili=>if ok then(aconst i.zero).map fun z=>.tup [z,.bool false] else none
   | _=>none)
 | none=>none
theorem FF {P:Program} {tt:TypeId→Option TI} (ht:cO P tt) {ρ:Rho} {H:af} {w:World} (h:HR ρ H w) {T:TypeId} {x z:ah} {v:Value} (hx:VR ρ x v) (ha:Kf tt T x=some z):cw P (Instr.makeInterface T v) ρ H w z H:=by
 unfold Kf at ha
 split at ha
 ·rename_i i hi
  split at ha
  ·cases ha
  ·rename_i hn
   injection ha with ha
   subst ha
   refine .pure h (v := .iface T v) ?_ (.ifc _ _ _ hx)
   unfold Instr.makeInterface
   rw[Sem.run_bind,cO.run_und ht hi]
   simp only[Result.andThen_ok]
   cases hu:i.und<;>first | rfl | (rw[hu]at hn;exact absurd rfl hn)
 ·cases ha
theorem yY {P:Program} {tt:TypeId→Option TI} (ht:cO P tt) {ρ:Rho} {H:af} {w:World} (h:HR ρ H w) {X T:TypeId} {ok:Bool} {x z:ah} {v:Value} (hx:VR ρ x v) (ha:vp tt T ok x=some z):cw P (Instr.typeAssert v X T ok) ρ H w z H:=by
 unfold vp at ha
 split at ha
 ·rename_i i hi
  split at ha
  ·cases ha
  ·rename_i hn
   have hu:=cO.run_und ht hi w
   have hz:=cO.run_zero ht hi w
   split at ha
   ·rename_i U y
    cases hx with
    | ifc _ _ v hv=>
    split at ha
    ·rename_i e
     have e:=Nat.eq_of_beq_eq_true e
     subst e
     injection ha with ha
     subst ha
     cases ok with
     | true=>
       refine .pure h (v := .tuple #[v,.bool true]) ?_ (.tup _ [_,_] (.cons _ _ _ _ hv (.cons _ _ _ _ (.bool _) .nil)))
       unfold Instr.typeAssert
       simp only[Sem.run_bind,hu,Result.andThen_ok]
       cases hd:i.und<;>first | (simp;done) | (rw[hd]at hn;exact absurd rfl hn)
     | false=>
       refine .pure h (v:=v) ?_ hv
       unfold Instr.typeAssert
       simp only[Sem.run_bind,hu,Result.andThen_ok]
       cases hd:i.und<;>first | (simp;done) | (rw[hd]at hn;exact absurd rfl hn)
    ·rename_i e
     have e:¬ U=T:=fun e'=>by subst e';simp at e
     split at ha
     ·rename_i hok
      subst hok
      obtain⟨y2,k1,k2⟩:=Option.map_eq_some_iff.1 ha
      subst k2
      refine .pure h (v := .tuple #[i.zero,.bool false]) ?_ (.tup _ [_,_] (.cons _ _ _ _ (bI k1) (.cons _ _ _ _ (.bool _) .nil)))
      unfold Instr.typeAssert
      simp only[Sem.run_bind,hu,Result.andThen_ok]
      cases hd:i.und<;>first | (simp[e,hz];done) | (rw[hd]at hn;exact absurd rfl hn)
     ·cases ha
   ·cases hx
    split at ha
    ·rename_i hok
     subst hok
     obtain⟨y2,k1,k2⟩:=Option.map_eq_some_iff.1 ha
     subst k2
     refine .pure h (v := .tuple #[i.zero,.bool false]) ?_ (.tup _ [_,_] (.cons _ _ _ _ (bI k1) (.cons _ _ _ _ (.bool _) .nil)))
     unfold Instr.typeAssert
     simp only[Sem.run_bind,hu,Result.andThen_ok]
     cases hd:i.und<;>first | (simp[hz];done) | (rw[hd]at hn;exact absurd rfl hn)
    ·cases ha
   ·cases ha
 ·cases ha
def aOp (tt:TypeId→Option TI) (ev:Operand→Option ah) (H:af):Op→Option (ah×af)
 | .move x | .assign x=>(ev x).map fun v=>(v,H)
 | .pick c a b=>match ev c with
   | some (.bool t)=>(if t then ev a else ev b).map fun v=>(v,H)
   | _=>none
 | .alloc T=>jN tt H T
 | .box T x=>match ev x with
   | some v=>DG H T v
   | none=>none
 | .build t ps=>match fB ev ps.toList with
   | some l=>(vk tt t l).map fun v=>(v,H)
   | none=>none
 | .buildSlice t n ps=>match fB ev ps.toList with
   | some l=>ck tt H t n l
   | none=>none
 | .load T a=>match ev a with
   | some p=>(mX tt H T p).map fun v=>(v,H)
   | none=>none
 | .store T a x=>match ev a,ev x with
   | some p,some v=>(jY tt H T p v).map fun H'=>(.tup [],H')
   | _,_=>none
 | .nilCheck x=>match ev x with
   | some (.ptr id ver off lim)=>some (.ptr id ver off lim,H)
   | _=>none
 | .binOp op T x y _=>match ev x,ev y with
   | some u,some v=>(se tt op T x y u v).map fun z=>(z,H)
   | _,_=>none
 | .unOp op _ x=>match ev x with
   | some u=>(aUn op u).map fun z=>(z,H)
   | none=>none
 | .convert s d x=>match ev x with
   | some u=>jd tt H s d u
   | none=>none
 | .makeFunc (.func f) first caps=>if first.toList.isEmpty then(eM ev caps.toList).map fun l=>(.func f l,H) else none
 | .makeSlice t l c=>match ev l,ev c with
   | some u,some v=>qA tt H t u v
   | _,_=>none
 | .slice t x lo hi mx=>match ev x,Bf ev lo,Bf ev hi,Bf ev mx with
   | some u,some l,some h,some m=>(yQ tt t u l h m).map fun z=>(z,H)
   | _,_,_,_=>none
 | .fieldAddr s x f=>match ev x with
   | some u=>(kf tt s f u).map fun z=>(z,H)
   | none=>none
 | .field s x f=>match ev x with
   | some u=>(qG tt s f u).map fun z=>(z,H)
   | none=>none
 | .indexAddr t x i=>match ev x,ev i with
   | some u,some v=>(mS tt t u v).map fun z=>(z,H)
   | _,_=>none
 | .index t x i=>match ev x,ev i with
   | some u,some v=>(uQ tt t u v).map fun z=>(z,H)
   | _,_=>none
 | .extract x i=>match ev x with
   | some (.tup l)=>(l[i]?).map fun z=>(z,H)
   | _=>none
 | .call { callee := .builtin b,args,argTypes }=>match eM ev args.toList with
   | some xs=>cE tt H b argTypes.toList xs
   | none=>none
 | .makeInterface T x=>match ev x with
   | some u=>(Kf tt T u).map fun z=>(z,H)
   | none=>none
 | .typeAssert x _ T ok=>match ev x with
   | some u=>(vp tt T ok u).map fun z=>(z,H)
   | none=>none
 | _=>none
def oY (P:Program) (s:Sem Next) (ρ:Rho) (H:af) (w:World) (x:ah) (H':af):Prop:=
 ∃ v w' ρ',(s.run P w = .ok (.value v) w'∨(s.run P w = .ok .skip w'∧v=undef))∧VR ρ' x v∧HR ρ' H' w'∧Ext ρ H w ρ' H' w'
theorem cF {P:Program} {s:Sem Value} {ρ:Rho} {H:af} {w:World} {x:ah} {H':af} (h:cw P s ρ H w x H'):oY P (do pure (Next.value (←s))) ρ H w x H':=by
 obtain⟨v,w',ρ',k1,k2,k3,k4⟩:=h
 exact⟨v,w',ρ',.inl (by simp[k1]),k2,k3,k4⟩
theorem wk {P:Program} {tt:TypeId→Option TI} (ht:cO P tt) (hz:ZOk tt) {ρ:Rho} {H H':af} {w:World} (h:HR ρ H w) {b:Builtin} {ts:List TypeId} {xs:List ah} {vs:List Value} {z:ah} {ty:TypeId} {cs:Array Bool} (hx:VRs ρ xs vs) (ha:cE tt H b ts xs=some (z,H')) (hf:bR ρ H.next H'.next):
 oY P (builtin b ⟨ts⟩ ty cs ⟨vs⟩) ρ H w z H':=by
 unfold cE at ha
 split at ha
 ·rename_i t x
  obtain⟨y,k1,k2⟩:=Option.map_eq_some_iff.1 ha
  injection k2 with k2 k3
  subst k2 k3
  cases hx with
  | cons _ v _ us hx hs=>
  cases hs
  exact cF (II ht h hx k1)
 ·rename_i t x
  obtain⟨y,k1,k2⟩:=Option.map_eq_some_iff.1 ha
  injection k2 with k2 k3
  subst k2 k3
  cases hx with
  | cons _ v _ us hx hs=>
  cases hs
  exact cF (Jg ht h hx k1)
 ·rename_i t xt s x
  cases hx with
  | cons _ v _ us hx hs=>
  cases hs with
  | cons _ u _ us hy hs=>
  cases hs
  split at ha
  ·exact cF (wm ht h hx hy ha hf)
  ·exact cF (yP ht hz h hx hy ha hf)
 ·rename_i t xt s x
  cases hx with
  | cons _ v _ us hx hs=>
  cases hs with
  | cons _ u _ us hy hs=>
  cases hs
  exact cF (EE ht h hx hy ha)
 ·obtain⟨y,k1,k2⟩:=Option.map_eq_some_iff.1 ha
  injection k2 with k2 k3
  subst k2 k3
  exact cF (Fo h hx k1)
 ·obtain⟨y,k1,k2⟩:=Option.map_eq_some_iff.1 ha
  injection k2 with k2 k3
  subst k2 k3
  exact cF (IX h hx k1)
 ·rename_i t x
  cases hx with
  | cons _ v _ us hx hs=>
  cases hs
  exact cF (Bv ht h hx ha)
 ·cases ha
set_option maxHeartbeats 2000000 in
theorem DY {P:Program} {tt:TypeId→Option TI} (ht:cO P tt) (hz:ZOk tt) (hfl:FOk P tt) {ρ:Rho} {H H':af} {w:World} (h:HR ρ H w) {ev:Operand→Option ah} {a:Act} (hev:∀ x v,ev x=some v→VR ρ v (a.eval x)) {o:Oper} {z:ah} (ha:aOp tt ev H o.op=some (z,H')) (hf:bR ρ H.next H'.next):
 oY P (execOp a.eval o) ρ H w z H':=by
 unfold execOp
 generalize o.op=op at ha ⊢
 generalize o.type=oty
 unfold aOp at ha
 split at ha
 ·obtain⟨y,k1,k2⟩:=Option.map_eq_some_iff.1 ha
  injection k2 with k2 k3
  subst k2 k3
  exact⟨_,w,ρ,.inl rfl,hev _ _ k1,h,Ext.refl _ _ _⟩
 ·obtain⟨y,k1,k2⟩:=Option.map_eq_some_iff.1 ha
  injection k2 with k2 k3
  subst k2 k3
  exact⟨_,w,ρ,.inl rfl,hev _ _ k1,h,Ext.refl _ _ _⟩
 ·rename_i c x y
  split at ha
  ·rename_i t hc
   obtain⟨y,k1,k2⟩:=Option.map_eq_some_iff.1 ha
   injection k2 with k2 k3
   subst k2 k3
   have hcv:=hev _ _ hc
   have hce:∃ v,a.eval c=v∧VR ρ (.bool t) v:=⟨_,rfl,hcv⟩
   obtain⟨v,e1,e2⟩:=hce
   cases e2
   cases t
   ·exact⟨_,w,ρ,.inl (by simp[e1,asBool]),hev _ _ k1,h,Ext.refl _ _ _⟩
   ·exact⟨_,w,ρ,.inl (by simp[e1,asBool]),hev _ _ k1,h,Ext.refl _ _ _⟩
  ·cases ha
 ·exact cF (Bg ht h ha hf)
 ·split at ha
  ·rename_i v hv
   exact cF (Fy h (hev _ _ hv) ha hf)
  ·cases ha
 ·split at ha
  ·rename_i l hl
   obtain⟨y,k1,k2⟩:=Option.map_eq_some_iff.1 ha
   injection k2 with k2 k3
   subst k2 k3
   refine cF (Bq ht h ?_ k1)
   have:=nu hev hl
   simpa using this
  ·cases ha
 ·split at ha
  ·rename_i l hl
   refine cF (ry ht h ?_ ha hf)
   have:=nu hev hl
   simpa using this
  ·cases ha
 ·split at ha
  ·rename_i p hp
   obtain⟨y,k1,k2⟩:=Option.map_eq_some_iff.1 ha
   injection k2 with k2 k3
   subst k2 k3
   exact cF (DM ht h (hev _ _ hp) k1)
  ·cases ha
 ·split at ha
  ·rename_i p v hp hv
   obtain⟨y,k1,k2⟩:=Option.map_eq_some_iff.1 ha
   injection k2 with k2 k3
   subst k2 k3
   obtain⟨w',q1,q2,q3⟩:=BZ (P:=P) ht h (hev _ _ hp) (hev _ _ hv) k1
   exact⟨undef,w',ρ,.inr ⟨by simp[q1],rfl⟩,.tup [] [] .nil,q2,q3⟩
  ·cases ha
 ·rename_i x
  split at ha
  ·rename_i id ver off lim hx
   injection ha with ha
   injection ha with h1 h2
   subst h1 h2
   have hxv:=hev _ _ hx
   have hce:∃ v,a.eval x=v∧VR ρ (.ptr id ver off lim) v:=⟨_,rfl,hxv⟩
   obtain⟨v,e1,e2⟩:=hce
   cases e2 with
   | ptr _ _ _ _ L hL hl=>
   exact⟨_,w,ρ,.inl (by simp only[e1];rfl),.ptr _ _ _ _ L hL hl,h,Ext.refl _ _ _⟩
  ·cases ha
 ·split at ha
  ·rename_i u v hu hv
   obtain⟨y,k1,k2⟩:=Option.map_eq_some_iff.1 ha
   injection k2 with k2 k3
   subst k2 k3
   exact cF (FX ht hfl h (hev _ _ hu) (hev _ _ hv) k1)
  ·cases ha
 ·split at ha
  ·rename_i u hu
   obtain⟨y,k1,k2⟩:=Option.map_eq_some_iff.1 ha
   injection k2 with k2 k3
   subst k2 k3
   exact cF (Lh h (hev _ _ hu) k1)
  ·cases ha
 ·split at ha
  ·rename_i u hu
   exact cF (Dy ht h (hev _ _ hu) ha hf)
  ·cases ha
 ·rename_i f first caps
  split at ha
  ·rename_i he
   obtain⟨l,k1,k2⟩:=Option.map_eq_some_iff.1 ha
   injection k2 with k2 k3
   subst k2 k3
   have hc:=jx hev k1
   obtain⟨fl⟩:=first
   obtain⟨cl⟩:=caps
   simp only[List.isEmpty_iff]at he
   subst he
   exact cF (.pure h (v := .func (.func f) #[] ⟨cl.map a.eval⟩) (by simp[Instr.makeFunc]) (.func _ _ _ hc))
  ·cases ha
 ·split at ha
  ·rename_i u v hu hv
   exact cF (DU ht h (hev _ _ hu) (hev _ _ hv) ha hf)
  ·cases ha
 ·split at ha
  ·rename_i u l hh m hu hl hhi hm
   obtain⟨y,k1,k2⟩:=Option.map_eq_some_iff.1 ha
   injection k2 with k2 k3
   subst k2 k3
   exact cF (BO ht h (hev _ _ hu) (vA hev hl) (vA hev hhi) (vA hev hm) k1)
  ·cases ha
 ·split at ha
  ·rename_i u hu
   obtain⟨y,k1,k2⟩:=Option.map_eq_some_iff.1 ha
   injection k2 with k2 k3
   subst k2 k3
   exact cF (wX ht h (hev _ _ hu) k1)
  ·cases ha
 ·split at ha
  ·rename_i u hu
   obtain⟨y,k1,k2⟩:=Option.map_eq_some_iff.1 ha
   injection k2 with k2 k3
   subst k2 k3
   exact cF (Bb ht h (hev _ _ hu) k1)
  ·cases ha
 ·split at ha
  ·rename_i u v hu hv
   obtain⟨y,k1,k2⟩:=Option.map_eq_some_iff.1 ha
   injection k2 with k2 k3
   subst k2 k3
   exact cF (xH ht h (hev _ _ hu) (hev _ _ hv) k1)
  ·cases ha
 ·split at ha
  ·rename_i u v hu hv
   obtain⟨y,k1,k2⟩:=Option.map_eq_some_iff.1 ha
   injection k2 with k2 k3
   subst k2 k3
   exact cF (Cb ht h (hev _ _ hu) (hev _ _ hv) k1)
  ·cases ha
 ·rename_i x i
  split at ha
  ·rename_i l hx
   obtain⟨y,k1,k2⟩:=Option.map_eq_some_iff.1 ha
   injection k2 with k2 k3
   subst k2 k3
   have hxv:=hev _ _ hx
   have hce:∃ v,a.eval x=v∧VR ρ (.tup l) v:=⟨_,rfl,hxv⟩
   obtain⟨v,e1,e2⟩:=hce
   cases e2 with
   | tup _ vs hvs=>
   obtain⟨u,q1,q2⟩:=hvs.get k1
   exact cF (.pure h (v:=u) (by simp[Instr.extract,e1,q1]) q2)
  ·cases ha
 ·rename_i b args ts
  split at ha
  ·rename_i xs hxs
   have hc:=jx hev hxs
   have e:args.map a.eval=(⟨args.toList.map a.eval⟩:Array Value):=by apply Array.ext';simp
   refine(show oY P (builtin b ts oty _ (args.map a.eval)) ρ H w z H' from ?_)
   rw[e]
   exact wk ht hz h hc ha hf
  ·cases ha
 ·split at ha
  ·rename_i u hu
   obtain⟨y,k1,k2⟩:=Option.map_eq_some_iff.1 ha
   injection k2 with k2 k3
   subst k2 k3
   exact cF (FF ht h (hev _ _ hu) k1)
  ·cases ha
 ·split at ha
  ·rename_i u hu
   obtain⟨y,k1,k2⟩:=Option.map_eq_some_iff.1 ha
   injection k2 with k2 k3
   subst k2 k3
   exact cF (yY ht h (hev _ _ hu) k1)
  ·cases ha
 ·cases ha
end
section
structure bg where
 tt:TypeId→Option TI
 ft:FuncId→Option Func
 pm:FuncId→Nat→List Nat
 plan:FuncId→Nat→List Nat
structure ef (P:Program) (E:bg):Prop where
 tt:cO P E.tt
 zero:ZOk E.tt
 flat:FOk P E.tt
 ft:∀ f fn,E.ft f=some fn→P.funcs[f]?=some fn∧(fn.name == "runtime.NumGoroutine")=false
def aEv (T:Tr ah):Operand→Option ah
 | .tmp t=>T.get t
 | .const v=>aconst v
 | .func f=>some (.func f [])
 | .global g=>if g=tA then some (.glob g 0) else none
structure FrR (ρ:Rho) (T:Tr ah) (a:Act) (N:Nat):Prop where
 defers:a.defers = []
 size:a.tmps.size=N
 get:∀ t v,T.get t=some v→VR ρ v (a.tmps.getD t undef)
theorem FrR.mono {ρ ρ':Rho} {T:Tr ah} {a:Act} {N:Nat} (h:FrR ρ T a N) (hρ:ρ.le ρ'):FrR ρ' T a N:=⟨h.defers,h.size,fun t v hv=>(h.get t v hv).mono hρ⟩
theorem FrR.ev {ρ:Rho} {T:Tr ah} {a:Act} {N:Nat} (h:FrR ρ T a N) (x:Operand) (v:ah) (hx:aEv T x=some v):VR ρ v (a.eval x):=by
 cases x with
 | tmp t=>exact h.get t v hx
 | const c=>exact bI hx
 | func f=>simp only[aEv]at hx;injection hx with hx;subst hx;exact .func _ _ _ .nil
 | global g=>
   simp only[aEv]at hx
   split at hx
   ·injection hx with hx
    subst hx
    exact .glob _ _
   ·cases hx
def gD (N:Nat) (T:Tr ah) (dst:Option Tmp) (v:ah):Option (Tr ah):=
 match dst with
 | none=>some T
 | some d=>if d<N∧N<1099511627776 then some (Tr.set 40 T d v) else none
theorem uW {ρ:Rho} {T T':Tr ah} {a:Act} {N:Nat} (h:FrR ρ T a N) {dst:Option Tmp} {v:ah} {u:Value} (hv:VR ρ v u) (hp:gD N T dst v=some T'):FrR ρ T' (a.put dst u) N:=by
 unfold gD at hp
 split at hp
 ·injection hp with hp
  subst hp
  exact h
 ·rename_i d
  split at hp
  ·rename_i hc
   injection hp with hp
   subst hp
   refine⟨h.defers,by simp[Act.put,h.size],fun t x hx=>?_⟩
   rw[Tr.get_set 40 T d v (Nat.lt_trans hc.1 hc.2)]at hx
   simp only[Act.put]
   by_cases e:t=d
   ·subst e
    rw[if_pos rfl]at hx
    injection hx with hx
    subst hx
    have hs:=h.size
    rw[show(a.tmps.setIfInBounds t u).getD t undef=u from by simp[Array.getD,hs,hc.1]]
    exact hv
   ·rw[if_neg e]at hx
    have:=h.get t x hx
    rw[show(a.tmps.setIfInBounds d u).getD t undef=a.tmps.getD t undef from by
     simp only[Array.getD_eq_getD_getElem?]
     rw[Array.getElem?_setIfInBounds_ne (fun h=>e h.symm)]]
    exact this
  ·cases hp
def bF (ops:Array Oper) (T:Tr ah) (o:Oper):Option Bool:=
 match o.guard with
 | none=>some true
 | some (j,want)=>match (ops[j]?).bind (·.dst) with
   | some t=>match T.get t with
     | some (.bool b)=>some (b == want)
     | _=>none
   | none=>none
theorem qn {ρ:Rho} {T:Tr ah} {a:Act} {N:Nat} (h:FrR ρ T a N) {ops:Array Oper} {o:Oper} {b:Bool} (hw:bF ops T o=some b):Region.wanted o (yielded ops a.tmps)=b:=by
 unfold bF at hw
 unfold Region.wanted
 split at hw
 ·rename_i hg
  injection hw with hw
  simp[hg,hw]
 ·rename_i j want hg
  split at hw
  ·rename_i t ht
   split at hw
   ·rename_i c hc
    injection hw with hw
    have:=h.get t _ hc
    have he:∃ v,a.tmps.getD t undef=v∧VR ρ (.bool c) v:=⟨_,rfl,this⟩
    obtain⟨v,e1,e2⟩:=he
    cases e2
    have hs:a.tmps[t]?=some (.bool c):=by
     rw[Array.getD_eq_getD_getElem?]at e1
     cases hq:a.tmps[t]? with
     | none=>rw[hq]at e1;simp[undef]at e1
     | some u=>rw[hq]at e1;simp at e1;rw[e1]
    simp only[hg]
    unfold yielded
    simp only[ht,Option.bind_some,hs]
    rw[←hw]
    cases c<;>cases want<;>rfl
   ·cases hw
  ·cases hw
structure aV (H H':af):Prop where
 le:H.next≤H'.next
 ok:H.Ok→H'.Ok∧(∀ id,(H.get id).isSome=true→(H'.get id).isSome=true) ∧ ∀ id,(H'.get id).isSome=true→(H.get id).isSome=true∨H.next≤id
theorem aV.refl (H:af):aV H H:=⟨Nat.le_refl _,fun h=>⟨h,fun _ h=>h,fun _ h=>.inl h⟩⟩
theorem aV.trans {H H' H'':af} (h:aV H H') (k:aV H' H''):aV H H'':=⟨Nat.le_trans h.le k.le,fun o=>⟨(k.ok (h.ok o).1).1,fun id hi=>(k.ok (h.ok o).1).2.1 id ((h.ok o).2.1 id hi),fun id hi=>by
 rcases(k.ok (h.ok o).1).2.2 id hi with h1 | h1
 ·exact(h.ok o).2.2 id h1
 ·exact .inr (Nat.le_trans h.le h1)⟩⟩
theorem af.keep_put {H:af} (o:H.Ok) {id:Nat} {r0:bH} (h0:H.get id=some r0) (r:bH):(H.put id r).Ok∧(∀ j,(H.get j).isSome=true→((H.put id r).get j).isSome=true) ∧ ∀ j,((H.put id r).get j).isSome=true→(H.get j).isSome=true∨H.next≤j:=by
 refine⟨o.put h0 r,fun j hj=>?_,fun j hj=>?_⟩
 ·rw[af.get_put o h0]
  by_cases e:j=id
  ·rw[if_pos e];rfl
  ·rw[if_neg e];exact hj
 ·rw[af.get_put o h0]at hj
  by_cases e:j=id
  ·subst e;left;rw[h0];rfl
  ·rw[if_neg e]at hj;exact .inl hj
theorem af.keep_new {H:af} (o:H.Ok) (hn:H.next<1099511627776) (r:bH):(H.new r).Ok∧(∀ j,(H.get j).isSome=true→((H.new r).get j).isSome=true) ∧ ∀ j,((H.new r).get j).isSome=true→(H.get j).isSome=true∨H.next≤j:=by
 refine⟨o.new hn r,fun j hj=>?_,fun j hj=>?_⟩
 ·rw[af.get_new hn]
  by_cases e:j=H.next
  ·rw[if_pos e];rfl
  ·rw[if_neg e];exact hj
 ·rw[af.get_new hn]at hj
  by_cases e:j=H.next
  ·exact .inr (by omega)
  ·rw[if_neg e]at hj;exact .inl hj
abbrev aA:=FuncId→List ah→af→Option (ah×af)
def jX (ρ:Rho) (H:af) (w:World) (r:ah) (H':af) (e:Ending) (w':World):Prop := ∃ ρ' v,e = .returned v∧VR ρ' r v∧HR ρ' H' w'∧Ext ρ H w ρ' H' w'
structure aU (P:Program) (callF:aA):Prop where
 enters:∀ f args H r H',callF f args H=some (r,H') → ∃ fn,P.funcs[f]?=some fn∧(fn.name == "runtime.NumGoroutine")=false∧fn.body.isSome=true
 next:∀ f args H r H',callF f args H=some (r,H')→aV H H'
 run:∀ f args H r H',callF f args H=some (r,H') → ∀ (ρ:Rho) (w:World) (vs:List Value),HR ρ H w→VRs ρ args vs→bR ρ H.next H'.next→Calls P f ⟨vs⟩ w (jX ρ H w r H')
def lT (E:bg) (callF:aA) (N:Nat) (ops:Array Oper) (o:Oper) (T:Tr ah) (H:af):Option (Tr ah×af):=
 match bF ops T o with
 | some false=>(gD N T o.dst (.tup [])).map fun T'=>(T',H)
 | some true=>match o.op with
   | .call { callee := .value g,args,argTypes:=_ }=>match aEv T g with
     | some (.func f caps)=>match eM (aEv T) args.toList with
       | some xs=>match callF f (xs++caps) H with
         | some (r,H')=>(gD N T o.dst r).map fun T'=>(T',H')
         | none=>none
       | none=>none
     | _=>none
   | op=>match aOp E.tt (aEv T) H op with
     | some (r,H')=>(gD N T o.dst r).map fun T'=>(T',H')
     | none=>none
 | none=>none
theorem wO (ρ:Rho):VR ρ (.tup []) undef := .tup [] [] .nil
theorem wR {P:Program} {w:World} {ρ':Operand→Value} {o:Oper} {g:Operand} {args:Array Operand} {ts:Array TypeId} (ho:o.op = .call { callee := .value g,args,argTypes:=ts }) {f:FuncId} {caps:List Value} (hg:ρ' g = .func (.func f) #[] ⟨caps⟩) {fn:Func} (hf:P.funcs[f]?=some fn) (hn:(fn.name == "runtime.NumGoroutine")=false) (hb:fn.body.isSome=true):
 (execOp ρ' o).run P w = .ok (.enter f ((args.map ρ')++⟨caps⟩)) w:=by
 unfold execOp
 rw[ho]
 have hb':¬ fn.body=none:=by intro h;rw[h]at hb;cases hb
 have hn':¬ fn.name = "runtime.NumGoroutine":=by intro h;rw[h]at hn;simp at hn
 simp[resolve,Deferred.ofValue,hg,invoke,callFunc,hf,hn',hb']
structure ez (ρ:Rho) (H:af) (w:World) (T':Tr ah) (H':af) (N:Nat) (a':Act) (w':World) (ρ':Rho):Prop where
 fr:FrR ρ' T' a' N
 hr:HR ρ' H' w'
 ext:Ext ρ H w ρ' H' w'
theorem KQ {P:Program} {E:bg} (hE:ef P E) {N:Nat} {o:Oper} {T T':Tr ah} {H H':af} {r:ah} {ρ:Rho} {a:Act} {w:World} (hfr:FrR ρ T a N) (hr:HR ρ H w) (ha:aOp E.tt (aEv T) H o.op=some (r,H')) (hp:gD N T o.dst r=some T') (hf:bR ρ H.next H'.next)
 {K:Act→World→Prop} {Q:Exit→Act→World→Prop} (hK:∀ a' w' ρ',ez ρ H w T' H' N a' w' ρ'→K a' w'):o.wp P a w K Q:=by
 obtain⟨v,w',ρ',k1,k2,k3,k4⟩:=DY hE.tt hE.zero hE.flat hr hfr.ev ha hf
 unfold Oper.wp
 have hfr':=uW (hfr.mono k4.le) k2 hp
 rcases k1 with k1 | ⟨k1,k5⟩
 ·rw[k1,Oper.upon_value]
  exact hK _ _ _ ⟨hfr',k3,k4⟩
 ·rw[k1,Oper.upon_skip]
  subst k5
  exact hK _ _ _ ⟨hfr',k3,k4⟩
theorem Er {P:Program} {callF:aA} (hC:aU P callF) {N:Nat} {o:Oper} {T T':Tr ah} {H H':af} {r:ah} {ρ:Rho} {a:Act} {w:World} (hfr:FrR ρ T a N) (hr:HR ρ H w) {g:Operand} {args:Array Operand} {ts:Array TypeId} (ho:o.op = .call { callee := .value g,args,argTypes:=ts })
 {f:FuncId} {caps xs:List ah} (hg:aEv T g=some (.func f caps)) (hx:eM (aEv T) args.toList=some xs) (hcall:callF f (xs++caps) H=some (r,H')) (hp:gD N T o.dst r=some T') (hf:bR ρ H.next H'.next)
 {K:Act→World→Prop} {Q:Exit→Act→World→Prop} (hK:∀ a' w' ρ',ez ρ H w T' H' N a' w' ρ'→K a' w'):o.wp P a w K Q:=by
 obtain⟨fn,e1,e2,e3⟩:=hC.enters _ _ _ _ _ hcall
 have hgv:=hfr.ev _ _ hg
 have hce:∃ v,a.eval g=v∧VR ρ (.func f caps) v:=⟨_,rfl,hgv⟩
 obtain⟨v,v1,v2⟩:=hce
 cases v2 with
 | func _ _ cs hcs=>
 have hxs:=jx hfr.ev hx
 have hrun:=wR (P:=P) (w:=w) ho v1 e1 e2 e3
 unfold Oper.wp
 rw[hrun,Oper.upon_enter]
 have hargs:(args.map a.eval++⟨cs⟩:Array Value)=⟨args.toList.map a.eval++cs⟩:=by apply Array.ext';simp
 rw[hargs]
 refine(hC.run _ _ _ _ _ hcall ρ w _ hr (hxs.append hcs) hf).mono ?_
 rintro e w' ⟨ρ',v,rfl,q1,q2,q3⟩
 exact hK _ _ _ ⟨uW (hfr.mono q3.le) q1 hp,q2,q3⟩
theorem DS {P:Program} {E:bg} (hE:ef P E) {callF:aA} (hC:aU P callF) {N:Nat} {ops:Array Oper} {o:Oper} {T T':Tr ah} {H H':af} {ρ:Rho} {a:Act} {w:World} (hfr:FrR ρ T a N) (hr:HR ρ H w) (ha:lT E callF N ops o T H=some (T',H')) (hf:bR ρ H.next H'.next)
 {K:Act→World→Prop} {Q:Exit→Act→World→Prop} (hK:∀ a' w' ρ',ez ρ H w T' H' N a' w' ρ'→K a' w'):
 if Region.wanted o (yielded ops a.tmps) then o.wp P a w K Q∨(o.asks P a w∧LetsOut Q) else K (a.put o.dst undef) w:=by
 unfold lT at ha
 split at ha
 ·rename_i hw
  rw[qn hfr hw,if_neg (by simp)]
  obtain⟨T2,k1,k2⟩:=Option.map_eq_some_iff.1 ha
  injection k2 with k2 k3
  subst k2 k3
  exact hK _ _ ρ ⟨uW hfr (wO ρ) k1,hr,Ext.refl _ _ _⟩
 ·rename_i hw
  rw[qn hfr hw,if_pos rfl]
  left
  split at ha
  ·rename_i g args ts ho
   split at ha
   ·rename_i f caps hg
    split at ha
    ·rename_i xs hx
     split at ha
     ·rename_i r H2 hcall
      obtain⟨T2,k1,k2⟩:=Option.map_eq_some_iff.1 ha
      injection k2 with k2 k3
      subst k2 k3
      exact Er hC hfr hr ho hg hx hcall k1 hf hK
     ·cases ha
    ·cases ha
   ·cases ha
  ·split at ha
   ·rename_i r H2 hop
    obtain⟨T2,k1,k2⟩:=Option.map_eq_some_iff.1 ha
    injection k2 with k2 k3
    subst k2 k3
    exact KQ hE hfr hr hop k1 hf hK
   ·cases ha
 ·cases ha
end
section
section
variable {tt:TypeId→Option TI} {H H':af} {z:ah}
theorem fS {ty:TypeId} {xs:List ah} (h:ji H ty xs=some H'):aV H H':=by
 unfold ji at h;split at h
 ·rename_i hc
  injection h with h;subst h
  exact⟨Nat.le_succ _,fun o=>af.keep_new o hc.1 _⟩
 ·cases h
theorem gG {id ver off:Nat} {xs:List ah} (h:jM H id ver off xs=some H'):aV H H':=by
 unfold jM at h
 split at h
 ·rename_i hg
  split at h
  ·injection h with h;subst h;exact⟨Nat.le_refl _,fun o=>af.keep_put o hg _⟩
  ·cases h
 ·cases h
theorem zb {id ver n:Nat} {xs:List ah} (h:pT H id ver n xs=some H'):aV H H':=by
 unfold pT at h
 split at h
 ·rename_i hg
  split at h
  ·injection h with h;subst h;exact⟨Nat.le_refl _,fun o=>af.keep_put o hg _⟩
  ·cases h
 ·cases h
theorem dG {α:Type} {o:Option af} {f:af→ah×af} (hf:∀ K,(f K).2=K) (ho:∀ K,o=some K→aV H K) (h:o.map f=some (z,H')):aV H H':=by
 obtain⟨K,k1,k2⟩:=Option.map_eq_some_iff.1 h
 have:=hf K
 rw[k2]at this
 simp only at this
 rw[this]
 exact ho K k1
theorem tD {o:Option ah} (h:o.map (fun v=>(v,H))=some (z,H')):aV H H':=by
 obtain⟨K,k1,k2⟩:=Option.map_eq_some_iff.1 h
 injection k2 with k2 k3
 subst k3
 exact aV.refl _
theorem sC {T:TypeId} {xs:List ah} (h:vo H T xs=some (z,H')):aV H H':=
 dG (α:=Unit) (fun _=>rfl) (fun K hK=>fS hK) h
theorem uU {t xt:TypeId} {s x:ah} (h:mJ tt H t xt s x=some (z,H')):aV H H':=by
 unfold mJ at h
 repeat' split at h
 all_goals first
  | (cases h;done)
  | (injection h with h;injection h with h1 h2;subst h2;exact aV.refl _)
  | exact dG (α:=Unit) (fun _=>rfl) (fun K hK=>fS hK) h
  | exact dG (α:=Unit) (fun _=>rfl) (fun K hK=>gG hK) h
  | exact dG (α:=Unit) (fun _=>rfl) (fun K hK=>zb hK) h
theorem so {t xt:TypeId} {s x:ah} (h:ke tt H t xt s x=some (z,H')):aV H H':=by
 unfold ke at h
 repeat' split at h
 all_goals first
  | (cases h;done)
  | exact dG (α:=Unit) (fun _=>rfl) (fun K hK=>fS hK) h
theorem zf {t:TypeId} {s x:ah} (h:xP tt H t s x=some (z,H')):aV H H':=by
 unfold xP at h
 repeat' split at h
 all_goals first
  | (cases h;done)
  | (rename_i hw;injection h with h;injection h with h1 h2;subst h2;exact gG hw)
  | (injection h with h;injection h with h1 h2;subst h2;exact aV.refl _)
theorem yD {t:TypeId} {s x:ah} (h:qA tt H t s x=some (z,H')):aV H H':=by
 unfold qA at h
 repeat' split at h
 all_goals first
  | (cases h;done)
  | exact dG (α:=Unit) (fun _=>rfl) (fun K hK=>fS hK) h
theorem xS {t:TypeId} {x:ah} (h:qV tt H t x=some (z,H')):aV H H':=by
 unfold qV at h
 repeat' split at h
 all_goals first
  | (cases h;done)
  | (injection h with h;injection h with h1 h2;subst h2;exact aV.refl _)
  | exact dG (α:=Unit) (fun _=>rfl) (fun K hK=>gG hK) h
theorem yO {s d:TypeId} {x:ah} (h:jd tt H s d x=some (z,H')):aV H H':=by
 unfold jd at h
 repeat' split at h
 all_goals first
  | (cases h;done)
  | (injection h with h;injection h with h1 h2;subst h2;exact aV.refl _)
  | exact dG (α:=Unit) (fun _=>rfl) (fun K hK=>fS hK) h
  | (obtain⟨l,k1,k2⟩:=Option.map_eq_some_iff.1 h;injection k2 with k2 k3;subst k3;exact aV.refl _)
theorem nt {t:TypeId} {n:Nat} {l:List (Nat×ah)} (h:ck tt H t n l=some (z,H')):aV H H':=by
 unfold ck at h
 repeat' split at h
 all_goals first
  | (cases h;done)
  | exact dG (α:=Unit) (fun _=>rfl) (fun K hK=>fS hK) h
theorem wg {T:TypeId} (h:jN tt H T=some (z,H')):aV H H':=by
 unfold jN at h
 repeat' split at h
 all_goals first
  | (cases h;done)
  | exact sC h
theorem rX {b:Builtin} {ts:List TypeId} {xs:List ah} (h:cE tt H b ts xs=some (z,H')):aV H H':=by
 unfold cE at h
 repeat' split at h
 all_goals first
  | (cases h;done)
  | exact tD h
  | exact so h
  | exact uU h
  | exact zf h
  | exact xS h
theorem xq {T:TypeId} {p x:ah} (h:jY tt H T p x=some H'):aV H H':=by
 unfold jY at h
 repeat' split at h
 all_goals first
  | (cases h;done)
  | exact gG h
theorem xK {ev:Operand→Option ah} {op:Op} (h:aOp tt ev H op=some (z,H')):aV H H':=by
 unfold aOp at h
 repeat' split at h
 all_goals first
  | (cases h;done)
  | exact tD h
  | (injection h with h;injection h with h1 h2;subst h2;exact aV.refl _)
  | exact wg h
  | exact sC h
  | exact nt h
  | exact yO h
  | exact yD h
  | exact rX h
  | exact dG (α:=Unit) (fun _=>rfl) (fun K hK=>xq hK) h
  | (obtain⟨l,k1,k2⟩:=Option.map_eq_some_iff.1 h;injection k2 with k2 k3;subst k3;exact aV.refl _)
end
theorem pO {P:Program} {E:bg} {callF:aA} (hC:aU P callF) {N:Nat} {ops:Array Oper} {o:Oper} {T T':Tr ah} {H H':af} (ha:lT E callF N ops o T H=some (T',H')):aV H H':=by
 unfold lT at ha
 repeat' split at ha
 all_goals first
  | (cases ha;done)
  | (obtain⟨l,k1,k2⟩:=Option.map_eq_some_iff.1 ha;injection k2 with k2 k3;subst k3;first | exact aV.refl _ | (rename_i hc;exact hC.next _ _ _ _ _ hc) | (rename_i hc;exact xK hc))
def pJ (E:bg) (callF:aA) (N:Nat) (ops:Array Oper):List Nat→Tr ah→af→Option (Tr ah×af)
 | [],T,H=>some (T,H)
 | i::is,T,H=>match ops[i]? with
   | none=>none
   | some o=>match lT E callF N ops o T H with
     | some (T1,H1)=>pJ E callF N ops is T1 H1
     | none=>none
theorem nJ {P:Program} {E:bg} {callF:aA} (hC:aU P callF) {N:Nat} {ops:Array Oper}:∀ {is:List Nat} {T T':Tr ah} {H H':af},pJ E callF N ops is T H=some (T',H')→aV H H'
 | [],T,T',H,H',h=>by simp[pJ]at h;obtain⟨_,rfl⟩:=h;exact aV.refl _
 | i::is,T,T',H,H',h=>by
   unfold pJ at h
   split at h
   ·cases h
   ·split at h
    ·rename_i h1
     exact aV.trans (pO hC h1) (nJ hC h)
    ·cases h
theorem zU {P:Program} {E:bg} (hE:ef P E) {callF:aA} (hC:aU P callF) {N:Nat} {ops:Array Oper} {Q:Exit→Act→World→Prop}:∀ {is:List Nat} {T T':Tr ah} {H H':af} {ρ:Rho} {a:Act} {w:World},FrR ρ T a N→HR ρ H w→pJ E callF N ops is T H=some (T',H')→bR ρ H.next H'.next →
 (∀ a' w' ρ',ez ρ H w T' H' N a' w' ρ'→Q .normal a' w')→wpOps P ops Q is a w
 | [],T,T',H,H',ρ,a,w,hfr,hr,h,hf,hQ=>by
   simp only[pJ]at h
   injection h with h
   injection h with h1 h2
   subst h1 h2
   exact hQ _ _ ρ ⟨hfr,hr,Ext.refl _ _ _⟩
 | i::is,T,T',H,H',ρ,a,w,hfr,hr,h,hf,hQ=>by
   unfold pJ at h
   split at h
   ·cases h
   ·rename_i o ho
    split at h
    ·rename_i T1 H1 h1
     unfold wpOps
     simp only[ho]
     have n1:=pO hC h1
     have n2:=nJ hC h
     have key:=DS (Q:=Q) (K:=wpOps P ops Q is) hE hC hfr hr h1 (hf.mono (Nat.le_refl _) n2.le) (fun a' w' ρ' hp=>zU hE hC hp.fr hp.hr h (hp.ext.free hr.ok hf) (fun a2 w2 ρ2 hp2=>hQ _ _ _ ⟨hp2.fr,hp2.hr,hp.ext.trans hp2.ext hr.ok (hf.mono (Nat.le_refl _) n2.le)⟩))
     exact key
    ·cases h
end
section
def fu (f:ah→ah→Bool):List ah→List ah→Bool
 | [],[]=>true
 | x::xs,y::ys=>f x y&&fu f xs ys
 | _,_=>false
def alike:Nat→ah→ah→Bool
 | 0,_,_=>false
 | n+1,x,y=>match x,y with
   | .bool a,.bool b=>decide (a=b)
   | .int k a,.int k' b=>decide (k=k')&&decide (a=b)
   | .str a,.str b=>decide (a=b)
   | .nilp,.nilp | .nils,.nils | .nilf,.nilf | .nili,.nili=>true
   | .glob a b,.glob a' b'=>decide (a=a')&&decide (b=b')
   | .opq a,.opq b=>decide (a=b)
   | .ifc a x,.ifc b y=>decide (a=b)&&alike n x y
   | .ptr a b c d,.ptr a' b' c' d'=>decide (a=a')&&decide (b=b')&&decide (c=c')&&decide (d=d')
   | .slc a b c d e f g,.slc a' b' c' d' e' f' g'=>decide (a=a')&&decide (b=b')&&decide (c=c')&&decide (d=d')&&decide (e=e')&&decide (f=f')&&decide (g=g')
   | .func f l,.func f' l'=>decide (f=f')&&fu (alike n) l l'
   | .agg l,.agg l'=>fu (alike n) l l'
   | .tup l,.tup l'=>fu (alike n) l l'
   | _,_=>false
theorem eT {f:ah→ah→Bool} (hf:∀ x y,f x y=true→x=y):∀ (xs ys:List ah),fu f xs ys=true→xs=ys
 | [],[],_=>rfl
 | x::xs,y::ys,h=>by
   simp only[fu,Bool.and_eq_true]at h
   rw[hf _ _ h.1,eT hf xs ys h.2]
 | [],_::_,h=>by simp[fu]at h
 | _::_,[],h=>by simp[fu]at h
theorem eH:∀ (n:Nat) (x y:ah),alike n x y=true→x=y
 | 0,x,y,h=>by simp[alike]at h
 | n+1,x,y,h=>by
   unfold alike at h
   split at h
   all_goals first
    | rfl
    | (cases h;done)
    | (simp only[Bool.and_eq_true,decide_eq_true_eq]at h;obtain⟨rfl,h⟩:=h;rw[eT (eH n) _ _ h])
    | (simp only[Bool.and_eq_true,decide_eq_true_eq]at h;obtain⟨rfl,h⟩:=h;rw[eH n _ _ h])
    | (rw[eT (eH n) _ _ h])
    | (simp only[Bool.and_eq_true,decide_eq_true_eq]at h;simp[h])
def kindOf (tt:TypeId→Option TI):Op→Nat
 | .alloc _ | .box _ _ | .buildSlice _ _ _ | .makeSlice _ _ _=>1
 | .convert s d _=>match tt d,tt s with
   | some j,some i=>match j.und,i.und with
     | .slice _,.slice _=>4
     | .slice _,_=>1
     | .string,.slice _=>4
     | _,_=>0
   | _,_=>3
 | .load _ _=>4
 | .move _ | .assign _ | .pick _ _ _ | .build _ _ | .nilCheck _ | .binOp _ _ _ _ _ | .unOp _ _ _ | .makeFunc _ _ _ | .slice _ _ _ _ _ | .fieldAddr _ _ _ | .field _ _ _ | .indexAddr _ _ _ | .index _ _ _ | .extract _ _ | .makeInterface _ _ | .typeAssert _ _ _ _=>0
 | .call { callee := .builtin b,.. }=>match b with
   | .len | .cap | .min | .max=>0
   | _=>2
 | .call { callee := .value _,.. } | .store _ _ _=>2
 | _=>3
section
variable {tt:TypeId→Option TI} {ev:Operand→Option ah} {H H':af} {op:Op} {z:ah}
theorem bu {o:Option ah} (h:o.map (fun v=>(v,H))=some (z,H')):H'=H ∧ ∀ G:af,o.map (fun v=>(v,G))=some (z,G):=by
 obtain⟨K,k1,k2⟩:=Option.map_eq_some_iff.1 h
 injection k2 with k2 k3
 subst k2 k3
 exact⟨rfl,fun G=>by rw[k1];rfl⟩
theorem JE (hk:kindOf tt op=0) (h:aOp tt ev H op=some (z,H')):H'=H ∧ ∀ G,aOp tt ev G op=some (z,G):=by
 unfold aOp at h
 split at h
 all_goals first
  | (simp[kindOf]at hk;done)
  | skip
 all_goals first
  | (obtain⟨h1,h2⟩:=bu h;exact⟨h1,fun G=>h2 G⟩)
  | skip
 case h_3 c a b=>
  split at h
  ·rename_i t hc
   obtain⟨h1,h2⟩:=bu h
   exact⟨h1,fun G=>by simp only[aOp,hc];exact h2 G⟩
  ·cases h
 case h_6=>
  split at h
  ·rename_i l hl
   obtain⟨h1,h2⟩:=bu h
   exact⟨h1,fun G=>by simp only[aOp,hl];exact h2 G⟩
  ·cases h
 case h_10=>
  split at h
  ·rename_i hx
   injection h with h
   injection h with h1 h2
   subst h1 h2
   exact⟨rfl,fun G=>by simp only[aOp,hx]⟩
  ·cases h
 case h_11=>
  split at h
  ·rename_i u v hu hv
   obtain⟨h1,h2⟩:=bu h
   exact⟨h1,fun G=>by simp only[aOp,hu,hv];exact h2 G⟩
  ·cases h
 case h_12=>
  split at h
  ·rename_i u hu
   obtain⟨h1,h2⟩:=bu h
   exact⟨h1,fun G=>by simp only[aOp,hu];exact h2 G⟩
  ·cases h
 case h_13 s d x=>
  split at h
  ·rename_i u hu
   simp only[kindOf]at hk
   split at hk
   ·rename_i j i hj hi
    unfold jd at h
    simp only[hi,hj]at h
    split at hk
    ·cases hk
    ·cases hk
    ·cases hk
    ·rename_i n0 n1 n2
     split at h
     ·injection h with h
      injection h with h1 h2
      subst h1 h2
      rename_i e1 e2
      exact⟨rfl,fun G=>by simp only[aOp,hu,jd,hi,hj,e1,e2]⟩
     ·injection h with h
      injection h with h1 h2
      subst h1 h2
      rename_i e1 e2
      exact⟨rfl,fun G=>by simp only[aOp,hu,jd,hi,hj,e1,e2]⟩
     ·rename_i e1 e2;first | exact absurd e2 (n1 _) | exact absurd e1 (n0 _ _ e2) | exact absurd e1 (n1 _ _ e2) | exact absurd e2 (n0 _)
     ·rename_i e1 e2;first | exact absurd e2 (n1 _) | exact absurd e1 (n0 _ _ e2) | exact absurd e1 (n1 _ _ e2) | exact absurd e2 (n0 _)
     ·rename_i e1 e2;first | exact absurd e1 (n2 _ e2) | exact absurd e1 (n1 _ e2)
     ·rename_i e1 e2;first | exact absurd e1 (n2 _ e2) | exact absurd e1 (n1 _ e2)
     ·rename_i e1 e2;first | exact absurd e1 (n2 _ e2) | exact absurd e1 (n1 _ e2)
     ·cases h
   ·cases hk
  ·cases h
 case h_14 f first caps=>
  split at h
  ·rename_i he
   obtain⟨l,k1,k2⟩:=Option.map_eq_some_iff.1 h
   injection k2 with k2 k3
   subst k2 k3
   exact⟨rfl,fun G=>by simp only[aOp,if_pos he,k1];rfl⟩
  ·cases h
 case h_16=>
  split at h
  ·rename_i u l hh m hu hl hhi hm
   obtain⟨h1,h2⟩:=bu h
   exact⟨h1,fun G=>by simp only[aOp,hu,hl,hhi,hm];exact h2 G⟩
  ·cases h
 case h_17=>
  split at h
  ·rename_i u hu
   obtain⟨h1,h2⟩:=bu h
   exact⟨h1,fun G=>by simp only[aOp,hu];exact h2 G⟩
  ·cases h
 case h_18=>
  split at h
  ·rename_i u hu
   obtain⟨h1,h2⟩:=bu h
   exact⟨h1,fun G=>by simp only[aOp,hu];exact h2 G⟩
  ·cases h
 case h_19=>
  split at h
  ·rename_i u v hu hv
   obtain⟨h1,h2⟩:=bu h
   exact⟨h1,fun G=>by simp only[aOp,hu,hv];exact h2 G⟩
  ·cases h
 case h_20=>
  split at h
  ·rename_i u v hu hv
   obtain⟨h1,h2⟩:=bu h
   exact⟨h1,fun G=>by simp only[aOp,hu,hv];exact h2 G⟩
  ·cases h
 case h_21=>
  split at h
  ·rename_i l hx
   obtain⟨h1,h2⟩:=bu h
   exact⟨h1,fun G=>by simp only[aOp,hx];exact h2 G⟩
  ·cases h
 case h_22 b args ts=>
  split at h
  ·rename_i xs hxs
   unfold cE at h
   split at h
   ·obtain⟨h1,h2⟩:=bu h
    exact⟨h1,fun G=>by simp only[aOp,hxs,cE, *];try exact h2 G⟩
   ·obtain⟨h1,h2⟩:=bu h
    exact⟨h1,fun G=>by simp only[aOp,hxs,cE, *];try exact h2 G⟩
   ·simp[kindOf]at hk
   ·simp[kindOf]at hk
   ·obtain⟨h1,h2⟩:=bu h
    exact⟨h1,fun G=>by simp only[aOp,hxs,cE];try exact h2 G⟩
   ·obtain⟨h1,h2⟩:=bu h
    exact⟨h1,fun G=>by simp only[aOp,hxs,cE];try exact h2 G⟩
   ·simp[kindOf]at hk
   ·cases h
  ·cases h
 case h_23=>
  split at h
  ·rename_i u hu
   obtain⟨h1,h2⟩:=bu h
   exact⟨h1,fun G=>by simp only[aOp,hu];exact h2 G⟩
  ·cases h
 case h_24=>
  split at h
  ·rename_i u hu
   obtain⟨h1,h2⟩:=bu h
   exact⟨h1,fun G=>by simp only[aOp,hu];exact h2 G⟩
  ·cases h
 all_goals cases h
theorem IZ {G:af} {ty:TypeId} {xs:List ah} (hG:G.next=H.next) (h:ji H ty xs=some H'):∃ r,H'=H.new r∧ji G ty xs=some (G.new r):=by
 unfold ji at h
 split at h
 ·rename_i hc
  injection h with h
  exact⟨_,h.symm,by unfold ji;rw[hG,if_pos hc]⟩
 ·cases h
theorem kB {G:af} (hG:G.next=H.next) {ty:TypeId} {xs:List ah} {f:af→ah} (hf:∀ r r',f (H.new r)=f (G.new r')) (h:(ji H ty xs).map (fun K=>(f K,K))=some (z,H')):∃ r,H'=H.new r∧(ji G ty xs).map (fun K=>(f K,K))=some (z,G.new r):=by
 obtain⟨K,k1,k2⟩:=Option.map_eq_some_iff.1 h
 injection k2 with k2 k3
 subst k3
 obtain⟨r,r1,r2⟩:=IZ hG k1
 refine⟨r,r1,?_⟩
 rw[r2,Option.map_some,←k2,r1,hf r r]
theorem Jn (hk:kindOf tt op=1) (h:aOp tt ev H op=some (z,H')) (G:af) (hG:G.next=H.next):∃ r,H'=H.new r∧aOp tt ev G op=some (z,G.new r):=by
 unfold aOp at h
 split at h
 all_goals first
  | (simp[kindOf]at hk;done)
  | skip
 case h_4 T=>
  unfold jN at h
  split at h
  ·rename_i i hi
   split at h
   ·rename_i zz hz
    unfold vo at h
    obtain⟨r,r1,r2⟩:=kB (f:=fun _=>.ptr H.next 0 0 zz.cells.length) hG (fun _ _=>rfl) h
    exact⟨r,r1,by simp only[aOp,jN,hi,hz,vo,hG];exact r2⟩
   ·cases h
  ·cases h
 case h_5 T x=>
  split at h
  ·rename_i v hv
   unfold DG vo at h
   obtain⟨r,r1,r2⟩:=kB (f:=fun _=>.ptr H.next 0 0 v.cells.length) hG (fun _ _=>rfl) h
   exact⟨r,r1,by simp only[aOp,hv,DG,vo,hG];exact r2⟩
  ·cases h
 case h_7 t n ps=>
  split at h
  ·rename_i l hl
   unfold ck at h
   split at h
   ·rename_i i hi
    split at h
    ·rename_i e he
     split at h
     ·rename_i j hj
      split at h
      ·rename_i hn0
       split at h
       ·obtain⟨r,r1,r2⟩:=kB (f:=fun _=>.slc H.next 0 0 0 0 j.size true) hG (fun _ _=>rfl) h
        exact⟨r,r1,by simp only[aOp,hl,ck,hi,he,hj,if_pos hn0,hG];exact r2⟩
       ·cases h
      rename_i hn0
      split at h
      ·rename_i zz hz
       split at h
       ·rename_i hc
        split at h
        ·rename_i out ho
         obtain⟨r,r1,r2⟩:=kB (f:=fun _=>.slc H.next 0 0 n n j.size true) hG (fun _ _=>rfl) h
         exact⟨r,r1,by simp only[aOp,hl,ck,hi,he,hj,if_neg hn0,hz,if_pos hc,ho,hG];exact r2⟩
        ·cases h
       ·cases h
      ·cases h
     ·cases h
    ·cases h
   ·cases h
  ·cases h
 case h_13 s d x=>
  split at h
  ·rename_i u hu
   simp only[kindOf]at hk
   split at hk
   ·rename_i j i hj hi
    unfold jd at h
    simp only[hi,hj]at h
    split at hk
    ·cases hk
    ·rename_i e he hno
     split at h
     ·rename_i e1 e2;rw[he]at e2;cases e2
     ·rename_i e1 e2;rw[he]at e2;cases e2
     ·rename_i e' s' e1 e2
      split at h
      ·rename_i m hm
       split at h
       ·rename_i hmu
        split at h
        ·rename_i hl
         obtain⟨r,r1,r2⟩:=kB (f:=fun _=>.slc H.next 0 0 s'.length s'.length 1 false) hG (fun _ _=>rfl) h
         exact⟨r,r1,by simp only[aOp,hu,jd,hi,hj,e1,e2,hm,hmu,if_pos hl,hG];exact r2⟩
        ·cases h
       ·cases h
      ·cases h
     ·rename_i e1 e2;exact absurd e1 (hno _)
     ·rename_i e1 e2;rw[he]at e2;cases e2
     ·rename_i e1 e2;rw[he]at e2;cases e2
     ·rename_i e1 e2;rw[he]at e2;cases e2
     ·cases h
    ·cases hk
    ·cases hk
   ·cases hk
  ·cases h
 case h_15 t l c=>
  split at h
  ·rename_i u v hu hv
   unfold qA at h
   split at h
   ·rename_i i kl l' kc c' hi
    split at h
    ·rename_i e he
     split at h
     ·rename_i j hj
      split at h
      ·rename_i zz hz
       split at h
       ·rename_i hc
        obtain⟨r,r1,r2⟩:=kB (f:=fun _=>.slc H.next 0 0 l'.toNat c'.toNat j.size true) hG (fun _ _=>rfl) h
        exact⟨r,r1,by simp only[aOp,hu,hv,qA,hi,he,hj,hz,if_pos hc,hG];exact r2⟩
       ·cases h
      ·cases h
     ·cases h
    ·cases h
   ·cases h
  ·cases h
 case h_22 b args ts=>
  simp only[kindOf]at hk
  split at hk<;>cases hk
 all_goals cases h
theorem Jv (hk:kindOf tt op=4) (h:aOp tt ev H op=some (z,H')):H'=H:=by
 unfold aOp at h
 split at h
 all_goals first
  | (simp[kindOf]at hk;done)
  | skip
 case h_8=>
  split at h
  ·exact(bu h).1
  ·cases h
 case h_13 s d x=>
  split at h
  ·rename_i u hu
   simp only[kindOf]at hk
   split at hk
   ·rename_i j i hj hi
    unfold jd at h
    simp only[hi,hj]at h
    split at hk
    ·rename_i e he1 he2
     repeat' split at h
     all_goals first
      | (cases h;done)
      | (injection h with h;injection h with h1 h2;exact h2.symm)
      | (obtain⟨l,k1,k2⟩:=Option.map_eq_some_iff.1 h;injection k2 with k2 k3;exact k3.symm)
      | (rename_i e1 e2;exfalso;simp_all)
      | (exfalso;simp_all)
    ·cases hk
    ·rename_i e he1 he2
     repeat' split at h
     all_goals first
      | (cases h;done)
      | (injection h with h;injection h with h1 h2;exact h2.symm)
      | (obtain⟨l,k1,k2⟩:=Option.map_eq_some_iff.1 h;injection k2 with k2 k3;exact k3.symm)
      | (exfalso;simp_all)
    ·cases hk
   ·cases hk
  ·cases h
 case h_22 b args ts=>
  simp only[kindOf]at hk
  split at hk<;>cases hk
 all_goals cases h
end
end
section
structure au where
 pm:List Nat
 plan:List Nat
def Ci (pm:List Nat) (s:Nat) (e:Edge):Nat:=if Region.binds .any e then s ||| 2^e.on ||| pm.getD e.on 0 else s
def Lm (pm:List Nat) (o:Oper):Nat:=o.after.toList.foldl (Ci pm) 0
theorem pY (pm:List Nat) (j:Nat):∀ (es:List Edge) (s:Nat),(es.foldl (Ci pm) s).testBit j=true→s.testBit j=true ∨ ∃ e ∈ es,Region.binds .any e=true∧(j=e.on∨(pm.getD e.on 0).testBit j=true)
 | [],s,h=>.inl h
 | e::es,s,h=>by
   rw[List.foldl_cons]at h
   rcases pY pm j es _ h with h1 | ⟨e',h1,h2⟩
   ·unfold Ci at h1
    split at h1
    ·rename_i hb
     simp only[Nat.testBit_or,Bool.or_eq_true,Nat.testBit_two_pow,decide_eq_true_eq]at h1
     rcases h1 with(h1 | h1) | h1
     ·exact .inl h1
     ·exact .inr ⟨e,by simp,hb,.inl h1.symm⟩
     ·exact .inr ⟨e,by simp,hb,.inr h1⟩
    ·exact .inl h1
   ·exact .inr ⟨e',List.mem_cons_of_mem _ h1,h2⟩
def fU (tt:TypeId→Option TI) (ops:Array Oper) (i:Nat):Bool:=
 match ops[i]? with
 | some o=>kindOf tt o.op == 2
 | none=>false
def uN (tt:TypeId→Option TI) (ops:Array Oper) (pm:List Nat):List Nat→List Nat→Bool
 | [],_=>true
 | i::is,done=>decide (i<ops.size) && !(done.contains i)&&((List.range ops.size).all fun j => !((pm.getD i 0).testBit j) || done.contains j)&&(!(fU tt ops i) || done.all fun j=>(pm.getD i 0).testBit j)&&uN tt ops pm is (i::done)
def Dx (tt:TypeId→Option TI) (ops:Array Oper) (p:au):Bool:=
 ((List.range ops.size).all fun i=>match ops[i]? with
   | none=>false
   | some o=>(o.after.toList.all fun e => !(Region.binds .any e) || decide (e.on<i))&&decide (p.pm.getD i 0=Lm p.pm o)&&decide (p.pm.getD i 0<2^ops.size)) &&
 uN tt ops p.pm p.plan []&&((List.range ops.size).all fun i=>p.plan.contains i) &&
 ((List.range ops.size).all fun i=>(List.range ops.size).all fun j=>match ops[i]?,ops[j]? with
   | some o,some o'=>decide (i=j) || (match o.dst with
     | none=>true
     | some t=>decide (o'.dst≠some t)&&(!((o'.looksAt ops).contains t) || (p.pm.getD j 0).testBit i || (p.pm.getD i 0).testBit j))
   | _,_=>false)
structure iy (tt:TypeId→Option TI) (ops:Array Oper) (p:au):Prop where
 op:∀ i,i<ops.size → ∃ o,ops[i]?=some o
 edge:∀ i o e,ops[i]?=some o→e ∈ o.after→Region.binds .any e=true→e.on<i
 mask:∀ i o j,ops[i]?=some o→(p.pm.getD i 0).testBit j=true → ∃ e ∈ o.after,Region.binds .any e=true∧(j=e.on∨(p.pm.getD e.on 0).testBit j=true)
 split:∀ pre i post,p.plan=pre++i::post→i<ops.size∧i ∉ pre∧(∀ j,(p.pm.getD i 0).testBit j=true→j ∈ pre)∧(fU tt ops i=true → ∀ j ∈ pre,(p.pm.getD i 0).testBit j=true)
 all:∀ i,i<ops.size→i ∈ p.plan
 dst:∀ i j o o' t,ops[i]?=some o→ops[j]?=some o'→i≠j→o.dst=some t→o'.dst≠some t∧(t ∈ o'.looksAt ops→(p.pm.getD j 0).testBit i=true∨(p.pm.getD i 0).testBit j=true)
theorem mc {tt:TypeId→Option TI} {ops:Array Oper} {pm:List Nat} (hpm:∀ i,i<ops.size→pm.getD i 0<2^ops.size):∀ (is done:List Nat),uN tt ops pm is done=true → ∀ pre i post,is=pre++i::post→i<ops.size∧i ∉ done∧i ∉ pre∧(∀ j,(pm.getD i 0).testBit j=true→j ∈ done∨j ∈ pre)∧(fU tt ops i=true → ∀ j,j ∈ done∨j ∈ pre→(pm.getD i 0).testBit j=true)
 | [],done,h,pre,i,post,e=>by cases pre<;>cases e
 | x::is,done,h,pre,i,post,e=>by
   simp only[uN,Bool.and_eq_true,decide_eq_true_eq,Bool.not_eq_true',Bool.or_eq_true,List.all_eq_true]at h
   obtain⟨⟨⟨⟨h1,h2⟩,h3⟩,h4⟩,h5⟩:=h
   cases pre with
   | nil=>
     injection e with e1 e2
     subst e1 e2
     refine⟨h1,by simpa using h2,by simp,fun j hj=>.inl ?_,fun hc j hj=>?_⟩
     ·have hjl:j<ops.size:=by
       rcases Nat.lt_or_ge j ops.size with h | h
       ·exact h
       ·have:=Nat.testBit_lt_two_pow (Nat.lt_of_lt_of_le (hpm x h1) (Nat.pow_le_pow_right (by decide) h))
        rw[this]at hj;cases hj
      have:=h3 j (List.mem_range.2 hjl)
      rcases this with h | h
      ·rw[hj]at h;cases h
      ·simpa using h
     ·rcases h4 with h | h
      ·rw[hc]at h;cases h
      ·rcases hj with hj | hj
       ·exact h j hj
       ·cases hj
   | cons y pre=>
     injection e with e1 e2
     subst e1
     obtain⟨k1,k2,k3,k4,k5⟩:=mc hpm is (x::done) h5 pre i post e2
     refine⟨k1,fun h=>k2 (List.mem_cons_of_mem _ h),fun h=>?_,fun j hj=>?_,fun hc j hj=>?_⟩
     ·rcases List.mem_cons.1 h with h | h
      ·exact k2 (by rw[h];exact List.mem_cons_self ..)
      ·exact k3 h
     ·rcases k4 j hj with h | h
      ·rcases List.mem_cons.1 h with h | h
       ·exact .inr (by rw[h];exact List.mem_cons_self ..)
       ·exact .inl h
      ·exact .inr (List.mem_cons_of_mem _ h)
     ·refine k5 hc j ?_
      rcases hj with h | h
      ·exact .inl (List.mem_cons_of_mem _ h)
      ·rcases List.mem_cons.1 h with h | h
       ·exact .inl (by rw[h];exact List.mem_cons_self ..)
       ·exact .inr h
theorem Dm {tt:TypeId→Option TI} {ops:Array Oper} {p:au} (h:Dx tt ops p=true):iy tt ops p:=by
 simp only[Dx,Bool.and_eq_true,List.all_eq_true,List.mem_range]at h
 obtain⟨⟨⟨h1,h2⟩,h3⟩,h4⟩:=h
 have hop:∀ i,i<ops.size → ∃ o,ops[i]?=some o:=fun i hi=>⟨ops[i],Array.getElem?_eq_getElem hi⟩
 have lt:∀ {i o},ops[i]?=some o→i<ops.size:=fun h=>(Array.getElem?_eq_some_iff.1 h).1
 have hpm:∀ i,i<ops.size→p.pm.getD i 0<2^ops.size:=fun i hi=>by
  obtain⟨o,ho⟩:=hop i hi
  have:=h1 i hi
  simp only[ho,Bool.and_eq_true,decide_eq_true_eq]at this
  exact this.2
 refine⟨hop,fun i o e ho he hb=>?_,fun i o j ho hj=>?_,fun pre i post e=>?_,fun i hi=>by simpa using h3 i hi,fun i j o o' t ho ho' hij hd=>?_⟩
 ·have:=h1 i (lt ho)
  simp only[ho,Bool.and_eq_true,decide_eq_true_eq,List.all_eq_true,Bool.or_eq_true,Bool.not_eq_true']at this
  rcases this.1.1 e (by simpa using he) with h | h
  ·rw[hb]at h;cases h
  ·exact h
 ·have:=h1 i (lt ho)
  simp only[ho,Bool.and_eq_true,decide_eq_true_eq]at this
  rw[this.1.2]at hj
  rcases pY p.pm j _ _ hj with h | ⟨e,h5,h6⟩
  ·simp at h
  ·exact⟨e,by simpa using h5,h6⟩
 ·obtain⟨k1,k2,k3,k4,k5⟩:=mc hpm p.plan [] h2 pre i post e
  exact⟨k1,k3,fun j hj=>(k4 j hj).resolve_left (by simp),fun hc j hj=>k5 hc j (.inr hj)⟩
 ·have:=h4 i (lt ho) j (lt ho')
  simp only[ho,ho',hd,Bool.or_eq_true,Bool.and_eq_true,decide_eq_true_eq,Bool.not_eq_true']at this
  rcases this with h | ⟨h5,h6⟩
  ·exact absurd h hij
  ·refine⟨h5,fun hm=>?_⟩
   rcases h6 with(h6 | h6) | h6
   ·rw[List.contains_eq_mem,decide_eq_false_iff_not]at h6;exact absurd hm h6
   ·exact .inl h6
   ·exact .inr h6
theorem iy.closed {tt:TypeId→Option TI} {ops:Array Oper} {p:au} (g:iy tt ops p) {S:Nat→Prop} (hS:∀ i o e,ops[i]?=some o→S i→e ∈ o.after→Region.binds .any e=true→S e.on):∀ (n i:Nat),i≤n→i<ops.size→S i → ∀ j,(p.pm.getD i 0).testBit j=true→S j
 | 0,i,hi,hl,hs,j,hj=>by
   obtain⟨o,ho⟩:=g.op i hl
   obtain⟨e,h1,h2,h3⟩:=g.mask i o j ho hj
   have:=g.edge i o e ho h1 h2
   omega
 | n+1,i,hi,hl,hs,j,hj=>by
   obtain⟨o,ho⟩:=g.op i hl
   obtain⟨e,h1,h2,h3⟩:=g.mask i o j ho hj
   have hlt:=g.edge i o e ho h1 h2
   have hse:=hS i o e ho hs h1 h2
   rcases h3 with rfl | h3
   ·exact hse
   ·exact g.closed hS n e.on (by omega) (by omega) hse j h3
def gC (l:List Tmp) (T:Tr ah):Operand→Option ah
 | .tmp t=>if l.contains t then T.get t else none
 | x=>aEv T x
def aDo (E:bg) (callF:aA) (ops:Array Oper) (o:Oper) (T:Tr ah) (H:af):Option (Bool×ah×af):=
 match bF ops T o with
 | some false=>some (false,.tup [],H)
 | some true=>match o.op with
   | .call { callee := .value g,args,argTypes:=_ }=>match gC (o.looksAt ops) T g with
     | some (.func f caps)=>match eM (gC (o.looksAt ops) T) args.toList with
       | some xs=>(callF f (xs++caps) H).map fun r=>(true,r.1,r.2)
       | none=>none
     | _=>none
   | op=>(aOp E.tt (gC (o.looksAt ops) T) H op).map fun r=>(true,r.1,r.2)
 | none=>none
def nU (id:Nat) (r:bH) (G:af):af:=⟨max G.next (id+1),Tr.set 40 G.rows id r⟩
def iW (tt:TypeId→Option TI) (ev:Operand→Option ah) (op:Op) (r:ah) (m:Nat):List (Nat×af)→Bool
 | []=>true
 | (c,G)::rest=>if m.testBit c then true else(match aOp tt ev G op with
   | some (r',_)=>alike 6 r' r&&iW tt ev op r m rest
   | none=>false)
structure fC where
 T:Tr ah
 H:af
 news:List (Nat×af)
 olds:List (Nat×af)
 rs:List (Nat×Nat×Nat)
def fC.with (d:fC) (r:Nat×Nat×Nat):fC:={ d with rs:=r::d.rs }
def bV (E:bg) (callF:aA) (N:Nat) (ops:Array Oper) (pm:List Nat):List Nat→Tr ah→af→List (Nat×af)→Option fC
 | [],T,H,olds=>some ⟨T,H,[],olds,[]⟩
 | i::is,T,H,olds=>match ops[i]? with
   | none=>none
   | some o=>match aDo E callF ops o T H with
     | none=>none
     | some (want,r,H')=>match gD N T o.dst r with
       | none=>none
       | some T'=>
         if want then(match kindOf E.tt o.op with
          | 2=>match bV E callF N ops pm is T' H' ((i,H)::olds) with
            | some d=>match d.olds with
              | (_,G)::olds'=>some ⟨d.T,d.H,(i,G)::d.news,olds',(i,H.next,H'.next)::d.rs⟩
              | []=>none
            | none=>none
          | 1=>match H'.get H.next with
            | some row=>(bV E callF N ops pm is T' H' (olds.map fun p=>(p.1,nU H.next row p.2))).map (·.with (i,H.next,H'.next))
            | none=>none
          | 4=>if iW E.tt (gC (o.looksAt ops) T) o.op r (pm.getD i 0) olds then(bV E callF N ops pm is T' H olds).map (·.with (i,H.next,H.next)) else none
          | 0=>(bV E callF N ops pm is T' H olds).map (·.with (i,H.next,H.next))
          | _=>none)
         else(bV E callF N ops pm is T' H olds).map (·.with (i,H.next,H.next))
def sw (E:bg) (callF:aA) (N:Nat) (ops:Array Oper) (p:au) (T:Tr ah) (H:af):Option (Tr ah×af):=
 (bV E callF N ops p.pm p.plan T H []).map fun d=>(d.T,d.H)
end
section
def qC (G G':af):Prop := ∀ id r,G.get id=some r→G'.get id=some r
structure Grw (G G':af) (b:Nat):Prop where
 sub:qC G G'
 old:∀ id,id<b→G'.get id=G.get id
 ok:G'.Ok
structure dR (b:Nat) (G:af):Prop where
 ok:G.Ok
 lt:∀ id r,G.get id=some r→id<b
theorem dR.none_ {b:Nat} {G:af} (h:dR b G) {id:Nat} (hi:b≤id):G.get id=none:=by
 cases hg:G.get id with
 | none=>rfl
 | some r=>have:=h.lt _ _ hg;omega
theorem dR.mono {b b':Nat} {G:af} (h:dR b G) (hb:b≤b'):dR b' G:=⟨h.ok,fun id r hr=>Nat.lt_of_lt_of_le (h.lt id r hr) hb⟩
theorem dR.grw {b:Nat} {G:af} (h:dR b G) (c:Nat):Grw G G c:=⟨fun _ _ h=>h,fun _ _=>rfl,h.ok⟩
theorem Grw.mono {b b':Nat} {G G':af} (h:Grw G G' b') (hb:b≤b'):Grw G G' b:=⟨h.sub,fun id hi=>h.old id (Nat.lt_of_lt_of_le hi hb),h.ok⟩
theorem fZ {id:Nat} (hid:id<1099511627776) (r:bH) (G:af) (j:Nat):(nU id r G).get j=if j=id then some r else G.get j:=Tr.get_set 40 G.rows id r hid j
theorem BM {id:Nat} (hid:id<1099511627776) {r:bH} {G:af} (h:dR id G):dR (id+1) (nU id r G):=by
 have hn:=h.ok.next
 refine⟨⟨by show max G.next (id+1)≤_;omega,fun j r' hj=>?_⟩,fun j r' hj=>?_⟩ <;>
 ·rw[fZ hid]at hj
  by_cases e:j=id
  ·subst e;first | omega | (show j<max G.next (j+1);omega)
  ·rw[if_neg e]at hj
   have h1:=h.lt j r' hj
   have h2:=h.ok.lt j r' hj
   first | omega | (show j<max G.next (id+1);omega)
inductive gB (b:Nat):List (Nat×af)→List (Nat×af)→Prop where
 | nil:gB b [] []
 | cons (c:Nat) (G G':af) (l l':List (Nat×af)) (h:Grw G G' b) (hs:gB b l l'):gB b ((c,G)::l) ((c,G')::l')
theorem gB.refl {b:Nat} (c:Nat):∀ {l:List (Nat×af)},(∀ p ∈ l,dR b p.2)→gB c l l
 | [],_=>.nil
 | (a,G)::l,h=>.cons _ _ _ _ _ ((h (a,G) (by simp)).grw c) (gB.refl c (fun p hp=>h p (by simp[hp])))
theorem gB.mono {b b':Nat} (hb:b≤b'):∀ {l l':List (Nat×af)},gB b' l l'→gB b l l'
 | _,_,.nil=>.nil
 | _,_,.cons c G G' l l' h hs=>.cons c G G' l l' (h.mono hb) (hs.mono hb)
theorem gB.get {b:Nat}:∀ {l l':List (Nat×af)},gB b l l' → ∀ {X:List (Nat×af)} {c:Nat} {G':af} {Y:List (Nat×af)},l'=X++(c,G')::Y → ∃ X0 G Y0,l=X0++(c,G)::Y0∧Grw G G' b∧X0.map (·.1)=X.map (·.1)
 | _,_,.nil,X,c,G',Y,e=>by cases X<;>cases e
 | _,_,.cons c0 G0 G0' l l' h hs,[],c,G',Y,e=>by
   injection e with e1 e2
   injection e1 with e1 e3
   subst e1 e3
   exact⟨[],G0,l,rfl,h,rfl⟩
 | _,_,.cons c0 G0 G0' l l' h hs,x::X,c,G',Y,e=>by
   injection e with e1 e2
   subst e1
   obtain⟨X0,G,Y0,k1,k2,k3⟩:=hs.get e2
   exact⟨(c0,G0)::X0,G,Y0,by rw[k1];rfl,k2,by simp[k3]⟩
theorem gB.fst {b:Nat}:∀ {l l':List (Nat×af)},gB b l l'→l'.map (·.1)=l.map (·.1)
 | _,_,.nil=>rfl
 | _,_,.cons c G G' l l' h hs=>by simp[hs.fst]
theorem gB.mem {b:Nat} {l l':List (Nat×af)} (h:gB b l l') {q:Nat×af} (hq:q ∈ l'):∃ p ∈ l,p.1=q.1∧Grw p.2 q.2 b:=by
 obtain⟨X,Y,e⟩:=List.append_of_mem hq
 obtain⟨X0,G,Y0,k1,k2,k3⟩:=h.get (c:=q.1) (G':=q.2) e
 exact⟨(q.1,G),by rw[k1];simp,rfl,k2⟩
theorem gB.add {b id:Nat} (hid:id<1099511627776) {r:bH} (hb:b≤id):∀ {l l':List (Nat×af)},(∀ p ∈ l,dR id p.2)→gB (id+1) (l.map fun p=>(p.1,nU id r p.2)) l'→gB b l l'
 | [],_,_,.nil=>.nil
 | (c,G)::l,_,h,.cons _ _ G' _ l' hg hs=>by
   have hG:=h (c,G) (by simp)
   refine .cons _ _ _ _ _ ⟨fun j r' hj=>hg.sub j r' ?_,fun j hj=>?_,hg.ok⟩ (gB.add hid hb (fun p hp=>h p (by simp[hp])) hs)
   ·have:=hG.lt j r' hj
    simp only at hj ⊢
    rw[fZ hid,if_neg (by omega)];exact hj
   ·rw[hg.old j (by omega)]
    simp only
    rw[fZ hid,if_neg (by omega)]
def Rw (H0:af) (G:af):Prop := ∀ id,(G.get id).isSome=true→(H0.get id).isSome=true∨H0.next≤id
def cur (L:List (Nat×af)) (Hf:af):af:=
 match L with
 | []=>Hf
 | p::_=>p.2
structure uT (E:bg) (callF:aA) (N:Nat) (ops:Array Oper) (pm:List Nat) (T0 Tf:Tr ah) (Hf:af) (L:List (Nat×af)) (pre:List Nat) (i:Nat) (post:List Nat) (s e:Nat) (o:Oper) (Ti:Tr ah) (Hi:af) (want:Bool) (r:ah) (H':af):Prop where
 op:ops[i]?=some o
 does:aDo E callF ops o Ti Hi=some (want,r,H')
 ok:Hi.Ok
 start:s=Hi.next
 le:s≤e
 dst:∀ d,o.dst=some d→d<N∧N<1099511627776∧Tf.get d=some r
 e1:∀ t,(∀ j ∈ i::post,∀ oj,ops[j]?=some oj→oj.dst≠some t)→Tf.get t=Ti.get t
 e2:∀ t,(∀ j ∈ pre,∀ oj,ops[j]?=some oj→oj.dst≠some t)→Ti.get t=T0.get t
 kind:((want=false∨(want=true∧kindOf E.tt o.op=0)) ∧ ∀ q ∈ L,q.1≠i) ∨
  (want=true∧kindOf E.tt o.op=4 ∧ ∃ A B,L=A++B∧(∀ p ∈ B,p.1 ∈ post∧fU E.tt ops p.1=true) ∧ ∀ A1 A2,A=A1++A2→(∀ p ∈ A2,(pm.getD i 0).testBit p.1=false) → ∃ Hx:af,Hx.Ok∧qC Hx (cur (A2++B) Hf)∧aOp E.tt (gC (o.looksAt ops) Ti) Hx o.op=some (r,Hx)) ∨
  (want=true∧kindOf E.tt o.op=1∧e=Hi.next+1 ∧ ∃ row A B,L=A++B∧(∀ p ∈ B,p.1 ∈ post∧fU E.tt ops p.1=true)∧H'=Hi.new row ∧ ∀ A1 A2,A=A1++A2→(cur (A2++B) Hf).get Hi.next=some row) ∨
  (want=true∧kindOf E.tt o.op=2∧e=H'.next ∧ ∃ A G B,L=A++(i,G)::B∧(∀ p ∈ A,p.1 ∈ pre)∧(∀ p ∈ B,p.1≠i)∧qC Hi G∧qC H' (cur B Hf)∧(∀ id,H'.get id=none→(cur B Hf).get id=G.get id) ∧ ∀ id,id<H'.next→H'.get id=none→G.get id=none)
end
section
theorem yE {P:Program} {E:bg} {callF:aA} (hC:aU P callF) {ops:Array Oper} {o:Oper} {T:Tr ah} {H H':af} {want:Bool} {r:ah} (h:aDo E callF ops o T H=some (want,r,H')):aV H H':=by
 unfold aDo at h
 repeat' split at h
 all_goals first
  | (cases h;done)
  | (injection h with h;injection h with h1 h2;injection h2 with h2 h3;subst h3;exact aV.refl _)
  | (obtain⟨x,k1,k2⟩:=Option.map_eq_some_iff.1 h;injection k2 with k2 k3;injection k3 with k3 k4;subst k4;first | exact hC.next _ _ _ _ _ k1 | exact xK k1)
theorem sP {E:bg} {callF:aA} {ops:Array Oper} {o:Oper} {T:Tr ah} {H H':af} {r:ah} (h:aDo E callF ops o T H=some (false,r,H')):H'=H∧r = .tup []∧bF ops T o=some false:=by
 unfold aDo at h
 repeat' split at h
 all_goals first
  | (cases h;done)
  | (rename_i hw;injection h with h;injection h with h1 h2;injection h2 with h2 h3;exact⟨h3.symm,h2.symm,hw⟩)
  | (obtain⟨x,k1,k2⟩:=Option.map_eq_some_iff.1 h;injection k2 with k2 k3;cases k2)
theorem lI {E:bg} {callF:aA} {ops:Array Oper} {o:Oper} {T:Tr ah} {H H':af} {r:ah} (h:aDo E callF ops o T H=some (true,r,H')) (hk:kindOf E.tt o.op≠2):aOp E.tt (gC (o.looksAt ops) T) H o.op=some (r,H')∧bF ops T o=some true:=by
 unfold aDo at h
 split at h
 ·injection h with h;injection h with h1 h2;cases h1
 ·rename_i hw
  split at h
  ·rename_i ho
   exact absurd (by rw[ho];rfl) hk
  ·obtain⟨x,k1,k2⟩:=Option.map_eq_some_iff.1 h
   injection k2 with k2 k3
   injection k3 with k3 k4
   subst k3 k4
   exact⟨k1,hw⟩
 ·cases h
theorem qx {tt:TypeId→Option TI} {ev:Operand→Option ah} {op:Op} {r:ah} {m:Nat} (hk:kindOf tt op=4):∀ {X:List (Nat×af)} {c:Nat} {G:af} {Y:List (Nat×af)},iW tt ev op r m (X++(c,G)::Y)=true→(∀ x ∈ X.map (·.1),m.testBit x=false)→m.testBit c=false→aOp tt ev G op=some (r,G)
 | [],c,G,Y,h,hX,hc=>by
   simp only[List.nil_append,iW,hc,Bool.false_eq_true,if_false]at h
   split at h
   ·rename_i r' G' ha
    rw[Bool.and_eq_true]at h
    rw[eH _ _ _ h.1]at ha
    rw[Jv hk ha]at ha
    exact ha
   ·cases h
 | (x,G0)::X,c,G,Y,h,hX,hc=>by
   have hx:=hX x (by simp)
   simp only[List.cons_append,iW,hx,Bool.false_eq_true,if_false]at h
   split at h
   ·rw[Bool.and_eq_true]at h
    exact qx hk h.2 (fun y hy=>hX y (by simp at hy ⊢;exact .inr hy)) hc
   ·cases h
structure iS (E:bg) (callF:aA) (N:Nat) (ops:Array Oper) (pm:List Nat) (T0:Tr ah) (H0:af) (pre is:List Nat) (T:Tr ah) (H:af) (olds:List (Nat×af)) (d:fC):Prop where
 olds:gB H.next olds d.olds
 cur:Grw H (cur d.news d.H) H.next
 agree:∀ q ∈ d.olds,∀ id,H.next≤id→q.2.get id=(Go.Proofs.YtmpiinhnabmjcaaGreatDoor.cur d.news d.H).get id
 news:∀ p ∈ d.news,p.1 ∈ is∧fU E.tt ops p.1=true
 keepT:∀ t,(∀ j ∈ is,∀ oj,ops[j]?=some oj→oj.dst≠some t)→d.T.get t=T.get t
 nx:aV H d.H
 rs:d.rs.map (·.1)=is∧(∀ x ∈ d.rs,H.next≤x.2.1∧x.2.1≤x.2.2∧x.2.2≤d.H.next)∧d.rs.Pairwise (fun x y=>x.2.2≤y.2.1)
 lt:(∀ q ∈ d.olds,dR d.H.next q.2∧Rw H0 q.2)∧(∀ q ∈ d.news,dR d.H.next q.2∧Rw H0 q.2)∧dR d.H.next d.H∧Rw H0 d.H
 facts:∀ p1 i p2,is=p1++i::p2 → ∃ s e o Ti Hi want r H',(i,s,e) ∈ d.rs∧uT E callF N ops pm T0 d.T d.H (d.olds.reverse++d.news) (pre++p1) i p2 s e o Ti Hi want r H'
theorem GA {N:Nat} {T T':Tr ah} {dst:Option Tmp} {v:ah} (h:gD N T dst v=some T'):(∀ d,dst=some d→d<N∧N<1099511627776∧T'.get d=some v) ∧ ∀ t,dst≠some t→T'.get t=T.get t:=by
 unfold gD at h
 split at h
 ·injection h with h;subst h
  exact⟨fun d hd=>(by cases hd),fun t _=>rfl⟩
 ·rename_i d
  split at h
  ·rename_i hc
   injection h with h;subst h
   have hd:=Nat.lt_trans hc.1 hc.2
   refine⟨fun d' hd'=>?_,fun t ht=>?_⟩
   ·injection hd' with hd';subst hd'
    exact⟨hc.1,hc.2,by rw[Tr.get_set 40 T d v hd,if_pos rfl]⟩
   ·rw[Tr.get_set 40 T d v hd,if_neg (fun e=>ht (by rw[e]))]
  ·cases h
theorem mh {P:Program} {E:bg} {callF:aA} (hC:aU P callF) {N:Nat} {ops:Array Oper} {pm:List Nat} (hdst:∀ (i j:Nat) (oi oj:Oper) (t:Tmp),ops[i]?=some oi→ops[j]?=some oj→i≠j→oi.dst=some t→oj.dst≠some t) {T0:Tr ah} {H0:af}:
 ∀ (is pre:List Nat) (T:Tr ah) (H:af) (olds:List (Nat×af)) (d:fC),bV E callF N ops pm is T H olds=some d→(pre++is).Nodup→dR H.next H∧Rw H0 H∧H0.next≤H.next→(∀ p ∈ olds,dR H.next p.2∧p.1 ∈ pre∧Rw H0 p.2) →
   (∀ t,(∀ j ∈ pre,∀ oj,ops[j]?=some oj→oj.dst≠some t)→T.get t=T0.get t)→iS E callF N ops pm T0 H0 pre is T H olds d
 | [],pre,T,H,olds,d,h,hnd,⟨hH,hHr,hHn⟩,hO,hT=>by
   simp only[bV]at h
   injection h with h
   subst h
   refine⟨gB.refl _ (fun p hp=>(hO p hp).1),hH.grw _,fun q hq id hi=>?_,fun p hp=>(by cases hp),fun _ _=>rfl,aV.refl _,⟨rfl,fun x hx=>(by cases hx),List.Pairwise.nil⟩,⟨fun q hq=>⟨(hO q hq).1,(hO q hq).2.2⟩,fun q hq=>(by cases hq),hH,hHr⟩,fun p1 i p2 e=>(by cases p1<;>cases e)⟩
   rw[(hO q hq).1.none_ hi]
   exact(hH.none_ hi).symm
 | i::is,pre,T,H,olds,d,h,hnd,⟨hH,hHr,hHn⟩,hO,hT=>by
   have hnd':((pre ++ [i])++is).Nodup:=by rw[List.append_assoc];exact hnd
   have hi:i ∉ pre∧i ∉ is:=by
    have h1:=List.nodup_append.1 hnd
    refine⟨fun h=>h1.2.2 i h i (by simp) rfl,(List.nodup_cons.1 h1.2.1).1⟩
   unfold bV at h
   split at h
   ·cases h
   rename_i o ho
   split at h
   ·cases h
   rename_i want r H' hdo
   split at h
   ·cases h
   rename_i T' hput
   have hnx:=yE hC hdo
   have hRw':Rw H0 H':=fun id hid=>by
    rcases(hnx.ok hH.ok).2.2 id hid with h1 | h1
    ·exact hHr id h1
    ·exact .inr (Nat.le_trans hHn h1)
   obtain⟨hp1,hp2⟩:=GA hput
   have hT':∀ t,(∀ j ∈ pre ++ [i],∀ oj,ops[j]?=some oj→oj.dst≠some t)→T'.get t=T0.get t:=fun t ht=>by
    rw[hp2 t (ht i (by simp) o ho)]
    exact hT t (fun j hj=>ht j (by simp[hj]))
   have alike:∀ {d:fC} {H2:af} {olds2:List (Nat×af)},iS E callF N ops pm T0 H0 (pre ++ [i]) is T' H2 olds2 d→(∀ t,(∀ j ∈ i::is,∀ oj,ops[j]?=some oj→oj.dst≠some t)→d.T.get t=T.get t)∧(∀ x,o.dst=some x→x<N∧N<1099511627776∧d.T.get x=some r)∧(∀ t,(∀ j ∈ i::is,∀ oj,ops[j]?=some oj→oj.dst≠some t)→d.T.get t=T.get t):=by
    intro d H2 olds2 g
    have k1:∀ t,(∀ j ∈ i::is,∀ oj,ops[j]?=some oj→oj.dst≠some t)→d.T.get t=T.get t:=fun t ht=>by
     rw[g.keepT t (fun j hj=>ht j (List.mem_cons_of_mem _ hj)),hp2 t (ht i (List.mem_cons_self ..) o ho)]
    refine⟨k1,fun x hx=>?_,k1⟩
    obtain⟨q1,q2,q3⟩:=hp1 x hx
    refine⟨q1,q2,?_⟩
    rw[g.keepT x (fun j hj oj hoj=>hdst i j o oj x ho hoj (fun e=>hi.2 (by rw[e];exact hj)) hx),q3]
   have facts2:∀ {d:fC} {H2:af} {olds2:List (Nat×af)} {s e:Nat} {rs:List (Nat×Nat×Nat)} {L:List (Nat×af)},iS E callF N ops pm T0 H0 (pre ++ [i]) is T' H2 olds2 d→L=d.olds.reverse++d.news→rs=(i,s,e)::d.rs →
    (∃ o Ti Hi want r H',uT E callF N ops pm T0 d.T d.H L pre i is s e o Ti Hi want r H') → ∀ p1 i' p2,i::is=p1++i'::p2 → ∃ s e o Ti Hi want r H',(i',s,e) ∈ rs∧uT E callF N ops pm T0 d.T d.H L (pre++p1) i' p2 s e o Ti Hi want r H':=by
    intro d H2 olds2 s e rs L g hL hrs hf p1 i' p2 he
    subst hL hrs
    cases p1 with
    | nil=>
      injection he with e1 e2
      subst e1 e2
      obtain⟨o',Ti,Hi,want',r',H2',hf⟩:=hf
      exact⟨s,e,o',Ti,Hi,want',r',H2',by simp,by rw[List.append_nil];exact hf⟩
    | cons x p1=>
      injection he with e1 e2
      subst e1
      obtain⟨s',e',o',Ti,Hi,want',r',H2',m,hf⟩:=g.facts p1 i' p2 e2
      refine⟨s',e',o',Ti,Hi,want',r',H2',List.mem_cons_of_mem _ m,?_⟩
      rw[List.append_assoc]at hf
      exact hf
   have rs2:∀ {d:fC} {H2:af} {olds2:List (Nat×af)} {e:Nat},iS E callF N ops pm T0 H0 (pre ++ [i]) is T' H2 olds2 d→H.next≤e→e≤H2.next→(((i,H.next,e)::d.rs).map (·.1)=i::is∧(∀ x ∈ (i,H.next,e)::d.rs,H.next≤x.2.1∧x.2.1≤x.2.2∧x.2.2≤d.H.next)∧((i,H.next,e)::d.rs).Pairwise (fun x y=>x.2.2≤y.2.1)):=by
    intro d H2 olds2 e g h1 h2
    obtain⟨a1,a2,a3⟩:=g.rs
    refine⟨by simp[a1],fun x hx=>?_,List.Pairwise.cons (fun y hy=>Nat.le_trans h2 (a2 y hy).1) a3⟩
    rcases List.mem_cons.1 hx with rfl | hx
    ·exact⟨Nat.le_refl _,h1,Nat.le_trans h2 g.nx.le⟩
    ·have:=a2 x hx;exact⟨by omega,this.2⟩
   have still:∀ {d:fC},bV E callF N ops pm is T' H olds=some d→H'=H→((want=false∨(want=true∧kindOf E.tt o.op=0))∨(want=true∧kindOf E.tt o.op=4∧iW E.tt (gC (o.looksAt ops) T) o.op r (pm.getD i 0) olds=true))→iS E callF N ops pm T0 H0 pre (i::is) T H olds (d.with (i,H.next,H.next)):=by
    intro d hd hHH hk
    have g:=mh hC hdst is (pre ++ [i]) T' H olds d hd hnd' ⟨hH,hHr,hHn⟩ (fun p hp=>⟨(hO p hp).1,by simp[(hO p hp).2.1],(hO p hp).2.2⟩) hT'
    obtain⟨a1,a2,a3⟩:=alike g
    refine⟨g.olds,g.cur,g.agree,fun p hp=>⟨List.mem_cons_of_mem _ (g.news p hp).1,(g.news p hp).2⟩,a1,g.nx,rs2 g (Nat.le_refl _) (Nat.le_refl _),g.lt,facts2 (d:=d) g rfl rfl ⟨o,T,H,want,r,H',ho,hdo,hH.ok,rfl,Nat.le_refl _,a2,a3,hT,?_⟩⟩
    rcases hk with hk | ⟨hk1,hk2,hk3⟩
    ·refine .inl ⟨hk,fun q hq eq=>?_⟩
     rcases List.mem_append.1 hq with hq | hq
     ·change q ∈ d.olds.reverse at hq
      obtain⟨p,hp,e1,e2⟩:=g.olds.mem (List.mem_reverse.1 hq)
      exact hi.1 (by rw[←eq,←e1];exact(hO p hp).2.1)
     ·exact hi.2 (by rw[←eq];exact(g.news q hq).1)
    ·refine .inr (.inl ⟨hk1,hk2,d.olds.reverse,d.news,rfl,g.news,fun A1 A2 hA hm=>?_⟩)
     cases A2 with
     | nil=>
       refine⟨H,hH.ok,?_,?_⟩
       ·exact g.cur.sub
       ·subst hHH
        subst hk1
        exact(lI hdo (by rw[hk2];decide)).1
     | cons q A2=>
       have hA':d.olds=A2.reverse++q::A1.reverse:=by
        have:=congrArg List.reverse hA
        rw[List.reverse_reverse]at this
        rw[this];simp
       obtain⟨X0,G,Y0,k1,k2,k3⟩:=g.olds.get (c:=q.1) (G':=q.2) hA'
       refine⟨G,?_,?_,?_⟩
       ·exact((hO (q.1,G) (by rw[k1];simp)).1).ok
       ·exact k2.sub
       ·rw[k1]at hk3
        refine qx hk2 hk3 (fun x hx=>?_) (hm q (by simp))
        rw[k3]at hx
        obtain⟨p,hp,rfl⟩:=List.mem_map.1 hx
        exact hm p (by simp at hp ⊢;exact .inr hp)
   cases want with
   | false=>
     simp only[Bool.false_eq_true,if_false]at h
     obtain⟨d1,hd1,rfl⟩:=Option.map_eq_some_iff.1 h
     exact still hd1 (sP hdo).1 (.inl (.inl rfl))
   | true=>
     simp only[if_true]at h
     split at h
     ·rename_i hk
      split at h
      ·rename_i d1 hd1
       split at h
       ·rename_i c G olds' hold
        injection h with h
        subst h
        have g:=mh hC hdst is (pre ++ [i]) T' H' ((i,H)::olds) d1 hd1 hnd' ⟨⟨(hnx.ok hH.ok).1,fun id r hr=>(hnx.ok hH.ok).1.lt id r hr⟩,hRw',Nat.le_trans hHn hnx.le⟩ (fun p hp=>by
         rcases List.mem_cons.1 hp with rfl | hp
         ·exact⟨hH.mono hnx.le,by simp,hHr⟩
         ·exact⟨(hO p hp).1.mono hnx.le,by simp[(hO p hp).2.1],(hO p hp).2.2⟩) hT'
        obtain⟨a1,a2,a3⟩:=alike g
        have ho2:=g.olds
        rw[hold]at ho2
        cases ho2 with
        | cons _ _ _ _ _ hg hs=>
        have hag:=g.agree
        rw[hold]at hag
        have L:d1.olds.reverse++d1.news=olds'.reverse++(i,G)::d1.news:=by rw[hold];simp
        refine⟨hs.mono hnx.le,hg.mono hnx.le,fun q hq id hid=>?_,fun p hp=>?_,a1,hnx.trans g.nx,rs2 g hnx.le (Nat.le_refl _),⟨fun q hq=>g.lt.1 q (by rw[hold];simp[hq]),fun q hq=>?_,g.lt.2.2⟩,facts2 (d:=d1) g L.symm rfl ⟨o,T,H,true,r,H',ho,hdo,hH.ok,rfl,hnx.le,a2,a3,hT,.inr (.inr (.inr ⟨rfl,hk,rfl,olds'.reverse,G,d1.news,rfl,fun p hp=>?_,fun p hp e=>hi.2 (by rw[←e];exact(g.news p hp).1),hg.sub,g.cur.sub,fun id hid=>?_,fun id hlt hid=>?_⟩))⟩⟩
        ·show q.2.get id=G.get id
         by_cases hlt:id<H'.next
         ·obtain⟨p,hp,e1,e2⟩:=hs.mem hq
          rw[e2.old id hlt,hg.old id hlt,(hO p hp).1.none_ hid,hH.none_ hid]
         ·rw[hag q (by simp[hq]) id (by omega),hag (i,G) (by simp) id (by omega)]
        ·rcases List.mem_cons.1 hp with rfl | hp
         ·exact⟨by simp,by simp only[fU,ho];rw[hk];rfl⟩
         ·exact⟨List.mem_cons_of_mem _ (g.news p hp).1,(g.news p hp).2⟩
        ·rcases List.mem_cons.1 hq with rfl | hq
         ·exact g.lt.1 (i,G) (by rw[hold];simp)
         ·exact g.lt.2.1 q hq
        ·obtain⟨q,hq,e1,e2⟩:=hs.mem (by simpa using hp)
         rw[←e1];exact(hO q hq).2.1
        ·by_cases hlt:id<H'.next
         ·rw[g.cur.old id hlt,hid,hg.old id hlt]
          cases hH2:H.get id with
          | none=>rfl
          | some r0=>have:=(hnx.ok hH.ok).2.1 id (by rw[hH2];rfl);rw[hid]at this;cases this
         ·exact(hag (i,G) (by simp) id (by omega)).symm
        ·rw[hg.old id hlt]
         cases hH2:H.get id with
         | none=>rfl
         | some r0=>have:=(hnx.ok hH.ok).2.1 id (by rw[hH2];rfl);rw[hid]at this;cases this
       ·cases h
      ·cases h
     ·rename_i hk
      split at h
      ·rename_i row hrow
       obtain⟨d1,hd1,rfl⟩:=Option.map_eq_some_iff.1 h
       obtain⟨hop,hw⟩:=lI hdo (by rw[hk];decide)
       obtain⟨r',hr',-⟩:=Jn hk hop H rfl
       have hn:H.next<1099511627776:=by
        have:=(hnx.ok hH.ok).1.next
        rw[hr',af.next_new]at this
        omega
       have hrr:r'=row:=by
        rw[hr',af.get_new hn,if_pos rfl]at hrow
        injection hrow
       subst hrr
       have hn2:H'.next=H.next+1:=by rw[hr'];rfl
       have g:=mh hC hdst is (pre ++ [i]) T' H' (olds.map fun p=>(p.1,nU H.next r' p.2)) d1 hd1 hnd' ⟨⟨(hnx.ok hH.ok).1,fun id r hr=>(hnx.ok hH.ok).1.lt id r hr⟩,hRw',Nat.le_trans hHn hnx.le⟩ (fun p hp=>by
        obtain⟨q,hq,rfl⟩:=List.mem_map.1 hp
        exact⟨by rw[hn2];exact BM hn (hO q hq).1,by simp[(hO q hq).2.1],fun id hid=>by
         simp only at hid
         rw[fZ hn]at hid
         by_cases e:id=H.next
         ·exact .inr (by omega)
         ·rw[if_neg e]at hid;exact(hO q hq).2.2 id hid⟩) hT'
       obtain⟨a1,a2,a3⟩:=alike g
       have hog:=g.olds
       rw[hn2]at hog
       have hcr:∀ q ∈ d1.olds,q.2.get H.next=some r':=fun q hq=>by
        obtain⟨p,hp,e1,e2⟩:=hog.mem hq
        obtain⟨p0,hp0,rfl⟩:=List.mem_map.1 hp
        rw[e2.old H.next (by omega)]
        simp only
        rw[fZ hn,if_pos rfl]
       have hcc:(cur d1.news d1.H).get H.next=some r':=by
        rw[g.cur.old H.next (by omega)]
        exact hrow
       refine⟨gB.add hn (Nat.le_refl _) (fun p hp=>(hO p hp).1) hog,⟨fun id r0 hr0=>g.cur.sub id r0 ?_,fun id hid=>?_,g.cur.ok⟩,fun q hq id hid=>?_,fun p hp=>⟨List.mem_cons_of_mem _ (g.news p hp).1,(g.news p hp).2⟩,a1,hnx.trans g.nx,rs2 g hnx.le (Nat.le_refl _),g.lt,facts2 (d:=d1) g rfl rfl ⟨o,T,H,true,r,H',ho,hdo,hH.ok,rfl,hnx.le,a2,a3,hT,.inr (.inr (.inl ⟨rfl,hk,hn2,r',d1.olds.reverse,d1.news,rfl,g.news,hr',fun A1 A2 hA=>?_⟩))⟩⟩
       ·rw[hr',af.get_new hn,if_neg (by have:=hH.lt id r0 hr0;omega)];exact hr0
       ·rw[show(Go.Proofs.YtmpiinhnabmjcaaGreatDoor.cur (d1.with (i,H.next,H'.next)).news (d1.with (i,H.next,H'.next)).H).get id=(Go.Proofs.YtmpiinhnabmjcaaGreatDoor.cur d1.news d1.H).get id from rfl,g.cur.old id (by omega),hr',af.get_new hn,if_neg (by omega)]
       ·by_cases e:id=H.next
        ·subst e
         exact(hcr q hq).trans hcc.symm
        ·exact g.agree q hq id (by omega)
       ·cases A2 with
        | nil=>exact hcc
        | cons q A2=>
          refine hcr q ?_
          have:q ∈ d1.olds.reverse:=by rw[hA];simp
          simpa using this
      ·cases h
     ·rename_i hk
      split at h
      ·rename_i hch
       obtain⟨d1,hd1,rfl⟩:=Option.map_eq_some_iff.1 h
       obtain⟨hop,hw⟩:=lI hdo (by rw[hk];decide)
       exact still hd1 (Jv hk hop) (.inr ⟨rfl,hk,hch⟩)
      ·cases h
     ·rename_i hk
      obtain⟨d1,hd1,rfl⟩:=Option.map_eq_some_iff.1 h
      obtain⟨hop,hw⟩:=lI hdo (by rw[hk];decide)
      exact still hd1 (JE hk hop).1 (.inl (.inr ⟨rfl,hk⟩))
     ·cases h
end
section
theorem HR.sub {ρ:Rho} {G Hx:af} {w:World} (h:HR ρ G w) (ok:Hx.Ok) (hs:qC Hx G):HR ρ Hx w:=
 ⟨ok,h.dom,h.inj,fun id ver L r hL hr=>h.row id ver L r hL (hs id r hr),h.gl,fun id L r h1 h2=>h.ty id L r h1 (hs id r h2)⟩
theorem HR.transfer {ρ ρ':Rho} {G G' Hx Hx':af} {w w':World} (h:HR ρ G w) (h':HR ρ' Hx' w') (e:Ext ρ Hx w ρ' Hx' w') (s':qC Hx' G') (h1:∀ id,Hx'.get id=none→G'.get id=G.get id) (h2:∀ id,Hx.next≤id→id<Hx'.next→Hx'.get id=none→G.get id=none) (ok:G'.Ok):HR ρ' G' w':=by
 refine⟨ok,h'.dom,h'.inj,fun id ver L r hL hr=>?_,h'.gl,fun id L r hL hr=>?_⟩
 case refine_2=>
  cases hx:Hx'.get id with
  | some r2=>
    have:=s' id r2 hx
    rw[hr]at this
    injection this with this
    subst this
    exact h'.ty id L r hL hx
  | none=>
    have hk:¬ (Hx.get id).isSome=true:=fun hs=>by
     have:=e.keep id hs
     rw[hx]at this;cases this
    rw[h1 id hx]at hr
    cases ho:ρ id 0 with
    | some L0=>
      have:L0=L:=by have:=e.le _ _ _ ho;rw[hL]at this;injection this with this;exact this.symm
      subst this
      refine(h.ty id L0 r ho hr).mono (iq (e.frame L0.b (h.dom _ _ _ ho).1 (fun id2 ver2 L2 h3 h4 h5=>?_)))
      have:id2=id:=h.inj _ _ _ _ _ _ h3 ho h5
      subst this
      exact hk h4
    | none=>
      rcases e.ids id 0 L hL ho with h3 | ⟨h3,-⟩
      ·rw[h2 id h3.1 h3.2 hx]at hr;cases hr
      ·exact absurd h3 hk
 cases hx:Hx'.get id with
 | some r2=>
   have:=s' id r2 hx
   rw[hr]at this
   injection this with this
   subst this
   exact h'.row id ver L r hL hx
 | none=>
   have hk:¬ (Hx.get id).isSome=true:=fun hs=>by
    have:=e.keep id hs
    rw[hx]at this;cases this
   rw[h1 id hx]at hr
   cases ho:ρ id ver with
   | some L0=>
     have:L0=L:=by have:=e.le _ _ _ ho;rw[hL]at this;injection this with this;exact this.symm
     subst this
     refine(h.row id ver L0 r ho hr).mono e.le (e.frame L0.b (h.dom _ _ _ ho).1 (fun id2 ver2 L2 h3 h4 h5=>?_))
     have:id2=id:=h.inj _ _ _ _ _ _ h3 ho h5
     subst this
     exact hk h4
   | none=>
     rcases e.ids id ver L hL ho with h3 | ⟨h3,-⟩
     ·rw[h2 id h3.1 h3.2 hx]at hr;cases hr
     ·exact absurd h3 hk
theorem Ext.via {ρ0 ρ ρ':Rho} {H0 Hf Hx Hx':af} {w0 w w':World} (k:Ext ρ0 H0 w0 ρ Hf w) (e:Ext ρ Hx w ρ' Hx' w') (hf:bR ρ0 H0.next Hf.next) (hrw:Rw H0 Hx) (hlt:∀ id,(Hx.get id).isSome=true→id<Hf.next) (hr:Hx'.next≤Hx.next∨(H0.next≤Hx.next∧Hx'.next≤Hf.next)):Ext ρ0 H0 w0 ρ' Hf w':=by
 have same:∀ {id ver L L0},ρ0 id ver=some L0→ρ id ver=some L→L0=L:=fun h1 h2=>by
  have:=k.le _ _ _ h1;rw[h2]at this;injection this with this;exact this.symm
 refine⟨fun id ver L hL=>e.le _ _ _ (k.le _ _ _ hL),k.next,k.rows,k.keep,fun id ver L hL hn=>?_,fun id ver L hL hn=>?_,fun b hb hne=>?_,Nat.le_trans k.size e.size,e.os.trans k.os,e.tape.trans k.tape,e.output.trans k.output⟩
 ·cases hm:ρ id ver with
  | some L1=>exact k.ids id ver L1 hm hn
  | none=>
    rcases e.ids id ver L hL hm with h1 | ⟨h1,ver1,L1,h2⟩
    ·rcases hr with hr | hr
     ·omega
     ·exact .inl ⟨by omega,by omega⟩
    ·rcases hrw id h1 with h3 | h3
     ·cases ho:ρ0 id ver1 with
      | some L2=>exact .inr ⟨h3,ver1,L2,ho⟩
      | none=>exact k.ids id ver1 L1 h2 ho
     ·exact .inl ⟨h3,hlt id h1⟩
 ·cases hm:ρ id ver with
  | some L1=>
    have e2:L1=L:=by have:=e.le _ _ _ hm;rw[hL]at this;injection this with this;exact this.symm
    subst e2
    exact k.blk id ver L1 hm hn
  | none=>
    rcases e.blk id ver L hL hm with h1 | ⟨ver1,L1,h1,h2,h3⟩
    ·exact .inl (Nat.le_trans k.size h1)
    ·cases ho:ρ0 id ver1 with
     | some L2=>
       have e2:=same ho h1
       subst e2
       rcases hrw id h3 with h4 | h4
       ·exact .inr ⟨ver1,L2,ho,h2,h4⟩
       ·have:=hf id ver1 h4 (hlt id h3)
        rw[ho]at this;cases this
     | none=>
       rcases k.blk id ver1 L1 h1 ho with h4 | ⟨ver2,L3,h4,h5,h6⟩
       ·exact .inl (by omega)
       ·exact .inr ⟨ver2,L3,h4,h5.trans h2,h6⟩
 ·rw[e.frame b (Nat.lt_of_lt_of_le hb k.size) (fun id ver L hL hs eb=>?_),k.frame b hb hne]
  cases ho:ρ0 id ver with
  | some L2=>
    have e2:=same ho hL
    subst e2
    rcases hrw id hs with h4 | h4
    ·exact hne id ver L2 ho h4 eb
    ·have:=hf id ver h4 (hlt id hs)
     rw[ho]at this;cases this
  | none=>
    rcases k.blk id ver L hL ho with h4 | ⟨ver1,L3,h4,h5,h6⟩
    ·omega
    ·exact hne id ver1 L3 h4 h6 (h5.trans eb)
structure Mid (E:bg) (N:Nat) (ops:Array Oper) (T0:Tr ah) (ρ0:Rho) (H0:af) (w0:World) (d:fC) (listed:Array Bool) (a:Act) (w:World) (ρ:Rho) (done todo:List (Nat×af)):Prop where
 size:listed.size=ops.size
 cl:∀ i o e,ops[i]?=some o→listed.getD i false=true→e ∈ o.after→Region.binds .any e=true→listed.getD e.on false=true
 news:d.news=done++todo
 don:∀ p ∈ done,listed.getD p.1 false=true
 tod:∀ p ∈ todo,listed.getD p.1 false=false
 hr:HR ρ (cur todo d.H) w
 ext:Ext ρ0 H0 w0 ρ d.H w
 free:∀ x ∈ d.rs,listed.getD x.1 false=false→bR ρ x.2.1 x.2.2
 defers:a.defers = []
 asize:a.tmps.size=N
 tm1:∀ i o t v,listed.getD i false=true→ops[i]?=some o→o.dst=some t→d.T.get t=some v→VR ρ v (a.tmps.getD t undef)
 tm0:∀ t v,(∀ i o,listed.getD i false=true→ops[i]?=some o→o.dst≠some t)→T0.get t=some v→VR ρ v (a.tmps.getD t undef)
theorem Gs {a:Act} {t:Nat} {u:Value} (h:t<a.tmps.size):(a.put (some t) u).tmps.getD t undef=u:=by
 simp[Act.put,Array.getD,h]
theorem tr {a:Act} {dst:Option Tmp} {t:Nat} {u:Value} (h:dst≠some t):(a.put dst u).tmps.getD t undef=a.tmps.getD t undef:=by
 cases dst with
 | none=>rfl
 | some d=>
   have:d≠t:=fun e=>h (by rw[e])
   simp only[Act.put,Array.getD_eq_getD_getElem?]
   rw[Array.getElem?_setIfInBounds_ne this]
theorem eI {listed:Array Bool} {i:Nat} (hi:i<listed.size) (k:Nat):(listed.setIfInBounds i true).getD k false=if k=i then true else listed.getD k false:=by
 by_cases e:k=i
 ·subst e;simp[Array.getD,hi]
 ·rw[if_neg e,getD_set_ne false (fun h=>e h.symm)]
theorem mI {α:Type} {R:α→α→Prop}:∀ {l:List α},l.Pairwise R → ∀ {x y:α},x ∈ l→y ∈ l→x=y∨R x y∨R y x
 | [],_,x,y,hx,_=>by cases hx
 | z::l,h,x,y,hx,hy=>by
   obtain⟨h1,h2⟩:=List.pairwise_cons.1 h
   rcases List.mem_cons.1 hx with ex | kx
   ·rcases List.mem_cons.1 hy with ey | ky
    ·exact .inl (ex.trans ey.symm)
    ·subst ex;exact .inr (.inl (h1 y ky))
   ·rcases List.mem_cons.1 hy with ey | ky
    ·subst ey;exact .inr (.inr (h1 x kx))
    ·exact mI h2 kx ky
section
variable {P:Program} {E:bg} {callF:aA} {N:Nat} {ops:Array Oper} {p:au} {T0:Tr ah} {ρ0:Rho} {H0:af} {w0:World} {d:fC} {listed:Array Bool} {a:Act} {w:World} {ρ:Rho} {done todo:List (Nat×af)}
theorem Mid.adv (g:iy E.tt ops p) (gp:iS E callF N ops p.pm T0 H0 [] p.plan T0 H0 [] d) (hf0:bR ρ0 H0.next d.H.next) (m:Mid E N ops T0 ρ0 H0 w0 d listed a w ρ done todo)
 {i:Nat} {o:Oper} (ho:ops[i]?=some o) (hl:listed.getD i false=false) (hed:∀ e ∈ o.after,Region.binds .any e=true→listed.getD e.on false=true)
 {r:ah} (hdst:∀ x,o.dst=some x→x<N∧N<1099511627776∧d.T.get x=some r) {s e:Nat} (hin:(i,s,e) ∈ d.rs)
 {Hx Hx':af} {ρ':Rho} {w':World} {u:Value} (hu:VR ρ' r u) (hr':HR ρ' Hx' w') (ex:Ext ρ Hx w ρ' Hx' w') (sx:qC Hx (cur todo d.H))
 {done' todo':List (Nat×af)} (hnews:d.news=done'++todo') (hdon:∀ q ∈ done',q.1=i∨listed.getD q.1 false=true) (htod:∀ q ∈ todo',q.1≠i∧listed.getD q.1 false=false)
 (sx':qC Hx' (cur todo' d.H)) (h1:∀ id,Hx'.get id=none→(cur todo' d.H).get id=(cur todo d.H).get id) (h2:∀ id,Hx.next≤id→id<Hx'.next→Hx'.get id=none→(cur todo d.H).get id=none)
 (hrange:Hx'.next≤Hx.next∨(Hx.next=s∧Hx'.next=e)):
 Mid E N ops T0 ρ0 H0 w0 d (listed.setIfInBounds i true) (a.put o.dst u) w' ρ' done' todo':=by
 have hi:i<ops.size:=(Array.getElem?_eq_some_iff.1 ho).1
 have hil:i<listed.size:=by rw[m.size];exact hi
 have hcur:∀ {l:List (Nat×af)},(∀ q ∈ l,q ∈ d.news)→dR d.H.next (cur l d.H)∧Rw H0 (cur l d.H):=fun {l} hq=>by
  cases l with
  | nil=>exact⟨gp.lt.2.2.1,gp.lt.2.2.2⟩
  | cons q l=>exact gp.lt.2.1 q (hq q (by simp))
 have c1:=hcur (l:=todo) (fun q hq=>by rw[m.news];simp[hq])
 have c2:=hcur (l:=todo') (fun q hq=>by rw[hnews];simp[hq])
 have hsome:∀ id,(Hx.get id).isSome=true→((cur todo d.H).get id).isSome=true:=fun id hs=>by
  obtain⟨r0,hr0⟩:=Option.isSome_iff_exists.1 hs
  rw[sx id r0 hr0];rfl
 have hse:=gp.rs.2.1 _ hin
 have dstne:∀ k ok t,listed.getD k false=true→ops[k]?=some ok→ok.dst=some t→o.dst≠some t:=fun k ok t hk hok hd=>by
  have:k≠i:=fun e=>by rw[e,hl]at hk;cases hk
  exact(g.dst k i ok o t hok ho this hd).1
 refine⟨by simp[m.size],fun j oj ej hoj hj he hb=>?_,hnews,fun q hq=>?_,fun q hq=>?_,m.hr.transfer hr' ex sx' h1 h2 c2.1.ok,m.ext.via ex hf0 (fun id hs=>c1.2 id (hsome id hs)) (fun id hs=>?_) ?_,fun x hx hxl=>?_,?_,?_,fun j oj t v hj hoj hd hv=>?_,fun t v ht hv=>?_⟩
 ·rw[eI hil]at hj ⊢
  by_cases e1:ej.on=i
  ·rw[if_pos e1]
  ·rw[if_neg e1]
   by_cases e2:j=i
   ·subst e2
    rw[ho]at hoj;injection hoj with hoj;subst hoj
    exact hed ej he hb
   ·rw[if_neg e2]at hj
    exact m.cl j oj ej hoj hj he hb
 ·rw[eI hil]
  rcases hdon q hq with h | h
  ·rw[if_pos h]
  ·rw[h];simp
 ·rw[eI hil,if_neg (htod q hq).1];exact(htod q hq).2
 ·obtain⟨r0,hr0⟩:=Option.isSome_iff_exists.1 (hsome id hs)
  exact c1.1.lt id r0 hr0
 ·rcases hrange with h | ⟨h3,h4⟩
  ·exact .inl h
  ·right;simp only at hse;omega
 ·rw[eI hil]at hxl
  by_cases e1:x.1=i
  ·rw[if_pos e1]at hxl;cases hxl
  ·rw[if_neg e1]at hxl
   have hfx:=m.free x hx hxl
   intro id ver ha hb
   cases hn:ρ' id ver with
   | none=>rfl
   | some L=>
     rcases ex.ids id ver L hn (hfx id ver ha hb) with h3 | ⟨h3,ver1,L1,h4⟩
     ·rcases hrange with h5 | ⟨h5,h6⟩
      ·omega
      ·rcases mI gp.rs.2.2 hx hin with h7 | h7 | h7
       ·exact absurd (congrArg (·.1) h7) e1
       ·simp only at h7;omega
       ·simp only at h7;omega
     ·rw[hfx id ver1 ha hb]at h4;cases h4
 ·show(a.put o.dst u).defers = []
  cases o.dst<;>exact m.defers
 ·cases hod:o.dst with
  | none=>exact m.asize
  | some x=>simp only[Act.put,Array.size_setIfInBounds];exact m.asize
 ·rw[eI hil]at hj
  by_cases e1:j=i
  ·subst e1
   rw[ho]at hoj;injection hoj with hoj;subst hoj
   obtain⟨k1,k2,k3⟩:=hdst t hd
   rw[hd,Gs (by rw[m.asize];exact k1)]
   rw[hv]at k3;injection k3 with k3;subst k3
   exact hu
  ·rw[if_neg e1]at hj
   rw[tr (dstne j oj t hj hoj hd)]
   exact(m.tm1 j oj t v hj hoj hd hv).mono ex.le
 ·rw[tr (ht i o (by rw[eI hil,if_pos rfl]) ho)]
  refine(m.tm0 t v (fun j oj hj hoj=>ht j oj ?_ hoj) hv).mono ex.le
  rw[eI hil,hj];simp
theorem iy.nodup {tt:TypeId→Option TI} (g:iy tt ops p):p.plan.Nodup:=by
 have key:∀ (l pre:List Nat),p.plan=pre++l→pre.Nodup→(pre++l).Nodup:=by
  intro l
  induction l with
  | nil=>intro pre _ h;simpa using h
  | cons x l ih=>
    intro pre he h
    have hx:=(g.split pre x l he).2.1
    have:=ih (pre ++ [x]) (by simp[he]) (List.nodup_append.2 ⟨h,by simp,fun y hy z hz e=>by
     simp at hz;subst hz;subst e;exact hx hy⟩)
    simpa using this
 exact key p.plan [] rfl List.nodup_nil
theorem Mid.env (g:iy E.tt ops p) (m:Mid E N ops T0 ρ0 H0 w0 d listed a w ρ done todo)
 {i:Nat} {o:Oper} (hl:listed.getD i false=false) (hed:∀ e ∈ o.after,Region.binds .any e=true→listed.getD e.on false=true)
 {pre post:List Nat} (hpl:p.plan=pre++i::post) {L:List (Nat×af)} {s e:Nat} {Ti:Tr ah} {Hi H':af} {want:Bool} {r:ah} (f:uT E callF N ops p.pm T0 d.T d.H L pre i post s e o Ti Hi want r H'):
 ∀ t ∈ o.looksAt ops,∀ v,Ti.get t=some v→VR ρ v (a.tmps.getD t undef):=by
 intro t ht v hv
 have hlt:∀ k,listed.getD k false=true→k<ops.size:=fun k hk=>by
  rcases Nat.lt_or_ge k listed.size with h | h
  ·rw[←m.size];exact h
  ·rw[show listed.getD k false=false from by simp[Array.getElem?_eq_none h]]at hk;cases hk
 have hnd:=g.nodup
 rw[hpl]at hnd
 have hnd1:=List.nodup_append.1 hnd
 by_cases hc:∃ j ∈ pre,∃ oj,ops[j]?=some oj∧oj.dst=some t
 ·obtain⟨j,hj,oj,hoj,hd⟩:=hc
  have hji:j≠i:=fun e=>hnd1.2.2 j hj i (by simp) e
  have hb:(p.pm.getD i 0).testBit j=true:=by
   rcases(g.dst j i oj o t hoj f.op hji hd).2 ht with h | h
   ·exact h
   ·exfalso
    obtain⟨x,y,hxy⟩:=List.append_of_mem hj
    have:=(g.split x j (y++i::post) (by rw[hpl,hxy];simp)).2.2.1 i h
    exact hnd1.2.2 i (by rw[hxy];simp[this]) i (by simp) rfl
  have hlj:listed.getD j false=true:=by
   have:=g.closed (S:=fun k=>k=i∨listed.getD k false=true) (fun k ok e hok hk he hbd=>by
    rcases hk with hk | hk
    ·subst hk
     rw[f.op]at hok;injection hok with hok;subst hok
     exact .inr (hed e he hbd)
    ·exact .inr (m.cl k ok e hok hk he hbd)) i i (Nat.le_refl _) ((Array.getElem?_eq_some_iff.1 f.op).1) (.inl rfl) j hb
   exact this.resolve_left hji
  refine m.tm1 j oj t v hlj hoj hd ?_
  rw[f.e1 t (fun k hk ok hok=>?_)]
  ·exact hv
  ·have hkj:j≠k:=fun e=>hnd1.2.2 j hj k hk e
   exact(g.dst j k oj ok t hoj hok hkj hd).1
 ·have hno:∀ j ∈ pre,∀ oj,ops[j]?=some oj→oj.dst≠some t:=fun j hj oj hoj hd=>hc ⟨j,hj,oj,hoj,hd⟩
  rw[f.e2 t hno]at hv
  refine m.tm0 t v (fun k ok hk hok hd=>?_) hv
  have hki:k≠i:=fun e=>by rw[e,hl]at hk;cases hk
  rcases(g.dst k i ok o t hok f.op hki hd).2 ht with h | h
  ·exact hno k ((g.split pre i post hpl).2.2.1 k h) ok hok hd
  ·have:=g.closed (S:=fun k=>listed.getD k false=true) (fun k ok e hok hk he hbd=>m.cl k ok e hok hk he hbd) k k (Nat.le_refl _) (hlt k hk) hk i h
   rw[hl]at this;cases this
end
theorem FU {ρ:Rho} {T:Tr ah} {a:Act} {ops:Array Oper} {o:Oper} (h:∀ t ∈ o.looksAt ops,∀ v,T.get t=some v→VR ρ v (a.tmps.getD t undef)) {b:Bool} (hw:bF ops T o=some b):Region.wanted o (yielded ops a.tmps)=b:=by
 unfold bF at hw
 unfold Region.wanted
 split at hw
 ·rename_i hg
  injection hw with hw
  simp[hg,hw]
 ·rename_i j want hg
  split at hw
  ·rename_i t ht
   split at hw
   ·rename_i c hc
    injection hw with hw
    have:=h t (by simp[Oper.looksAt,hg,ht]) _ hc
    have he:∃ v,a.tmps.getD t undef=v∧VR ρ (.bool c) v:=⟨_,rfl,this⟩
    obtain⟨v,e1,e2⟩:=he
    cases e2
    have hs:a.tmps[t]?=some (.bool c):=by
     rw[Array.getD_eq_getD_getElem?]at e1
     cases hq:a.tmps[t]? with
     | none=>rw[hq]at e1;simp[undef]at e1
     | some u=>rw[hq]at e1;simp at e1;rw[e1]
    simp only[hg]
    unfold yielded
    simp only[ht,Option.bind_some,hs]
    rw[←hw]
    cases c<;>cases want<;>rfl
   ·cases hw
  ·cases hw
theorem evM {ρ:Rho} {T:Tr ah} {a:Act} {l:List Tmp} (h:∀ t ∈ l,∀ v,T.get t=some v→VR ρ v (a.tmps.getD t undef)) (x:Operand) (v:ah) (hx:gC l T x=some v):VR ρ v (a.eval x):=by
 cases x with
 | tmp t=>
   simp only[gC]at hx
   split at hx
   ·rename_i hc
    exact h t (by simpa using hc) v hx
   ·cases hx
 | const c=>exact bI hx
 | func f=>simp only[gC,aEv]at hx;injection hx with hx;subst hx;exact .func _ _ _ .nil
 | global g=>
   simp only[gC,aEv]at hx
   split at hx
   ·injection hx with hx
    subst hx
    exact .glob _ _
   ·cases hx
section
variable {P:Program} {E:bg} (hE:ef P E) {callF:aA} (hC:aU P callF) {ops:Array Oper} {o:Oper} {T:Tr ah} {H H':af} {r:ah} {ρ:Rho} {a:Act} {w:World} {K:Act→World→Prop} {Q:Exit→Act→World→Prop}
theorem opM (hE:ef P E) (h:∀ t ∈ o.looksAt ops,∀ v,T.get t=some v→VR ρ v (a.tmps.getD t undef)) (hr:HR ρ H w) (ha:aOp E.tt (gC (o.looksAt ops) T) H o.op=some (r,H')) (hf:bR ρ H.next H'.next)
 (hK:∀ u w' ρ',VR ρ' r u→HR ρ' H' w'→Ext ρ H w ρ' H' w'→K (a.put o.dst u) w'):o.wp P a w K Q:=by
 obtain⟨v,w',ρ',k1,k2,k3,k4⟩:=DY hE.tt hE.zero hE.flat hr (evM h) ha hf
 unfold Oper.wp
 rcases k1 with k1 | ⟨k1,k5⟩
 ·rw[k1,Oper.upon_value]
  exact hK _ _ _ k2 k3 k4
 ·rw[k1,Oper.upon_skip]
  subst k5
  exact hK _ _ _ k2 k3 k4
theorem doM (hE:ef P E) (hC:aU P callF) (h:∀ t ∈ o.looksAt ops,∀ v,T.get t=some v→VR ρ v (a.tmps.getD t undef)) (hr:HR ρ H w) (ha:aDo E callF ops o T H=some (true,r,H')) (hf:bR ρ H.next H'.next)
 (hK:∀ u w' ρ',VR ρ' r u→HR ρ' H' w'→Ext ρ H w ρ' H' w'→K (a.put o.dst u) w'):o.wp P a w K Q:=by
 unfold aDo at ha
 split at ha
 ·injection ha with ha;injection ha with h1 h2;cases h1
 ·split at ha
  ·rename_i g args ts ho
   split at ha
   ·rename_i f caps hg
    split at ha
    ·rename_i xs hx
     obtain⟨x,k1,k2⟩:=Option.map_eq_some_iff.1 ha
     injection k2 with k2 k3
     injection k3 with k3 k4
     subst k3 k4
     obtain⟨fn,e1,e2,e3⟩:=hC.enters _ _ _ _ _ k1
     have hgv:=evM h _ _ hg
     have hce:∃ v,a.eval g=v∧VR ρ (.func f caps) v:=⟨_,rfl,hgv⟩
     obtain⟨v,v1,v2⟩:=hce
     cases v2 with
     | func _ _ cs hcs=>
     have hxs:=jx (evM h) hx
     have hrun:=wR (P:=P) (w:=w) ho v1 e1 e2 e3
     unfold Oper.wp
     rw[hrun,Oper.upon_enter]
     have hargs:(args.map a.eval++⟨cs⟩:Array Value)=⟨args.toList.map a.eval++cs⟩:=by apply Array.ext';simp
     rw[hargs]
     refine(hC.run _ _ _ _ _ k1 ρ w _ hr (hxs.append hcs) hf).mono ?_
     rintro e w' ⟨ρ',v,rfl,q1,q2,q3⟩
     exact hK _ _ _ q1 q2 q3
    ·cases ha
   ·cases ha
  ·obtain⟨x,k1,k2⟩:=Option.map_eq_some_iff.1 ha
   injection k2 with k2 k3
   injection k3 with k3 k4
   subst k3 k4
   exact opM hE h hr k1 hf hK
 ·cases ha
end
section
variable {P:Program} {E:bg} {callF:aA} {N:Nat} {ops:Array Oper} {p:au} {T0:Tr ah} {ρ0:Rho} {H0:af} {w0:World} {d:fC} {listed:Array Bool} {a:Act} {w:World} {ρ:Rho} {done todo:List (Nat×af)} {Q:Exit→Act→World→Prop}
theorem Mid.stage (g:iy E.tt ops p) (m:Mid E N ops T0 ρ0 H0 w0 d listed a w ρ done todo) {i:Nat} {o:Oper} (ho:ops[i]?=some o) (hl:listed.getD i false=false) (hed:∀ e ∈ o.after,Region.binds .any e=true→listed.getD e.on false=true)
 {pre post:List Nat} (hpl:p.plan=pre++i::post) {A B:List (Nat×af)} (hAB:d.news=A++B) (hB:∀ q ∈ B,q.1 ∈ post∧fU E.tt ops q.1=true):∃ A2,A=done++A2∧todo=A2++B ∧ ∀ q ∈ A2,(p.pm.getD i 0).testBit q.1=false:=by
 have hin:i<ops.size:=(Array.getElem?_eq_some_iff.1 ho).1
 have hlt:∀ k,listed.getD k false=true→k<ops.size:=fun k hk=>by
  rcases Nat.lt_or_ge k listed.size with h | h
  ·rw[←m.size];exact h
  ·rw[show listed.getD k false=false from by simp[Array.getElem?_eq_none h]]at hk;cases hk
 have key:∃ A2,A=done++A2∧todo=A2++B:=by
  have h1:=m.news
  rw[hAB]at h1
  rcases List.append_eq_append_iff.1 h1 with⟨X,h2,h3⟩ | ⟨X,h2,h3⟩
  ·cases X with
   | nil=>exact⟨[],by simpa using h2.symm,by simpa using h3.symm⟩
   | cons q X=>
     exfalso
     have hq:=m.don q (by rw[h2];simp)
     obtain⟨k1,k2⟩:=hB q (by rw[h3];simp)
     obtain⟨x,y,hxy⟩:=List.append_of_mem k1
     have:=(g.split (pre++i::x) q.1 y (by rw[hpl,hxy];simp)).2.2.2 k2 i (by simp)
     have:=g.closed (S:=fun k=>listed.getD k false=true) (fun k ok e hok hk he hbd=>m.cl k ok e hok hk he hbd) q.1 q.1 (Nat.le_refl _) (hlt _ hq) hq i this
     rw[hl]at this;cases this
  ·exact⟨X,h2,h3⟩
 obtain⟨A2,k1,k2⟩:=key
 refine⟨A2,k1,k2,fun q hq=>?_⟩
 cases hb:(p.pm.getD i 0).testBit q.1 with
 | false=>rfl
 | true=>
   exfalso
   have h1:=m.tod q (by rw[k2];simp[hq])
   have:=g.closed (S:=fun k=>k=i∨listed.getD k false=true) (fun k ok e hok hk he hbd=>by
    rcases hk with hk | hk
    ·subst hk
     rw[ho]at hok;injection hok with hok;subst hok
     exact .inr (hed e he hbd)
    ·exact .inr (m.cl k ok e hok hk he hbd)) i i (Nat.le_refl _) hin (.inl rfl) q.1 hb
   rcases this with h2 | h2
   ·rw[h2]at hb
    exact(g.split pre i post hpl).2.1 ((g.split pre i post hpl).2.2.1 i hb)
   ·rw[h1]at h2;cases h2
theorem Mid.step (hE:ef P E) (hC:aU P callF) (g:iy E.tt ops p) (gp:iS E callF N ops p.pm T0 H0 [] p.plan T0 H0 [] d) (hf0:bR ρ0 H0.next d.H.next) (m:Mid E N ops T0 ρ0 H0 w0 d listed a w ρ done todo)
 {i:Nat} (hrd:i ∈ Region.ready .any ops listed) {K:Act→World→Prop}
 (hK:∀ a' w' ρ' done' todo',Mid E N ops T0 ρ0 H0 w0 d (listed.setIfInBounds i true) a' w' ρ' done' todo'→K a' w'):wpOp P ops Q i K a w:=by
 obtain⟨hl0,o,ho,hed⟩:=mem_ready.1 hrd
 have hi:i<ops.size:=(Array.getElem?_eq_some_iff.1 ho).1
 have hl:listed.getD i false=false:=by
  have:i<listed.size:=by rw[m.size];exact hi
  simp[Array.getD,this]at hl0 ⊢;exact hl0
 obtain⟨pre,post,hpl⟩:=List.append_of_mem (g.all i hi)
 obtain⟨s,e,o',Ti,Hi,want,r,H',hin,f⟩:=gp.facts pre i post hpl
 have hoo:o'=o:=by have:=f.op;rw[ho]at this;injection this with this;exact this.symm
 subst hoo
 rw[List.nil_append]at f
 have ho2:=gp.olds
 have hL:d.olds.reverse++d.news=d.news:=by
  have:d.olds = []:=by simpa using ho2.fst
  rw[this];rfl
 rw[hL]at f
 have hev:=m.env g hl hed hpl f
 have hcok:∀ {l:List (Nat×af)},(∀ q ∈ l,q ∈ d.news)→dR d.H.next (cur l d.H)∧Rw H0 (cur l d.H):=fun {l} hq=>by
  cases l with
  | nil=>exact⟨gp.lt.2.2.1,gp.lt.2.2.2⟩
  | cons q l=>exact gp.lt.2.1 q (hq q (by simp))
 have c1:=hcok (l:=todo) (fun q hq=>by rw[m.news];simp[hq])
 have hdon:∀ q ∈ done,q.1=i∨listed.getD q.1 false=true:=fun q hq=>.inr (m.don q hq)
 have notch:kindOf E.tt o'.op≠2 → ∀ q ∈ todo,q.1≠i∧listed.getD q.1 false=false:=fun hk q hq=>by
  refine⟨fun he=>?_,m.tod q hq⟩
  have:=(gp.news q (by rw[m.news];simp[hq])).2
  rw[he]at this
  simp only[fU,ho,beq_iff_eq]at this
  exact hk this
 have sR:∀ H:af,qC H H:=fun H id r h=>h
 have hfree:=m.free _ hin hl
 have wt:∀ {b},bF ops Ti o'=some b→Region.wanted o' (yielded ops a.tmps)=b:=fun h=>FU hev h
 unfold wpOp
 simp only[ho]
 rcases f.kind with⟨hk,hni⟩ | ⟨hk1,hk2,A,B,hAB,hB,hx⟩ | ⟨hk1,hk2,he,row,A,B,hAB,hB,hrow,hx⟩ | ⟨hk1,hk2,he,A,G,B,hAB,hA,hBi,s1,s2,h1,h2⟩
 ·have htod:∀ q ∈ todo,q.1≠i∧listed.getD q.1 false=false:=fun q hq=>⟨hni q (by rw[m.news];simp[hq]),m.tod q hq⟩
  rcases hk with hk | ⟨hk1,hk2⟩
  ·subst hk
   obtain⟨d1,d2,d3⟩:=sP f.does
   rw[wt d3,if_neg (by simp)]
   subst d2
   exact hK _ _ _ _ _ (m.adv g gp hf0 ho hl hed f.dst hin (Hx:=cur todo d.H) (Hx':=cur todo d.H) (wO ρ) m.hr (Ext.refl _ _ _) (sR _) m.news hdon htod (sR _) (fun _ _=>rfl) (fun id h3 h4 _=>by omega) (.inl (Nat.le_refl _)))
  ·subst hk1
   obtain⟨d1,d2⟩:=lI f.does (by rw[hk2];decide)
   rw[wt d2,if_pos rfl]
   left
   have d3:=(JE hk2 d1).2 (cur todo d.H)
   refine opM hE hev m.hr d3 (fun id ver h3 h4=>by omega) (fun u w' ρ' q1 q2 q3=>?_)
   exact hK _ _ _ _ _ (m.adv g gp hf0 ho hl hed f.dst hin q1 q2 q3 (sR _) m.news hdon htod (sR _) (fun _ _=>rfl) (fun id h3 h4 _=>by omega) (.inl (Nat.le_refl _)))
 ·subst hk1
  obtain⟨d1,d2⟩:=lI f.does (by rw[hk2];decide)
  rw[wt d2,if_pos rfl]
  left
  obtain⟨A2,k1,k2,k3⟩:=m.stage g ho hl hed hpl hAB hB
  obtain⟨Hx,x1,x2,x3⟩:=hx done A2 k1 k3
  rw[←k2]at x2
  refine opM hE hev (m.hr.sub x1 x2) x3 (fun id ver h3 h4=>by omega) (fun u w' ρ' q1 q2 q3=>?_)
  exact hK _ _ _ _ _ (m.adv g gp hf0 ho hl hed f.dst hin q1 q2 q3 x2 m.news hdon (notch (by rw[hk2];decide)) x2 (fun _ _=>rfl) (fun id h3 h4 _=>by omega) (.inl (Nat.le_refl _)))
 ·subst hk1
  obtain⟨d1,d2⟩:=lI f.does (by rw[hk2];decide)
  rw[wt d2,if_pos rfl]
  left
  obtain⟨A2,k1,k2,k3⟩:=m.stage g ho hl hed hpl hAB hB
  have x2:=hx done A2 k1
  rw[←k2]at x2
  have hn:Hi.next<1099511627776:=by
   have:=((yE hC f.does).ok f.ok).1.next
   rw[hrow,af.next_new]at this
   omega
  have x1:(⟨Hi.next,.nil⟩:af).Ok:=⟨f.ok.next,fun id r h=>by simp[af.get,Tr.get_nil]at h⟩
  have x3:qC ⟨Hi.next,.nil⟩ (cur todo d.H):=fun id r h=>by simp[af.get,Tr.get_nil]at h
  obtain⟨r',y1,y2⟩:=Jn hk2 d1 ⟨Hi.next,.nil⟩ rfl
  have hrr:r'=row:=by
   have:(Hi.new row).get Hi.next=(Hi.new r').get Hi.next:=by rw[←hrow,←y1]
   rw[af.get_new hn,af.get_new hn,if_pos rfl,if_pos rfl]at this
   injection this with this
   exact this.symm
  subst hrr
  have hget:∀ id,((⟨Hi.next,.nil⟩:af).new r').get id=if id=Hi.next then some r' else none:=fun id=>by
   rw[show((⟨Hi.next,.nil⟩:af).new r').get id=_ from af.get_new (H:=⟨Hi.next,.nil⟩) hn r' id]
   simp only[af.get,Tr.get_nil]
  have hst:=f.start
  have hfr2:bR ρ (⟨Hi.next,.nil⟩:af).next ((⟨Hi.next,.nil⟩:af).new r').next:=fun id ver h3 h4=>hfree id ver (by simp only at h3 ⊢;omega) (by simp only[af.next_new]at h4 ⊢;omega)
  refine opM hE hev (m.hr.sub x1 x3) y2 hfr2 (fun u w' ρ' q1 q2 q3=>?_)
  refine hK _ _ _ _ _ (m.adv g gp hf0 ho hl hed f.dst hin q1 q2 q3 x3 m.news hdon (notch (by rw[hk2];decide)) (fun id r h=>?_) (fun _ _=>rfl) (fun id h3 h4 h5=>?_) (.inr ⟨hst.symm,he.symm⟩))
  ·rw[hget]at h
   split at h
   ·rename_i e1;subst e1;rw[x2];exact h
   ·cases h
  ·rw[hget]at h5
   have:id=Hi.next:=by simp only[af.next_new]at h3 h4;omega
   rw[if_pos this]at h5;cases h5
 ·subst hk1
  have hch:fU E.tt ops i=true:=by simp only[fU,ho,hk2];rfl
  have hwt:bF ops Ti o'=some true:=by
   have:=f.does
   unfold aDo at this
   split at this
   ·injection this with this;injection this with h3 h4;cases h3
   ·assumption
   ·cases this
  rw[wt hwt,if_pos rfl]
  left
  have hsplit:done=A∧todo=(i,G)::B:=by
   have h3:=m.news
   rw[hAB]at h3
   rcases List.append_eq_append_iff.1 h3 with⟨X,h4,h5⟩ | ⟨X,h4,h5⟩
   ·cases X with
    | nil=>exact⟨by simpa using h4,by simpa using h5.symm⟩
    | cons q X=>
      exfalso
      injection h5 with h5 h6
      have:=m.don q (by rw[h4];simp)
      rw[←h5]at this
      rw[hl]at this;cases this
   ·cases X with
    | nil=>exact⟨by simpa using h4.symm,by simpa using h5⟩
    | cons q X=>
      exfalso
      have h6:=m.tod q (by rw[h5];simp)
      have h7:=hA q (by rw[h4];simp)
      have hb:=(g.split pre i post hpl).2.2.2 hch q.1 h7
      have:=g.closed (S:=fun k=>k=i∨listed.getD k false=true) (fun k ok e hok hk he hbd=>by
       rcases hk with hk | hk
       ·subst hk
        rw[ho]at hok;injection hok with hok;subst hok
        exact .inr (hed e he hbd)
       ·exact .inr (m.cl k ok e hok hk he hbd)) i i (Nat.le_refl _) hi (.inl rfl) q.1 hb
      rcases this with h8 | h8
      ·exact(g.split pre i post hpl).2.1 (by rw[←h8];exact h7)
      ·rw[h6]at h8;cases h8
  obtain⟨e1,e2⟩:=hsplit
  have hcur:cur todo d.H=G:=by rw[e2];rfl
  rw[hcur]at c1
  have hhr:=m.hr
  rw[hcur]at hhr
  have hst:=f.start
  have hfr2:bR ρ Hi.next H'.next:=fun id ver h3 h4=>hfree id ver (by simp only;omega) (by simp only;omega)
  refine doM hE hC hev (hhr.sub f.ok s1) f.does hfr2 (fun u w' ρ' q1 q2 q3=>?_)
  refine hK _ _ _ _ _ (m.adv g gp hf0 ho hl hed f.dst hin q1 q2 q3 (by rw[hcur];exact s1) (done':=A ++ [(i,G)]) (todo':=B) (by rw[hAB];simp) (fun q hq=>?_) (fun q hq=>?_) s2 (by rw[hcur];exact h1) (fun id h3 h4 h5=>by rw[hcur];exact h2 id h4 h5) (.inr ⟨hst.symm,he.symm⟩))
  ·rcases List.mem_append.1 hq with hq | hq
   ·exact .inr (m.don q (by rw[e1];exact hq))
   ·simp at hq;subst hq;exact .inl rfl
  ·exact⟨hBi q hq,m.tod q (by rw[e2];simp[hq])⟩
end
end
section
theorem HR.start {ρ:Rho} {H G:af} {w:World} (h:HR ρ H w) {b:Nat} (hf:bR ρ H.next b) (hlt:dR b G) (hg:Grw H G H.next):HR ρ G w:=
 ⟨hlt.ok,h.dom,h.inj,fun id ver L r hL hr=>(by
  by_cases hi:id<H.next
  ·rw[hg.old id hi]at hr
   exact h.row id ver L r hL hr
  ·have:=hf id ver (by omega) (hlt.lt id r hr)
   rw[hL]at this;cases this),h.gl,fun id L r hL hr=>(by
  by_cases hi:id<H.next
  ·rw[hg.old id hi]at hr
   exact h.ty id L r hL hr
  ·have:=hf id 0 (by omega) (hlt.lt id r hr)
   rw[hL]at this;cases this)⟩
def left (listed:Array Bool) (n:Nat):Nat:=(List.range n).countP fun i => !(listed.getD i false)
theorem EU {listed:Array Bool} {n i:Nat} (hs:listed.size=n) (hi:i<n) (hl:listed.getD i false=false):left (listed.setIfInBounds i true) n+1=left listed n:=by
 unfold left
 have hil:i<listed.size:=by omega
 have hsplit:List.range n=List.range i++i::(List.range (n-i-1)).map (· + (i+1)):=by
  apply List.ext_getElem
  ·simp;omega
  ·intro k h1 h2
   simp only[List.getElem_range]
   by_cases h3:k<i
   ·rw[List.getElem_append_left (by simpa using h3),List.getElem_range]
   ·rw[List.getElem_append_right (by simpa using h3)]
    simp only[List.length_range]
    by_cases h4:k=i
    ·subst h4;simp
    ·obtain⟨m,hm⟩:∃ m,k-i=m+1:=⟨k-i-1,by omega⟩
     simp only[hm,List.getElem_cons_succ,List.getElem_map,List.getElem_range]
     omega
 rw[hsplit,List.countP_append,List.countP_append,List.countP_cons,List.countP_cons]
 have e1:∀ k,k≠i→(!((listed.setIfInBounds i true).getD k false)) = !(listed.getD k false):=fun k hk=>by rw[eI hil,if_neg hk]
 have e2:(List.range i).countP (fun k => !((listed.setIfInBounds i true).getD k false))=(List.range i).countP (fun k => !(listed.getD k false)):=by
  refine List.countP_congr fun k hk=>?_
  rw[e1 k (by have:=List.mem_range.1 hk;omega)]
 have e3:((List.range (n-i-1)).map (· + (i+1))).countP (fun k => !((listed.setIfInBounds i true).getD k false))=((List.range (n-i-1)).map (· + (i+1))).countP (fun k => !(listed.getD k false)):=by
  refine List.countP_congr fun k hk=>?_
  obtain⟨x,-,hx⟩:=List.mem_map.1 hk
  rw[e1 k (by omega)]
 rw[e2,e3,eI hil,if_pos rfl,hl]
 simp
 omega
section
variable {P:Program} {E:bg} {callF:aA} {N:Nat} {ops:Array Oper} {p:au} {T0:Tr ah} {ρ0:Rho} {H0:af} {w0:World} {d:fC} {Q:Exit→Act→World→Prop}
theorem Mid.done_all (g:iy E.tt ops p) {listed:Array Bool} (hs:listed.size=ops.size) (hr:Region.ready .any ops listed = []):∀ i,i<ops.size→listed.getD i false=true:=by
 intro i
 induction i using Nat.strongRecOn with
 | _ i ih=>
   intro hi
   cases hl:listed.getD i false with
   | true=>rfl
   | false=>
     exfalso
     obtain⟨o,ho⟩:=g.op i hi
     have:i ∈ Region.ready .any ops listed:=by
      rw[mem_ready]
      refine⟨?_,o,ho,fun e he hb=>ih e.on (g.edge i o e ho he hb) (Nat.lt_trans (g.edge i o e ho he hb) hi)⟩
      have:i<listed.size:=by omega
      simp[Array.getD,this]at hl ⊢;exact hl
     rw[hr]at this;cases this
theorem Mid.last (g:iy E.tt ops p) (gp:iS E callF N ops p.pm T0 H0 [] p.plan T0 H0 [] d) {listed:Array Bool} {a:Act} {w:World} {ρ:Rho} {done todo:List (Nat×af)} (m:Mid E N ops T0 ρ0 H0 w0 d listed a w ρ done todo) (hall:∀ i,i<ops.size→listed.getD i false=true):ez ρ0 H0 w0 d.T d.H N a w ρ:=by
 have hpl:∀ i ∈ p.plan,i<ops.size:=fun i hi=>by
  obtain⟨x,y,hxy⟩:=List.append_of_mem hi
  exact(g.split x i y hxy).1
 have ht:todo = []:=by
  cases todo with
  | nil=>rfl
  | cons q l=>
    exfalso
    have h1:=m.tod q (by simp)
    have h2:=(gp.news q (by rw[m.news];simp)).1
    rw[hall q.1 (hpl _ h2)]at h1;cases h1
 subst ht
 refine⟨⟨m.defers,m.asize,fun t v hv=>?_⟩,m.hr,m.ext⟩
 by_cases hc:∃ (j:Nat) (o:Oper),ops[j]?=some o∧o.dst=some t
 ·obtain⟨j,o,ho,hd⟩:=hc
  exact m.tm1 j o t v (hall j (Array.getElem?_eq_some_iff.1 ho).1) ho hd hv
 ·rw[gp.keepT t (fun j _ o ho hd=>hc ⟨j,o,ho,hd⟩)]at hv
  exact m.tm0 t v (fun j o _ ho hd=>hc ⟨j,o,ho,hd⟩) hv
theorem Mid.run (hE:ef P E) (hC:aU P callF) (g:iy E.tt ops p) (gp:iS E callF N ops p.pm T0 H0 [] p.plan T0 H0 [] d) (hf0:bR ρ0 H0.next d.H.next) (hQ:∀ a' w' ρ',ez ρ0 H0 w0 d.T d.H N a' w' ρ'→Q .normal a' w'):
 ∀ (fuel:Nat) (listed:Array Bool) (a:Act) (w:World) (ρ:Rho) (done todo:List (Nat×af)),Mid E N ops T0 ρ0 H0 w0 d listed a w ρ done todo→left listed ops.size≤fuel→wpAny P .any ops Q fuel listed a w
 | 0,listed,a,w,ρ,done,todo,m,hl=>by
   have hall:∀ i,i<ops.size→listed.getD i false=true:=fun i hi=>by
    have:left listed ops.size=0:=by omega
    unfold left at this
    have:=(List.countP_eq_zero.1 this) i (List.mem_range.2 hi)
    simpa using this
   refine⟨?_,hQ _ _ _ (m.last g gp hall)⟩
   cases hr:Region.ready .any ops listed with
   | nil=>rfl
   | cons i l=>
     exfalso
     have hi:i ∈ Region.ready .any ops listed:=by rw[hr];simp
     obtain⟨h1,o,ho,-⟩:=mem_ready.1 hi
     have h2:=hall i (Array.getElem?_eq_some_iff.1 ho).1
     have:i<listed.size:=by rw[m.size];exact(Array.getElem?_eq_some_iff.1 ho).1
     simp[Array.getD,this]at h1 h2
     rw[h1]at h2;cases h2
 | fuel+1,listed,a,w,ρ,done,todo,m,hl=>by
   refine⟨fun hr=>hQ _ _ _ (m.last g gp (Mid.done_all g m.size hr)),fun i hi=>?_⟩
   have hil:=mem_ready.1 hi
   obtain⟨h1,o,ho,-⟩:=hil
   have hlt:i<ops.size:=(Array.getElem?_eq_some_iff.1 ho).1
   have h0:listed.getD i false=false:=by
    have:i<listed.size:=by rw[m.size];exact hlt
    simp[Array.getD,this]at h1 ⊢;exact h1
   have hls:=EU m.size hlt h0
   exact m.step hE hC g gp hf0 hi (fun a' w' ρ' done' todo' m'=>Mid.run hE hC g gp hf0 hQ fuel _ a' w' ρ' done' todo' m' (by omega))
end
theorem eO {P:Program} {E:bg} {callF:aA} (hC:aU P callF) {N:Nat} {ops:Array Oper} {pm:List Nat}:∀ {is:List Nat} {T:Tr ah} {H:af} {olds:List (Nat×af)} {d:fC},bV E callF N ops pm is T H olds=some d→aV H d.H
 | [],T,H,olds,d,h=>by
   simp only[bV]at h
   injection h with h
   subst h
   exact aV.refl _
 | i::is,T,H,olds,d,h=>by
   unfold bV at h
   split at h
   ·cases h
   split at h
   ·cases h
   rename_i want r H' hdo
   have hnx:=yE hC hdo
   split at h
   ·cases h
   split at h
   ·split at h
    ·split at h
     ·rename_i d1 hd1
      split at h
      ·injection h with h
       subst h
       exact aV.trans hnx (show aV _ d1.H from eO hC hd1)
      ·cases h
     ·cases h
    ·split at h
     ·obtain⟨d1,hd1,rfl⟩:=Option.map_eq_some_iff.1 h
      exact aV.trans hnx (show aV _ d1.H from eO hC hd1)
     ·cases h
    ·split at h
     ·obtain⟨d1,hd1,rfl⟩:=Option.map_eq_some_iff.1 h
      exact(show aV _ d1.H from eO hC hd1)
     ·cases h
    ·obtain⟨d1,hd1,rfl⟩:=Option.map_eq_some_iff.1 h
     exact(show aV _ d1.H from eO hC hd1)
    ·cases h
   ·obtain⟨d1,hd1,rfl⟩:=Option.map_eq_some_iff.1 h
    exact(show aV _ d1.H from eO hC hd1)
theorem zM {P:Program} {E:bg} {callF:aA} (hC:aU P callF) {N:Nat} {ops:Array Oper} {p:au} {T T':Tr ah} {H H':af} (h:sw E callF N ops p T H=some (T',H')):aV H H':=by
 unfold sw at h
 obtain⟨d,h1,h2⟩:=Option.map_eq_some_iff.1 h
 injection h2 with h2 h3
 subst h3
 exact eO hC h1
theorem CC {P:Program} (hm:P.follows .mixedOrders=true) {E:bg} (hE:ef P E) {callF:aA} (hC:aU P callF) {N:Nat} {ops:Array Oper} {p:au} (g:iy E.tt ops p) {T T':Tr ah} {H H':af} (h:sw E callF N ops p T H=some (T',H'))
 {ρ:Rho} {a:Act} {w:World} {id:Nat} {Q:Exit→Act→World→Prop} (hfr:FrR ρ T a N) (hr:HR ρ H w) (hf:bR ρ H.next H'.next) (hQ:∀ a' w' ρ',ez ρ H w T' H' N a' w' ρ'→Q .normal a' w'):(Code.region id ops true).wp P Q a w:=by
 unfold sw at h
 obtain⟨d,h1,h2⟩:=Option.map_eq_some_iff.1 h
 injection h2 with h2 h3
 subst h2 h3
 have gp:=mh (H0:=H) (T0:=T) hC (fun i j oi oj t a b c e=>(g.dst i j oi oj t a b c e).1) p.plan [] T H [] d h1 (by simpa using g.nodup) ⟨⟨hr.ok,fun id r hr2=>hr.ok.lt id r hr2⟩,fun id hid=>.inl hid,Nat.le_refl _⟩ (fun _ hp=>by cases hp) (fun _ _=>rfl)
 have hcok:dR d.H.next (cur d.news d.H):=by
  cases hn:d.news with
  | nil=>exact gp.lt.2.2.1
  | cons q l=>exact(gp.lt.2.1 q (by rw[hn];simp)).1
 have hr2:HR ρ H ({ w with drawn:=w.drawn+1 }:World):=hr.of_heap rfl
 have m0:Mid E N ops T ρ H ({ w with drawn:=w.drawn+1 }:World) d (Array.replicate ops.size false) a ({ w with drawn:=w.drawn+1 }:World) ρ [] d.news:=by
  have hno:∀ i,(Array.replicate ops.size false).getD i false=false:=fun i=>by
   simp only[Array.getD_eq_getD_getElem?,Array.getElem?_replicate]
   split<;>rfl
  have hnt:∀ {i:Nat} {A:Prop},(Array.replicate ops.size false).getD i false=true→A:=fun {i A} hl=>by rw[hno]at hl;cases hl
  constructor
  ·simp
  ·intro i o e ho hl;exact hnt hl
  ·rfl
  ·intro q hq;cases hq
  ·intro q hq;exact hno _
  ·exact hr2.start hf hcok gp.cur
  ·refine⟨fun _ _ _ h=>h,gp.nx.le,fun id hid=>?_,(gp.nx.ok hr.ok).2.1,fun id ver L h h'=>(by rw[h]at h';cases h'),fun id ver L h h'=>(by rw[h]at h';cases h'),fun _ _ _=>rfl,Nat.le_refl _,rfl,rfl,rfl⟩
   rcases gp.lt.2.2.2 id hid with h2 | h2
   ·exact .inl h2
   ·obtain⟨r0,hr0⟩:=Option.isSome_iff_exists.1 hid
    exact .inr ⟨h2,gp.lt.2.2.1.lt id r0 hr0⟩
  ·intro x hx _;exact hf.mono (gp.rs.2.1 x hx).1 (gp.rs.2.1 x hx).2.2
  ·exact hfr.defers
  ·exact hfr.size
  ·intro i o t v hl;exact hnt hl
  ·intro t v _ hv;exact hfr.get t v hv
 refine wp_region_any hm (Mid.run hE hC g gp hf (fun a' w' ρ' hp=>hQ a' w' ρ' ⟨hp.fr,hp.hr,?_⟩) ops.size _ a _ ρ [] d.news m0 ?_)
 ·exact⟨hp.ext.le,hp.ext.next,hp.ext.rows,hp.ext.keep,hp.ext.ids,hp.ext.blk,hp.ext.frame,hp.ext.size,hp.ext.os,hp.ext.tape,hp.ext.output⟩
 ·unfold left
  exact Nat.le_trans List.countP_le_length (by simp)
end
end Go.Proofs.YtmpiinhnabmjcaaGreatDoor
