/- Lemmas and contracts that the proof of TopBytes uses, part 1 of 12: each is a theorem for every input that its premises allow. -/
import Derived.WalkKit
import Derived.Below
import Derived.Laws.OwnMore
import Derived.Deep.AppendLies
import Derived.Deep.Draws
import Derived.Laws.Rows
import Derived.Maps.AppendAt
import Derived.RegionTactic
import Derived.OwnWalk
import Derived.Deep.OwnRows
import Derived.Laws.AppendOwn
import Derived.Laws.MakeOwn
import Derived.Laws.Entries
import Derived.Deep.QuietTactic
import Derived.Lib.Hide
import Derived.ProofKit
import Derived.OpenShut
import Derived.ShutString
import Derived.ChangeOld
import Derived.JoinedOf
import Derived.RowKit
import Derived.RowKitTokens
import Derived.LaidLaws
import Derived.LaidHandle
import Derived.Stop.Joined
import Derived.Lib.LaidIn
import Derived.Test.YtpokkciheejeiaaGreatDoorRows
import Derived.Maps.OwnSet
import Derived.WalkLawsBesides
import Derived.WalkSpells
import Derived.Deep.DeepMust
import Derived.Outline
import Derived.LoopN
import Derived.BigQuiet
import Derived.Laws.IdiomStrings
import Derived.Lib.BufferRead
import Derived.Lib.SlBytesConst
import Derived.Lib.AppendStr
import Derived.Deep.RegionHeld3
import Derived.StillTailTactics
import Derived.IntWalk
import Derived.Deep.DeepCutAuto
set_option linter.unusedVariables false
set_option linter.unusedSimpArgs false
namespace Go.Proofs.YtpokkciheejeiaaGreatDoor
theorem sI {α : Type} (l : List α) (i : Nat) (a : α) : l.toArray.setIfInBounds i a = (l.set i a).toArray := List.setIfInBounds_toArray ..
theorem sZ {α : Type} {x : α} {xs : List α} {a : α} : (x :: xs).set 0 a = a :: xs := rfl
theorem sS {α : Type} {x : α} {xs : List α} {i : Nat} {a : α} : (x :: xs).set (i + 1) a = x :: xs.set i a := rfl
section
set_option maxRecDepth 100000
open Go.RowKit
theorem block_of_add (a : Addr) (n : Nat) : (a.add n).block = a.block := by unfold Addr.add; split <;> rfl
theorem add_of_add (a : Addr) (i j : Nat) : (a.add i).add j = a.add (i + j) := by
  unfold Addr.add
  by_cases hi : i = 0 <;> by_cases hj : j = 0 <;> simp [hi, hj, Nat.add_assoc]
def Reads (w : World) (B size : Nat) (A : Option Addr) (n : Nat) (xs : List Value) : Prop :=
  xs.length = n * size ∧ (0 < n → ∃ ad, A = some ad ∧ ad.block < B ∧ ∀ j u, xs[j]? = some u → w.cell? (ad.add j) = some u)
section
variable {w w' : World} {B B' size n : Nat} {A : Option Addr} {xs : List Value}
theorem Reads.none_ : Reads w B size A 0 [] := ⟨by simp, fun h => absurd h (by omega)⟩
theorem Reads.at_ {k : Nat} (h : Reads w B 1 A n xs) (hk : k < n) : ∃ ad u, A = some ad ∧ ad.block < B ∧ xs[k]? = some u ∧ w.cell? (ad.add k) = some u := by
  obtain ⟨ad, e, hb, hc⟩ := h.2 (by omega)
  have hl : k < xs.length := by have := h.1; omega
  exact ⟨ad, xs[k], e, hb, List.getElem?_eq_getElem hl, hc k _ (List.getElem?_eq_getElem hl)⟩
theorem Reads.keep (h : Reads w B size A n xs) (hk : ∀ p : Addr, p.block < B → w'.cell? p = w.cell? p) : Reads w' B size A n xs :=
  ⟨h.1, fun hn => by
    obtain ⟨ad, e, hb, hc⟩ := h.2 hn
    exact ⟨ad, e, hb, fun j u hu => (hk _ (by rw [block_of_add]; exact hb)).trans (hc j u hu)⟩⟩
theorem Reads.more (h : Reads w B size A n xs) (hB : B ≤ B') : Reads w B' size A n xs :=
  ⟨h.1, fun hn => by
    obtain ⟨ad, e, hb, hc⟩ := h.2 hn
    exact ⟨ad, e, by omega, hc⟩⟩
theorem Reads.below (h : Reads w B size A n xs) (hb : Below B w w') : Reads w' B size A n xs := h.keep fun _ hp => hb.cell hp
theorem Reads.drew (h : Reads w B size A n xs) : Reads w.drew B size A n xs := h
theorem Reads.drewN (h : Reads w B size A n xs) (k : Nat) : Reads (w.drewN k) B size A n xs := h
theorem Reads.alloc (h : Reads w B size A n xs) (hB : B ≤ w.heap.size) (o : Obj) : Reads (w.alloc o) B size A n xs := h.keep fun p hp => World.cell?_alloc_lt w o p (by omega)
theorem Reads.setCell (h : Reads w B size A n xs) {p : Addr} (hB : B ≤ p.block) (u : Value) : Reads (w.setCell p u) B size A n xs :=
  h.keep fun q hq => World.cell?_setCell_other w p q u (fun e => by subst e; omega)
theorem Reads.grown (h : Reads w B size A n xs) {row : Option Nat} (hg : w.grownBy w' row) (hB : B ≤ w.heap.size) (hr : ∀ g, row = some g → B ≤ g) : Reads w' B size A n xs :=
  h.keep fun p hp => World.cell?_of_block (hg.block p.block (by omega) (fun e => by have := hr _ e.symm; omega))
theorem Reads.cut (h : Reads w B size A n xs) {k cap : Nat} (hk : k ≤ n) (hc : n ≤ cap) :
    Reads w B size (if cap = k then A else A.map (·.add (k * size))) (n - k) (xs.drop (k * size)) := by
  refine ⟨by rw [List.length_drop, h.1, Nat.sub_mul], fun hn => ?_⟩
  obtain ⟨ad, rfl, hb, hcell⟩ := h.2 (by omega)
  rw [if_neg (by omega)]
  refine ⟨ad.add (k * size), rfl, by rw [block_of_add]; exact hb, fun j u hu => ?_⟩
  rw [add_of_add]
  exact hcell _ u (by rw [← hu, List.getElem?_drop])
theorem Reads.of_own {base : Nat} {e : TypeId} {c : Nat} (h : w.ownsRow base e size (.slice A n c) n xs) : Reads w w.heap.size size A n xs := by
  refine ⟨h.1, fun hn => ?_⟩
  obtain ⟨g, cap, hv, _, hlt⟩ := h.form hn
  have hA : A = some ⟨g, 0, none⟩ := by injection hv
  subst hA
  exact ⟨_, rfl, hlt, h.cells (g := g) rfl⟩
end
def Blk (w : World) (g : Nat) (t : TypeId) (cs : Array Value) : Prop := w.heap[g]? = some (.cells cs t (0, 0))
section
variable {w w' : World} {g : Nat} {t : TypeId} {cs : Array Value}
theorem Blk.lt (h : Blk w g t cs) : g < w.heap.size := by
  rcases Nat.lt_or_ge g w.heap.size with hlt | hge
  · exact hlt
  · unfold Blk at h; rw [Array.getElem?_eq_none hge] at h; cases h
theorem Blk.cell (h : Blk w g t cs) (i : Nat) : w.cell? ⟨g, i, none⟩ = cs[i]? := cell_of_row w g i cs t (0, 0) h
theorem Blk.frozen (h : Blk w g t cs) (i : Nat) : w.frozen? ⟨g, i, none⟩ = false := by
  unfold Blk at h
  simp [World.frozen?, h]
theorem Blk.new (w : World) (t : TypeId) (cs : Array Value) : Blk (w.alloc (.cells cs t)) w.heap.size t cs := heap_alloc_new w _
theorem Blk.drew (h : Blk w g t cs) : Blk w.drew g t cs := h
theorem Blk.drewN (h : Blk w g t cs) (n : Nat) : Blk (w.drewN n) g t cs := h
theorem Blk.alloc (h : Blk w g t cs) (o : Obj) : Blk (w.alloc o) g t cs := (Below.heap_alloc w o g h.lt).trans h
theorem Blk.set_ (h : Blk w g t cs) (i : Nat) (u : Value) : Blk (w.setCell ⟨g, i, none⟩ u) g t (cs.setIfInBounds i u) := by
  unfold Blk at h ⊢
  simp [World.setCell, Array.getElem?_modify, h]
theorem Blk.far (h : Blk w g t cs) {p : Addr} (hp : g ≠ p.block) (u : Value) : Blk (w.setCell p u) g t cs := (Below.heap_setCell w p u g hp).trans h
theorem Blk.below {B : Nat} (h : Blk w g t cs) (hb : Below B w w') (hg : g < B) : Blk w' g t cs := (hb.block g hg).trans h
theorem Blk.grown {row : Option Nat} (h : Blk w g t cs) (hb : w.grownBy w' row) (hg : some g ≠ row) : Blk w' g t cs := (hb.block g h.lt hg).trans h
end
section
variable {P : Program} (w : World)
theorem run_append_of_nil (base : Nat) (t ty e : TypeId) (i : TypeInfo) (size : Nat) (ht : P.underlying t = some (.slice e)) (hi : P.info? e = some i)
    (v : Value) (n : Nat) (xs : List Value) (hown : w.ownsRow base e size v n xs) (c : Nat) : (Builtin.append_ #[t, t] ty #[v, .slice none 0 c]).run P w = .ok v w := by
  rcases hown.2 with ⟨rfl, rfl⟩ | ⟨g, cap, cur, rfl, _, _, hnc, _⟩
  · simp [Builtin.append_, run_underlying ht, sizeOf, typeInfo, hi, Builtin.lenOf, Builtin.firstCells]
  · simp [Builtin.append_, run_underlying ht, sizeOf, typeInfo, hi, Builtin.lenOf, Builtin.firstCells, hnc, storeCells]
theorem run_append_any (base : Nat) (t ty e : TypeId) (i : TypeInfo) (z : Value) (size bytes : Nat) (ht : P.underlying t = some (.slice e)) (hi : P.info? e = some i) (hz : i.zero = some z)
    (hsize : i.size = size) (hby : i.bytes = bytes) (hzs : z.cells.size = size) (hsz : 0 < size)
    (v : Value) (n : Nat) (xs : List Value) (hown : w.ownsRow base e size v n xs)
    (B : Nat) (A : Option Addr) (m c : Nat) (news : List Value) (hr : Reads w B size A m news) (h1 : ∀ u ∈ news, u.oneCell' = true)
    (h63 : n + m ≤ maxLen) (hbytes : (n + m) * bytes ≤ 140737488355328) (hbase : base ≤ w.heap.size) :
    ∃ v' w', (Builtin.append_ #[t, t] ty #[v, .slice A m c]).run P w = .ok v' w' ∧ w'.ownsRow base e size v' (n + m) (xs ++ news) ∧ w.grownBy w' v.ownBlock ∧
      (v'.ownBlock = v.ownBlock ∨ v'.ownBlock = some w.heap.size) := by
  rcases A with _ | ad
  · have hm : m = 0 := by
      rcases Nat.eq_zero_or_pos m with h0 | h0
      · exact h0
      · obtain ⟨ad, h, _⟩ := hr.2 h0
        cases h
    subst hm
    have hn : news = [] := List.eq_nil_of_length_eq_zero (by simpa using hr.1)
    subst hn
    exact ⟨v, w, run_append_of_nil w base t ty e i size ht hi v n xs hown c, by simpa using hown, World.grownBy.refl w _, .inl rfl⟩
  · have hcells : ∀ j u, news[j]? = some u → w.cell? (ad.add j) = some u := by
      intro j u hu
      rcases Nat.eq_zero_or_pos m with h0 | h0
      · subst h0
        have hn : news = [] := List.eq_nil_of_length_eq_zero (by simpa using hr.1)
        subst hn
        simp at hu
      · obtain ⟨ad', h, _, hc⟩ := hr.2 h0
        injection h with h
        subst h
        exact hc j u hu
    obtain ⟨v', w', hrun, h2, h3, _, h5⟩ := run_append_own_at (P := P) w base t ty e i z size bytes ht hi hz hsize hby hzs hsz v n xs hown ad m c news hr.1 hcells h1 h63 hbytes hbase
    exact ⟨v', w', hrun, h2, h3, h5⟩
theorem wp_append_any {o : Oper} {a : Act} {K : Act → World → Prop} {Q : Exit → Act → World → Prop} (s x : Operand) (t : TypeId)
    (ho : o.op = .call { callee := .builtin .append, args := #[s, x], argTypes := #[t, t] })
    (base : Nat) (e : TypeId) (i : TypeInfo) (z : Value) (size bytes : Nat) (ht : P.underlying t = some (.slice e)) (hi : P.info? e = some i) (hz : i.zero = some z)
    (hsize : i.size = size) (hby : i.bytes = bytes) (hzs : z.cells.size = size) (hsz : 0 < size)
    (v : Value) (n : Nat) (xs : List Value) (hs : a.eval s = v) (hown : w.ownsRow base e size v n xs)
    (B : Nat) (A : Option Addr) (m c : Nat) (news : List Value) (hx : a.eval x = .slice A m c) (hr : Reads w B size A m news) (h1 : ∀ u ∈ news, u.oneCell' = true)
    (h63 : n + m ≤ maxLen) (hbytes : (n + m) * bytes ≤ 140737488355328) (hbase : base ≤ w.heap.size)
    (h : ∀ v' w', w'.ownsRow base e size v' (n + m) (xs ++ news) → w.grownBy w' v.ownBlock → (v'.ownBlock = v.ownBlock ∨ v'.ownBlock = some w.heap.size) → K (a.put o.dst v') w') : o.wp P a w K Q := by
  obtain ⟨v', w', hrun, h2, h3, h4⟩ := run_append_any (P := P) w base t o.type e i z size bytes ht hi hz hsize hby hzs hsz v n xs hown B A m c news hr h1 h63 hbytes hbase
  unfold Oper.wp execOp
  simp only [ho, resolve, invoke, builtin, Sem.run_bind, Sem.run_pure, Result.andThen_ok, List.map_toArray, List.map_cons, List.map_nil, hs, hx, hrun]
  exact h v' w' h2 h3 h4
theorem wpList_append_any {ops : Array Oper} {rest : List Oper} {o : Oper} {a : Act} {Q : Exit → Act → World → Prop} (hgd : o.guard = none) (s x : Operand) (t : TypeId)
    (ho : o.op = .call { callee := .builtin .append, args := #[s, x], argTypes := #[t, t] })
    (base : Nat) (e : TypeId) (i : TypeInfo) (z : Value) (size bytes : Nat) (ht : P.underlying t = some (.slice e)) (hi : P.info? e = some i) (hz : i.zero = some z)
    (hsize : i.size = size) (hby : i.bytes = bytes) (hzs : z.cells.size = size) (hsz : 0 < size)
    (v : Value) (n : Nat) (xs : List Value) (hs : a.eval s = v) (hown : w.ownsRow base e size v n xs)
    (B : Nat) (A : Option Addr) (m c : Nat) (news : List Value) (hx : a.eval x = .slice A m c) (hr : Reads w B size A m news) (h1 : ∀ u ∈ news, u.oneCell' = true)
    (h63 : n + m ≤ maxLen) (hbytes : (n + m) * bytes ≤ 140737488355328) (hbase : base ≤ w.heap.size)
    (h : ∀ v' w', w'.ownsRow base e size v' (n + m) (xs ++ news) → w.grownBy w' v.ownBlock → (v'.ownBlock = v.ownBlock ∨ v'.ownBlock = some w.heap.size) → wpList P ops Q rest (a.put o.dst v') w') : wpList P ops Q (o :: rest) a w :=
  wpList_plain hgd fun _ hK => wp_append_any w s x t ho base e i z size bytes ht hi hz hsize hby hzs hsz v n xs hs hown B A m c news hx hr h1 h63 hbytes hbase fun v' w' h2 h3 h4 => hK _ _ (h v' w' h2 h3 h4)
theorem step_append_any {ops : Array Oper} {o : Oper} {a : Act} {K : Act → World → Prop} {Q : Exit → Act → World → Prop} {E : Prop} (hgd : o.guard = none) (s x : Operand) (t : TypeId)
    (ho : o.op = .call { callee := .builtin .append, args := #[s, x], argTypes := #[t, t] })
    (base : Nat) (e : TypeId) (i : TypeInfo) (z : Value) (size bytes : Nat) (ht : P.underlying t = some (.slice e)) (hi : P.info? e = some i) (hz : i.zero = some z)
    (hsize : i.size = size) (hby : i.bytes = bytes) (hzs : z.cells.size = size) (hsz : 0 < size)
    (v : Value) (n : Nat) (xs : List Value) (hs : a.eval s = v) (hown : w.ownsRow base e size v n xs)
    (B : Nat) (A : Option Addr) (m c : Nat) (news : List Value) (hx : a.eval x = .slice A m c) (hr : Reads w B size A m news) (h1 : ∀ u ∈ news, u.oneCell' = true)
    (h63 : n + m ≤ maxLen) (hbytes : (n + m) * bytes ≤ 140737488355328) (hbase : base ≤ w.heap.size)
    (h : ∀ v' w', w'.ownsRow base e size v' (n + m) (xs ++ news) → w.grownBy w' v.ownBlock → (v'.ownBlock = v.ownBlock ∨ v'.ownBlock = some w.heap.size) → K (a.put o.dst v') w') :
    if Region.wanted o (yielded ops a.tmps) = true then Oper.wp P o a w K Q else E := by
  have hw : Region.wanted o (yielded ops a.tmps) = true := by simp [Region.wanted, hgd]
  rw [if_pos hw]
  exact wp_append_any w s x t ho base e i z size bytes ht hi hz hsize hby hzs hsz v n xs hs hown B A m c news hx hr h1 h63 hbytes hbase h
end
theorem results_tmp4 {fn : Func} {t u v x : Tmp} (h : fn.results = #[.tmp t, .tmp u, .tmp v, .tmp x]) (tmps : Array Value) (P : Program) (w : World) :
    (results fn tmps).run P w = .ok (.tuple #[tmps.getD t undef, tmps.getD u undef, tmps.getD v undef, tmps.getD x undef]) w := by simp [results, h]
theorem below_drewN {B : Nat} {a w : World} (h : Below B a w) (n : Nat) : Below B a (w.drewN n) := ⟨h.os, h.tape, h.output, h.size, h.block⟩
theorem only_alloc {a w : World} {row : Option Nat} (h : a.grownBy w row) (o : Obj) : a.grownBy (w.alloc o) row :=
  ⟨h.os, h.tape, h.output, Nat.le_trans h.size (by simp), fun i hi hne => (Below.heap_alloc w o i (Nat.lt_of_lt_of_le hi h.size)).trans (h.block i hi hne)⟩
theorem run_makeMap_hint {P : Program} (t k e : TypeId) (kd : IntKind) (n : Int) (ht : P.underlying t = some (.map k e)) (w : World) :
    (Instr.makeMap t (some (.int kd n))).run P w = .ok (.map (some w.heap.size)) (w.alloc (.map #[] 0)) := by
  simp [Instr.makeMap, run_underlying ht]; rfl
theorem add_plain (g o j : Nat) : (⟨g, o, none⟩ : Addr).add j = ⟨g, o + j, none⟩ := by
  unfold Addr.add
  by_cases h : j = 0 <;> simp [h]
theorem bcell {W w1 : World} (hb : Below W.heap.size W w1) : (∀ b o, b < W.heap.size → w1.cell? ⟨b, o, none⟩ = W.cell? ⟨b, o, none⟩) ∧ (∀ b o, b < W.heap.size → w1.frozen? ⟨b, o, none⟩ = W.frozen? ⟨b, o, none⟩) :=
  ⟨fun b o h => hb.cell (p := ⟨b, o, none⟩) h, fun b o h => hb.frozen (p := ⟨b, o, none⟩) h⟩
section
variable {P : Program}
theorem wpList_append_one {ops : Array Oper} {rest : List Oper} {o : Oper} {a : Act} {Q : Exit → Act → World → Prop} (W : World) (hgd : o.guard = none) (s x : Operand) (t : TypeId)
    (ho : o.op = .call { callee := .builtin .append, args := #[s, x], argTypes := #[t, t] })
    (base : Nat) (e : TypeId) (i : TypeInfo) (z : Value) (bytes : Nat) (ht : P.underlying t = some (.slice e)) (hi : P.info? e = some i) (hz : i.zero = some z)
    (hsize : i.size = 1) (hby : i.bytes = bytes) (hzs : z.cells.size = 1)
    (v : Value) (n : Nat) (xs : List Value) (hown : W.ownsRow base e 1 v n xs) (hs : a.eval s = v)
    (u : Value) (hx : a.eval x = .slice (some ⟨W.heap.size, 0, none⟩) 1 1) (h1 : u.oneCell' = true)
    (h63 : n + 1 ≤ maxLen) (hbytes : (n + 1) * bytes ≤ 140737488355328) (hbase : base ≤ W.heap.size)
    (h : ∀ v' w', w'.ownsRow base e 1 v' (n + 1) (xs ++ [u]) → W.grownBy w' v.ownBlock → wpList P ops Q rest (a.put o.dst v') w') : wpList P ops Q (o :: rest) a (W.alloc (.cells #[u] e)) := by
  refine wpList_append_own _ hgd s x t ho base e i z 1 bytes ht hi hz hsize hby hzs (by omega) v n xs hs (hown.alloc _) ⟨W.heap.size, 0, none⟩ 1 1 [u] hx rfl ?_ (by simpa using h1) h63 hbytes (by simp; omega) ?_
  · intro j u' hu
    rcases j with _ | j
    · simp at hu
      subst hu
      rw [add_plain]
      exact (Blk.new W e #[u]).cell 0
    · simp at hu
  · intro v' w' h2 h3 _
    exact h v' w' h2 ((only_alloc (World.grownBy.refl W _) _).trans h3)
theorem below_own {base : Nat} {e : TypeId} {size n : Nat} {v : Value} {xs : List Value} {B : Nat} {w0 W w' : World} (hb : Below B w0 W) (hg : W.grownBy w' v.ownBlock) (hown : W.ownsRow base e size v n xs) (hB : B ≤ base) (hBz : B ≤ W.heap.size) : Below B w0 w' := by
  refine hb.grown hg hBz (fun g hg' => ?_)
  rcases hown.2 with ⟨rfl, _⟩ | ⟨g', cap, cur, rfl, hb', _⟩
  · simp [Value.ownBlock] at hg'
  · simp [Value.ownBlock] at hg'
    omega
theorem own_empty (W : World) (e : TypeId) (base : Nat) (hb : base ≤ W.heap.size) (size : Nat) : (W.alloc (.cells #[] e)).ownsRow base e size (.slice (some ⟨W.heap.size, 0, none⟩) 0 0) 0 [] :=
  ⟨by simp, .inr ⟨W.heap.size, 0, #[], rfl, hb, Blk.new W e #[], Nat.le_refl _, Nat.zero_le _, by simp, by simp⟩⟩
end
theorem Reads.pre {w : World} {B n k : Nat} {A : Option Addr} {k' : IntKind} {zs : List Int} (h : Reads w B 1 A n (zs.map (Value.int k'))) (hk : k ≤ n) : Reads w B 1 A k ((zs.take k).map (Value.int k')) := by
  have hl : zs.length = n := by simpa using h.1
  refine ⟨by simp; omega, fun hk0 => ?_⟩
  obtain ⟨ad, rfl, hb, hc⟩ := h.2 (by omega)
  refine ⟨ad, rfl, hb, fun j u hu => hc j u ?_⟩
  simp only [List.getElem?_map, Option.map_eq_some_iff, List.getElem?_take] at hu ⊢
  obtain ⟨z, hz, rfl⟩ := hu
  split at hz
  · exact ⟨z, hz, rfl⟩
  · cases hz
theorem ownsRow_base {w : World} {base base' : Nat} {e : TypeId} {size n : Nat} {v : Value} {xs : List Value} (h : w.ownsRow base e size v n xs) (hb : base' ≤ base) : w.ownsRow base' e size v n xs := by
  rcases h with ⟨h1, h2 | ⟨g, cap, cur, h2, h3, h4⟩⟩
  · exact ⟨h1, .inl h2⟩
  · exact ⟨h1, .inr ⟨g, cap, cur, h2, Nat.le_trans hb h3, h4⟩⟩
theorem own_reads {w : World} {base : Nat} {e : TypeId} {n : Nat} {v : Value} {xs : List Value} (h : w.ownsRow base e 1 v n xs) : ∃ A c, v = .slice A n c ∧ n ≤ c ∧ c ≤ maxLen ∧ (A = none → c = 0) ∧ Reads w w.heap.size 1 A n xs := by
  rcases h with ⟨h1, ⟨rfl, rfl⟩ | ⟨g, cap, cur, rfl, h3, h4, h5, h6, h7⟩⟩
  · have : xs = [] := List.eq_nil_of_length_eq_zero (by simpa using h1)
    subst this
    exact ⟨none, 0, rfl, Nat.le_refl _, Nat.zero_le _, fun _ => rfl, Reads.none_⟩
  · refine ⟨_, cap, rfl, h5, h6, fun h => (by cases h), Reads.of_own (c := cap) (base := base) (e := e) ⟨h1, .inr ⟨g, cap, cur, rfl, h3, h4, h5, h6, h7⟩⟩⟩
section
variable (w : World) (t1 t2 t3 : TypeId) (a b c : Array Value)
theorem blk2_0 : Blk ((w.alloc (.cells a t1)).alloc (.cells b t2)) w.heap.size t1 a := (Blk.new w t1 a).alloc _
theorem blk2_1 : Blk ((w.alloc (.cells a t1)).alloc (.cells b t2)) (w.heap.size + 1) t2 b := by
  have h := Blk.new (w.alloc (.cells a t1)) t2 b
  rwa [show (w.alloc (.cells a t1)).heap.size = w.heap.size + 1 from by simp] at h
theorem blk3_0 : Blk (((w.alloc (.cells a t1)).alloc (.cells b t2)).alloc (.cells c t3)) w.heap.size t1 a := (blk2_0 w t1 t2 a b).alloc _
theorem blk3_1 : Blk (((w.alloc (.cells a t1)).alloc (.cells b t2)).alloc (.cells c t3)) (w.heap.size + 1) t2 b := (blk2_1 w t1 t2 a b).alloc _
theorem blk3_2 : Blk (((w.alloc (.cells a t1)).alloc (.cells b t2)).alloc (.cells c t3)) (w.heap.size + 2) t3 c := by
  have h := Blk.new ((w.alloc (.cells a t1)).alloc (.cells b t2)) t3 c
  rwa [show ((w.alloc (.cells a t1)).alloc (.cells b t2)).heap.size = w.heap.size + 2 from by simp] at h
end
end
section
set_option maxRecDepth 100000
open Go.ChangeShapes Go.WideShapes Go.ChangeAt Go.RowKit
open Go.ChangeMaps (open_string shut_string)
def IntArg (k : IntKind) (w : World) (A : Option Addr) (n c : Nat) (zs : List Int) : Prop :=
  Reads w w.heap.size 1 A n (zs.map (Value.int k)) ∧ n ≤ c ∧ c ≤ maxLen ∧ (A = none → c = 0) ∧ ∀ z ∈ zs, (Lit.int k z).wf = true
section
variable {H : Type} {enc : TypeId × Value → H} {P : Program} {w : World} {base : Nat} {spare : Nat → Bool} {held : Bool}
theorem intArg_open {t e : TypeId} {k : IntKind} {A : Option Addr} {n c : Nat} {d : DataW H} {p : List MemPlace} (ht : P.underlying t = some (.slice e)) (he : P.underlying e = some (.int k)) (hC : P.cellsOf e = 1)
    (h : DataW.Trod enc P w 0 (fun _ => true) true t (.slice A n c) d p) : ∃ zs, IntArg k w A n c zs := by
  obtain ⟨fuel, hf⟩ := h
  rcases open_ints ht he hC hf with ⟨hcs, _⟩ | ⟨x, l, c', zs, hcs, _, hl, hm, hz, _, hcell, hwz⟩
  · simp [Value.cells] at hcs
    obtain ⟨rfl, rfl, rfl⟩ := hcs
    exact ⟨[], Reads.none_, Nat.le_refl _, Nat.zero_le _, fun _ => rfl, by simp⟩
  · simp [Value.cells] at hcs
    obtain ⟨rfl, rfl, rfl⟩ := hcs
    have hz' : zs.length = c := by simpa using hz
    refine ⟨zs.take n, ⟨by simp; omega, fun hn => ⟨x, rfl, ?_, fun j u hu => ?_⟩⟩, hl, hm, fun h => (by cases h), fun z hz => hwz z (List.mem_of_mem_take hz)⟩
    · have h0 := World.block_lt_of_cell? w _ (hcell 0 (by omega))
      rwa [block_of_add] at h0
    · simp only [List.getElem?_map, Option.map_eq_some_iff] at hu
      obtain ⟨z, hz1, rfl⟩ := hu
      have hj : j < n := by
        rcases Nat.lt_or_ge j n with h | h
        · exact h
        · rw [List.getElem?_take, if_neg (by omega)] at hz1; cases hz1
      rw [List.getElem?_take, if_pos hj] at hz1
      rw [hcell j (by omega), List.getD_eq_getElem?_getD, hz1]; rfl
theorem trod_lt_of {t : TypeId} {v : Value} {d : DataW H} {p : List MemPlace} (h : DataW.Trod enc P w base spare held t v d p) : ∀ x ∈ p, x.block < w.heap.size := by
  obtain ⟨m, hm⟩ := h
  exact DataW.trod_lt m _ _ _ hm
end
end
section
open Go.ChangeShapes Go.WideShapes Go.ChangeAt Go.RowKit Go.Lib
theorem topOwn : ownKnob Tryz.prog.godebug = none := by kernel_rfl
theorem topLaidOut : laidOutB Tryz.prog = true := by kernel_rfl
noncomputable def topLow : Nat := (World.settled Tryz.prog default).heap.size
def rangeText : ByteArray := ⟨#[118, 97, 108, 117, 101, 32, 111, 117, 116, 32, 111, 102, 32, 114, 97, 110, 103, 101]⟩
def syntaxText : ByteArray := ⟨#[105, 110, 118, 97, 108, 105, 100, 32, 115, 121, 110, 116, 97, 120]⟩
def tab32 : List Int := [0, 1, 28, 2, 29, 14, 24, 3, 30, 22, 20, 15, 25, 17, 4, 8, 31, 27, 13, 23, 21, 19, 16, 7, 26, 12, 18, 6, 11, 5, 10, 9]
def tab64 : List Int := [0, 1, 56, 2, 57, 49, 28, 3, 61, 58, 42, 50, 38, 29, 17, 4, 62, 47, 59, 36, 45, 43, 51, 22, 53, 39, 33, 30, 24, 18, 12, 5, 63, 55, 48, 27, 60, 41, 37, 16, 46, 35, 44, 21, 52, 32, 23, 11, 54, 26, 40, 15, 34, 20, 31, 10, 25, 14, 19, 9, 13, 8, 7, 6]
def tabTen : List Int := (List.range 20).map fun i => (10 : Int) ^ i
def putCells (h : Array Obj) (g : Nat) (cs : Array Value) : Array Obj := h.modify g fun
  | .cells _ t frozen => .cells cs t frozen
  | o => o
noncomputable def laidWorld (os : Os) : World :=
  let w0 := World.holding Tryz.prog os ⟨#[.cells #[.string rangeText] 360, .cells #[.string syntaxText] 360], #[], []⟩
  let h1 := putCells w0.heap 2 (tab32.map fun z => Value.int .u8 z).toArray
  let h2 := putCells h1 3 (tab64.map fun z => Value.int .u8 z).toArray
  let h3 := putCells h2 0 (tabTen.map fun z => Value.int .u64 z).toArray
  let h4 := putCells h3 5 #[.iface 358 (.pointer (some ⟨topLow, 0, none⟩))]
  let h5 := putCells h4 4 #[.iface 358 (.pointer (some ⟨topLow + 1, 0, none⟩))]
  { w0 with heap := h5 }
theorem laid_one (os : Os) (args : Array Value) : LaidIn Tryz.prog ((laidWorld os).forCall (fun _ _ => 0) ⟨#[], args, []⟩).memory [("math/bits.deBruijn32tab", Rows.laid_math_bits_deBruijn32tab), ("math/bits.deBruijn64tab", Rows.laid_math_bits_deBruijn64tab), ("internal/strconv.uint64pow10", Rows.laid_internal_strconv_uint64pow10)] [2, 3, 0] :=
  LaidIn.of_run [2, 3, 0] 8 (by kernel_rfl) (by kernel_rfl) (by kernel_rfl) (by kernel_rfl)
theorem laid_two (os : Os) (args : Array Value) : LaidIn Tryz.prog ((laidWorld os).forCall (fun _ _ => 0) ⟨#[], args, []⟩).memory [("strconv.ErrRange", Rows.laid_strconv_ErrRange), ("strconv.ErrSyntax", Rows.laid_strconv_ErrSyntax)] [5, topLow, 4, topLow + 1] :=
  LaidIn.of_run [5, topLow, 4, topLow + 1] 8 (by kernel_rfl) (by kernel_rfl) (by kernel_rfl) (by kernel_rfl)
theorem laid_met (os : Os) (args : Array Value) : laidMetH Tryz.prog Rows.topBytesRow.laid ((laidWorld os).forCall (fun _ _ => 0) ⟨#[], args, []⟩).memory :=
  laidMetH_of_parts (((laid_one os args).append (laid_two os args) (by kernel_rfl)).met) (by kernel_rfl)
end
section
open Go.RowKit
structure Keeps (X : List Nat) (w w' : World) : Prop where
  size : w.heap.size ≤ w'.heap.size
  block : ∀ b, b < w.heap.size → b ∉ X → w'.heap[b]? = w.heap[b]?
def XOk (X : List Nat) (w : World) : Prop := ∀ b ∈ X, b < w.heap.size
section
variable {X X' : List Nat} {w w' w'' : World}
theorem Keeps.refl (X : List Nat) (w : World) : Keeps X w w := ⟨Nat.le_refl _, fun _ _ _ => rfl⟩
theorem Keeps.trans (h : Keeps X w w') (k : Keeps X w' w'') : Keeps X w w'' :=
  ⟨Nat.le_trans h.size k.size, fun b hb hx => (k.block b (Nat.lt_of_lt_of_le hb h.size) hx).trans (h.block b hb hx)⟩
theorem Keeps.of_below (h : Below w.heap.size w w') : Keeps X w w' := ⟨h.size, fun b hb _ => h.block b hb⟩
theorem Keeps.alloc (w : World) (o : Obj) : Keeps X w (w.alloc o) := ⟨by simp, fun b hb _ => Below.heap_alloc w o b hb⟩
theorem Keeps.drew (w : World) : Keeps X w w.drew := ⟨Nat.le_refl _, fun _ _ _ => rfl⟩
theorem Keeps.drewN (w : World) (n : Nat) : Keeps X w (w.drewN n) := ⟨Nat.le_refl _, fun _ _ _ => rfl⟩
theorem Keeps.setCell (w : World) {p : Addr} (u : Value) (hp : p.block ∈ X) : Keeps X w (w.setCell p u) :=
  ⟨by simp [World.setCell], fun b _ hx => Below.heap_setCell w p u b (fun e => by subst e; exact hx hp)⟩
theorem Keeps.grown {row : Option Nat} (h : w.grownBy w' row) (hr : ∀ g, row = some g → g ∈ X) : Keeps X w w' :=
  ⟨h.size, fun b hb hx => h.block b hb (fun e => hx (hr b e.symm))⟩
theorem Keeps.cell (h : Keeps X w w') {p : Addr} (h1 : p.block < w.heap.size) (h2 : p.block ∉ X) : w'.cell? p = w.cell? p := World.cell?_of_block (h.block _ h1 h2)
end
structure Sh (α : Type) where
  size : Nat
  rep : World → List Nat → List Value → α → Prop
  len : ∀ {w X vs a}, rep w X vs a → vs.length = size
  one : ∀ {w X vs a}, rep w X vs a → ∀ u ∈ vs, u.oneCell' = true
  keep : ∀ {w w' X vs a}, rep w X vs a → Keeps X w w' → rep w' X vs a
  more : ∀ {w X X' vs a}, rep w X vs a → (∀ b, b < w.heap.size → b ∈ X' → b ∈ X) → rep w X' vs a
def RepAll {α : Type} (s : Sh α) (w : World) (X : List Nat) : List Value → List α → Prop
  | vs, [] => vs = []
  | vs, x :: xs => ∃ r rest, vs = r ++ rest ∧ s.rep w X r x ∧ RepAll s w X rest xs
section
variable {α : Type} {s : Sh α} {w w' : World} {X X' : List Nat}
theorem RepAll.nil_ : RepAll s w X [] [] := rfl
theorem RepAll.length : ∀ {xs : List α} {vs : List Value}, RepAll s w X vs xs → vs.length = xs.length * s.size
  | [], vs, h => by simp [show vs = [] from h]
  | x :: xs, vs, ⟨r, rest, e, hr, h⟩ => by rw [e, List.length_append, s.len hr, RepAll.length h, List.length_cons, Nat.succ_mul, Nat.add_comm]
theorem RepAll.keep : ∀ {xs : List α} {vs : List Value}, RepAll s w X vs xs → Keeps X w w' → RepAll s w' X vs xs
  | [], vs, h, _ => h
  | x :: xs, vs, ⟨r, rest, e, hr, h⟩, k => ⟨r, rest, e, s.keep hr k, RepAll.keep h k⟩
theorem RepAll.more : ∀ {xs : List α} {vs : List Value}, RepAll s w X vs xs → (∀ b, b < w.heap.size → b ∈ X' → b ∈ X) → RepAll s w X' vs xs
  | [], vs, h, _ => h
  | x :: xs, vs, ⟨r, rest, e, hr, h⟩, k => ⟨r, rest, e, s.more hr k, RepAll.more h k⟩
theorem RepAll.append : ∀ {xs ys : List α} {vs us : List Value}, RepAll s w X vs xs → RepAll s w X us ys → RepAll s w X (vs ++ us) (xs ++ ys)
  | [], ys, vs, us, h, k => by rw [show vs = [] from h]; exact k
  | x :: xs, ys, vs, us, ⟨r, rest, e, hr, h⟩, k => ⟨r, rest ++ us, by rw [e, List.append_assoc], hr, RepAll.append h k⟩
theorem RepAll.get : ∀ {xs : List α} {vs : List Value}, RepAll s w X vs xs → ∀ {i : Nat} {x : α}, xs[i]? = some x → ∃ r, s.rep w X r x ∧ ∀ (j : Nat) u, r[j]? = some u → vs[i * s.size + j]? = some u
  | [], vs, h, i, x, hx => by simp at hx
  | y :: xs, vs, ⟨r, rest, e, hr, h⟩, 0, x, hx => by
    simp at hx; subst hx
    refine ⟨r, hr, fun j u hu => ?_⟩
    rw [e, Nat.zero_mul, Nat.zero_add, List.getElem?_append_left (List.getElem?_eq_some_iff.1 hu).1]
    exact hu
  | y :: xs, vs, ⟨r, rest, e, hr, h⟩, i + 1, x, hx => by
    obtain ⟨r', h1, h2⟩ := RepAll.get h (i := i) (x := x) (by simpa using hx)
    refine ⟨r', h1, fun j u hu => ?_⟩
    have hl := s.len hr
    rw [e, List.getElem?_append_right (by rw [hl, Nat.succ_mul]; omega), show (i + 1) * s.size + j - r.length = i * s.size + j from by rw [hl, Nat.succ_mul]; omega]
    exact h2 j u hu
theorem RepAll.take : ∀ {xs : List α} {vs : List Value}, RepAll s w X vs xs → ∀ k, RepAll s w X (vs.take (k * s.size)) (xs.take k)
  | [], vs, h, k => by rw [show vs = [] from h]; simp [RepAll]
  | x :: xs, vs, h, 0 => by simp [RepAll]
  | x :: xs, vs, ⟨r, rest, e, hr, h⟩, k + 1 => by
    refine ⟨r, rest.take (k * s.size), ?_, hr, RepAll.take h k⟩
    have hl := s.len hr
    rw [e, Nat.succ_mul, Nat.add_comm, List.take_append, hl, show s.size + k * s.size - s.size = k * s.size from by omega, List.take_of_length_le (by omega)]
theorem RepAll.drop : ∀ {xs : List α} {vs : List Value}, RepAll s w X vs xs → ∀ k, RepAll s w X (vs.drop (k * s.size)) (xs.drop k)
  | [], vs, h, k => by rw [show vs = [] from h]; simp [RepAll]
  | x :: xs, vs, h, 0 => by simpa using h
  | x :: xs, vs, ⟨r, rest, e, hr, h⟩, k + 1 => by
    have hl := s.len hr
    rw [e, Nat.succ_mul, Nat.add_comm, List.drop_append, hl, show s.size + k * s.size - s.size = k * s.size from by omega, List.drop_of_length_le (by omega)]
    simpa using RepAll.drop h k
end
def Sl {α : Type} (s : Sh α) (w : World) (X : List Nat) (A : Option Addr) (n c : Nat) (xs : List α) : Prop :=
  n = xs.length ∧ n ≤ c ∧ c ≤ maxLen ∧ (A = none → c = 0) ∧ ∃ vs, Reads w w.heap.size s.size A n vs ∧ (0 < n → ∀ ad, A = some ad → ad.block ∉ X) ∧ RepAll s w X vs xs
section
variable {α : Type} {s : Sh α} {w w' : World} {X X' : List Nat} {A : Option Addr} {n c : Nat} {xs : List α}
theorem Sl.len (h : Sl s w X A n c xs) : n = xs.length := h.1
theorem Sl.le (h : Sl s w X A n c xs) : n ≤ c := h.2.1
theorem Sl.max (h : Sl s w X A n c xs) : c ≤ maxLen := h.2.2.1
theorem Sl.none_ (h : Sl s w X A n c xs) : A = none → c = 0 := h.2.2.2.1
theorem Sl.reads (h : Sl s w X A n c xs) : ∃ vs, Reads w w.heap.size s.size A n vs ∧ (0 < n → ∀ ad, A = some ad → ad.block ∉ X) ∧ RepAll s w X vs xs := h.2.2.2.2
theorem Sl.nil_ : Sl s w X none 0 0 [] := ⟨rfl, Nat.le_refl _, Nat.zero_le _, fun _ => rfl, [], ⟨by simp, fun h => absurd h (by omega)⟩, fun h => absurd h (by omega), rfl⟩
theorem Sl.keep (h : Sl s w X A n c xs) (k : Keeps X w w') : Sl s w' X A n c xs := by
  obtain ⟨h1, h2, h3, h4, vs, hr, hx, ha⟩ := h
  refine ⟨h1, h2, h3, h4, vs, ⟨hr.1, fun hn => ?_⟩, hx, ha.keep k⟩
  obtain ⟨ad, e, hb, hc⟩ := hr.2 hn
  exact ⟨ad, e, Nat.lt_of_lt_of_le hb k.size, fun j u hu => (k.cell (by rw [block_of_add]; exact hb) (by rw [block_of_add]; exact hx hn ad e)).trans (hc j u hu)⟩
theorem Sl.more (h : Sl s w X A n c xs) (k : ∀ b, b < w.heap.size → b ∈ X' → b ∈ X) : Sl s w X' A n c xs := by
  obtain ⟨h1, h2, h3, h4, vs, hr, hx, ha⟩ := h
  refine ⟨h1, h2, h3, h4, vs, hr, fun hn ad e hin => ?_, ha.more k⟩
  obtain ⟨ad', e', hb, _⟩ := hr.2 hn
  have : ad' = ad := by rw [e] at e'; injection e' with e'; exact e'.symm
  subst this
  exact hx hn ad' e (k _ hb hin)
theorem Sl.at_ (h : Sl s w X A n c xs) {i : Nat} {x : α} (hi : xs[i]? = some x) : ∃ ad r, A = some ad ∧ ad.block < w.heap.size ∧ ad.block ∉ X ∧ s.rep w X r x ∧ ∀ (j : Nat) u, r[j]? = some u → w.cell? (ad.add (i * s.size + j)) = some u := by
  obtain ⟨h1, _, _, _, vs, hr, hx, ha⟩ := h
  have hl := (List.getElem?_eq_some_iff.1 hi).1
  obtain ⟨ad, e, hb, hc⟩ := hr.2 (by omega)
  obtain ⟨r, h2, h3⟩ := ha.get hi
  exact ⟨ad, r, e, hb, hx (by omega) ad e, h2, fun j u hu => hc _ u (h3 j u hu)⟩
theorem Sl.pre (h : Sl s w X A n c xs) {k : Nat} (hk : k ≤ n) : Sl s w X A k c (xs.take k) := by
  obtain ⟨h1, h2, h3, h4, vs, hr, hx, ha⟩ := h
  refine ⟨by simp; omega, by omega, h3, h4, vs.take (k * s.size), ⟨?_, fun hn => ?_⟩, fun hn => hx (by omega), ha.take k⟩
  · rw [List.length_take, hr.1]; exact Nat.min_eq_left (Nat.mul_le_mul_right _ hk)
  · obtain ⟨ad, e, hb, hc⟩ := hr.2 (by omega)
    refine ⟨ad, e, hb, fun j u hu => hc j u ?_⟩
    rw [List.getElem?_take] at hu
    split at hu
    · exact hu
    · cases hu
theorem Sl.of_own {base : Nat} {e : TypeId} {v : Value} {vs : List Value} (h : w.ownsRow base e s.size v n vs) (hx : ∀ b ∈ X, v.ownBlock ≠ some b) (ha : RepAll s w X vs xs) (hs : 0 < s.size) : ∃ A c, v = .slice A n c ∧ Sl s w X A n c xs := by
  have hl : n = xs.length := by
    have h1 := ha.length
    rw [h.1] at h1
    exact Nat.eq_of_mul_eq_mul_right hs h1
  rcases h with ⟨h1, ⟨rfl, rfl⟩ | ⟨g, cap, cur, rfl, h3, h4, h5, h6, h7⟩⟩
  · have : xs = [] := List.eq_nil_of_length_eq_zero hl.symm
    subst this
    exact ⟨none, 0, rfl, Sl.nil_⟩
  · refine ⟨_, cap, rfl, hl, h5, h6, fun h => (by cases h), vs, Reads.of_own (c := cap) (base := base) (e := e) ⟨h1, .inr ⟨g, cap, cur, rfl, h3, h4, h5, h6, h7⟩⟩, fun _ ad e hin => ?_, ha⟩
    injection e with e
    subst e
    exact hx _ hin rfl
end
def flatSh {α : Type} (n : Nat) (f : α → List Value) (ok : α → Prop) (hl : ∀ a, (f a).length = n) (h1 : ∀ a, ∀ u ∈ f a, u.oneCell' = true) : Sh α where
  size := n
  rep w X vs a := vs = f a ∧ ok a
  len := by rintro w X vs a ⟨rfl, _⟩; exact hl a
  one := by rintro w X vs a ⟨rfl, _⟩; exact h1 a
  keep := by rintro w w' X vs a h k; exact h
  more := by rintro w X X' vs a h k; exact h
def byteSh : Sh UInt8 := flatSh 1 (fun b => [.int .u8 (b.toNat : Int)]) (fun _ => True) (fun _ => rfl) (by intro a u hu; rw [List.mem_singleton] at hu; subst hu; rfl)
theorem repAll_flat {α : Type} {n : Nat} {f : α → List Value} {ok : α → Prop} {hl h1} {w : World} {X : List Nat} : ∀ {xs : List α} {vs : List Value}, RepAll (flatSh n f ok hl h1) w X vs xs ↔ vs = xs.flatMap f ∧ ∀ x ∈ xs, ok x
  | [], vs => by simp [RepAll]
  | x :: xs, vs => by
    constructor
    · rintro ⟨r, rest, rfl, ⟨rfl, ho⟩, h⟩
      obtain ⟨rfl, h2⟩ := repAll_flat.1 h
      refine ⟨by simp, fun y hy => ?_⟩
      rcases List.mem_cons.1 hy with rfl | hy
      · exact ho
      · exact h2 y hy
    · rintro ⟨rfl, h⟩
      exact ⟨f x, xs.flatMap f, by simp, ⟨rfl, h x (by simp)⟩, repAll_flat.2 ⟨rfl, fun y hy => h y (by simp [hy])⟩⟩
structure Fact where
  p : World → List Nat → Prop
  keep : ∀ {w w' X}, p w X → Keeps X w w' → p w' X
  more : ∀ {w X X'}, p w X → (∀ b, b < w.heap.size → b ∈ X' → b ∈ X) → p w X'
def Sh.fact {α : Type} (s : Sh α) (vs : List Value) (a : α) : Fact := ⟨fun w X => s.rep w X vs a, fun h k => s.keep h k, fun h k => s.more h k⟩
def Sl.fact {α : Type} (s : Sh α) (A : Option Addr) (n c : Nat) (xs : List α) : Fact := ⟨fun w X => Sl s w X A n c xs, fun h k => h.keep k, fun h k => h.more k⟩
inductive Itm where
  | box (g : Nat) (t : TypeId) (cs : Array Value)
  | row (e : TypeId) (size : Nat) (v : Value) (n : Nat) (xs : List Value)
def Itm.blk : Itm → Option Nat
  | .box g _ _ => some g
  | .row _ _ v _ _ => v.ownBlock
def Itm.ok (W : World) : Itm → Prop
  | .box g t cs => Blk W g t cs
  | .row e size v n xs => W.ownsRow 0 e size v n xs
def Exs (L : List Itm) : List Nat := L.filterMap Itm.blk
structure Held (w0 : World) (M : List Nat) (X0 : List Nat) (W : World) (L : List Itm) (F : List Fact) : Prop where
  same : W.os = w0.os ∧ W.tape = w0.tape ∧ W.output = w0.output
  size : w0.heap.size ≤ W.heap.size
  block : ∀ b, b < w0.heap.size → b ∉ M → W.heap[b]? = w0.heap[b]?
  given : ∀ g ∈ M, g ∈ X0
  xok : XOk X0 w0
  ents : ∀ x ∈ L, x.ok W ∧ ∀ g, x.blk = some g → (w0.heap.size ≤ g ∨ g ∈ M) ∧ g < W.heap.size
  apart : L.Pairwise (fun x y => ∀ g, x.blk = some g → y.blk ≠ some g)
  facts : ∀ f ∈ F, f.p W (Exs L ++ X0)
section
variable {w0 W W' : World} {M X0 : List Nat} {L : List Itm} {F : List Fact}
theorem own_lt {base : Nat} {e : TypeId} {size n : Nat} {v : Value} {xs : List Value} (h : W.ownsRow base e size v n xs) : ∀ g, v.ownBlock = some g → base ≤ g ∧ g < W.heap.size := by
  intro g hg
  rcases h.2 with ⟨rfl, _⟩ | ⟨g', cap, cur, rfl, hb, hh, _⟩
  · simp [Value.ownBlock] at hg
  · have e : g' = g := by simpa [Value.ownBlock] using hg
    subst e
    exact ⟨hb, Blk.lt hh⟩
theorem own_frame {base : Nat} {e : TypeId} {size n : Nat} {v : Value} {xs : List Value} (h : W.ownsRow base e size v n xs) (hk : ∀ g, v.ownBlock = some g → W'.heap[g]? = W.heap[g]?) : W'.ownsRow base e size v n xs := by
  rcases h with ⟨h1, h2 | ⟨g, cap, cur, h2, h3, h4, h5⟩⟩
  · exact ⟨h1, .inl h2⟩
  · subst h2
    exact ⟨h1, .inr ⟨g, cap, cur, rfl, h3, (hk g rfl).trans h4, h5⟩⟩
theorem Itm.frame {x : Itm} (h : x.ok W) (hk : ∀ g, x.blk = some g → W'.heap[g]? = W.heap[g]?) : x.ok W' := by
  cases x with
  | box g t cs => exact (hk g rfl).trans h
  | row e size v n xs => exact own_frame h hk
theorem Held.start (w : World) {X : List Nat} (hX : XOk X w) : Held w [] X w [] [] := ⟨⟨rfl, rfl, rfl⟩, Nat.le_refl _, fun _ _ _ => rfl, by simp, hX, by simp, List.Pairwise.nil, by simp⟩
theorem Held.below (h : Held w0 [] X0 W L F) : Below w0.heap.size w0 W := ⟨h.same.1, h.same.2.1, h.same.2.2, h.size, fun b hb => h.block b hb (by simp)⟩
theorem Held.belowB (h : Held w0 M X0 W L F) {B : Nat} (hB : B ≤ w0.heap.size) (hM : ∀ g ∈ M, B ≤ g) : Below B w0 W := ⟨h.same.1, h.same.2.1, h.same.2.2, h.size, fun b hb => h.block b (Nat.lt_of_lt_of_le hb hB) (fun hm => by have := hM b hm; omega)⟩
theorem Held.grown {g : Nat} (h : Held w0 [g] X0 W L F) : w0.grownBy W (some g) := ⟨h.same.1, h.same.2.1, h.same.2.2, h.size, fun b hb hne => h.block b hb (fun hm => by rw [List.mem_singleton] at hm; exact hne (by rw [hm]))⟩
theorem mem_exs {g : Nat} : g ∈ Exs L ↔ ∃ x ∈ L, x.blk = some g := by simp [Exs]
theorem Held.xok' (h : Held w0 M X0 W L F) : XOk (Exs L ++ X0) W := by
  intro b hb
  rcases List.mem_append.1 hb with hb | hb
  · obtain ⟨x, hx, e⟩ := mem_exs.1 hb
    exact ((h.ents x hx).2 b e).2
  · exact Nat.lt_of_lt_of_le (h.xok b hb) h.size
theorem Held.on (h : Held w0 M X0 W L F) (hk : Below W.heap.size W W') : Held w0 M X0 W' L F :=
  ⟨⟨hk.os.trans h.same.1, hk.tape.trans h.same.2.1, hk.output.trans h.same.2.2⟩, Nat.le_trans h.size hk.size, fun b hb hm => (hk.block b (Nat.lt_of_lt_of_le hb h.size)).trans (h.block b hb hm), h.given, h.xok, fun x hx => ⟨Itm.frame (h.ents x hx).1 (fun g e => hk.block g ((h.ents x hx).2 g e).2), fun g e => ⟨((h.ents x hx).2 g e).1, Nat.lt_of_lt_of_le ((h.ents x hx).2 g e).2 hk.size⟩⟩, h.apart, fun f hf => f.keep (h.facts f hf) (Keeps.of_below hk)⟩
theorem Held.drew (h : Held w0 M X0 W L F) : Held w0 M X0 W.drew L F := h.on (Below.refl _ _).drew
theorem Held.drewN (h : Held w0 M X0 W L F) (n : Nat) : Held w0 M X0 (W.drewN n) L F := h.on (below_drewN (Below.refl _ _) n)
theorem Held.know (h : Held w0 M X0 W L F) (f : Fact) (hf : f.p W (Exs L ++ X0)) : Held w0 M X0 W L (f :: F) :=
  ⟨h.same, h.size, h.block, h.given, h.xok, h.ents, h.apart, fun g hg => by
    rcases List.mem_cons.1 hg with rfl | hg
    · exact hf
    · exact h.facts g hg⟩
theorem Held.fact (h : Held w0 M X0 W L F) (i : Nat) {f : Fact} (hi : F[i]? = some f) : f.p W (Exs L ++ X0) := h.facts f (List.mem_of_getElem? hi)
theorem Held.forget (h : Held w0 M X0 W L F) {F' : List Fact} (hs : F'.Sublist F) : Held w0 M X0 W L F' := ⟨h.same, h.size, h.block, h.given, h.xok, h.ents, h.apart, fun f hf => h.facts f (hs.subset hf)⟩
theorem Held.know0 (h : Held w0 M X0 W L F) (f : Fact) (hf : f.p w0 X0) : Held w0 M X0 W L (f :: F) := by
  refine h.know f ?_
  have h1 : f.p w0 (Exs L ++ X0) := f.more hf (fun b hb hm => by
    rcases List.mem_append.1 hm with hm | hm
    · obtain ⟨x, hx, e⟩ := mem_exs.1 hm
      rcases ((h.ents x hx).2 b e).1 with h2 | h2
      · omega
      · exact h.given b h2
    · exact hm)
  exact f.keep h1 ⟨h.size, fun b hb hnx => h.block b hb (fun hm => hnx (List.mem_append_right _ (h.given b hm)))⟩
theorem Held.back (h : Held w0 M X0 W L F) {f : Fact} (hf : f.p W (Exs L ++ X0)) : f.p W X0 := f.more hf (fun _ _ hm => List.mem_append_right _ hm)
theorem Held.back' (h : Held w0 M X0 W L F) (i : Nat) {f : Fact} (hi : F[i]? = some f) : f.p W X0 := h.back (h.fact i hi)
theorem Held.drop (h : Held w0 M X0 W L F) {L' : List Itm} (hs : L'.Sublist L) : Held w0 M X0 W L' F :=
  ⟨h.same, h.size, h.block, h.given, h.xok, fun x hx => h.ents x (hs.subset hx), h.apart.sublist hs, fun f hf => f.more (h.facts f hf) (fun b _ hm => by
    rcases List.mem_append.1 hm with hm | hm
    · exact List.mem_append_left _ ((hs.filterMap _).subset hm)
    · exact List.mem_append_right _ hm)⟩
theorem Held.ent (h : Held w0 M X0 W L F) (i : Nat) {x : Itm} (hi : L[i]? = some x) : x.ok W := (h.ents x (List.mem_of_getElem? hi)).1
theorem Held.blk (h : Held w0 M X0 W L F) (i : Nat) {g : Nat} {t : TypeId} {cs : Array Value} (hi : L[i]? = some (.box g t cs)) : Blk W g t cs := h.ent i hi
theorem Held.cell (h : Held w0 M X0 W L F) (i : Nat) {g : Nat} {t : TypeId} {cs : Array Value} (hi : L[i]? = some (.box g t cs)) (j : Nat) : W.cell? ⟨g, j, none⟩ = cs[j]? := (h.blk i hi).cell j
theorem Held.frozen (h : Held w0 M X0 W L F) (i : Nat) {g : Nat} {t : TypeId} {cs : Array Value} (hi : L[i]? = some (.box g t cs)) (j : Nat) : W.frozen? ⟨g, j, none⟩ = false := (h.blk i hi).frozen j
theorem Held.lt (h : Held w0 M X0 W L F) (i : Nat) {g : Nat} {t : TypeId} {cs : Array Value} (hi : L[i]? = some (.box g t cs)) : g < W.heap.size := (h.blk i hi).lt
theorem Held.ge (h : Held w0 M X0 W L F) (i : Nat) {g : Nat} {t : TypeId} {cs : Array Value} (hi : L[i]? = some (.box g t cs)) : w0.heap.size ≤ g ∨ g ∈ M := ((h.ents _ (List.mem_of_getElem? hi)).2 g rfl).1
theorem Held.add (h : Held w0 M X0 W L F) (hk : Below W.heap.size W W') (x : Itm) (hx : x.ok W') (hg : ∀ g, x.blk = some g → W.heap.size ≤ g ∧ g < W'.heap.size) : Held w0 M X0 W' (x :: L) F := by
  have h' := h.on hk
  refine ⟨h'.same, h'.size, h'.block, h.given, h.xok, fun y hy => ?_, List.Pairwise.cons (fun y hy g e e' => ?_) h.apart, fun f hf => f.keep (f.more (h.facts f hf) (fun b hb hm => ?_)) (Keeps.of_below hk)⟩
  · rcases List.mem_cons.1 hy with rfl | hy
    · exact ⟨hx, fun g e => ⟨.inl (Nat.le_trans h.size (hg g e).1), (hg g e).2⟩⟩
    · exact h'.ents y hy
  · have h1 := (hg g e).1
    have h2 := ((h.ents y hy).2 g e').2
    omega
  · rcases List.mem_append.1 hm with hm | hm
    · obtain ⟨y, hy, e⟩ := mem_exs.1 hm
      rcases List.mem_cons.1 hy with rfl | hy
      · have := (hg b e).1; omega
      · exact List.mem_append_left _ (mem_exs.2 ⟨y, hy, e⟩)
    · exact List.mem_append_right _ hm
theorem Held.alloc (h : Held w0 M X0 W L F) (t : TypeId) (cs : Array Value) : Held w0 M X0 (W.alloc (.cells cs t)) (.box W.heap.size t cs :: L) F :=
  h.add ((Below.refl _ _).alloc (Nat.le_refl _) _) _ (Blk.new W t cs) (fun g e => by injection e with e; subst e; simp)
theorem Held.alloc_at (h : Held w0 M X0 W L F) (t : TypeId) (cs : Array Value) (g : Nat) (hg : W.heap.size = g) : Held w0 M X0 (W.alloc (.cells cs t)) (.box g t cs :: L) F := hg ▸ h.alloc t cs
theorem Held.alloc_off (h : Held w0 M X0 W L F) (o : Obj) : Held w0 M X0 (W.alloc o) L F := h.on ((Below.refl _ _).alloc (Nat.le_refl _) _)
theorem Held.turn (h : Held w0 M X0 W L F) (i : Nat) {x x' : Itm} (hi : L[i]? = some x) (hs : W.heap.size ≤ W'.heap.size) (ho : W'.os = W.os ∧ W'.tape = W.tape ∧ W'.output = W.output) (hb : ∀ b, b < W.heap.size → x.blk ≠ some b → W'.heap[b]? = W.heap[b]?) (hx : x'.ok W') (hg : ∀ g, x'.blk = some g → (x.blk = some g ∨ W.heap.size ≤ g) ∧ g < W'.heap.size) : Held w0 M X0 W' (L.set i x') F := by
  have hmem : ∀ y ∈ L.set i x', (y = x' ∨ ∃ j, j ≠ i ∧ L[j]? = some y) := by
    intro y hy
    obtain ⟨j, hj⟩ := List.mem_iff_getElem?.1 hy
    rw [List.getElem?_set] at hj
    by_cases hij : i = j
    · subst hij
      rw [if_pos rfl] at hj
      split at hj
      · injection hj with hj; exact .inl hj.symm
      · cases hj
    · rw [if_neg hij] at hj
      exact .inr ⟨j, fun e => hij e.symm, hj⟩
  have hne : ∀ j y, j ≠ i → L[j]? = some y → ∀ g, y.blk = some g → x.blk ≠ some g := by
    intro j y hj hy g e e'
    obtain ⟨hi', hxe⟩ := List.getElem?_eq_some_iff.1 hi
    obtain ⟨hj', hye⟩ := List.getElem?_eq_some_iff.1 hy
    rcases Nat.lt_or_ge i j with hlt | hge
    · exact List.pairwise_iff_getElem.1 h.apart i j hi' hj' hlt g (hxe ▸ e') (hye ▸ e)
    · exact List.pairwise_iff_getElem.1 h.apart j i hj' hi' (by omega) g (hye ▸ e) (hxe ▸ e')
  have hxl := h.ents x (List.mem_of_getElem? hi)
  refine ⟨⟨ho.1.trans h.same.1, ho.2.1.trans h.same.2.1, ho.2.2.trans h.same.2.2⟩, Nat.le_trans h.size hs, fun k hk hm => ?_, h.given, h.xok, fun y hy => ?_, ?_, fun f hf => ?_⟩
  · rw [hb k (Nat.lt_of_lt_of_le hk h.size) (fun e => by
      rcases (hxl.2 k e).1 with h1 | h1
      · omega
      · exact hm h1)]
    exact h.block k hk hm
  · rcases hmem y hy with rfl | ⟨j, hj, hy⟩
    · refine ⟨hx, fun g e => ⟨?_, (hg g e).2⟩⟩
      rcases (hg g e).1 with h1 | h1
      · exact (hxl.2 g h1).1
      · exact .inl (Nat.le_trans h.size h1)
    · have hyl := h.ents y (List.mem_of_getElem? hy)
      exact ⟨Itm.frame hyl.1 (fun g e => hb g (hyl.2 g e).2 (hne j y hj hy g e)), fun g e => ⟨(hyl.2 g e).1, Nat.lt_of_lt_of_le (hyl.2 g e).2 hs⟩⟩
  · rw [List.pairwise_iff_getElem]
    intro j k hj hk hjk g
    simp only [List.length_set] at hj hk
    have key : ∀ m y, m ≠ i → L[m]? = some y → ∀ g, x'.blk = some g → y.blk ≠ some g := by
      intro m y hm hy g e e'
      rcases (hg g e).1 with h1 | h1
      · exact hne m y hm hy g e' h1
      · have := ((h.ents y (List.mem_of_getElem? hy)).2 g e').2; omega
    have hjj := List.getElem?_eq_getElem hj
    have hkk := List.getElem?_eq_getElem hk
    rw [List.getElem_set, List.getElem_set]
    by_cases h1 : i = j
    · subst h1
      rw [if_pos rfl, if_neg (by omega)]
      exact key k _ (by omega) hkk g
    · rw [if_neg h1]
      by_cases h2 : i = k
      · subst h2
        rw [if_pos rfl]
        exact fun e e' => key j _ (by omega) hjj g e' e
      · rw [if_neg h2]
        exact List.pairwise_iff_getElem.1 h.apart j k hj hk hjk g
  · have hf1 := h.facts f hf
    have hf2 : f.p W' (Exs L ++ X0) := f.keep hf1 ⟨hs, fun b hb' hnx => hb b hb' (fun e => hnx (List.mem_append_left _ (mem_exs.2 ⟨x, List.mem_of_getElem? hi, e⟩)))⟩
    have hf3 : f.p W (Exs (L.set i x') ++ X0) ∨ True := .inr trivial
    clear hf3
    have hf4 : f.p W (Exs (L.set i x') ++ Exs L ++ X0) := f.more hf1 (fun b hb' hm => by
      rcases List.mem_append.1 hm with hm | hm
      · rcases List.mem_append.1 hm with hm | hm
        · obtain ⟨y, hy, e⟩ := mem_exs.1 hm
          rcases hmem y hy with rfl | ⟨j, _, hy⟩
          · rcases (hg b e).1 with h1 | h1
            · exact List.mem_append_left _ (mem_exs.2 ⟨x, List.mem_of_getElem? hi, h1⟩)
            · omega
          · exact List.mem_append_left _ (mem_exs.2 ⟨y, List.mem_of_getElem? hy, e⟩)
        · exact List.mem_append_left _ hm
      · exact List.mem_append_right _ hm)
    have hf5 : f.p W' (Exs (L.set i x') ++ Exs L ++ X0) := f.keep hf4 ⟨hs, fun b hb' hnx => hb b hb' (fun e => hnx (List.mem_append_left _ (List.mem_append_right _ (mem_exs.2 ⟨x, List.mem_of_getElem? hi, e⟩))))⟩
    exact f.more hf5 (fun b _ hm => by
      rcases List.mem_append.1 hm with hm | hm
      · exact List.mem_append_left _ (List.mem_append_left _ hm)
      · exact List.mem_append_right _ hm)
theorem Held.set_ (h : Held w0 M X0 W L F) (i : Nat) {g : Nat} {t : TypeId} {cs : Array Value} (hi : L[i]? = some (.box g t cs)) (o : Nat) (u : Value) : Held w0 M X0 (W.setCell ⟨g, o, none⟩ u) (L.set i (.box g t (cs.setIfInBounds o u))) F :=
  h.turn i hi (by simp [World.setCell]) ⟨rfl, rfl, rfl⟩ (fun b _ hne => Below.heap_setCell W _ u b (fun e => hne (by rw [e]; rfl))) ((h.blk i hi).set_ o u) (fun g' e => ⟨.inl e, by injection e with e; subst e; have := h.lt i hi; simpa [World.setCell] using this⟩)
theorem Held.appended (h : Held w0 M X0 W L F) (i : Nat) {e : TypeId} {size n n' : Nat} {v v' : Value} {xs xs' : List Value} {base : Nat} (hi : L[i]? = some (.row e size v n xs)) (hown : W'.ownsRow base e size v' n' xs') (hg : W.grownBy W' v.ownBlock) (hat : v'.ownBlock = v.ownBlock ∨ v'.ownBlock = some W.heap.size) : Held w0 M X0 W' (L.set i (.row e size v' n' xs')) F :=
  h.turn i hi hg.size ⟨hg.os, hg.tape, hg.output⟩ (fun b hb hne => hg.block b hb (fun e => hne e.symm)) (ownsRow_base hown (Nat.zero_le _)) (fun g e => ⟨by
    rcases hat with h1 | h1
    · exact .inl (h1.symm.trans e)
    · rw [show v'.ownBlock = some g from e] at h1; injection h1 with h1; exact .inr (by omega), (own_lt hown g e).2⟩)
theorem Held.row (h : Held w0 M X0 W L F) (i : Nat) {e : TypeId} {size n : Nat} {v : Value} {xs : List Value} (hi : L[i]? = some (.row e size v n xs)) : W.ownsRow 0 e size v n xs := h.ent i hi
theorem Held.new_row (h : Held w0 M X0 W L F) (hk : Below W.heap.size W W') {e : TypeId} {size n : Nat} {v : Value} {xs : List Value} (ho : W'.ownsRow W.heap.size e size v n xs) : Held w0 M X0 W' (.row e size v n xs :: L) F :=
  h.add hk _ (ownsRow_base ho (Nat.zero_le _)) (fun g e => own_lt ho g e)
theorem Held.nil_row (h : Held w0 M X0 W L F) (e : TypeId) (size : Nat) : Held w0 M X0 W (.row e size (.slice none 0 0) 0 [] :: L) F :=
  h.add (Below.refl _ _) _ ⟨by simp, .inl ⟨rfl, rfl⟩⟩ (fun g e => by cases e)
end
end
section
open Go.RowKit
structure Evt where
  q : Int
  a : Int
  k : Int
  cm : ByteArray
  x : Int
  y : Int
  z : Int
abbrev evA (ev : Evt) : Array Value := #[.int .i64 ev.q, .int .i64 ev.a, .int .i64 ev.k, .string ev.cm, .int .i64 ev.x, .int .i64 ev.y, .int .i64 ev.z]
def okE (e : Evt) : Prop := (Lit.int .i64 e.q).wf = true ∧ (Lit.int .i64 e.a).wf = true ∧ (Lit.int .i64 e.k).wf = true ∧ e.cm.size ≤ maxLen ∧ (Lit.int .i64 e.x).wf = true ∧ (Lit.int .i64 e.y).wf = true ∧ (Lit.int .i64 e.z).wf = true
theorem wf_i64 {n : Int} : (Lit.int .i64 n).wf = true ↔ -9223372036854775808 ≤ n ∧ n ≤ 9223372036854775807 := by
  unfold Lit.wf
  simp [IntKind.min, IntKind.max, IntKind.signed, IntKind.bits]
def evSh : Sh Evt := flatSh 7 (fun e => (evA e).toList) okE (fun _ => rfl) (by
  intro e u hu
  simp at hu
  rcases hu with rfl | rfl | rfl | rfl | rfl | rfl | rfl <;> rfl)
theorem add_pos (ad : Addr) (j : Nat) (h : 0 < j) : ad.add j = ⟨ad.block, ad.off + j, none⟩ := by
  unfold Addr.add
  rw [if_neg (by omega)]
theorem add_pos7 (ad : Addr) (i j : Nat) (h : 0 < j) : ad.add (i + j) = ⟨(ad.add i).block, (ad.add i).off + j, none⟩ := by
  rw [← add_of_add]
  generalize ad.add i = b
  unfold Addr.add
  rw [if_neg (by omega)]
theorem ev_at {w : World} {X : List Nat} {A : Option Addr} {n c i : Nat} {evs : List Evt} {e : Evt} (h : Sl evSh w X A n c evs) (hi : evs[i]? = some e) :
    ∃ ad : Addr, A = some ad ∧ ad.block < w.heap.size ∧ ad.block ∉ X ∧ okE e ∧ w.cell? (ad.add (i * 7)) = some (.int .i64 e.q) ∧ w.cell? ⟨(ad.add (i * 7)).block, (ad.add (i * 7)).off + 1, none⟩ = some (.int .i64 e.a) ∧ w.cell? ⟨(ad.add (i * 7)).block, (ad.add (i * 7)).off + 2, none⟩ = some (.int .i64 e.k) ∧ w.cell? ⟨(ad.add (i * 7)).block, (ad.add (i * 7)).off + 3, none⟩ = some (.string e.cm) ∧ w.cell? ⟨(ad.add (i * 7)).block, (ad.add (i * 7)).off + 4, none⟩ = some (.int .i64 e.x) ∧ w.cell? ⟨(ad.add (i * 7)).block, (ad.add (i * 7)).off + 5, none⟩ = some (.int .i64 e.y) ∧ w.cell? ⟨(ad.add (i * 7)).block, (ad.add (i * 7)).off + 6, none⟩ = some (.int .i64 e.z) := by
  obtain ⟨ad, r, rfl, hb, hx, ⟨rfl, ho⟩, hc⟩ := h.at_ hi
  have q : ∀ j u, 0 < j → (evA e).toList[j]? = some u → w.cell? ⟨(ad.add (i * 7)).block, (ad.add (i * 7)).off + j, none⟩ = some u := fun j u hj hu => by rw [← add_pos7 _ _ _ hj]; exact hc j u hu
  exact ⟨ad, rfl, hb, hx, ho, hc 0 _ rfl, q 1 _ (by omega) rfl, q 2 _ (by omega) rfl, q 3 _ (by omega) rfl, q 4 _ (by omega) rfl, q 5 _ (by omega) rfl, q 6 _ (by omega) rfl⟩
end
section
def manyE (k : Int) : Nat := if k < 1 ∨ 10 < k then 0 else if k = 2 then 3 else if k = 3 then 2 else 1
def bndE (k : Int) : (Int × Int) × (Int × Int) × (Int × Int) :=
  if k = 1 then ((1, 3), (0, 0), (0, 0)) else if k = 2 then ((0, 2147483647), (0, 2147483647), (0, 2147483647))
  else if k = 3 then ((0, 2), (0, 2147483647), (0, 0)) else if k = 4 then ((0, 2), (0, 0), (0, 0))
  else if k = 8 ∨ k = 10 then ((1, 2147483647), (0, 0), (0, 0)) else ((0, 2147483647), (0, 0), (0, 0))
def inB (n : Int) (b : Int × Int) : Bool := decide (b.1 ≤ n) && decide (n ≤ b.2)
def withinE (e : Evt) : Bool := inB e.x (bndE e.k).1 && inB e.y (bndE e.k).2.1 && inB e.z (bndE e.k).2.2
def namedE (s : ByteArray) : Bool := decide (1 ≤ s.size) && decide (s.size ≤ 24)
def chkE (e : Evt) : Int :=
  if manyE e.k = 0 then 2 else if namedE e.cm = false then 3 else if withinE e = false then 4
  else if e.a < 0 ∨ 1099511627776 < e.a then 5 else if e.q < 0 ∨ 4294967296 < e.q then 1 else 0
def numsE (e : Evt) : List Int := [e.x, e.y, e.z].take (manyE e.k)
def fillE (e : Evt) (l : List Int) : Evt := { e with x := l.getD 0 0, y := l.getD 1 0, z := l.getD 2 0 }
theorem chkE_ok {e : Evt} (h : chkE e = 0) : 1 ≤ e.k ∧ e.k ≤ 10 ∧ namedE e.cm = true ∧ withinE e = true ∧ 0 ≤ e.a ∧ e.a ≤ 1099511627776 ∧ 0 ≤ e.q ∧ e.q ≤ 4294967296 := by
  unfold chkE at h
  by_cases h1 : manyE e.k = 0
  · rw [if_pos h1] at h; omega
  rw [if_neg h1] at h
  have hk : 1 ≤ e.k ∧ e.k ≤ 10 := by
    unfold manyE at h1
    by_cases hk : e.k < 1 ∨ 10 < e.k
    · rw [if_pos hk] at h1; omega
    · omega
  by_cases h2 : namedE e.cm = false
  · rw [if_pos h2] at h; omega
  rw [if_neg h2] at h
  by_cases h3 : withinE e = false
  · rw [if_pos h3] at h; omega
  rw [if_neg h3] at h
  by_cases h4 : e.a < 0 ∨ 1099511627776 < e.a
  · rw [if_pos h4] at h; omega
  rw [if_neg h4] at h
  by_cases h5 : e.q < 0 ∨ 4294967296 < e.q
  · rw [if_pos h5] at h; omega
  exact ⟨hk.1, hk.2, by simpa using h2, by simpa using h3, by omega, by omega, by omega, by omega⟩
theorem inB_iff (n : Int) (b : Int × Int) : inB n b = true ↔ b.1 ≤ n ∧ n ≤ b.2 := by simp [inB]
theorem within_nums {e : Evt} (hk : 1 ≤ e.k ∧ e.k ≤ 10) (h : withinE e = true) : (0 ≤ e.x ∧ e.x ≤ 2147483647) ∧ (0 ≤ e.y ∧ e.y ≤ 2147483647) ∧ (0 ≤ e.z ∧ e.z ≤ 2147483647) ∧ (manyE e.k ≤ 1 → e.y = 0) ∧ (manyE e.k ≤ 2 → e.z = 0) := by
  unfold withinE at h
  rw [Bool.and_eq_true, Bool.and_eq_true, inB_iff, inB_iff, inB_iff] at h
  obtain ⟨⟨hx, hy⟩, hz⟩ := h
  unfold manyE
  rw [if_neg (by omega)]
  rcases (by omega : e.k = 1 ∨ e.k = 2 ∨ e.k = 3 ∨ e.k = 4 ∨ e.k = 8 ∨ e.k = 10 ∨ (e.k = 5 ∨ e.k = 6 ∨ e.k = 7 ∨ e.k = 9)) with hk | hk | hk | hk | hk | hk | (hk | hk | hk | hk) <;>
    (rw [hk] at hx hy hz ⊢; simp [bndE] at hx hy hz ⊢; omega)
end
section
set_option maxRecDepth 100000
def placeOf (l : List (List UInt8)) (s : List UInt8) : Nat := if s ∈ l then l.idxOf s + 1 else 0
def namedB (s : List UInt8) : Bool := decide (1 ≤ s.length ∧ s.length ≤ 24)
def rightB (l : List (List UInt8)) : Bool := decide (l.length ≤ 32 ∧ l.Nodup ∧ ∀ s ∈ l, namedB s = true)
theorem placeOf_le (l : List (List UInt8)) (s : List UInt8) : placeOf l s ≤ l.length := by
  unfold placeOf
  split
  · rename_i h; have := List.idxOf_lt_length_of_mem h; omega
  · omega
theorem placeOf_zero (l : List (List UInt8)) (s : List UInt8) : placeOf l s = 0 ↔ s ∉ l := by
  unfold placeOf; split <;> simp_all
theorem placeOf_append (l m : List (List UInt8)) (s : List UInt8) (h : placeOf l s ≠ 0) : placeOf (l ++ m) s = placeOf l s := by
  have hm : s ∈ l := by
    rcases Classical.em (s ∈ l) with h' | h'
    · exact h'
    · exact absurd ((placeOf_zero l s).2 h') h
  unfold placeOf
  rw [if_pos hm, if_pos (List.mem_append_left _ hm), List.idxOf_append, if_pos hm]
theorem placeOf_snoc_hit (l : List (List UInt8)) (s : List UInt8) (h : placeOf l s = 0) : placeOf (l ++ [s]) s = l.length + 1 := by
  have hm := (placeOf_zero l s).1 h
  unfold placeOf
  rw [if_pos (by simp), List.idxOf_append, if_neg hm]
  simp
theorem placeOf_snoc_miss (l : List (List UInt8)) (s x : List UInt8) (hx : x ≠ s) : placeOf (l ++ [x]) s = placeOf l s := by
  rcases Classical.em (s ∈ l) with h | h
  · exact placeOf_append l [x] s (fun e => (placeOf_zero l s).1 e h)
  · rw [(placeOf_zero l s).2 h, placeOf_zero]
    simp [h]
    exact fun e => hx e.symm
theorem nodup_snoc (l : List (List UInt8)) (s : List UInt8) : (l ++ [s]).Nodup ↔ l.Nodup ∧ s ∉ l := by
  rw [List.nodup_append]
  simp
  intro _
  constructor
  · intro h e; exact h s e rfl
  · rintro h a ha rfl; exact h ha
end
section
set_option maxRecDepth 100000
open Go.RowKit Go.Maps Go.WideMaps
def lists (ss : List ByteArray) : List (List UInt8) := ss.map (·.data.toList)
theorem lists_length (ss : List ByteArray) : (lists ss).length = ss.length := by simp [lists]
theorem lists_get (ss : List ByteArray) (k : Nat) (s : ByteArray) (h : ss[k]? = some s) : (lists ss)[k]? = some s.data.toList := by simp [lists, h]
theorem Reads.str_at {w : World} {B n k : Nat} {A : Option Addr} {ss : List ByteArray} (h : Reads w B 1 A n (ss.map Value.string)) (hk : k < n) : ∃ ad s, A = some ad ∧ ad.block < B ∧ ss[k]? = some s ∧ w.cell? (ad.add k) = some (.string s) := by
  obtain ⟨ad, u, rfl, hb, hx, hc⟩ := h.at_ hk
  obtain ⟨s, hs, rfl⟩ : ∃ s, ss[k]? = some s ∧ Value.string s = u := by simpa using hx
  exact ⟨ad, s, rfl, hb, hs, hc⟩
def MapIs (w : World) (b : Nat) (l : List (List UInt8)) : Prop :=
  ∃ D : DataW Unit, w.ownsMap Tryz.prog 9 (plainElem Tryz.prog 3) b l.length D ∧ (∀ s, Maps.has D (.string s) = decide (placeOf l s ≠ 0)) ∧
    (∀ s, D.atKey (.string s) (.lit (.int .i64 0)) = .lit (.int .i64 (placeOf l s))) ∧ Maps.size D ≤ l.length ∧ (Maps.size D = l.length ↔ l.Nodup)
theorem skeyed : Keyed Tryz.prog 9 := string_keyed Tryz.underlying9
theorem zeroInt (w : World) : (zeroValue 3).run Tryz.prog w = .ok (.int .i64 0) w := by kernel_rfl
theorem mapIs_made (w : World) : MapIs (w.alloc (.map #[] 0)) w.heap.size [] :=
  ⟨.map [], World.ownsMap_made _ _ _ _, fun s => by simp [Maps.has, placeOf], fun s => by simp [DataW.atKey, placeOf], by simp [Maps.size], by simp [Maps.size]⟩
theorem mapIs_old {w : World} {b : Nat} {l : List (List UInt8)} {s : List UInt8} (h : MapIs w b l) (hs : placeOf l s ≠ 0) : MapIs w b (l ++ [s]) := by
  obtain ⟨D, h1, h2, h3, h4, h5⟩ := h
  have hm : s ∈ l := by
    rcases Classical.em (s ∈ l) with h' | h'
    · exact h'
    · exact absurd ((placeOf_zero l s).2 h') hs
  have hp : ∀ x, placeOf (l ++ [s]) x = placeOf l x := by
    intro x
    rcases Classical.em (s = x) with rfl | hne
    · exact placeOf_append l [s] s hs
    · exact placeOf_snoc_miss l x s hne
  refine ⟨D, h1.mono (by simp), fun x => by rw [h2, hp], fun x => by rw [h3, hp], by simp; omega, ?_⟩
  rw [nodup_snoc]
  simp only [List.length_append, List.length_singleton]
  constructor
  · intro h; omega
  · rintro ⟨_, h⟩; exact absurd hm h
theorem mapIs_new {w' : World} {b : Nat} {l : List (List UInt8)} {s : List UInt8} {D : DataW Unit} (hs : placeOf l s = 0) (h2 : ∀ s, Maps.has D (.string s) = decide (placeOf l s ≠ 0))
    (h3 : ∀ s, D.atKey (.string s) (.lit (.int .i64 0)) = .lit (.int .i64 (placeOf l s))) (h4 : Maps.size D ≤ l.length) (h5 : Maps.size D = l.length ↔ l.Nodup) (ht : Maps.Tidy D)
    (ho : w'.ownsMap Tryz.prog 9 (plainElem Tryz.prog 3) b (l.length + 1) (D.put (.string s) (.lit (.int .i64 ((l.length : Int) + 1))))) : MapIs w' b (l ++ [s]) := by
  have hk : WideAt.IsKeyLit (.string s) := by simp [WideAt.IsKeyLit]
  have hnh : Maps.has D (.string s) = false := by rw [h2, hs]; rfl
  refine ⟨_, by simpa using ho, fun x => ?_, fun x => ?_, ?_, ?_⟩
  · rcases Classical.em (s = x) with rfl | hne
    · rw [Maps.has_put_same ht.isMap hk, placeOf_snoc_hit l s hs]; simp
    · rw [Maps.has_put_other (by simpa using fun e => hne e.symm), h2, placeOf_snoc_miss l x s hne]
  · rcases Classical.em (s = x) with rfl | hne
    · rw [Maps.atKey_put_same ht.isMap hk, placeOf_snoc_hit l s hs]; rfl
    · rw [Maps.atKey_put_other (by simpa using fun e => hne e.symm), h3, placeOf_snoc_miss l x s hne]
  · rw [Maps.size_put ht, hnh]; simp; omega
  · rw [Maps.size_put ht, hnh, nodup_snoc, ← h5]
    have := (placeOf_zero l s).1 hs
    simp [this]
theorem places_c (A : Option Addr) (n c B : Nat) (ss : List ByteArray) (w : World) (hr : Reads w B 1 A n (ss.map Value.string)) (hB : B ≤ w.heap.size) (hn : n ≤ 1000000) (hsz : ∀ s ∈ ss, s.size ≤ maxLen) :
    Calls Tryz.prog 241 #[.slice A n c] w fun e w' => e = .returned (.map (some w.heap.size)) ∧ MapIs w' w.heap.size (lists ss) ∧ Below w.heap.size w w' := by
  have hl : ss.length = n := by simpa using hr.1
  have HL := Lib.hid hl; clear hl
  have hmm := fun W => run_makeMap_hint (P := Tryz.prog) 313 9 3 .i64 (n : Int) Tryz.underlying313 W
  go_enter Tryz.func241, Tryz.ntmps241
  go_wp2
  clear hmm
  go_loopw [13] (fun i wr => ∃ k : Nat, k ≤ n ∧ i = .int .i64 k ∧ MapIs wr w.heap.size ((lists ss).take k) ∧ Below w.heap.size w wr) (fun i _ => n - (intOf i).toNat)
  case atStart => exact ⟨0, Nat.zero_le _, rfl, mapIs_made w, (Below.refl _ _).alloc (Nat.le_refl _) _⟩
  case round =>
    obtain ⟨k, hk, rfl, hmap, hbr⟩ := hrel
    by_cases hlt : k < n
    · have hrr := (hr.more hB).below hbr
      obtain ⟨ad, s, rfl, hb, hx, hc⟩ := hrr.str_at hlt
      have hs := hsz s (List.mem_of_getElem? hx)
      have HX := Lib.hid (show (lists ss).take (k + 1) = (lists ss).take k ++ [s.data.toList] by rw [List.take_add_one, lists_get ss k s hx]; rfl)
      have HK : Hid (((lists ss).take k).length = k) := by rw [List.length_take, lists_length, HL.out]; show min k n = k; omega
      have hkey : keyOf Tryz.prog 9 (.string s) = some (.string s.data.toList) := keyOf_string_mk Tryz.underlying9 hs
      have HKey := Lib.hid hkey
      clear hx hrr hkey hr
      by_cases h0 : placeOf ((lists ss).take k) s.data.toList = 0
      · obtain ⟨D, h1, h2, h3, h4, h5⟩ := hmap
        have HN := fun (w' : World) => Lib.hid (mapIs_new (w' := w') (b := w.heap.size) h0 h2 h3 h4 h5 (h1.tidy skeyed))
        have hh : Maps.has D (.string s.data.toList) = false := by rw [h2, h0]; rfl
        have H1 := Lib.hid h1
        clear h0 h2 h3 h4 h5 h1
        go_wp2_with (first
          | (at_lookup; go_must (refine wpList_lookup_own_ok_int _ rfl _ _ 313 rfl 9 3 .i64 skeyed Tryz.underlying313 Tryz.underlying3 (zeroInt _) w.heap.size _ D rfl H1.out _ _ rfl HKey.out ?_); intro cc hat hwc; clear hat)
          | (at_mapUpdate; go_must (refine wpList_mapUpdate_own _ rfl _ _ _ 313 rfl 9 3 skeyed Tryz.underlying313 _ w.heap.size _ _ rfl H1.out (by rw [HK.out]; unfold maxLen; omega) _ _ _ rfl rfl HKey.out _ [] (plainElem_int Tryz.underlying3 (WalkArith.wf_i64 (by omega))) ?_); intro w1 hown1 hg1))
        go_roundw
        case rel =>
          refine ⟨k + 1, by omega, by go_num, ?_, hbr.grown hg1 hbr.size (fun j hj => by cases hj; exact Nat.le_refl _)⟩
          rw [HX.out]
          refine (HN w1).out ?_
          rw [HK.out]
          rw [HK.out] at hown1
          exact hown1
        case measure => simp [intOf]; omega
      · have HO : Hid (MapIs wr w.heap.size ((lists ss).take k ++ [s.data.toList])) := mapIs_old hmap h0
        obtain ⟨D, h1, h2, _⟩ := hmap
        have hh : Maps.has D (.string s.data.toList) = true := by rw [h2]; simpa using h0
        have H1 := Lib.hid h1
        clear h0 h2 h1
        go_wp2_with (first
          | (at_lookup; go_must (refine wpList_lookup_own_ok_int _ rfl _ _ 313 rfl 9 3 .i64 skeyed Tryz.underlying313 Tryz.underlying3 (zeroInt _) w.heap.size _ D rfl H1.out _ _ rfl HKey.out ?_); intro cc hat hwc; clear hat))
        go_roundw
        case rel => exact ⟨k + 1, by omega, by go_num, by rw [HX.out]; exact HO.out, hbr⟩
        case measure => simp [intOf]; omega
    · have HT := Lib.hid (List.take_of_length_le (l := lists ss) (i := k) (by rw [lists_length, HL.out]; omega))
      go_wp2
      go_ret
      exact ⟨rfl, by rw [← HT.out]; exact hmap, hbr⟩
end
section
set_option maxRecDepth 100000
def firstIdx {α : Type} (p : α → Bool) : List α → Int
  | [] => -1
  | x :: l => if p x then 0 else if firstIdx p l < 0 then -1 else firstIdx p l + 1
theorem firstIdx_ge {α : Type} (p : α → Bool) (l : List α) : -1 ≤ firstIdx p l := by
  induction l with
  | nil => simp [firstIdx]
  | cons x l ih => unfold firstIdx; split <;> (try split) <;> omega
theorem firstIdx_none {α : Type} (p : α → Bool) (l : List α) (h : ∀ (j : Nat) x, l[j]? = some x → p x = false) : firstIdx p l = -1 := by
  induction l with
  | nil => rfl
  | cons x l ih =>
    have h0 := h 0 x rfl
    have h1 := ih (fun j y hy => h (j + 1) y (by simpa using hy))
    unfold firstIdx
    rw [h0, h1]
    simp
theorem firstIdx_hit {α : Type} (p : α → Bool) (l : List α) (k : Nat) (x : α) (h : ∀ (j : Nat) y, j < k → l[j]? = some y → p y = false) (hk : l[k]? = some x) (hx : p x = true) : firstIdx p l = k := by
  induction l generalizing k with
  | nil => simp at hk
  | cons y l ih =>
    cases k with
    | zero =>
      simp at hk
      subst hk
      unfold firstIdx
      rw [hx]; simp
    | succ k =>
      have h0 := h 0 y (by omega) rfl
      have h1 := ih k (fun j z hj hz => h (j + 1) z (by omega) (by simpa using hz)) (by simpa using hk)
      unfold firstIdx
      rw [h0, h1]
      simp
      omega
theorem firstIdx_any {α : Type} (p : α → Bool) (l : List α) : decide (0 ≤ firstIdx p l) = l.any p := by
  induction l with
  | nil => rfl
  | cons x l ih =>
    have := firstIdx_ge p l
    unfold firstIdx
    rw [List.any_cons, ← ih]
    cases p x
    · rw [if_neg (by decide), Bool.false_or]
      by_cases h : firstIdx p l < 0
      · rw [if_pos h, decide_eq_decide]; omega
      · rw [if_neg h, decide_eq_decide]; omega
    · simp
theorem firstIdx_at {α : Type} (p : α → Bool) (l : List α) (k : Nat) (h : firstIdx p l = k) : ∃ x, l[k]? = some x ∧ p x = true ∧ ∀ (j : Nat) y, j < k → l[j]? = some y → p y = false := by
  induction l generalizing k with
  | nil => unfold firstIdx at h; omega
  | cons y l ih =>
    unfold firstIdx at h
    split at h
    · rename_i hy
      obtain rfl : k = 0 := by omega
      exact ⟨y, rfl, hy, fun j z hj => by omega⟩
    · rename_i hy
      split at h
      · omega
      · obtain ⟨k', rfl⟩ : ∃ k', k = k' + 1 := ⟨k - 1, by omega⟩
        obtain ⟨x, h1, h2, h3⟩ := ih k' (by omega)
        refine ⟨x, by simpa using h1, h2, fun j z hj hz => ?_⟩
        cases j with
        | zero => simp at hz; subst hz; simpa using hy
        | succ j => exact h3 j z (by omega) (by simpa using hz)
end
section
set_option maxRecDepth 100000
open Go.RowKit Go.Maps Go.WideMaps
theorem ret_b {a b : Bool} (h : a = b) : Ending.returned (.bool a) = .returned (.bool b) := by rw [h]
theorem ret_i {k : IntKind} {a b : Int} (h : a = b) : Ending.returned (.int k a) = .returned (.int k b) := by rw [h]
theorem Named_c (s : ByteArray) (w : World) (hs : s.size ≤ maxLen) : Calls Tryz.prog 58 #[.string s] w fun e w' => e = .returned (.bool (namedB s.data.toList)) ∧ w = w' := by
  unfold maxLen at hs
  have hl : s.data.toList.length = s.size := rfl
  have HL := Lib.hid hl; clear hl
  go_enter Tryz.func58, Tryz.ntmps58
  go_wp2
  all_goals
    go_ret
    refine ⟨ret_b ?_, rfl⟩
    unfold namedB
    rw [HL.out]
    first | (rw [Bool.eq_iff_iff]; simp; omega) | (simp; omega)
theorem Place_c (A : Option Addr) (n c B : Nat) (ss : List ByteArray) (s : ByteArray) (w : World) (hr : Reads w B 1 A n (ss.map Value.string)) (hB : B ≤ w.heap.size) (hn : n ≤ 1000000) (hsz : ∀ s ∈ ss, s.size ≤ maxLen) (hs : s.size ≤ maxLen) :
    Calls Tryz.prog 192 #[.slice A n c, .string s] w fun e w' => e = .returned (.int .i64 (placeOf (lists ss) s.data.toList)) ∧ Below w.heap.size w w' := by
  have HKey := Lib.hid (show keyOf Tryz.prog 9 (.string s) = some (.string s.data.toList) from keyOf_string_mk Tryz.underlying9 hs)
  have HP := fun W => Lib.hid (places_c A n c B ss W)
  go_enter Tryz.func192, Tryz.ntmps192
  go_wp2_with fail
  refine ((HP _).out hr hB hn hsz).mono ?_
  rintro e w1 ⟨rfl, hm, hb⟩
  obtain ⟨D, h1, h2, h3, _⟩ := hm
  have H3 := Lib.hid (h3 s.data.toList)
  have H1 := Lib.hid h1
  clear h1 h2 h3
  go_wp2_with (at_lookup; go_must (refine wpList_lookup_own_int _ rfl _ _ 313 rfl 9 3 .i64 skeyed Tryz.underlying313 Tryz.underlying3 (zeroInt _) w.heap.size _ D rfl H1.out _ _ rfl HKey.out ?_); intro cc hat hwc; have HC := Lib.hid hat; clear hat)
  go_ret
  refine ⟨ret_i ?_, hb⟩
  have := H3.out.symm.trans HC.out
  injection this with this
  injection this with _ this
  exact this.symm
end
section
set_option maxRecDepth 100000
open Go.RowKit
theorem Many_c (k : Int) (w : World) : Calls Tryz.prog 57 #[.int .i64 k] w fun e w' => e = .returned (.int .i64 (manyE k)) ∧ w = w' := by
  by_cases h1 : k < 1
  · go_enter Tryz.func57, Tryz.ntmps57
    go_wp2
    go_ret
    exact ⟨ret_i (by unfold manyE; rw [if_pos (.inl h1)]; rfl), rfl⟩
  by_cases h2 : 10 < k
  · go_enter Tryz.func57, Tryz.ntmps57
    go_wp2
    go_ret
    exact ⟨ret_i (by unfold manyE; rw [if_pos (.inr h2)]; rfl), rfl⟩
  by_cases h3 : k = 2
  · subst h3
    go_enter Tryz.func57, Tryz.ntmps57
    go_wp2
    go_ret
    exact ⟨rfl, rfl⟩
  by_cases h4 : k = 3
  · subst h4
    go_enter Tryz.func57, Tryz.ntmps57
    go_wp2
    go_ret
    exact ⟨rfl, rfl⟩
  have b2 : (k == 2) = false := by rw [beq_eq_false_iff_ne]; exact h3
  have b3 : (k == 3) = false := by rw [beq_eq_false_iff_ne]; exact h4
  have HE := Lib.hid (show manyE k = 1 from by unfold manyE; rw [if_neg (by omega), if_neg h3, if_neg h4])
  clear h3 h4
  go_enter Tryz.func57, Tryz.ntmps57
  go_wp2
  go_ret
  exact ⟨ret_i (by rw [HE.out]; rfl), rfl⟩
def someB (n : Int) : Bool := decide (0 ≤ n) && decide (n ≤ 2147483647)
theorem some_c (n : Int) (w : World) : Calls Tryz.prog 124 #[.int .i64 n] w fun e w' => e = .returned (.bool (someB n)) ∧ w = w' := by
  by_cases h1 : 0 ≤ n
  · go_enter Tryz.func124, Tryz.ntmps124
    go_wp2
    go_ret
    exact ⟨ret_b (by unfold someB; rw [decide_eq_true h1]; simp), rfl⟩
  · have h2 : n < 0 := by omega
    go_enter Tryz.func124, Tryz.ntmps124
    go_wp2
    go_ret
    exact ⟨ret_b (by unfold someB; rw [decide_eq_false (by omega)]; rfl), rfl⟩
end
section
set_option maxRecDepth 100000
open Go.RowKit
abbrev bndA (b : (Int × Int) × (Int × Int) × (Int × Int)) : Array Value := #[.int .i64 b.1.1, .int .i64 b.1.2, .int .i64 b.2.1.1, .int .i64 b.2.1.2, .int .i64 b.2.2.1, .int .i64 b.2.2.2]
theorem bounds_c (k : Int) (w : World) : Calls Tryz.prog 123 #[.int .i64 k] w fun e w' => e = .returned (.agg (bndA (bndE k))) ∧ Below w.heap.size w w' := by
  by_cases hk : k = 1 ∨ k = 2 ∨ k = 3 ∨ k = 4 ∨ k = 8 ∨ k = 10
  · rcases hk with rfl | rfl | rfl | rfl | rfl | rfl <;>
    (go_enter Tryz.func123, Tryz.ntmps123
     go_wp2
     refine bodyPost_ret (v := .agg #[_, _, _, _, _, _]) (by simp [results, Tryz.results123, go_sem]; exact ⟨rfl, rfl, rfl, rfl, rfl, rfl⟩) rfl ⟨rfl, ?_⟩
     (repeat (first | exact Below.refl _ _ | refine Below.setCell ?_ (by simp) _ | refine Below.alloc ?_ (by simp) _)))
  · have n1 : (k == 1) = false := by rw [beq_eq_false_iff_ne]; omega
    have n2 : (k == 2) = false := by rw [beq_eq_false_iff_ne]; omega
    have n3 : (k == 3) = false := by rw [beq_eq_false_iff_ne]; omega
    have n4 : (k == 4) = false := by rw [beq_eq_false_iff_ne]; omega
    have n8 : (k == 8) = false := by rw [beq_eq_false_iff_ne]; omega
    have n10 : (k == 10) = false := by rw [beq_eq_false_iff_ne]; omega
    have HE := Lib.hid (show bndE k = ((0, 2147483647), (0, 0), (0, 0)) from by unfold bndE; rw [if_neg (by omega), if_neg (by omega), if_neg (by omega), if_neg (by omega), if_neg (by omega)])
    clear hk
    go_enter Tryz.func123, Tryz.ntmps123
    go_wp2
    rw [HE.out]
    refine bodyPost_ret (v := .agg #[_, _, _, _, _, _]) (by simp [results, Tryz.results123, go_sem]) rfl ⟨rfl, ?_⟩
    (repeat (first | exact Below.refl _ _ | refine Below.setCell ?_ (by simp) _ | refine Below.alloc ?_ (by simp) _))
theorem idxB (b1 b2 b3 b4 b5 b6 : Int) (w : World) :
    (Instr.index 207 (.agg #[.int .i64 b1, .int .i64 b2, .int .i64 b3, .int .i64 b4, .int .i64 b5, .int .i64 b6]) (.int .i64 0)).run Tryz.prog w = .ok (.agg #[.int .i64 b1, .int .i64 b2]) w ∧
    (Instr.index 207 (.agg #[.int .i64 b1, .int .i64 b2, .int .i64 b3, .int .i64 b4, .int .i64 b5, .int .i64 b6]) (.int .i64 1)).run Tryz.prog w = .ok (.agg #[.int .i64 b3, .int .i64 b4]) w ∧
    (Instr.index 207 (.agg #[.int .i64 b1, .int .i64 b2, .int .i64 b3, .int .i64 b4, .int .i64 b5, .int .i64 b6]) (.int .i64 2)).run Tryz.prog w = .ok (.agg #[.int .i64 b5, .int .i64 b6]) w := ⟨by kernel_rfl, by kernel_rfl, by kernel_rfl⟩
set_option maxHeartbeats 4000000 in
theorem within_c (e0 : Evt) (w : World) : Calls Tryz.prog 59 #[.agg (evA e0)] w fun e w' => e = .returned (.bool (withinE e0)) ∧ Below w.heap.size w w' := by
  have HE := Lib.hid (show withinE e0 = ((decide ((bndE e0.k).1.1 ≤ e0.x) && decide (e0.x ≤ (bndE e0.k).1.2)) && (decide ((bndE e0.k).2.1.1 ≤ e0.y) && decide (e0.y ≤ (bndE e0.k).2.1.2)) && (decide ((bndE e0.k).2.2.1 ≤ e0.z) && decide (e0.z ≤ (bndE e0.k).2.2.2))) from rfl)
  have HB := fun W => Lib.hid (bounds_c e0.k W)
  obtain ⟨q, a, k, cm, x, y, z⟩ := e0
  simp only at HE HB
  generalize withinE _ = r at HE
  generalize bndE k = b at HE HB
  obtain ⟨⟨b1, b2⟩, ⟨b3, b4⟩, ⟨b5, b6⟩⟩ := b
  simp only at HE HB
  go_enter Tryz.func59, Tryz.ntmps59
  go_wp2_with fail
  refine ((HB _).out).mono ?_
  rintro e w1 ⟨rfl, hb⟩
  have HK := Lib.hid hb
  dsimp only [bndA]
  have hi0 := fun W => (idxB b1 b2 b3 b4 b5 b6 W).1
  have hi1 := fun W => (idxB b1 b2 b3 b4 b5 b6 W).2.1
  have hi2 := fun W => (idxB b1 b2 b3 b4 b5 b6 W).2.2
  have c0 : w1.cell? ⟨w.heap.size + 1, 0, none⟩ = some (.int .i64 x) := by rw [hb.cell (by simp)]; simp [go_sem]
  have c1 : w1.cell? ⟨w.heap.size + 1, 1, none⟩ = some (.int .i64 y) := by rw [hb.cell (by simp)]; simp [go_sem]
  have c2 : w1.cell? ⟨w.heap.size + 1, 2, none⟩ = some (.int .i64 z) := by rw [hb.cell (by simp)]; simp [go_sem]
  have hs := hb.size
  simp at hs
  have hz : w.heap.size + 1 < w1.heap.size := by omega
  have hz1 : w.heap.size < w1.heap.size := by omega
  have hz2 : w.heap.size < w1.heap.size + 1 := by omega
  have hz3 : w.heap.size + 1 < w1.heap.size + 2 := by omega
  have HK := Lib.hid (((Below.refl w.heap.size w).alloc (Nat.le_refl _) (.cells #[.int .i64 q, .int .i64 a, .int .i64 k, .string cm, .int .i64 x, .int .i64 y, .int .i64 z] 44)).alloc (by simp) (.cells #[.int .i64 x, .int .i64 y, .int .i64 z] 93) |>.trans (hb.mono (by simp; omega)))
  clear hb
  go_wp2_with fail
  refine wp_loop_rounds 4 ?_
  by_cases h0 : x < b1
  · skip
    rw [rounds_succ]
    go_wp2
    go_quiet (fail)
    go_wp2
    go_ret
    refine ⟨ret_b ?_, ?_⟩
    · rw [HE.out]; rw [show decide (b1 ≤ x) = false from decide_eq_false (by omega)]; simp
    · (repeat (first | refine below_drewN ?_ _ | refine Below.setCell ?_ (by first | omega | (simp; omega)) _ | refine Below.alloc ?_ (by first | omega | (simp; omega)) _ | exact HK.out))
  by_cases h1 : b2 < x
  · skip
    rw [rounds_succ]
    go_wp2
    go_quiet (fail)
    go_wp2
    go_ret
    refine ⟨ret_b ?_, ?_⟩
    · rw [HE.out]; rw [show decide (x ≤ b2) = false from decide_eq_false (by omega)]; simp
    · (repeat (first | refine below_drewN ?_ _ | refine Below.setCell ?_ (by first | omega | (simp; omega)) _ | refine Below.alloc ?_ (by first | omega | (simp; omega)) _ | exact HK.out))
  rw [rounds_succ]
  go_wp2
  go_quiet (fail)
  go_wp2
  by_cases h2 : y < b3
  · skip
    rw [rounds_succ]
    go_wp2
    go_quiet (fail)
    go_wp2
    go_ret
    refine ⟨ret_b ?_, ?_⟩
    · rw [HE.out]; rw [show decide (b3 ≤ y) = false from decide_eq_false (by omega)]; simp
    · (repeat (first | refine below_drewN ?_ _ | refine Below.setCell ?_ (by first | omega | (simp; omega)) _ | refine Below.alloc ?_ (by first | omega | (simp; omega)) _ | exact HK.out))
  by_cases h3 : b4 < y
  · skip
    rw [rounds_succ]
    go_wp2
    go_quiet (fail)
    go_wp2
    go_ret
    refine ⟨ret_b ?_, ?_⟩
    · rw [HE.out]; rw [show decide (y ≤ b4) = false from decide_eq_false (by omega)]; simp
    · (repeat (first | refine below_drewN ?_ _ | refine Below.setCell ?_ (by first | omega | (simp; omega)) _ | refine Below.alloc ?_ (by first | omega | (simp; omega)) _ | exact HK.out))
  rw [rounds_succ]
  go_wp2
  go_quiet (fail)
  go_wp2
  by_cases h4 : z < b5
  · skip
    rw [rounds_succ]
    go_wp2
    go_quiet (fail)
    go_wp2
    go_ret
    refine ⟨ret_b ?_, ?_⟩
    · rw [HE.out]; rw [show decide (b5 ≤ z) = false from decide_eq_false (by omega)]; simp
    · (repeat (first | refine below_drewN ?_ _ | refine Below.setCell ?_ (by first | omega | (simp; omega)) _ | refine Below.alloc ?_ (by first | omega | (simp; omega)) _ | exact HK.out))
  by_cases h5 : b6 < z
  · skip
    rw [rounds_succ]
    go_wp2
    go_quiet (fail)
    go_wp2
    go_ret
    refine ⟨ret_b ?_, ?_⟩
    · rw [HE.out]; rw [show decide (z ≤ b6) = false from decide_eq_false (by omega)]; simp
    · (repeat (first | refine below_drewN ?_ _ | refine Below.setCell ?_ (by first | omega | (simp; omega)) _ | refine Below.alloc ?_ (by first | omega | (simp; omega)) _ | exact HK.out))
  rw [rounds_succ]
  go_wp2
  go_quiet (fail)
  go_wp2
  rw [rounds_succ]
  go_wp2
  go_ret
  refine ⟨ret_b ?_, ?_⟩
  · rw [HE.out]; simp; omega
  · (repeat (first | refine below_drewN ?_ _ | refine Below.setCell ?_ (by first | omega | (simp; omega)) _ | refine Below.alloc ?_ (by first | omega | (simp; omega)) _ | exact HK.out))
end
section
set_option maxRecDepth 100000
open Go.RowKit
def byteCells (bs : List UInt8) : List Value := bs.map (fun x => Value.int .u8 (x.toNat : Int))
def natB (bs : List UInt8) : List Nat := bs.map UInt8.toNat
theorem natB_lt (bs : List UInt8) : ∀ x ∈ natB bs, x < 256 := by
  intro x hx
  obtain ⟨b, _, rfl⟩ := List.mem_map.1 hx
  exact b.toNat_lt
theorem natB_append (a b : List UInt8) : natB (a ++ b) = natB a ++ natB b := by simp [natB]
theorem natB_take (a : List UInt8) (k : Nat) : natB (a.take k) = (natB a).take k := by simp [natB]
theorem natB_length (a : List UInt8) : (natB a).length = a.length := by simp [natB]
theorem natB_inj {a b : List UInt8} (h : natB a = natB b) : a = b := by
  induction a generalizing b with
  | nil => cases b with
    | nil => rfl
    | cons y b => simp [natB] at h
  | cons x a ih => cases b with
    | nil => simp [natB] at h
    | cons y b =>
      simp only [natB, List.map_cons, List.cons.injEq] at h
      rw [UInt8.toNat_inj.1 h.1, ih h.2]
theorem byteCells_append (a b : List UInt8) : byteCells (a ++ b) = byteCells a ++ byteCells b := by simp [byteCells]
theorem byteCells_one (bs : List UInt8) : ∀ u ∈ byteCells bs, u.oneCell' = true := by
  intro u hu
  obtain ⟨s, _, rfl⟩ := List.mem_map.1 hu
  rfl
theorem byteCells_take (bs : List UInt8) (k : Nat) : byteCells (bs.take k) = (byteCells bs).take k := by simp [byteCells]
theorem byteCells_drop (bs : List UInt8) (k : Nat) : byteCells (bs.drop k) = (byteCells bs).drop k := by simp [byteCells]
theorem bytes_of_ints (zs : List Int) (h : ∀ z ∈ zs, (Lit.int .u8 z).wf = true) : ∃ bs : List UInt8, zs.map (Value.int .u8) = byteCells bs := by
  refine ⟨zs.map (fun z => UInt8.ofNat z.toNat), ?_⟩
  unfold byteCells
  rw [List.map_map]
  refine List.map_congr_left (fun z hz => ?_)
  have hb := bounds_u8 (h z hz)
  simp only [Function.comp, UInt8.toNat_ofNat']
  congr 1
  omega
theorem bytesArg {w : World} {A : Option Addr} {n c : Nat} {zs : List Int} (h : IntArg .u8 w A n c zs) : ∃ bs : List UInt8, Reads w w.heap.size 1 A n (byteCells bs) ∧ n ≤ c ∧ c ≤ maxLen ∧ (A = none → c = 0) := by
  obtain ⟨h1, h2, h3, h4, h5⟩ := h
  obtain ⟨bs, hb⟩ := bytes_of_ints zs h5
  exact ⟨bs, hb ▸ h1, h2, h3, h4⟩
theorem Reads.byte_at {w : World} {B n k : Nat} {A : Option Addr} {bs : List UInt8} (h : Reads w B 1 A n (byteCells bs)) (hk : k < n) : ∃ ad x, A = some ad ∧ ad.block < B ∧ bs[k]? = some x ∧ w.cell? (ad.add k) = some (.int .u8 (x.toNat : Int)) := by
  obtain ⟨ad, u, rfl, hb, hx, hc⟩ := h.at_ hk
  obtain ⟨s, hs, rfl⟩ : ∃ s, bs[k]? = some s ∧ Value.int .u8 (s.toNat : Int) = u := by simpa [byteCells] using hx
  exact ⟨ad, s, rfl, hb, hs, hc⟩
theorem Reads.preB {w : World} {B n k : Nat} {A : Option Addr} {bs : List UInt8} (h : Reads w B 1 A n (byteCells bs)) (hk : k ≤ n) : Reads w B 1 A k (byteCells (bs.take k)) := by
  have hl : bs.length = n := by simpa [byteCells] using h.1
  refine ⟨by simp [byteCells]; omega, fun hk0 => ?_⟩
  obtain ⟨ad, rfl, hb, hc⟩ := h.2 (by omega)
  refine ⟨ad, rfl, hb, fun j u hu => hc j u ?_⟩
  rw [byteCells_take, List.getElem?_take] at hu
  split at hu
  · exact hu
  · cases hu
theorem Reads.sufB {w : World} {B n k cap : Nat} {A : Option Addr} {bs : List UInt8} (h : Reads w B 1 A n (byteCells bs)) (hk : k ≤ n) (hc : n ≤ cap) : Reads w B 1 (if cap = k then A else A.map (·.add k)) (n - k) (byteCells (bs.drop k)) := by
  have := h.cut (k := k) (cap := cap) hk hc
  rw [byteCells_drop]
  simpa using this
theorem Reads.lenB {w : World} {B n : Nat} {A : Option Addr} {bs : List UInt8} (h : Reads w B 1 A n (byteCells bs)) : bs.length = n := by simpa [byteCells] using h.1
theorem conv_reads {w : World} {B n : Nat} {A : Option Addr} {bs : List UInt8} (h : Reads w B 1 A n (byteCells bs)) (c : Nat) : (convert 50 9 (.slice A n c)).run Tryz.prog w = .ok (.string ⟨bs.toArray⟩) w := by
  have hl := h.lenB
  rcases A with _ | ad
  · have hn : n = 0 := by
      rcases Nat.eq_zero_or_pos n with h0 | h0
      · exact h0
      · obtain ⟨_, e, _⟩ := h.2 h0; cases e
    subst hn
    have : bs = [] := List.eq_nil_of_length_eq_zero hl
    subst this
    exact Lib.run_convert_nil_bytes w _ _ _ c Tryz.underlying50 Tryz.underlying5 Tryz.underlying9
  · subst hl
    refine run_convert_bytes_back w _ _ _ ad c bs Tryz.underlying50 Tryz.underlying5 Tryz.underlying9 (fun j hj => ?_)
    obtain ⟨ad', e, _, hc⟩ := h.2 (by omega)
    cases e
    exact hc j _ (by simp [byteCells, List.getElem?_eq_getElem hj])
theorem Tryz.infoU8 : (Tryz.prog.info? 5).map (fun i => (i.zero, i.size, i.bytes)) = some (some (.int .u8 0), 1, 1) := by kernel_rfl
theorem CloneB_c (A : Option Addr) (n c B : Nat) (bs : List UInt8) (w : World) (hr : Reads w B 1 A n (byteCells bs)) (hB : B ≤ w.heap.size) (hn : n ≤ 1000000) :
    Calls Tryz.prog 226 #[.slice A n c] w fun e w' => ∃ v, e = .returned v ∧ w'.ownsRow w.heap.size 5 1 v n (byteCells bs) ∧ Below w.heap.size w w' := by
  have q : ∀ (w : World) (a : Option Addr) (n c n' c' : Nat), (binOp .eql 50 (.slice a n c) (.slice none n' c')).run Tryz.prog w = .ok (.bool a.isNone) w := fun w a n c n' c' => Lib.run_eql_slice_nil w _ _ a n c n' c' Tryz.underlying50
  obtain ⟨i0, hi0, hz0, hz1, hz2⟩ := info_parts Tryz.infoU8
  rcases A with _ | ad
  · have hn0 : n = 0 := by
      rcases Nat.eq_zero_or_pos n with h | h
      · exact h
      · obtain ⟨_, h, _⟩ := hr.2 h; cases h
    subst hn0
    have hs : byteCells bs = [] := List.eq_nil_of_length_eq_zero (by simpa using hr.1)
    have HS := Lib.hid hs; clear hs hr
    go_enter Tryz.func226, Tryz.ntmps226
    go_wp2
    go_ret
    exact ⟨_, rfl, ⟨by rw [HS.out]; rfl, .inl ⟨rfl, rfl⟩⟩, Below.refl _ _⟩
  · have HR := Lib.hid hr; clear hr
    go_enter Tryz.func226, Tryz.ntmps226
    go_wp2_with (at_builtin; go_must (refine wpList_append_any _ rfl _ _ 50 rfl w.heap.size 5 i0 _ 1 1 Tryz.underlying50 hi0 hz0 hz1 hz2 rfl (by omega) _ 0 [] rfl (own_empty w 5 w.heap.size (Nat.le_refl _) 1) B (some ad) n c _ rfl (HR.out.alloc hB _) (byteCells_one bs) (by unfold maxLen; omega) (by omega) (by simp) ?_); intro v1 w1 hown1 hg1 hat1)
    go_ret
    exact ⟨v1, rfl, by simpa using hown1, below_own ((Below.refl _ _).alloc (Nat.le_refl _) _) hg1 (own_empty w 5 w.heap.size (Nat.le_refl _) 1) (Nat.le_refl _) (by simp)⟩
end
section
set_option maxRecDepth 100000
def uenc (n : Nat) : List Nat := if n < 128 then [n] else (n % 128 + 128) :: uenc (n / 128)
termination_by n
decreasing_by omega
def uread (i : Nat) : List Nat → Nat × Nat × Nat
  | [] => if 10 ≤ i then (11, 0, 0) else (10, 0, 0)
  | x :: l => if 10 ≤ i then (11, 0, 0) else
    if 128 ≤ x then (if (uread (i + 1) l).1 = 0 then (0, x - 128 + 128 * (uread (i + 1) l).2.1, (uread (i + 1) l).2.2 + 1) else uread (i + 1) l)
    else if (i = 9 ∧ 1 < x) ∨ (0 < i ∧ x = 0) then (11, 0, 0) else (0, x, 1)
theorem uenc_small {n : Nat} (h : n < 128) : uenc n = [n] := by rw [uenc, if_pos h]
theorem uenc_big {n : Nat} (h : 128 ≤ n) : uenc n = (n % 128 + 128) :: uenc (n / 128) := by rw [uenc, if_neg (by omega)]
theorem uenc_lt (n : Nat) : ∀ x ∈ uenc n, x < 256 := by
  induction n using Nat.strongRecOn with
  | ind n ih =>
    intro x hx
    by_cases h : n < 128
    · rw [uenc_small h] at hx; simp at hx; omega
    · rw [uenc_big (by omega)] at hx
      rcases List.mem_cons.1 hx with rfl | hx
      · omega
      · exact ih _ (by omega) x hx
theorem uenc_len (k : Nat) : ∀ n, n < 128 ^ (k + 1) → (uenc n).length ≤ k + 1 := by
  induction k with
  | zero => intro n h; rw [uenc_small (by simpa using h)]; simp
  | succ k ih =>
    intro n h
    by_cases h1 : n < 128
    · rw [uenc_small h1]; simp
    · rw [uenc_big (by omega)]
      have := ih (n / 128) (by rw [Nat.div_lt_iff_lt_mul (by omega)]; rw [Nat.pow_succ] at h; exact h)
      simp; exact this
theorem uenc_len10 (n : Nat) (h : n < 18446744073709551616) : (uenc n).length ≤ 10 := uenc_len 9 n (Nat.lt_of_lt_of_le h (by decide))
theorem uread_back (l : List Nat) (hl : ∀ x ∈ l, x < 256) : ∀ (i n s : Nat), i ≤ 10 → uread i l = (0, n, s) → s ≤ l.length ∧ uenc n = l.take s ∧ n * 128 ^ i < 18446744073709551616 ∧ (0 < i → 0 < n) ∧ 0 < s := by
  induction l with
  | nil => intro i n s hi h; unfold uread at h; split at h <;> simp at h
  | cons x l ih =>
    intro i n s hi h
    unfold uread at h
    split at h
    · simp at h
    · rename_i hi10
      split at h
      · rename_i hx
        split at h
        · rename_i h1
          simp only [Prod.mk.injEq, true_and] at h
          obtain ⟨rfl, rfl⟩ := h
          obtain ⟨a1, a2, a3, a4, a5⟩ := ih (fun y hy => hl y (List.mem_cons_of_mem _ hy)) (i + 1) (uread (i + 1) l).2.1 (uread (i + 1) l).2.2 (by omega) (by rw [← h1])
          generalize (uread (i + 1) l).2.1 = m at *
          generalize (uread (i + 1) l).2.2 = k at *
          have hx256 := hl x (List.mem_cons_self ..)
          have hm := a4 (by omega)
          refine ⟨by simp; omega, ?_, ?_, fun _ => by omega, by omega⟩
          · rw [uenc_big (by omega), show (x - 128 + 128 * m) / 128 = m from by omega, show (x - 128 + 128 * m) % 128 + 128 = x from by omega, a2]; rfl
          · rw [Nat.pow_succ] at a3
            have h2 : m * (128 ^ i * 128) = (m * 128) * 128 ^ i := by ac_rfl
            rw [h2] at a3
            have hp : ∃ q, 18446744073709551616 = q * 128 ^ i ∧ q % 128 = 0 ∨ i = 9 := by
              rcases (by omega : i = 0 ∨ i = 1 ∨ i = 2 ∨ i = 3 ∨ i = 4 ∨ i = 5 ∨ i = 6 ∨ i = 7 ∨ i = 8 ∨ i = 9) with rfl | rfl | rfl | rfl | rfl | rfl | rfl | rfl | rfl | rfl
              · exact ⟨2 ^ 64, .inl (by decide)⟩
              · exact ⟨2 ^ 57, .inl (by decide)⟩
              · exact ⟨2 ^ 50, .inl (by decide)⟩
              · exact ⟨2 ^ 43, .inl (by decide)⟩
              · exact ⟨2 ^ 36, .inl (by decide)⟩
              · exact ⟨2 ^ 29, .inl (by decide)⟩
              · exact ⟨2 ^ 22, .inl (by decide)⟩
              · exact ⟨2 ^ 15, .inl (by decide)⟩
              · exact ⟨2 ^ 8, .inl (by decide)⟩
              · exact ⟨0, .inr rfl⟩
            obtain ⟨q, ⟨hq, hq2⟩ | h9⟩ := hp
            · have hpos : 0 < 128 ^ i := Nat.pow_pos (by omega)
              rw [hq] at a3 ⊢
              have := Nat.lt_of_mul_lt_mul_right a3
              exact Nat.mul_lt_mul_of_pos_right (by omega) hpos
            · subst h9
              exfalso
              have h5 : (128 : Nat) * 128 ^ 9 ≤ m * 128 * 128 ^ 9 := Nat.mul_le_mul_right _ (by omega)
              have h6 := Nat.lt_of_le_of_lt h5 a3
              exact absurd h6 (by decide)
        · rename_i h1
          rw [h] at h1
          exact absurd rfl h1
      · split at h
        · simp at h
        · rename_i h2
          simp only [Prod.mk.injEq, true_and] at h
          obtain ⟨rfl, rfl⟩ := h
          refine ⟨by simp, by rw [uenc_small (by omega)]; simp, ?_, fun h3 => by omega, by omega⟩
          have hx : x < 128 := by omega
          rcases (by omega : i = 0 ∨ i = 1 ∨ i = 2 ∨ i = 3 ∨ i = 4 ∨ i = 5 ∨ i = 6 ∨ i = 7 ∨ i = 8 ∨ i = 9) with rfl | rfl | rfl | rfl | rfl | rfl | rfl | rfl | rfl | rfl <;> omega
def valB : List Nat → Nat
  | [] => 0
  | x :: l => x % 128 + 128 * valB l
theorem valB_snoc (l : List Nat) (x : Nat) : valB (l ++ [x]) = valB l + 128 ^ l.length * (x % 128) := by
  induction l with
  | nil => simp [valB]
  | cons y l ih =>
    simp only [List.cons_append, valB, ih, List.length_cons, Nat.pow_succ]
    rw [Nat.mul_add]
    have : 128 ^ l.length * 128 * (x % 128) = 128 * (128 ^ l.length * (x % 128)) := by ac_rfl
    omega
theorem valB_lt (l : List Nat) : valB l < 128 ^ l.length := by
  induction l with
  | nil => simp [valB]
  | cons x l ih => simp only [valB, List.length_cons, Nat.pow_succ]; omega
theorem uread_hit (l : List Nat) (hl : ∀ x ∈ l, x < 256) : ∀ (i k x : Nat), i + k ≤ 9 → (∀ (j : Nat) y, j < k → l[j]? = some y → 128 ≤ y) → l[k]? = some x → x < 128 →
    uread i l = if (i + k = 9 ∧ 1 < x) ∨ (0 < i + k ∧ x = 0) then (11, 0, 0) else (0, valB (l.take (k + 1)), k + 1) := by
  induction l with
  | nil => intro i k x _ _ h; simp at h
  | cons y l ih =>
    intro i k x hik hall hk hx
    cases k with
    | zero =>
      simp at hk
      subst hk
      unfold uread
      rw [if_neg (by omega), if_neg (by omega)]
      simp [valB, Nat.mod_eq_of_lt hx]
    | succ k =>
      have hy := hall 0 y (by omega) rfl
      have hy2 := hl y (List.mem_cons_self ..)
      have e := ih (fun z hz => hl z (List.mem_cons_of_mem _ hz)) (i + 1) k x (by omega) (fun j z hj hz => hall (j + 1) z (by omega) (by simpa using hz)) (by simpa using hk) hx
      unfold uread
      rw [if_neg (by omega), if_pos hy, e]
      by_cases hc : (i + 1 + k = 9 ∧ 1 < x) ∨ (0 < i + 1 + k ∧ x = 0)
      · rw [if_pos hc, if_neg (by simp), if_pos (by omega)]
      · rw [if_neg hc, if_pos rfl, if_neg (by omega)]
        simp only [List.take_succ_cons, valB, Prod.mk.injEq, true_and, and_true]
        omega
theorem uread_short (l : List Nat) : ∀ i : Nat, (∀ x ∈ l, 128 ≤ x) → i + l.length ≤ 9 → uread i l = (10, 0, 0) := by
  induction l with
  | nil => intro i _ h; unfold uread; rw [if_neg (by simp at h; omega)]
  | cons x l ih =>
    intro i hall h
    simp at h
    unfold uread
    rw [if_neg (by omega), if_pos (hall x (List.mem_cons_self ..)), ih (i + 1) (fun y hy => hall y (List.mem_cons_of_mem _ hy)) (by omega)]
    simp
theorem uread_long (l : List Nat) : ∀ i : Nat, i ≤ 10 → (∀ (j : Nat) x, i + j < 10 → l[j]? = some x → 128 ≤ x) → 10 ≤ i + l.length → uread i l = (11, 0, 0) := by
  induction l with
  | nil => intro i _ _ h; unfold uread; rw [if_pos (by simpa using h)]
  | cons x l ih =>
    intro i hi hall h
    simp at h
    unfold uread
    by_cases h10 : 10 ≤ i
    · rw [if_pos h10]
    · rw [if_neg h10, if_pos (hall 0 x (by omega) rfl), ih (i + 1) (by omega) (fun j y hj hy => hall (j + 1) y (by omega) (by simpa using hy)) (by omega)]
      simp
end
section
set_option maxRecDepth 100000
open Go.RowKit
theorem byteOf (m : Nat) (h : m < 256) : ((UInt8.ofNat m).toNat : Int) = (m : Int) := by simp; omega
def uencB (n : Nat) : List UInt8 := (uenc n).map UInt8.ofNat
theorem natB_map (l : List Nat) (h : ∀ x ∈ l, x < 256) : natB (l.map UInt8.ofNat) = l := by
  unfold natB
  rw [List.map_map]
  conv => rhs; rw [← List.map_id l]
  refine List.map_congr_left (fun x hx => ?_)
  have := h x hx
  simp [Function.comp]
  omega
theorem natB_uencB (n : Nat) : natB (uencB n) = uenc n := natB_map _ (uenc_lt n)
theorem uencB_length (n : Nat) : (uencB n).length = (uenc n).length := by simp [uencB]
theorem uencB_len (n : Nat) (h : n < 18446744073709551616) : (uencB n).length ≤ 10 := by rw [uencB_length]; exact uenc_len10 n h
theorem uencB_small {n : Nat} (h : n < 128) : uencB n = [UInt8.ofNat n] := by unfold uencB; rw [uenc_small h]; rfl
theorem uencB_big {n : Nat} (h : 128 ≤ n) : uencB n = UInt8.ofNat (n % 128 + 128) :: uencB (n / 128) := by unfold uencB; rw [uenc_big h]; rfl
theorem or128 : ∀ x : Nat, x < 256 → x ||| 128 = x % 128 + 128 := by decide +kernel
theorem or128_u8 (m : Nat) : bits .or .u8 ((m : Int) % 256) 128 = ((m % 128 + 128 : Nat) : Int) := by
  rw [show (m : Int) % 256 = ((m % 256 : Nat) : Int) from by omega, show (128 : Int) = ((128 : Nat) : Int) from rfl, u8_or_nat _ _ (by omega) (by omega), or128 _ (by omega)]
  congr 1
  omega
set_option maxRecDepth 100000 in
theorem PutUint_c (A : Option Addr) (n c B : Nat) (bs : List UInt8) (k : Nat) (hk : k < 18446744073709551616) (w : World) (hr : Reads w B 1 A n (byteCells bs)) (hB : B ≤ w.heap.size) (hn : n ≤ 900000) :
    Calls Tryz.prog 180 #[.slice A n c, .int .u64 k] w fun e w' => ∃ v, e = .returned v ∧ w'.ownsRow w.heap.size 5 1 v (n + (uencB k).length) (byteCells (bs ++ uencB k)) ∧ Below w.heap.size w w' := by
  have HR := Lib.hid hr; clear hr
  have HKL := Lib.hid (uencB_len k hk)
  obtain ⟨i0, hi0, hz0, hz1, hz2⟩ := info_parts Tryz.infoU8
  go_enter Tryz.func180, Tryz.ntmps180
  go_wp2_with fail
  refine (CloneB_c A n c B bs _ HR.out hB (by omega)).mono ?_
  rintro e w2 ⟨v, rfl, hown, hb2⟩
  go_wp2_with fail
  go_loopw [5, 1] (fun v nn wr => ∃ (m i : Nat) (pre : List UInt8), nn = .int .u64 m ∧ Hid (pre.length = i) ∧ i ≤ 10 ∧ Hid (pre ++ uencB m = uencB k) ∧ m < 18446744073709551616 ∧ wr.ownsRow w.heap.size 5 1 v (n + i) (byteCells (bs ++ pre)) ∧ Below w.heap.size w wr) (fun _ nn _ => (intOf nn).toNat)
  case atStart => exact ⟨k, 0, [], rfl, rfl, by omega, rfl, hk, by simpa using hown, hb2⟩
  case round =>
    obtain ⟨m, i, pre, rfl, HI, hi, HP, hm, hown, hbr⟩ := hrel
    by_cases h : m < 128
    · have hd : decide ((128 : Int) ≤ (m : Int)) = false := by simp; omega
      have hmod : (m : Int) % 256 = (m : Int) := by omega
      go_wp2_with (at_builtin; go_must (refine wpList_append_one wr rfl _ _ 50 rfl w.heap.size 5 i0 _ 1 Tryz.underlying50 hi0 hz0 hz1 hz2 rfl _ _ _ hown rfl _ rfl rfl (by unfold maxLen; omega) (by omega) hbr.size ?_); intro v' w3 hown3 hg3)
      go_ret
      refine ⟨v', rfl, ?_, below_own hbr hg3 hown (Nat.le_refl _) hbr.size⟩
      rw [← HP.out, uencB_small h, List.length_append, HI.out, ← List.append_assoc, byteCells_append]
      rw [show byteCells [UInt8.ofNat m] = [.int .u8 (m : Int)] from by simp only [byteCells, List.map_cons, List.map_nil]; rw [byteOf _ (by omega)]]
      exact hown3
    · have hd : decide ((128 : Int) ≤ (m : Int)) = true := by simp; omega
      have hor := or128_u8 m
      have EL := Lib.hid (show byteCells (bs ++ (pre ++ [UInt8.ofNat (m % 128 + 128)])) = byteCells (bs ++ pre) ++ [.int .u8 ((m % 128 + 128 : Nat) : Int)] from by
        rw [← List.append_assoc, byteCells_append]
        congr 1
        simp only [byteCells, List.map_cons, List.map_nil]
        rw [byteOf _ (by omega)])
      have HP2 := Lib.hid (show (pre ++ [UInt8.ofNat (m % 128 + 128)]) ++ uencB (m / 128) = uencB k from by rw [← HP.out, uencB_big (n := m) (by omega)]; simp)
      have hi10 : i + 1 ≤ 10 := by
        have h1 := congrArg List.length HP.out
        have h2 := HKL.out
        have h3 := HI.out
        rw [uencB_big (by omega), List.length_append, List.length_cons] at h1
        omega
      go_wp2_with (at_builtin; go_must (refine wpList_append_one wr rfl _ _ 50 rfl w.heap.size 5 i0 _ 1 Tryz.underlying50 hi0 hz0 hz1 hz2 rfl _ _ _ hown rfl _ rfl rfl (by unfold maxLen; omega) (by omega) hbr.size ?_); intro v' w3 hown3 hg3)
      go_roundw
      case rel => exact ⟨m / 128, i + 1, _, by go_num, (show (pre ++ [UInt8.ofNat (m % 128 + 128)]).length = i + 1 from by rw [List.length_append, HI.out]; rfl), hi10, HP2, by omega, by rw [EL.out]; exact hown3, below_own hbr hg3 hown (Nat.le_refl _) hbr.size⟩
      case measure => simp [intOf]; omega
end
section
set_option maxRecDepth 100000
open Go.RowKit
def textB (l : List UInt8) : List UInt8 := uencB l.length ++ l
theorem strCells_bytes (l : List UInt8) : Lib.strCells ⟨l.toArray⟩ = byteCells l := by simp [Lib.strCells, byteCells]
theorem PutText_c (A : Option Addr) (n c B : Nat) (bs l : List UInt8) (w : World) (hr : Reads w B 1 A n (byteCells bs)) (hB : B ≤ w.heap.size) (hn : n ≤ 400000) (hl : l.length ≤ 400000) :
    Calls Tryz.prog 194 #[.slice A n c, .string ⟨l.toArray⟩] w fun e w' => ∃ v, e = .returned v ∧ w'.ownsRow w.heap.size 5 1 v (n + (textB l).length) (byteCells (bs ++ textB l)) ∧ Below w.heap.size w w' := by
  have HR := Lib.hid hr; clear hr
  have HKL := Lib.hid (uencB_len l.length (by omega))
  obtain ⟨i0, hi0, hz0, hz1, hz2⟩ := info_parts Tryz.infoU8
  go_enter Tryz.func194, Tryz.ntmps194
  go_wp2_with fail
  refine (PutUint_c A n c B bs l.length (by omega) _ HR.out hB (by omega)).mono ?_
  rintro e w1 ⟨v, rfl, hown, hb⟩
  have hkl := HKL.out
  have hs1 := hb.size
  go_wp2_with (at_builtin; go_must (refine Lib.wpList_append_own_string _ rfl _ _ 50 9 rfl w.heap.size 5 i0 Tryz.underlying50 Tryz.underlying9 hi0 hz0 hz1 hz2 _ _ _ rfl hown ⟨l.toArray⟩ rfl (by have : (ByteArray.mk l.toArray).size = l.length := rfl; unfold maxLen; omega) (by have : (ByteArray.mk l.toArray).size = l.length := rfl; omega) hs1 ?_); intro v' w3 hown3 hg3 _)
  go_ret
  refine ⟨v', rfl, ?_, below_own hb hg3 hown (Nat.le_refl _) hs1⟩
  unfold textB
  rw [strCells_bytes, ← byteCells_append, List.append_assoc, show (ByteArray.mk l.toArray).size = l.length from rfl, Nat.add_assoc] at hown3
  rw [List.length_append]
  exact hown3
theorem right_yes (A : Option Addr) (n c : Nat) (at_ : Int) (w : World) (h0 : 0 ≤ at_) (h1 : at_ ≤ (n : Int)) : Calls Tryz.prog 228 #[.agg #[.slice A n c, .int .i64 at_, .int .i64 0]] w fun e w' => e = .returned (.bool true) ∧ Below w.heap.size w w' := by
  have d0 : decide ((0 : Int) ≤ at_) = true := by simpa using h0
  have d1 : decide (at_ ≤ (n : Int)) = true := by simpa using h1
  go_enter Tryz.func228, Tryz.ntmps228
  go_wp2
  go_ret
  exact ⟨rfl, ((Below.refl _ _).alloc (Nat.le_refl _) _)⟩
theorem right_no (A : Option Addr) (n c : Nat) (at_ err : Int) (w : World) (h : at_ < 0 ∨ (n : Int) < at_ ∨ err ≠ 0) : Calls Tryz.prog 228 #[.agg #[.slice A n c, .int .i64 at_, .int .i64 err]] w fun e w' => e = .returned (.bool false) ∧ Below w.heap.size w w' := by
  by_cases he : err = 0
  · subst he
    by_cases h0 : at_ < 0
    · have d0 : decide ((0 : Int) ≤ at_) = false := by simpa using h0
      clear h
      go_enter Tryz.func228, Tryz.ntmps228
      go_wp2
      go_ret
      exact ⟨rfl, ((Below.refl _ _).alloc (Nat.le_refl _) _)⟩
    · have d0 : decide ((0 : Int) ≤ at_) = true := by simp; omega
      have d1 : decide (at_ ≤ (n : Int)) = false := by simp; omega
      clear h
      go_enter Tryz.func228, Tryz.ntmps228
      go_wp2
      go_ret
      exact ⟨rfl, ((Below.refl _ _).alloc (Nat.le_refl _) _)⟩
  · have de : (err == 0) = false := by rw [beq_eq_false_iff_ne]; exact he
    clear h
    cases d0 : decide ((0 : Int) ≤ at_)
    all_goals cases d1 : decide (at_ ≤ (n : Int))
    all_goals
      go_enter Tryz.func228, Tryz.ntmps228
      go_wp2
      go_ret
      exact ⟨rfl, ((Below.refl _ _).alloc (Nat.le_refl _) _)⟩
theorem stay_ok (A : Option Addr) (n c : Nat) (at_ e2 : Int) (w : World) : Calls Tryz.prog 229 #[.agg #[.slice A n c, .int .i64 at_, .int .i64 0], .int .i64 e2] w fun e w' => e = .returned (.agg #[.slice A n c, .int .i64 at_, .int .i64 e2]) ∧ Below w.heap.size w w' := by
  go_enter Tryz.func229, Tryz.ntmps229
  go_wp2
  exact bodyPost_ret (v := .agg #[.slice A n c, .int .i64 at_, .int .i64 e2]) (by simp [results, Tryz.results229, go_sem]) rfl ⟨rfl, ((Below.refl _ _).alloc (Nat.le_refl _) _).alloc (by simp) _⟩
theorem stay_err (A : Option Addr) (n c : Nat) (at_ err e2 : Int) (w : World) (he : err ≠ 0) : Calls Tryz.prog 229 #[.agg #[.slice A n c, .int .i64 at_, .int .i64 err], .int .i64 e2] w fun e w' => e = .returned (.agg #[.slice A n c, .int .i64 at_, .int .i64 err]) ∧ Below w.heap.size w w' := by
  have de : (err == 0) = false := by rw [beq_eq_false_iff_ne]; exact he
  go_enter Tryz.func229, Tryz.ntmps229
  go_wp2
  exact bodyPost_ret (v := .agg #[.slice A n c, .int .i64 at_, .int .i64 err]) (by simp [results, Tryz.results229, go_sem]) rfl ⟨rfl, ((Below.refl _ _).alloc (Nat.le_refl _) _).alloc (by simp) _⟩
theorem Start_c (A : Option Addr) (n c : Nat) (w : World) (hnc : n ≤ c) : Calls Tryz.prog 177 #[.slice A n c] w fun e w' => e = .returned (.agg #[.slice A n n, .int .i64 0, .int .i64 0]) ∧ Below w.heap.size w w' := by
  go_enter Tryz.func177, Tryz.ntmps177
  go_wp2
  exact bodyPost_ret (v := .agg #[.slice A n n, .int .i64 0, .int .i64 0]) (by simp [results, Tryz.results177, go_sem]) rfl ⟨rfl, ((Below.refl _ _).alloc (Nat.le_refl _) _)⟩
theorem Left_yes (A : Option Addr) (n c : Nat) (at_ : Int) (w : World) (h0 : 0 ≤ at_) (h1 : at_ ≤ (n : Int)) (hn : n ≤ 9223372036854775807) : Calls Tryz.prog 178 #[.agg #[.slice A n c, .int .i64 at_, .int .i64 0]] w fun e w' => e = .returned (.int .i64 ((n : Int) - at_)) ∧ Below w.heap.size w w' := by
  go_enter Tryz.func178, Tryz.ntmps178
  go_wp2_with fail
  refine (right_yes A n c at_ _ h0 h1).mono ?_
  rintro e w1 ⟨rfl, hb⟩
  obtain ⟨hc, hf⟩ := bcell hb
  have k0 : w1.cell? ⟨w.heap.size, 0, none⟩ = some (.slice A n c) := by have h := hc w.heap.size 0 (by simp); simpa using h
  have k1 : w1.cell? ⟨w.heap.size, 1, none⟩ = some (.int .i64 at_) := by have h := hc w.heap.size 1 (by simp); simpa using h
  have HB := Lib.hid (((Below.refl _ _).alloc (Nat.le_refl _) _).trans (hb.mono (by simp)))
  clear hc hf hb
  go_wp2
  go_ret
  exact ⟨rfl, HB.out⟩
end
section
structure Cx where
  q : Int
  a : Int
  ns : List (List UInt8)
def rightC (c : Cx) : Bool := decide (0 ≤ c.q) && decide (c.q ≤ 4294967296) && decide (0 ≤ c.a) && decide (c.a ≤ 1099511627776) && rightB c.ns
def errC (c : Cx) (e : Evt) : Int :=
  if rightC c = false then 1 else if chkE e ≠ 0 then chkE e else if e.q ≤ c.q then 1 else if e.a < c.a then 5
  else if placeOf c.ns e.cm.data.toList = 0 ∧ c.ns.length = 32 then 9 else 0
def bytesC (c : Cx) (e : Evt) : List UInt8 :=
  uencB e.k.toNat ++ uencB (e.q - c.q).toNat ++ uencB (e.a - c.a).toNat ++ uencB (placeOf c.ns e.cm.data.toList)
    ++ (if placeOf c.ns e.cm.data.toList = 0 then textB e.cm.data.toList else []) ++ (numsE e).flatMap (fun n => uencB n.toNat)
def nextC (c : Cx) (e : Evt) : Cx := ⟨e.q, e.a, if placeOf c.ns e.cm.data.toList = 0 then c.ns ++ [e.cm.data.toList] else c.ns⟩
theorem errC_ok {c : Cx} {e : Evt} (h : errC c e = 0) : rightC c = true ∧ chkE e = 0 ∧ c.q < e.q ∧ c.a ≤ e.a ∧ ¬ (placeOf c.ns e.cm.data.toList = 0 ∧ c.ns.length = 32) := by
  unfold errC at h
  by_cases h1 : rightC c = false
  · rw [if_pos h1] at h; omega
  rw [if_neg h1] at h
  by_cases h2 : chkE e ≠ 0
  · rw [if_pos h2] at h; exact absurd h h2
  rw [if_neg h2] at h
  by_cases h3 : e.q ≤ c.q
  · rw [if_pos h3] at h; omega
  rw [if_neg h3] at h
  by_cases h4 : e.a < c.a
  · rw [if_pos h4] at h; omega
  rw [if_neg h4] at h
  by_cases h5 : placeOf c.ns e.cm.data.toList = 0 ∧ c.ns.length = 32
  · rw [if_pos h5] at h; omega
  exact ⟨by simpa using h1, by simpa using h2, by omega, by omega, h5⟩
theorem named_same (s : ByteArray) : namedE s = namedB s.data.toList := by
  unfold namedE namedB
  rw [show s.size = s.data.toList.length from (Array.length_toList ..).symm, ← Bool.decide_and]
theorem nextC_right {c : Cx} {e : Evt} (h : errC c e = 0) : rightC (nextC c e) = true := by
  obtain ⟨hc, he, hq, ha, hp⟩ := errC_ok h
  obtain ⟨_, _, hn, _, e1, e2, e3, e4⟩ := chkE_ok he
  unfold rightC at hc ⊢
  simp only [Bool.and_eq_true, decide_eq_true_iff] at hc
  obtain ⟨_, hr⟩ := hc
  have hr2 : rightB (nextC c e).ns = true := by
    unfold nextC
    simp only
    by_cases h0 : placeOf c.ns e.cm.data.toList = 0
    · rw [if_pos h0]
      unfold rightB at hr ⊢
      rw [decide_eq_true_iff] at hr ⊢
      obtain ⟨r1, r2, r3⟩ := hr
      refine ⟨?_, (nodup_snoc _ _).2 ⟨r2, (placeOf_zero _ _).1 h0⟩, fun s hs => ?_⟩
      · rw [List.length_append, List.length_singleton]
        have : ¬ c.ns.length = 32 := fun h => hp ⟨h0, h⟩
        omega
      · rcases List.mem_append.1 hs with h | h
        · exact r3 s h
        · rw [List.mem_singleton] at h
          subst h
          rw [← named_same]
          exact hn
    · rw [if_neg h0]
      exact hr
  rw [hr2]
  rw [decide_eq_true (show 0 ≤ (nextC c e).q from e3), decide_eq_true (show (nextC c e).q ≤ 4294967296 from e4), decide_eq_true (show 0 ≤ (nextC c e).a from e1), decide_eq_true (show (nextC c e).a ≤ 1099511627776 from e2)]
  rfl
end
section
set_option maxRecDepth 100000
open Go.RowKit
set_option maxHeartbeats 2000000 in
theorem Check_c (e0 : Evt) (hcm : e0.cm.size ≤ maxLen) (w : World) : Calls Tryz.prog 18 #[.agg (evA e0)] w fun e w' => e = .returned (.int .i64 (chkE e0)) ∧ Below w.heap.size w w' := by
  have HE : Hid (chkE e0 = if manyE e0.k = 0 then 2 else if namedE e0.cm = false then 3 else if withinE e0 = false then 4 else if e0.a < 0 ∨ 1099511627776 < e0.a then 5 else if e0.q < 0 ∨ 4294967296 < e0.q then 1 else 0) := rfl
  have HM := fun W => Lib.hid (Many_c e0.k W)
  have HN := fun W => Lib.hid (show Calls Tryz.prog 58 #[.string e0.cm] W fun e w' => e = .returned (.bool (namedE e0.cm)) ∧ W = w' from by rw [named_same]; exact Named_c e0.cm W hcm)
  have HW := fun W => Lib.hid (within_c e0 W)
  generalize chkE e0 = r at HE ⊢
  generalize manyE e0.k = m at HM HE
  generalize namedE e0.cm = nm at HN HE
  generalize withinE e0 = wi at HW HE
  obtain ⟨q, a, k, cm, x, y, z⟩ := e0
  simp only at HE HM HN HW hcm
  by_cases h1 : m = 0
  · subst h1
    go_enter Tryz.func18, Tryz.ntmps18
    go_wp2_with (go_at_call 57; refine ((HM _).out).mono ?_; rintro e w' ⟨rfl, rfl⟩)
    go_ret
    exact ⟨ret_i (by rw [HE.out]; rfl), (Below.refl _ _).alloc (Nat.le_refl _) _⟩
  have b1 : ((m : Int) == 0) = false := by rw [beq_eq_false_iff_ne]; omega
  have b1' : (m == 0) = false := by rw [beq_eq_false_iff_ne]; omega
  have H1 := Lib.hid h1
  clear h1
  cases nm with
  | false =>
    go_enter Tryz.func18, Tryz.ntmps18
    go_wp2_with (first | (go_at_call 57; refine ((HM _).out).mono ?_; rintro e w' ⟨rfl, rfl⟩) | (go_at_call 58; refine ((HN _).out).mono ?_; rintro e w' ⟨rfl, rfl⟩))
    go_ret
    exact ⟨ret_i (by rw [HE.out, if_neg H1.out]; rfl), (Below.refl _ _).alloc (Nat.le_refl _) _⟩
  | true =>
    cases wi with
    | false =>
      go_enter Tryz.func18, Tryz.ntmps18
      go_wp2_with (first | (go_at_call 57; refine ((HM _).out).mono ?_; rintro e w' ⟨rfl, rfl⟩) | (go_at_call 58; refine ((HN _).out).mono ?_; rintro e w' ⟨rfl, rfl⟩) | (go_at_call 59; refine ((HW _).out).mono ?_; rintro e w1 ⟨rfl, hb⟩))
      go_ret
      exact ⟨ret_i (by rw [HE.out, if_neg H1.out]; rfl), ((Below.refl _ _).alloc (Nat.le_refl _) _).trans (hb.mono (by simp))⟩
    | true =>
      by_cases h4 : a < 0 ∨ 1099511627776 < a
      · have HE' := Lib.hid (show r = 5 from by rw [HE.out, if_neg H1.out, if_neg (by simp), if_neg (by simp), if_pos h4])
        clear HE
        rcases h4 with h4 | h4
        all_goals
          go_enter Tryz.func18, Tryz.ntmps18
          go_wp2_with (first | (go_at_call 57; refine ((HM _).out).mono ?_; rintro e w' ⟨rfl, rfl⟩) | (go_at_call 58; refine ((HN _).out).mono ?_; rintro e w' ⟨rfl, rfl⟩) | (go_at_call 59; refine ((HW _).out).mono ?_; rintro e w1 ⟨rfl, hb⟩; have HB := Lib.hid hb; obtain ⟨hc, hf⟩ := bcell hb; clear hb))
          go_ret
          exact ⟨ret_i (by rw [HE'.out]), ((Below.refl _ _).alloc (Nat.le_refl _) _).trans (HB.out.mono (by simp))⟩
      · have HE' := Lib.hid (show r = if q < 0 ∨ 4294967296 < q then 1 else 0 from by rw [HE.out, if_neg H1.out, if_neg (by simp), if_neg (by simp), if_neg h4])
        clear HE
        have a1 : 0 ≤ a := by omega
        have a2 : a ≤ 1099511627776 := by omega
        clear h4
        by_cases h5 : q < 0 ∨ 4294967296 < q
        · have HE'' := Lib.hid (show r = 1 from by rw [HE'.out, if_pos h5])
          clear HE'
          rcases h5 with h5 | h5
          all_goals
            go_enter Tryz.func18, Tryz.ntmps18
            go_wp2_with (first | (go_at_call 57; refine ((HM _).out).mono ?_; rintro e w' ⟨rfl, rfl⟩) | (go_at_call 58; refine ((HN _).out).mono ?_; rintro e w' ⟨rfl, rfl⟩) | (go_at_call 59; refine ((HW _).out).mono ?_; rintro e w1 ⟨rfl, hb⟩; have HB := Lib.hid hb; obtain ⟨hc, hf⟩ := bcell hb; clear hb))
            go_ret
            exact ⟨ret_i (by rw [HE''.out]), ((Below.refl _ _).alloc (Nat.le_refl _) _).trans (HB.out.mono (by simp))⟩
        · have HE'' := Lib.hid (show r = 0 from by rw [HE'.out, if_neg h5])
          clear HE'
          have q1 : 0 ≤ q := by omega
          have q2 : q ≤ 4294967296 := by omega
          clear h5
          go_enter Tryz.func18, Tryz.ntmps18
          go_wp2_with (first | (go_at_call 57; refine ((HM _).out).mono ?_; rintro e w' ⟨rfl, rfl⟩) | (go_at_call 58; refine ((HN _).out).mono ?_; rintro e w' ⟨rfl, rfl⟩) | (go_at_call 59; refine ((HW _).out).mono ?_; rintro e w1 ⟨rfl, hb⟩; have HB := Lib.hid hb; obtain ⟨hc, hf⟩ := bcell hb; clear hb))
          go_ret
          exact ⟨ret_i (by rw [HE''.out]), ((Below.refl _ _).alloc (Nat.le_refl _) _).trans (HB.out.mono (by simp))⟩
end
section
set_option maxRecDepth 100000
theorem takeH {P : Program} {ops : Array Oper} {Q : Exit → Act → World → Prop} {md : Region.Mode} {S : World → Prop} (i : Nat) {oi : Oper} {d : Nat} {v : Value} {fuel : Nat} {listed : Array Bool} {a : Act} {w : World} (hi : ops[i]? = some oi)
    (hs : Region.noSelect ops = true) (hf : Region.free md ops listed i = true) (hr : (Region.ready md ops listed).contains i = true) (hd : oi.dst = some d)
    (hQ : ∀ c a w, Q (.panic c) (a.put (some d) v) w → Q (.panic c) a w) (hy : YieldsIf P ops S oi v a) (hS : S w)
    (h : wpAnyH P md ops Q S fuel (listed.setIfInBounds i true) (a.put (some d) v) w) : wpAnyH P md ops Q S (fuel + 1) listed a w :=
  wpAnyH_take hi hs hf hr (by rw [hd]; exact hQ) hy hS (by rw [hd]; exact h)
end
section
open Go.RowKit
def HeldBut (w0 : World) (M X0 : List Nat) (W : World) (L : List Itm) (F : List Fact) (i g : Nat) (t : TypeId) : Prop := ∃ cs, Held w0 M X0 W (L.set i (.box g t cs)) F
section
variable {w0 W W' : World} {M X0 : List Nat} {L : List Itm} {F : List Fact} {i g : Nat} {t : TypeId}
theorem Held.but (h : Held w0 M X0 W L F) (i : Nat) {g : Nat} {t : TypeId} {cs : Array Value} (hi : L[i]? = some (.box g t cs)) : HeldBut w0 M X0 W L F i g t := by
  refine ⟨cs, ?_⟩
  obtain ⟨hi', he⟩ := List.getElem?_eq_some_iff.1 hi
  rw [← he, List.set_getElem_self hi']
  exact h
theorem HeldBut.cell (h : HeldBut w0 M X0 W L F i g t) (j : Nat) {g' : Nat} {t' : TypeId} {cs' : Array Value} (hj : L[j]? = some (.box g' t' cs')) (hne : i ≠ j) (k : Nat) : W.cell? ⟨g', k, none⟩ = cs'[k]? := by
  obtain ⟨cs, h⟩ := h
  exact h.cell j (by rw [List.getElem?_set_ne hne]; exact hj) k
theorem HeldBut.set_ (h : HeldBut w0 M X0 W L F i g t) (hi : i < L.length) (o : Nat) (u : Value) : HeldBut w0 M X0 (W.setCell ⟨g, o, none⟩ u) L F i g t := by
  obtain ⟨cs, h⟩ := h
  refine ⟨cs.setIfInBounds o u, ?_⟩
  have h1 := h.set_ i (g := g) (t := t) (cs := cs) (by rw [List.getElem?_set_self hi]) o u
  rw [List.set_set] at h1
  exact h1
theorem Held.ne (h : Held w0 M X0 W L F) (i j : Nat) (hij : i ≠ j) {g g' : Nat} {t t' : TypeId} {cs cs' : Array Value} (hi : L[i]? = some (.box g t cs)) (hj : L[j]? = some (.box g' t' cs')) : ¬ g = g' := by
  rintro rfl
  obtain ⟨hi', hxe⟩ := List.getElem?_eq_some_iff.1 hi
  obtain ⟨hj', hye⟩ := List.getElem?_eq_some_iff.1 hj
  rcases Nat.lt_or_ge i j with hlt | hge
  · exact List.pairwise_iff_getElem.1 h.apart i j hi' hj' hlt g (by rw [hxe]; rfl) (by rw [hye]; rfl)
  · exact List.pairwise_iff_getElem.1 h.apart j i hj' hi' (by omega) g (by rw [hye]; rfl) (by rw [hxe]; rfl)
theorem HeldBut.on (h : HeldBut w0 M X0 W L F i g t) (hk : Below W.heap.size W W') : HeldBut w0 M X0 W' L F i g t := by
  obtain ⟨cs, h⟩ := h
  exact ⟨cs, h.on hk⟩
theorem HeldBut.drew (h : HeldBut w0 M X0 W L F i g t) : HeldBut w0 M X0 W.drew L F i g t := h.on (Below.refl _ _).drew
theorem HeldBut.below (h : HeldBut w0 [] X0 W L F i g t) : Below w0.heap.size w0 W := by
  obtain ⟨cs, h⟩ := h
  exact h.below
theorem Held.sl {α : Type} {s : Sh α} {A : Option Addr} {n c : Nat} {xs : List α} (h : Held w0 M X0 W L F) (i : Nat) (hi : F[i]? = some (Sl.fact s A n c xs)) : Sl s W (Exs L ++ X0) A n c xs := h.fact i hi
theorem Held.is {α : Type} {s : Sh α} {vs : List Value} {x : α} (h : Held w0 M X0 W L F) (i : Nat) (hi : F[i]? = some (s.fact vs x)) : s.rep W (Exs L ++ X0) vs x := h.fact i hi
theorem flat_single {α β : Type} (f : α → β) : ∀ l : List α, l.flatMap (fun x => [f x]) = l.map f
  | [] => rfl
  | x :: l => by rw [List.flatMap_cons, flat_single f l, List.map_cons]; rfl
theorem Sl.bytes {w : World} {X : List Nat} {A : Option Addr} {n c : Nat} {l : List UInt8} (h : Sl byteSh w X A n c l) : Reads w w.heap.size 1 A n (l.map (fun x => Value.int .u8 (x.toNat : Int))) := by
  obtain ⟨h1, h2, h3, h4, vs, hr, hx, ha⟩ := h
  obtain ⟨rfl, _⟩ := repAll_flat.1 ha
  rw [flat_single] at hr
  exact hr
theorem repAll_bytes {w : World} {X : List Nat} (l : List UInt8) : RepAll byteSh w X (l.map (fun x => Value.int .u8 (x.toNat : Int))) l := by
  exact repAll_flat.2 ⟨(flat_single _ l).symm, fun _ _ => trivial⟩
theorem Sl.of_made {α : Type} {s : Sh α} {w w' : World} {X : List Nat} {e : TypeId} {v : Value} {n : Nat} {vs : List Value} {xs : List α} (h : w'.ownsRow w.heap.size e s.size v n vs) (hX : XOk X w) (ha : RepAll s w' X vs xs) (hs : 0 < s.size) : ∃ A c, v = .slice A n c ∧ Sl s w' X A n c xs :=
  Sl.of_own h (fun b hb e => by
    have h1 := hX b hb
    have h2 := (own_lt h b e).1
    omega) ha hs
end
end
section
set_option maxRecDepth 100000
open Go.RowKit Go.Maps Go.WideMaps
theorem Right1_c (s : ByteArray) (w : World) (hs : s.size ≤ maxLen) : Calls Tryz.prog 242 #[.string s] w fun e w' => e = .returned (.bool (!namedB s.data.toList)) ∧ w = w' := by
  go_enter Tryz.func242, Tryz.ntmps242
  go_wp2_with (go_at_call 58; refine (Named_c _ _ hs).mono ?_; rintro e w' ⟨rfl, rfl⟩)
  go_ret
  exact ⟨rfl, rfl⟩
theorem IndexFunc_c (A : Option Addr) (n c B : Nat) (ss : List ByteArray) (w : World) (hr : Reads w B 1 A n (ss.map Value.string)) (hn : n ≤ 1000000) (hsz : ∀ s ∈ ss, s.size ≤ maxLen) :
    Calls Tryz.prog 172 #[.slice A n c, .func (.func 242) #[] #[]] w fun e w' => e = .returned (.int .i64 (firstIdx (fun s => !namedB s) (lists ss))) ∧ w = w' := by
  have hl : ss.length = n := by simpa using hr.1
  have HL := Lib.hid hl; clear hl
  go_enter Tryz.func172, Tryz.ntmps172
  go_wp2
  go_loop [8] (fun i => ∃ k : Nat, k ≤ n ∧ i = .int .i64 k ∧ Hid (∀ (j : Nat) y, j < k → (lists ss)[j]? = some y → (!namedB y) = false)) (fun i => n - (intOf i).toNat)
  case atStart => exact ⟨0, Nat.zero_le _, rfl, fun j y hj => by omega⟩
  case round =>
    obtain ⟨k, hk, rfl, H0⟩ := hrel
    by_cases hlt : k < n
    · obtain ⟨ad, x, rfl, hb, hx, hc⟩ := hr.str_at hlt
      have hxs := hsz x (List.mem_of_getElem? hx)
      have HX := Lib.hid (lists_get ss k x hx)
      clear hx hr
      by_cases he : namedB x.data.toList = true
      · go_wp2_with (go_at_call 242; refine (Right1_c _ _ hxs).mono ?_; rintro e w' ⟨rfl, rfl⟩)
        go_round
        case rel =>
          refine ⟨k + 1, by omega, by go_num, fun j y hj hy => ?_⟩
          rcases Nat.lt_or_ge j k with h | h
          · exact H0.out j y h hy
          · obtain rfl : j = k := by omega
            rw [HX.out] at hy
            cases hy
            rw [he]; rfl
        case measure => simp [intOf]; omega
      · have he' : namedB x.data.toList = false := by simpa using he
        go_wp2_with (go_at_call 242; refine (Right1_c _ _ hxs).mono ?_; rintro e w' ⟨rfl, rfl⟩)
        go_ret
        exact ⟨ret_i (firstIdx_hit _ _ k _ H0.out HX.out (by rw [he']; rfl)).symm, rfl⟩
    · go_wp2
      go_ret
      refine ⟨ret_i (firstIdx_none _ _ (fun j y hy => H0.out j y ?_ hy)).symm, rfl⟩
      have : j < (lists ss).length := (List.getElem?_eq_some_iff.1 hy).1
      rw [lists_length, HL.out] at this
      omega
theorem ContainsFunc_c (A : Option Addr) (n c B : Nat) (ss : List ByteArray) (w : World) (hr : Reads w B 1 A n (ss.map Value.string)) (hn : n ≤ 1000000) (hsz : ∀ s ∈ ss, s.size ≤ maxLen) :
    Calls Tryz.prog 103 #[.slice A n c, .func (.func 242) #[] #[]] w fun e w' => e = .returned (.bool ((lists ss).any (fun s => !namedB s))) ∧ w = w' := by
  have HI := fun W => Lib.hid (IndexFunc_c A n c B ss W)
  go_enter Tryz.func103, Tryz.ntmps103
  go_wp2_with fail
  refine ((HI _).out hr hn hsz).mono ?_
  rintro e w1 ⟨rfl, rfl⟩
  go_wp2
  go_ret
  exact ⟨ret_b (firstIdx_any _ _), rfl⟩
theorem Right_c (A : Option Addr) (n c B : Nat) (ss : List ByteArray) (w : World) (hr : Reads w B 1 A n (ss.map Value.string)) (hB : B ≤ w.heap.size) (hn : n ≤ 1000000) (hsz : ∀ s ∈ ss, s.size ≤ maxLen) :
    Calls Tryz.prog 190 #[.slice A n c] w fun e w' => e = .returned (.bool (rightB (lists ss))) ∧ Below w.heap.size w w' := by
  have hl : ss.length = n := by simpa using hr.1
  have HL := Lib.hid ((lists_length ss).trans hl); clear hl
  have HP := fun W => Lib.hid (places_c A n c B ss W)
  have HC := fun W => Lib.hid (ContainsFunc_c A n c B ss W)
  by_cases h32 : n ≤ 32
  · go_enter Tryz.func190, Tryz.ntmps190
    go_wp2_with fail
    refine ((HP _).out hr hB hn hsz).mono ?_
    rintro e w1 ⟨rfl, hm, hb⟩
    obtain ⟨D, h1, _, _, h4, h5⟩ := hm
    have hlen := fun ty => h1.len (P := Tryz.prog) Tryz.underlying313 ty
    rw [HL.out] at h4
    have H5 := Lib.hid h5
    have hr1 := hr.keep (w' := w1) (fun p hp => hb.cell (by omega))
    clear h1 h5
    by_cases hsz2 : Maps.size D < n
    · go_wp2
      go_ret
      refine ⟨ret_b ?_, hb⟩
      have hnn : ¬ (lists ss).Nodup := fun h => by have := H5.out.2 h; rw [HL.out] at this; omega
      unfold rightB
      simp [hnn]
    · go_wp2_with fail
      refine ((HC _).out hr1 hn hsz).mono ?_
      rintro e w2 ⟨rfl, rfl⟩
      go_wp2
      go_ret
      refine ⟨ret_b ?_, hb⟩
      have hnn : (lists ss).Nodup := H5.out.1 (by rw [HL.out]; omega)
      unfold rightB
      rw [Bool.eq_iff_iff]
      simp [hnn]
      intro _
      rw [HL.out]; exact h32
  · go_enter Tryz.func190, Tryz.ntmps190
    go_wp2_with fail
    go_ret
    refine ⟨ret_b ?_, Below.refl _ _⟩
    unfold rightB
    simp
    intro h
    rw [HL.out] at h
    omega
theorem At_no (A : Option Addr) (n c : Nat) (p : Int) (w : World) (hn : n ≤ 1000000) (h : p < 1 ∨ (n : Int) < p) :
    Calls Tryz.prog 262 #[.slice A n c, .int .i64 p] w fun e w' => e = .returned (.tuple #[.string ⟨#[]⟩, .int .i64 14]) ∧ w = w' := by
  by_cases h1 : p < 1
  · go_enter Tryz.func262, Tryz.ntmps262
    go_wp2
    go_ret2
    exact ⟨rfl, rfl⟩
  · have h2 : (n : Int) < p := by omega
    go_enter Tryz.func262, Tryz.ntmps262
    go_wp2
    go_ret2
    exact ⟨rfl, rfl⟩
theorem At_yes (A : Option Addr) (n c B k : Nat) (ss : List ByteArray) (s : ByteArray) (w : World) (hr : Reads w B 1 A n (ss.map Value.string)) (hn : n ≤ 1000000) (hk : ss[k]? = some s) :
    Calls Tryz.prog 262 #[.slice A n c, .int .i64 ((k : Int) + 1)] w fun e w' => e = .returned (.tuple #[.string s, .int .i64 0]) ∧ w = w' := by
  have hl : ss.length = n := by simpa using hr.1
  have hkn : k < n := by rw [← hl]; exact (List.getElem?_eq_some_iff.1 hk).1
  obtain ⟨ad, x, rfl, hb, hx, hc⟩ := hr.str_at hkn
  obtain rfl : x = s := by rw [hk] at hx; injection hx with h; exact h.symm
  clear hl hx hk hr
  go_enter Tryz.func262, Tryz.ntmps262
  go_wp2
  go_ret2
  exact ⟨rfl, rfl⟩
end
section
set_option maxRecDepth 100000
open Go.RowKit Go.Maps Go.WideMaps
theorem Tryz.infoStr : (Tryz.prog.info? 9).map (fun i => (i.zero, i.size, i.bytes)) = some (some (.string ByteArray.empty), 1, 16) := by kernel_rfl
theorem strs_one (ss : List ByteArray) : ∀ u ∈ ss.map Value.string, u.oneCell' = true := by
  intro u hu
  obtain ⟨s, _, rfl⟩ := List.mem_map.1 hu
  rfl
theorem CloneS_c (A : Option Addr) (n c B : Nat) (ss : List ByteArray) (w : World) (hr : Reads w B 1 A n (ss.map Value.string)) (hB : B ≤ w.heap.size) (hn : n ≤ 1000000) :
    Calls Tryz.prog 243 #[.slice A n c] w fun e w' => ∃ v, e = .returned v ∧ w'.ownsRow w.heap.size 9 1 v n (ss.map Value.string) ∧ Below w.heap.size w w' := by
  have q : ∀ (w : World) (a : Option Addr) (n c n' c' : Nat), (binOp .eql 32 (.slice a n c) (.slice none n' c')).run Tryz.prog w = .ok (.bool a.isNone) w := fun w a n c n' c' => Lib.run_eql_slice_nil w _ _ a n c n' c' Tryz.underlying32
  obtain ⟨i0, hi0, hz0, hz1, hz2⟩ := info_parts Tryz.infoStr
  rcases A with _ | ad
  · have hn0 : n = 0 := by
      rcases Nat.eq_zero_or_pos n with h | h
      · exact h
      · obtain ⟨_, h, _⟩ := hr.2 h; cases h
    subst hn0
    have hs : ss.map Value.string = [] := List.eq_nil_of_length_eq_zero (by simpa using hr.1)
    have HS := Lib.hid hs; clear hs hr
    go_enter Tryz.func243, Tryz.ntmps243
    go_wp2
    go_ret
    exact ⟨_, rfl, ⟨by rw [HS.out]; rfl, .inl ⟨rfl, rfl⟩⟩, Below.refl _ _⟩
  · have HR := Lib.hid hr; clear hr
    go_enter Tryz.func243, Tryz.ntmps243
    go_wp2_with (at_builtin; go_must (refine wpList_append_any _ rfl _ _ 32 rfl w.heap.size 9 i0 _ 1 16 Tryz.underlying32 hi0 hz0 hz1 hz2 rfl (by omega) _ 0 [] rfl (own_empty w 9 w.heap.size (Nat.le_refl _) 1) B (some ad) n c _ rfl (HR.out.alloc hB _) (strs_one ss) (by unfold maxLen; omega) (by omega) (by simp) ?_); intro v1 w1 hown1 hg1 hat1)
    go_ret
    exact ⟨v1, rfl, by simpa using hown1, below_own ((Below.refl _ _).alloc (Nat.le_refl _) _) hg1 (own_empty w 9 w.heap.size (Nat.le_refl _) 1) (Nat.le_refl _) (by simp)⟩
def putErr (l : List (List UInt8)) (s : List UInt8) : Int :=
  if rightB l = false then 1 else if namedB s = false then 3 else if placeOf l s ≠ 0 then 7 else if l.length = 32 then 9 else 0
def PutPost (A : Option Addr) (n c : Nat) (ss : List ByteArray) (s : ByteArray) (w : World) (e : Ending) (w' : World) : Prop :=
  ((putErr (lists ss) s.data.toList ≠ 0 ∧ e = .returned (.tuple #[.slice A n c, .int .i64 (putErr (lists ss) s.data.toList)])) ∨
   (putErr (lists ss) s.data.toList = 0 ∧ ∃ v, e = .returned (.tuple #[v, .int .i64 0]) ∧ w'.ownsRow w.heap.size 9 1 v (n + 1) ((ss ++ [s]).map Value.string))) ∧ Below w.heap.size w w'
theorem Put_c (A : Option Addr) (n c B : Nat) (ss : List ByteArray) (s : ByteArray) (w : World) (hr : Reads w B 1 A n (ss.map Value.string)) (hB : B ≤ w.heap.size) (hn : n ≤ 100000) (hsz : ∀ s ∈ ss, s.size ≤ maxLen) (hs : s.size ≤ maxLen) :
    Calls Tryz.prog 193 #[.slice A n c, .string s] w (PutPost A n c ss s w) := by
  have hl : ss.length = n := by simpa using hr.1
  have HL := Lib.hid ((lists_length ss).trans hl); clear hl
  have HR := fun W => Lib.hid (Right_c A n c B ss W)
  have HP := fun W => Lib.hid (Place_c A n c B ss s W)
  have HC := fun W => Lib.hid (CloneS_c A n c B ss W)
  have HN := fun W => Lib.hid (Named_c s W hs)
  obtain ⟨i0, hi0, hz0, hz1, hz2⟩ := info_parts Tryz.infoStr
  by_cases hR : rightB (lists ss) = true
  · have hl32 : n ≤ 32 := by
      have := hR; unfold rightB at this; rw [decide_eq_true_eq, HL.out] at this; exact this.1
    by_cases hN : namedB s.data.toList = true
    · by_cases hP : placeOf (lists ss) s.data.toList = 0
      · have hP0 : ¬ ((0 : Int) < (placeOf (lists ss) s.data.toList : Int)) := by omega
        by_cases h32 : n = 32
        · have HE := Lib.hid (show putErr (lists ss) s.data.toList = 9 from by unfold putErr; rw [hR, hN, hP, HL.out, h32]; rfl)
          clear hP
          subst h32
          go_enter Tryz.func193, Tryz.ntmps193
          go_wp2_with fail
          refine ((HR _).out hr hB (by omega) hsz).mono ?_
          rintro e w1 ⟨rfl, hb1⟩
          have hr1 := (hr.more hB).below hb1
          have hw1 := hb1.size
          go_wp2_with fail
          refine ((HN _).out).mono ?_
          rintro e w1' ⟨rfl, rfl⟩
          go_wp2_with fail
          have HP1 := fun W => Lib.hid (Place_c A 32 c w.heap.size ss s W)
          refine ((HP1 _).out hr1 hw1 (by omega) hsz hs).mono ?_
          rintro e w2 ⟨rfl, hb2⟩
          go_wp2
          go_ret2
          exact ⟨.inl ⟨by rw [HE.out]; decide, by rw [HE.out]; rfl⟩, hb1.trans (hb2.mono hw1)⟩
        · have HE := Lib.hid (show putErr (lists ss) s.data.toList = 0 from by unfold putErr; rw [hR, hN, hP, HL.out]; simp [h32])
          have hb32 : ((n : Int) == 32) = false := by simp; omega
          have hb33 : (n == 32) = false := by simp; omega
          clear hP h32
          go_enter Tryz.func193, Tryz.ntmps193
          go_wp2_with fail
          refine ((HR _).out hr hB (by omega) hsz).mono ?_
          rintro e w1 ⟨rfl, hb1⟩
          have hr1 := (hr.more hB).below hb1
          have hw1 := hb1.size
          go_wp2_with fail
          refine ((HN _).out).mono ?_
          rintro e w1' ⟨rfl, rfl⟩
          go_wp2_with fail
          have HP1 := fun W => Lib.hid (Place_c A n c w.heap.size ss s W)
          refine ((HP1 _).out hr1 hw1 (by omega) hsz hs).mono ?_
          rintro e w2 ⟨rfl, hb2⟩
          have hb2' := hb1.trans (hb2.mono hw1)
          have hr2 := (hr.more hB).below hb2'
          have hw2 := hb2'.size
          clear hr1 hb2
          go_wp2_with fail
          have HC1 := fun W => Lib.hid (CloneS_c A n c w.heap.size ss W)
          refine ((HC1 _).out hr2 hw2 (by omega)).mono ?_
          rintro e w3 ⟨v, rfl, hown, hb3⟩
          have hb3' := hb2'.trans (hb3.mono hw2)
          have hw3 := hb3.size
          go_wp2_with (at_builtin; go_must (refine wpList_append_one w3 rfl _ _ 32 rfl w2.heap.size 9 i0 _ 16 Tryz.underlying32 hi0 hz0 hz1 hz2 rfl _ n _ hown rfl (.string s) rfl rfl (by unfold maxLen; omega) (by omega) hw3 ?_); intro v' w4 hown4 hg4)
          go_ret2
          refine ⟨.inr ⟨HE.out, v', rfl, ?_⟩, below_own hb3' hg4 hown hw2 (by omega)⟩
          rw [List.map_append]
          exact ownsRow_base hown4 hw2
      · have hP0 : (0 : Int) < (placeOf (lists ss) s.data.toList : Int) := by omega
        have HE := Lib.hid (show putErr (lists ss) s.data.toList = 7 from by unfold putErr; rw [hR, hN]; simp [hP])
        clear hP
        go_enter Tryz.func193, Tryz.ntmps193
        go_wp2_with fail
        refine ((HR _).out hr hB (by omega) hsz).mono ?_
        rintro e w1 ⟨rfl, hb1⟩
        have hr1 := (hr.more hB).below hb1
        have hw1 := hb1.size
        go_wp2_with fail
        refine ((HN _).out).mono ?_
        rintro e w1' ⟨rfl, rfl⟩
        go_wp2_with fail
        have HP1 := fun W => Lib.hid (Place_c A n c w.heap.size ss s W)
        refine ((HP1 _).out hr1 hw1 (by omega) hsz hs).mono ?_
        rintro e w2 ⟨rfl, hb2⟩
        go_wp2
        go_ret2
        exact ⟨.inl ⟨by rw [HE.out]; decide, by rw [HE.out]; rfl⟩, hb1.trans (hb2.mono hw1)⟩
    · have hN' : namedB s.data.toList = false := by simpa using hN
      have HE := Lib.hid (show putErr (lists ss) s.data.toList = 3 from by unfold putErr; rw [hR, hN']; rfl)
      go_enter Tryz.func193, Tryz.ntmps193
      go_wp2_with fail
      refine ((HR _).out hr hB (by omega) hsz).mono ?_
      rintro e w1 ⟨rfl, hb1⟩
      go_wp2_with fail
      refine ((HN _).out).mono ?_
      rintro e w1' ⟨rfl, rfl⟩
      go_wp2
      go_ret2
      exact ⟨.inl ⟨by rw [HE.out]; decide, by rw [HE.out]; rfl⟩, hb1⟩
  · have hR' : rightB (lists ss) = false := by simpa using hR
    have HE := Lib.hid (show putErr (lists ss) s.data.toList = 1 from by unfold putErr; rw [hR']; rfl)
    go_enter Tryz.func193, Tryz.ntmps193
    go_wp2_with fail
    refine ((HR _).out hr hB (by omega) hsz).mono ?_
    rintro e w1 ⟨rfl, hb1⟩
    go_wp2
    go_ret2
    exact ⟨.inl ⟨by rw [HE.out]; decide, by rw [HE.out]; rfl⟩, hb1⟩
end
section
set_option maxRecDepth 100000
open Go.RowKit
abbrev strB (l : List UInt8) : ByteArray := ⟨l.toArray⟩
def nameSh : Sh (List UInt8) := flatSh 1 (fun l => [.string (strB l)]) (fun l => l.length ≤ maxLen) (fun _ => rfl) (by intro a u hu; rw [List.mem_singleton] at hu; subst hu; rfl)
theorem lists_strB (l : List (List UInt8)) : lists (l.map strB) = l := by
  unfold lists
  rw [List.map_map]
  induction l with
  | nil => rfl
  | cons x l ih => rw [List.map_cons, ih]; rfl
theorem Sl.names {w : World} {X : List Nat} {A : Option Addr} {n c : Nat} {l : List (List UInt8)} (h : Sl nameSh w X A n c l) : Reads w w.heap.size 1 A n ((l.map strB).map Value.string) ∧ ∀ s ∈ l.map strB, s.size ≤ maxLen := by
  obtain ⟨h1, h2, h3, h4, vs, hr, hx, ha⟩ := h
  obtain ⟨rfl, h5⟩ := repAll_flat.1 ha
  rw [flat_single] at hr
  refine ⟨by rw [List.map_map]; exact hr, fun s hs => ?_⟩
  obtain ⟨l, hl, rfl⟩ := List.mem_map.1 hs
  have := h5 l hl
  simpa [strB, ByteArray.size] using this
theorem repAll_names {w : World} {X : List Nat} (l : List (List UInt8)) (h : ∀ s ∈ l, s.length ≤ maxLen) : RepAll nameSh w X ((l.map strB).map Value.string) l := by
  refine repAll_flat.2 ⟨?_, h⟩
  rw [flat_single, List.map_map]
  rfl
theorem rightC_ff {c : Cx} (h : ¬ (0 ≤ c.q ∧ c.q ≤ 4294967296 ∧ 0 ≤ c.a ∧ c.a ≤ 1099511627776)) : rightC c = false := by
  cases hr : rightC c with
  | false => rfl
  | true =>
    unfold rightC at hr
    simp only [Bool.and_eq_true, decide_eq_true_iff] at hr
    exact absurd ⟨hr.1.1.1.1, hr.1.1.1.2, hr.1.1.2, hr.1.2⟩ h
theorem rightC_tt {c : Cx} (h1 : 0 ≤ c.q) (h2 : c.q ≤ 4294967296) (h3 : 0 ≤ c.a) (h4 : c.a ≤ 1099511627776) : rightC c = rightB c.ns := by
  unfold rightC; rw [decide_eq_true h1, decide_eq_true h2, decide_eq_true h3, decide_eq_true h4]; rfl
set_option maxHeartbeats 2000000 in
theorem cRight_s (q a : Int) (ns : List (List UInt8)) (A : Option Addr) (n cp : Nat) (X : List Nat) (w : World) (hs : Sl nameSh w X A n cp ns) (hn : n ≤ 1000) :
    Calls Tryz.prog 125 #[.agg #[.int .i64 q, .int .i64 a, .slice A n cp]] w fun e w' => e = .returned (.bool (rightC ⟨q, a, ns⟩)) ∧ Below w.heap.size w w' := by
  have HS := Lib.hid hs.names
  clear hs
  by_cases h : ¬ (0 ≤ q ∧ q ≤ 4294967296 ∧ 0 ≤ a ∧ a ≤ 1099511627776)
  · rw [rightC_ff (c := ⟨q, a, ns⟩) h]
    rcases (by omega : q < 0 ∨ (0 ≤ q ∧ 4294967296 < q) ∨ (0 ≤ q ∧ q ≤ 4294967296 ∧ a < 0) ∨ (0 ≤ q ∧ q ≤ 4294967296 ∧ 0 ≤ a ∧ 1099511627776 < a)) with h1 | ⟨h0, h1⟩ | ⟨h0, h1, h2⟩ | ⟨h0, h1, h2, h3⟩
    all_goals
      clear h
      go_enter Tryz.func125, Tryz.ntmps125
      go_wp2
      go_ret
      exact ⟨rfl, (Below.refl _ _).alloc (Nat.le_refl _) _⟩
  · obtain ⟨h1, h2, h3, h4⟩ := Classical.not_not.1 h
    rw [rightC_tt (c := ⟨q, a, ns⟩) h1 h2 h3 h4]
    have HL := Lib.hid (lists_strB ns)
    clear h
    go_enter Tryz.func125, Tryz.ntmps125
    go_wp2_with (go_at_call 190; refine (Right_c A n cp w.heap.size (ns.map strB) _ (HS.out.1.alloc (Nat.le_refl _) _) (by simp) (by omega) HS.out.2).mono ?_; rintro e w1 ⟨rfl, hb⟩; rw [HL.out])
    go_ret
    exact ⟨rfl, ((Below.refl _ _).alloc (Nat.le_refl _) _).trans (hb.mono (by simp))⟩
end
section
set_option maxRecDepth 100000
open Go.RowKit
theorem manyE_le (k : Int) : manyE k ≤ 3 := by
  unfold manyE
  split
  · omega
  · split
    · omega
    · split <;> omega
theorem Numbers_c (e0 : Evt) (w : World) : Calls Tryz.prog 195 #[.agg (evA e0)] w fun e w' => ∃ g, e = .returned (.slice (some ⟨g, 0, none⟩) (manyE e0.k) 3) ∧ w.heap.size ≤ g ∧ Blk w' g 2 #[.int .i64 e0.x, .int .i64 e0.y, .int .i64 e0.z] ∧ Below w.heap.size w w' := by
  have HM := fun W => Lib.hid (Many_c e0.k W)
  have hm := manyE_le e0.k
  generalize manyE e0.k = m at HM hm ⊢
  obtain ⟨q, a, k, cm, x, y, z⟩ := e0
  simp only at HM
  go_enter Tryz.func195, Tryz.ntmps195
  go_wp2_with (go_at_call 57; refine ((HM _).out).mono ?_; rintro e w' ⟨rfl, rfl⟩)
  go_ret
  refine ⟨w.heap.size + 1, rfl, by omega, blk2_1 _ _ _ _ _, ((Below.refl _ _).alloc (Nat.le_refl _) _).alloc (by simp) _⟩
end
section
set_option maxRecDepth 100000
open Go.RowKit
def AppOk (P : Program) (t e : TypeId) (size bytes : Nat) : Prop :=
  P.underlying t = some (.slice e) ∧ ∃ i z, P.info? e = some i ∧ i.zero = some z ∧ i.size = size ∧ i.bytes = bytes ∧ z.cells.size = size ∧ 0 < size
theorem appOk {P : Program} {t e : TypeId} {size bytes : Nat} {z : Value} (ht : P.underlying t = some (.slice e)) (hi : (P.info? e).map (fun i => (i.zero, i.size, i.bytes)) = some (some z, size, bytes)) (hz : z.cells.size = size) (hs : 0 < size) : AppOk P t e size bytes := by
  cases h : P.info? e with
  | none => rw [h] at hi; cases hi
  | some i =>
    rw [h] at hi
    simp only [Option.map_some, Option.some.injEq, Prod.mk.injEq] at hi
    exact ⟨ht, i, z, h, hi.1, hi.2.1, hi.2.2, hz, hs⟩
section
variable {P : Program} {w0 W : World} {M X0 : List Nat} {L : List Itm} {F : List Fact}
theorem Held.row_at (h : Held w0 M X0 W L F) (i : Nat) {e : TypeId} {size n : Nat} {v : Value} {xs : List Value} (hi : L[i]? = some (.row e size v n xs)) : W.ownsRow 0 e size v n xs := h.ent i hi
theorem wpList_append_held {ops : Array Oper} {rest : List Oper} {o : Oper} {a : Act} {Q : Exit → Act → World → Prop} (HK : Held w0 M X0 W L F) (k : Nat) (hgd : o.guard = none) (s x : Operand) (t : TypeId)
    (ho : o.op = .call { callee := .builtin .append, args := #[s, x], argTypes := #[t, t] }) {e : TypeId} {size bytes : Nat} (hT : AppOk P t e size bytes)
    {v : Value} {n : Nat} {xs : List Value} (hk : L[k]? = some (.row e size v n xs)) (hs : a.eval s = v)
    {B : Nat} {A : Option Addr} {m c : Nat} {news : List Value} (hx : a.eval x = .slice A m c) (hr : Reads W B size A m news) (h1 : ∀ u ∈ news, u.oneCell' = true)
    (h63 : n + m ≤ maxLen) (hbytes : (n + m) * bytes ≤ 140737488355328)
    (h : ∀ v' w', Held w0 M X0 w' (L.set k (.row e size v' (n + m) (xs ++ news))) F → wpList P ops Q rest (a.put o.dst v') w') : wpList P ops Q (o :: rest) a W := by
  obtain ⟨ht, i, z, hi, hz, hsize, hby, hzs, hsz⟩ := hT
  exact wpList_append_any W hgd s x t ho 0 e i z size bytes ht hi hz hsize hby hzs hsz v n xs hs (HK.ent k hk) B A m c news hx hr h1 h63 hbytes (Nat.zero_le _) (fun v' w' h2 h3 h4 => h v' w' (HK.appended k hk h2 h3 h4))
theorem wpList_append_new {ops : Array Oper} {rest : List Oper} {o : Oper} {a : Act} {Q : Exit → Act → World → Prop} (HK : Held w0 M X0 W L F) (k : Nat) (hgd : o.guard = none) (s x : Operand) (t : TypeId)
    (ho : o.op = .call { callee := .builtin .append, args := #[s, x], argTypes := #[t, t] }) {e : TypeId} {size bytes : Nat} (hT : AppOk P t e size bytes)
    {v : Value} {n : Nat} {xs : List Value} (hk : L[k]? = some (.row e size v n xs)) (hs : a.eval s = v)
    {cs : Array Value} (hx : a.eval x = .slice (some ⟨W.heap.size, 0, none⟩) 1 1) (hcs : cs.size = size) (h1 : ∀ u ∈ cs.toList, u.oneCell' = true)
    (h63 : n + 1 ≤ maxLen) (hbytes : (n + 1) * bytes ≤ 140737488355328)
    (h : ∀ v' w', Held w0 M X0 w' (L.set k (.row e size v' (n + 1) (xs ++ cs.toList))) F → wpList P ops Q rest (a.put o.dst v') w') : wpList P ops Q (o :: rest) a (W.alloc (.cells cs e)) := by
  refine wpList_append_held (HK.alloc_off _) k hgd s x t ho hT hk hs hx (B := W.heap.size + 1) (news := cs.toList) ?_ h1 h63 hbytes h
  refine ⟨by simp [hcs], fun _ => ⟨_, rfl, Nat.lt_succ_self _, fun j u hu => ?_⟩⟩
  rw [add_plain, Nat.zero_add, (Blk.new W e cs).cell j]
  simpa using hu
end
theorem by_key0 {G T : Prop} (h1 : Hid G → T) (key : G) : T := h1 key
theorem Held.new_box {w0 W W' : World} {M X0 : List Nat} {L : List Itm} {F : List Fact} (h : Held w0 M X0 W L F) (hk : Below W.heap.size W W') {g : Nat} {t : TypeId} {cs : Array Value} (hb : Blk W' g t cs) (hg : W.heap.size ≤ g) : Held w0 M X0 W' (.box g t cs :: L) F :=
  h.add hk _ hb (fun g' e => by injection e with e; subst e; exact ⟨hg, hb.lt⟩)
theorem Held.marked {w0 W : World} {M X0 : List Nat} {L : List Itm} {F : List Fact} (h : Held w0 M X0 W L F) (C : Array Value) (e : TypeId) (fr : Nat × Nat) (l : List UInt8) (hC : C.toList = l.map (fun x => Value.int .u8 (x.toNat : Int))) (hl : l.length ≤ maxLen) :
    Held w0 M X0 (W.alloc (.cells C e fr)) L (Sl.fact byteSh (some ⟨W.heap.size, 0, none⟩) l.length l.length l :: F) := by
  refine (h.alloc_off _).know _ ⟨rfl, Nat.le_refl _, hl, fun e => (by cases e), l.map (fun x => Value.int .u8 (x.toNat : Int)), ⟨by simp [byteSh, flatSh], fun _ => ⟨_, rfl, by simp, fun j u hu => ?_⟩⟩, fun _ ad e' hin => ?_, repAll_bytes l⟩
  · rw [add_plain, Nat.zero_add]
    have h1 : (W.alloc (.cells C e fr)).heap[W.heap.size]? = some (.cells C e fr) := by
      show (W.heap.push _)[W.heap.size]? = _
      simp
    unfold World.cell?
    simp only [h1]
    rw [← hC] at hu
    simpa using hu
  · injection e' with e'
    subst e'
    have h1 := h.xok' _ hin
    simp at h1
end
section
set_option maxRecDepth 100000
open Go.RowKit
theorem Clip_c (A : Option Addr) (n c : Nat) (w : World) (hn : n ≤ c) (hc : c ≤ 9223372036854775807) : Calls Tryz.prog 191 #[.slice A n c] w fun e w' => e = .returned (.slice A n n) ∧ w = w' := by
  go_enter Tryz.func191, Tryz.ntmps191
  go_wp2
  go_ret
  exact ⟨rfl, rfl⟩
theorem PutUint_i {A : Option Addr} {n c : Nat} {l : List UInt8} {X : List Nat} {w : World} (hX : XOk X w) (hs : Sl byteSh w X A n c l) (z : Int) (h0 : 0 ≤ z) (h1 : z < 18446744073709551616) (hn : n ≤ 900000) :
    Calls Tryz.prog 180 #[.slice A n c, .int .u64 z] w fun e w' => ∃ A' c', e = .returned (.slice A' (n + (uencB z.toNat).length) c') ∧ Sl byteSh w' X A' (n + (uencB z.toNat).length) c' (l ++ uencB z.toNat) ∧ Below w.heap.size w w' := by
  have hz : ((z.toNat : Nat) : Int) = z := Int.toNat_of_nonneg h0
  have h := PutUint_c A n c w.heap.size l z.toNat (by omega) w hs.bytes (Nat.le_refl _) hn
  rw [hz] at h
  refine h.mono ?_
  rintro e w' ⟨v, rfl, hown, hb⟩
  obtain ⟨A', c', rfl, h2⟩ := Sl.of_made (s := byteSh) hown hX (repAll_bytes _) (Nat.zero_lt_one)
  exact ⟨A', c', rfl, h2, hb⟩
theorem PutText_i {A : Option Addr} {n c : Nat} {l : List UInt8} {X : List Nat} {w : World} (hX : XOk X w) (hs : Sl byteSh w X A n c l) (s : ByteArray) (hl : s.size ≤ 400000) (hn : n ≤ 400000) :
    Calls Tryz.prog 194 #[.slice A n c, .string s] w fun e w' => ∃ A' c', e = .returned (.slice A' (n + (textB s.data.toList).length) c') ∧ Sl byteSh w' X A' (n + (textB s.data.toList).length) c' (l ++ textB s.data.toList) ∧ Below w.heap.size w w' := by
  have h := PutText_c A n c w.heap.size l s.data.toList w hs.bytes (Nat.le_refl _) hn (by rw [Array.length_toList]; exact hl)
  rw [show (⟨s.data.toList.toArray⟩ : ByteArray) = s from rfl] at h
  refine h.mono ?_
  rintro e w' ⟨v, rfl, hown, hb⟩
  obtain ⟨A', c', rfl, h2⟩ := Sl.of_made (s := byteSh) hown hX (repAll_bytes _) (Nat.zero_lt_one)
  exact ⟨A', c', rfl, h2, hb⟩
theorem textB_len (cm : ByteArray) (h : cm.size ≤ 24) : (textB cm.data.toList).length ≤ 34 := by
  have e : cm.data.toList.length = cm.size := Array.length_toList
  unfold textB
  rw [List.length_append, e]
  have := uencB_len cm.size (by omega)
  omega
def EncPost (c : Cx) (e0 : Evt) (cells : Array Value) (X : List Nat) (w : World) (e : Ending) (w' : World) : Prop :=
  Below w.heap.size w w' ∧ ((errC c e0 ≠ 0 ∧ e = .returned (.tuple #[.slice none 0 0, .agg cells, .int .i64 (errC c e0)])) ∨
    (errC c e0 = 0 ∧ ∃ A n cp A2 n2 c2, e = .returned (.tuple #[.slice A n cp, .agg #[.int .i64 e0.q, .int .i64 e0.a, .slice A2 n2 c2], .int .i64 0]) ∧ Sl byteSh w' X A n cp (bytesC c e0) ∧ Sl nameSh w' X A2 n2 c2 (nextC c e0).ns))
theorem res_enc {W : World} {g : Nat} {x0 x1 x2 u v : Value} (h : Blk W g 34 #[x0, x1, x2]) (tmps : Array Value) (ht : tmps[5]?.getD undef = .pointer (some ⟨g, 0, none⟩)) (hu : tmps[6]?.getD undef = u) (hv : tmps[4]?.getD undef = v) : (results Tryz.f127 tmps).run Tryz.prog W = .ok (.tuple #[v, .agg #[x0, x1, x2], u]) W := by
  have c0 : W.cell? ⟨g, 0, none⟩ = some x0 := h.cell 0
  have c1 : W.cell? ⟨g, 1, none⟩ = some x1 := h.cell 1
  have c2 : W.cell? ⟨g, 2, none⟩ = some x2 := h.cell 2
  simp [results, Tryz.results127, go_sem, ht, hu, hv, c0, c1, c2]
theorem num_at (x y z : Int) (j : Nat) (hj : j < 3) : (#[Value.int .i64 x, .int .i64 y, .int .i64 z])[j]? = some (.int .i64 ([x, y, z].getD j 0)) := by
  rcases (by omega : j = 0 ∨ j = 1 ∨ j = 2) with rfl | rfl | rfl <;> rfl
theorem num_take (x y z : Int) (m j : Nat) (hj : j < m) (hm : m ≤ 3) : (([x, y, z].take m).take (j + 1)).flatMap (fun n => uencB n.toNat) = (([x, y, z].take m).take j).flatMap (fun n => uencB n.toNat) ++ uencB ([x, y, z].getD j 0).toNat := by
  rcases (by omega : (j = 0 ∧ m = 1) ∨ (j = 0 ∧ m = 2) ∨ (j = 0 ∧ m = 3) ∨ (j = 1 ∧ m = 2) ∨ (j = 1 ∧ m = 3) ∨ (j = 2 ∧ m = 3)) with ⟨rfl, rfl⟩ | ⟨rfl, rfl⟩ | ⟨rfl, rfl⟩ | ⟨rfl, rfl⟩ | ⟨rfl, rfl⟩ | ⟨rfl, rfl⟩ <;> simp
set_option maxHeartbeats 8000000 in
theorem Encode_s (q a : Int) (ns : List (List UInt8)) (An : Option Addr) (nn cn : Nat) (e0 : Evt) (X : List Nat) (w : World) (hX : XOk X w) (hs : Sl nameSh w X An nn cn ns) (hnn : nn ≤ 1000) (hcm : e0.cm.size ≤ maxLen) :
    Calls Tryz.prog 127 #[.agg #[.int .i64 q, .int .i64 a, .slice An nn cn], .agg (evA e0)] w (EncPost ⟨q, a, ns⟩ e0 #[.int .i64 q, .int .i64 a, .slice An nn cn] X w) := by
  have HNL := Lib.hid hs.len
  have HNC := Lib.hid hs.le
  have hmax := hs.max
  unfold maxLen at hmax
  have HE : Hid (errC ⟨q, a, ns⟩ e0 = if rightC ⟨q, a, ns⟩ = false then 1 else if chkE e0 ≠ 0 then chkE e0 else if e0.q ≤ q then 1 else if e0.a < a then 5 else if placeOf ns e0.cm.data.toList = 0 ∧ ns.length = 32 then 9 else 0) := rfl
  have HBy : Hid (bytesC ⟨q, a, ns⟩ e0 = uencB e0.k.toNat ++ uencB (e0.q - q).toNat ++ uencB (e0.a - a).toNat ++ uencB (placeOf ns e0.cm.data.toList) ++ (if placeOf ns e0.cm.data.toList = 0 then textB e0.cm.data.toList else []) ++ (([e0.x, e0.y, e0.z].take (manyE e0.k)).flatMap (fun n => uencB n.toNat))) := rfl
  have HNx : Hid ((nextC ⟨q, a, ns⟩ e0).ns = if placeOf ns e0.cm.data.toList = 0 then ns ++ [e0.cm.data.toList] else ns) := rfl
  have HCk := Lib.hid (@chkE_ok e0)
  have HWn := Lib.hid (@within_nums e0)
  have HC := fun W => Lib.hid (Check_c e0 hcm W)
  have HNu := fun W => Lib.hid (Numbers_c e0 W)
  unfold EncPost
  generalize errC ⟨q, a, ns⟩ e0 = er at HE ⊢
  generalize bytesC ⟨q, a, ns⟩ e0 = by_ at HBy ⊢
  generalize (nextC ⟨q, a, ns⟩ e0).ns = nx at HNx ⊢
  have HRt := Lib.hid (show rightC ⟨q, a, ns⟩ = true → (0 ≤ q ∧ q ≤ 4294967296 ∧ 0 ≤ a ∧ a ≤ 1099511627776) ∧ rightB ns = true from fun h => by
    unfold rightC at h
    simp only [Bool.and_eq_true, decide_eq_true_iff] at h
    exact ⟨⟨h.1.1.1.1, h.1.1.1.2, h.1.1.2, h.1.2⟩, h.2⟩)
  have HR := fun (A : Option Addr) (n c : Nat) (X : List Nat) (W : World) (h : Sl nameSh W X A n c ns) (hn : n ≤ 1000) => Lib.hid (cRight_s q a ns A n c X W h hn)
  generalize rightC ⟨q, a, ns⟩ = rc at HE HR HRt
  generalize chkE e0 = ck at HE HCk HC
  obtain ⟨eq, ea, ek, cm, ex, ey, ez⟩ := e0
  simp only at HE HBy HNx HCk HWn HC HNu hcm ⊢
  have HK1 := Lib.hid (show Held w [] X (((w.alloc (.cells #[.int .i64 q, .int .i64 a, .slice An nn cn] 34)).alloc (.cells #[.int .i64 eq, .int .i64 ea, .int .i64 ek, .string cm, .int .i64 ex, .int .i64 ey, .int .i64 ez] 44)).alloc (.cells #[.int .i64 0, .int .i64 0, .slice none 0 0] 34)) [.box (w.heap.size + 2) 34 #[.int .i64 0, .int .i64 0, .slice none 0 0], .box (w.heap.size + 1) 44 #[.int .i64 eq, .int .i64 ea, .int .i64 ek, .string cm, .int .i64 ex, .int .i64 ey, .int .i64 ez], .box (w.heap.size) 34 #[.int .i64 q, .int .i64 a, .slice An nn cn]] [Sl.fact nameSh An nn cn ns] from (((((Held.start w hX).alloc_at 34 #[.int .i64 q, .int .i64 a, .slice An nn cn] (w.heap.size) (by simp)).alloc_at 44 #[.int .i64 eq, .int .i64 ea, .int .i64 ek, .string cm, .int .i64 ex, .int .i64 ey, .int .i64 ez] (w.heap.size + 1) (by simp)).alloc_at 34 #[.int .i64 0, .int .i64 0, .slice none 0 0] (w.heap.size + 2) (by simp)).know0 (Sl.fact nameSh An nn cn ns) hs))
  clear hs
  go_enter Tryz.func127, Tryz.ntmps127
  go_wp2_with fail
  with_reducible refine ((HR An nn cn _ _ (HK1.out.sl 0 rfl) hnn).out).mono ?_
  rintro e w1 ⟨rfl, hb⟩
  have HK2 := Lib.hid (show Held w [] X w1 [.box (w.heap.size + 2) 34 #[.int .i64 0, .int .i64 0, .slice none 0 0], .box (w.heap.size + 1) 44 #[.int .i64 eq, .int .i64 ea, .int .i64 ek, .string cm, .int .i64 ex, .int .i64 ey, .int .i64 ez], .box (w.heap.size) 34 #[.int .i64 q, .int .i64 a, .slice An nn cn]] [Sl.fact nameSh An nn cn ns] from (HK1.out.on hb))
  clear HK1
  clear hb
  cases rc
  · skip
    rw [if_pos rfl] at HE
    have c_c_0_3 : w1.cell? ⟨w.heap.size, 0, none⟩ = some (.int .i64 q) := HK2.out.cell 2 rfl 0
    have c_c_1_4 : w1.cell? ⟨w.heap.size, 1, none⟩ = some (.int .i64 a) := HK2.out.cell 2 rfl 1
    have c_c_2_5 : w1.cell? ⟨w.heap.size, 2, none⟩ = some (.slice An nn cn) := HK2.out.cell 2 rfl 2
    go_wp2_with fail
    clear c_c_0_3 c_c_1_4 c_c_2_5
    refine wp_region_noPanic ?_
    refine wp_region_held_drew (S := fun W' => HeldBut w [] X W' [.box (w.heap.size + 2) 34 #[.int .i64 0, .int .i64 0, .slice none 0 0], .box (w.heap.size + 1) 44 #[.int .i64 eq, .int .i64 ea, .int .i64 ek, .string cm, .int .i64 ex, .int .i64 ey, .int .i64 ez], .box (w.heap.size) 34 #[.int .i64 q, .int .i64 a, .slice An nn cn]] [Sl.fact nameSh An nn cn ns] 0 (w.heap.size + 2) 34) (by kernel_rfl) (HK2.out.but 0 rfl).drew (fun hHeld => ?_)
    have c_r_0_6 : w1.cell? ⟨w.heap.size + 2, 0, none⟩ = some (.int .i64 0) := HK2.out.cell 0 rfl 0
    have z_r_0_7 : w1.frozen? ⟨w.heap.size + 2, 0, none⟩ = false := HK2.out.frozen 0 rfl 0
    have c_r_1_8 : w1.cell? ⟨w.heap.size + 2, 1, none⟩ = some (.int .i64 0) := HK2.out.cell 0 rfl 1
    have z_r_1_9 : w1.frozen? ⟨w.heap.size + 2, 1, none⟩ = false := HK2.out.frozen 0 rfl 1
    have c_r_2_10 : w1.cell? ⟨w.heap.size + 2, 2, none⟩ = some (.slice none 0 0) := HK2.out.cell 0 rfl 2
    have z_r_2_11 : w1.frozen? ⟨w.heap.size + 2, 2, none⟩ = false := HK2.out.frozen 0 rfl 2
    refine takeH 0 (v := ?v0u1) rfl (by kernel_rfl) (by kernel_rfl) (by kernel_rfl) rfl (fun _ _ _ h => h) (Or.inl ⟨by rfl, ?y0u1⟩) hHeld ?r0u1
    case y0u1 => (intro W hSW; (try dsimp only at hSW); have q0 : W.cell? ⟨w.heap.size, 0, none⟩ = some (.int .i64 q) := hSW.cell 2 rfl (by decide) 0; have q1 : W.cell? ⟨w.heap.size, 1, none⟩ = some (.int .i64 a) := hSW.cell 2 rfl (by decide) 1; have q2 : W.cell? ⟨w.heap.size, 2, none⟩ = some (.slice An nn cn) := hSW.cell 2 rfl (by decide) 2; go_simp; try with_reducible rfl)
    simp only [Act.put, sI, sZ, sS]
    refine takeH 1 (v := ?v1u2) rfl (by kernel_rfl) (by kernel_rfl) (by kernel_rfl) rfl (fun _ _ _ h => h) (Or.inl ⟨by rfl, ?y1u2⟩) hHeld ?r1u2
    case y1u2 => (intro W hSW; (try dsimp only at hSW); go_simp; try with_reducible rfl)
    simp only [Act.put, sI, sZ, sS]
    refine wpAnyH_ready (rs := [2]) (by kernel_rfl) (by simp) ?_
    refine AllReadyH.cons rfl (fun K hK => ?_) AllReadyH.nil
    go_simp
    refine hK.out _ _ (((hHeld.set_ (by simp) 0 (.int .i64 q)).set_ (by simp) 1 (.int .i64 a)).set_ (by simp) 2 (.slice An nn cn)) (fun hHeld => ?_)
    clear hK K
    try simp only [Act.put, sI, sZ, sS]
    refine takeH 3 (v := ?v3u3) rfl (by kernel_rfl) (by kernel_rfl) (by kernel_rfl) rfl (fun _ _ _ h => h) (Or.inl ⟨by rfl, ?y3u3⟩) hHeld ?r3u3
    case y3u3 => (intro W hSW; (try dsimp only at hSW); go_simp; try with_reducible rfl)
    simp only [Act.put, sI, sZ, sS]
    refine wpAnyH_done (by kernel_rfl) ?_ _
    refine NoPanic.normal ?_
    clear c_r_0_6 z_r_0_7 c_r_1_8 z_r_1_9 c_r_2_10 z_r_2_11
    have HK12 := Lib.hid (show Held w [] X (((w1.setCell ⟨w.heap.size + 2, 0, none⟩ (.int .i64 q)).setCell ⟨w.heap.size + 2, 1, none⟩ (.int .i64 a)).setCell ⟨w.heap.size + 2, 2, none⟩ (.slice An nn cn)) [.box (w.heap.size + 2) 34 #[.int .i64 q, .int .i64 a, .slice An nn cn], .box (w.heap.size + 1) 44 #[.int .i64 eq, .int .i64 ea, .int .i64 ek, .string cm, .int .i64 ex, .int .i64 ey, .int .i64 ez], .box (w.heap.size) 34 #[.int .i64 q, .int .i64 a, .slice An nn cn]] [Sl.fact nameSh An nn cn ns] from (((HK2.out.set_ 0 rfl 0 (.int .i64 q)).set_ 0 rfl 1 (.int .i64 a)).set_ 0 rfl 2 (.slice An nn cn)))
    clear HK2
    go_wp2
    exact bodyPost_ret (res_enc (HK12.out.drew.blk 0 rfl) (u := .int .i64 (1)) (v := .slice none 0 0) _ rfl rfl rfl) rfl ⟨HK12.out.drew.below, .inl ⟨by rw [HE.out]; decide, by rw [HE.out]⟩⟩
  rw [if_neg (by simp)] at HE
  obtain ⟨⟨hq0, hq1, ha0, ha1⟩, hrb⟩ := HRt.out rfl
  clear HRt
  have HRB := Lib.hid hrb
  clear hrb
  have c_e_0_3 : w1.cell? ⟨w.heap.size + 1, 0, none⟩ = some (.int .i64 eq) := HK2.out.cell 1 rfl 0
  have c_e_1_4 : w1.cell? ⟨w.heap.size + 1, 1, none⟩ = some (.int .i64 ea) := HK2.out.cell 1 rfl 1
  have c_e_2_5 : w1.cell? ⟨w.heap.size + 1, 2, none⟩ = some (.int .i64 ek) := HK2.out.cell 1 rfl 2
  have c_e_3_6 : w1.cell? ⟨w.heap.size + 1, 3, none⟩ = some (.string cm) := HK2.out.cell 1 rfl 3
  have c_e_4_7 : w1.cell? ⟨w.heap.size + 1, 4, none⟩ = some (.int .i64 ex) := HK2.out.cell 1 rfl 4
  have c_e_5_8 : w1.cell? ⟨w.heap.size + 1, 5, none⟩ = some (.int .i64 ey) := HK2.out.cell 1 rfl 5
  have c_e_6_9 : w1.cell? ⟨w.heap.size + 1, 6, none⟩ = some (.int .i64 ez) := HK2.out.cell 1 rfl 6
  go_wp2_with fail
  with_reducible refine ((HC _).out).mono ?_
  rintro e w2 ⟨rfl, hb⟩
  clear c_e_0_3 c_e_1_4 c_e_2_5 c_e_3_6 c_e_4_7 c_e_5_8 c_e_6_9
  have HK10 := Lib.hid (show Held w [] X w2 [.box (w.heap.size + 2) 34 #[.int .i64 0, .int .i64 0, .slice none 0 0], .box (w.heap.size + 1) 44 #[.int .i64 eq, .int .i64 ea, .int .i64 ek, .string cm, .int .i64 ex, .int .i64 ey, .int .i64 ez], .box (w.heap.size) 34 #[.int .i64 q, .int .i64 a, .slice An nn cn]] [Sl.fact nameSh An nn cn ns] from (HK2.out.on hb))
  clear HK2
  clear hb
  by_cases hck : ck ≠ 0
  · skip
    rw [if_pos hck] at HE
    have b1 : (ck != 0) = true := by rw [bne_iff_ne]; exact hck
    have HCK := Lib.hid hck
    clear hck
    have c_c_0_11 : w2.cell? ⟨w.heap.size, 0, none⟩ = some (.int .i64 q) := HK10.out.cell 2 rfl 0
    have c_c_1_12 : w2.cell? ⟨w.heap.size, 1, none⟩ = some (.int .i64 a) := HK10.out.cell 2 rfl 1
    have c_c_2_13 : w2.cell? ⟨w.heap.size, 2, none⟩ = some (.slice An nn cn) := HK10.out.cell 2 rfl 2
    go_wp2_with fail
    clear c_c_0_11 c_c_1_12 c_c_2_13
    refine wp_region_noPanic ?_
    refine wp_region_held_drew (S := fun W' => HeldBut w [] X W' [.box (w.heap.size + 2) 34 #[.int .i64 0, .int .i64 0, .slice none 0 0], .box (w.heap.size + 1) 44 #[.int .i64 eq, .int .i64 ea, .int .i64 ek, .string cm, .int .i64 ex, .int .i64 ey, .int .i64 ez], .box (w.heap.size) 34 #[.int .i64 q, .int .i64 a, .slice An nn cn]] [Sl.fact nameSh An nn cn ns] 0 (w.heap.size + 2) 34) (by kernel_rfl) (HK10.out.but 0 rfl).drew (fun hHeld => ?_)
    have c_r_0_14 : w2.cell? ⟨w.heap.size + 2, 0, none⟩ = some (.int .i64 0) := HK10.out.cell 0 rfl 0
    have z_r_0_15 : w2.frozen? ⟨w.heap.size + 2, 0, none⟩ = false := HK10.out.frozen 0 rfl 0
    have c_r_1_16 : w2.cell? ⟨w.heap.size + 2, 1, none⟩ = some (.int .i64 0) := HK10.out.cell 0 rfl 1
    have z_r_1_17 : w2.frozen? ⟨w.heap.size + 2, 1, none⟩ = false := HK10.out.frozen 0 rfl 1
    have c_r_2_18 : w2.cell? ⟨w.heap.size + 2, 2, none⟩ = some (.slice none 0 0) := HK10.out.cell 0 rfl 2
    have z_r_2_19 : w2.frozen? ⟨w.heap.size + 2, 2, none⟩ = false := HK10.out.frozen 0 rfl 2
    refine takeH 0 (v := ?v0u4) rfl (by kernel_rfl) (by kernel_rfl) (by kernel_rfl) rfl (fun _ _ _ h => h) (Or.inl ⟨by rfl, ?y0u4⟩) hHeld ?r0u4
    case y0u4 => (intro W hSW; (try dsimp only at hSW); have q0 : W.cell? ⟨w.heap.size, 0, none⟩ = some (.int .i64 q) := hSW.cell 2 rfl (by decide) 0; have q1 : W.cell? ⟨w.heap.size, 1, none⟩ = some (.int .i64 a) := hSW.cell 2 rfl (by decide) 1; have q2 : W.cell? ⟨w.heap.size, 2, none⟩ = some (.slice An nn cn) := hSW.cell 2 rfl (by decide) 2; go_simp; try with_reducible rfl)
    simp only [Act.put, sI, sZ, sS]
    refine takeH 1 (v := ?v1u5) rfl (by kernel_rfl) (by kernel_rfl) (by kernel_rfl) rfl (fun _ _ _ h => h) (Or.inl ⟨by rfl, ?y1u5⟩) hHeld ?r1u5
    case y1u5 => (intro W hSW; (try dsimp only at hSW); go_simp; try with_reducible rfl)
    simp only [Act.put, sI, sZ, sS]
    refine takeH 2 (v := ?v2u6) rfl (by kernel_rfl) (by kernel_rfl) (by kernel_rfl) rfl (fun _ _ _ h => h) (Or.inl ⟨by rfl, ?y2u6⟩) hHeld ?r2u6
    case y2u6 => (intro W hSW; (try dsimp only at hSW); go_simp; try with_reducible rfl)
    simp only [Act.put, sI, sZ, sS]
    refine wpAnyH_ready (rs := [3]) (by kernel_rfl) (by simp) ?_
    refine AllReadyH.cons rfl (fun K hK => ?_) AllReadyH.nil
    go_simp
    refine hK.out _ _ (((hHeld.set_ (by simp) 0 (.int .i64 q)).set_ (by simp) 1 (.int .i64 a)).set_ (by simp) 2 (.slice An nn cn)) (fun hHeld => ?_)
    clear hK K
    try simp only [Act.put, sI, sZ, sS]
    refine takeH 4 (v := ?v4u7) rfl (by kernel_rfl) (by kernel_rfl) (by kernel_rfl) rfl (fun _ _ _ h => h) (Or.inl ⟨by rfl, ?y4u7⟩) hHeld ?r4u7
    case y4u7 => (intro W hSW; (try dsimp only at hSW); go_simp; try with_reducible rfl)
    simp only [Act.put, sI, sZ, sS]
    refine wpAnyH_done (by kernel_rfl) ?_ _
    refine NoPanic.normal ?_
    clear c_r_0_14 z_r_0_15 c_r_1_16 z_r_1_17 c_r_2_18 z_r_2_19
    have HK20 := Lib.hid (show Held w [] X (((w2.setCell ⟨w.heap.size + 2, 0, none⟩ (.int .i64 q)).setCell ⟨w.heap.size + 2, 1, none⟩ (.int .i64 a)).setCell ⟨w.heap.size + 2, 2, none⟩ (.slice An nn cn)) [.box (w.heap.size + 2) 34 #[.int .i64 q, .int .i64 a, .slice An nn cn], .box (w.heap.size + 1) 44 #[.int .i64 eq, .int .i64 ea, .int .i64 ek, .string cm, .int .i64 ex, .int .i64 ey, .int .i64 ez], .box (w.heap.size) 34 #[.int .i64 q, .int .i64 a, .slice An nn cn]] [Sl.fact nameSh An nn cn ns] from (((HK10.out.set_ 0 rfl 0 (.int .i64 q)).set_ 0 rfl 1 (.int .i64 a)).set_ 0 rfl 2 (.slice An nn cn)))
    clear HK10
    go_wp2
    exact bodyPost_ret (res_enc (HK20.out.drew.blk 0 rfl) (u := .int .i64 (ck)) (v := .slice none 0 0) _ rfl rfl rfl) rfl ⟨HK20.out.drew.below, .inl ⟨by rw [HE.out]; exact HCK.out, by rw [HE.out]⟩⟩
  rw [if_neg hck] at HE
  have hck0 : ck = 0 := Classical.not_not.1 hck
  subst hck0
  clear hck
  obtain ⟨hk1, hk2, hnm, hwi, hea0, hea1, heq0, heq1⟩ := HCk.out rfl
  obtain ⟨⟨nx0, nx1⟩, ⟨ny0, ny1⟩, ⟨nz0, nz1⟩, -, -⟩ := HWn.out ⟨hk1, hk2⟩ hwi
  clear HCk HWn hwi HC HR
  have HNM := Lib.hid hnm
  have hsz : cm.size ≤ 24 := by unfold namedE at hnm; simp only [Bool.and_eq_true, decide_eq_true_iff] at hnm; exact hnm.2
  clear hnm
  by_cases hq : eq ≤ q
  · skip
    rw [if_pos hq] at HE
    have c_c_0_11 : w2.cell? ⟨w.heap.size, 0, none⟩ = some (.int .i64 q) := HK10.out.cell 2 rfl 0
    have c_c_1_12 : w2.cell? ⟨w.heap.size, 1, none⟩ = some (.int .i64 a) := HK10.out.cell 2 rfl 1
    have c_c_2_13 : w2.cell? ⟨w.heap.size, 2, none⟩ = some (.slice An nn cn) := HK10.out.cell 2 rfl 2
    have c_e_0_14 : w2.cell? ⟨w.heap.size + 1, 0, none⟩ = some (.int .i64 eq) := HK10.out.cell 1 rfl 0
    have c_e_1_15 : w2.cell? ⟨w.heap.size + 1, 1, none⟩ = some (.int .i64 ea) := HK10.out.cell 1 rfl 1
    have c_e_2_16 : w2.cell? ⟨w.heap.size + 1, 2, none⟩ = some (.int .i64 ek) := HK10.out.cell 1 rfl 2
    have c_e_3_17 : w2.cell? ⟨w.heap.size + 1, 3, none⟩ = some (.string cm) := HK10.out.cell 1 rfl 3
    have c_e_4_18 : w2.cell? ⟨w.heap.size + 1, 4, none⟩ = some (.int .i64 ex) := HK10.out.cell 1 rfl 4
    have c_e_5_19 : w2.cell? ⟨w.heap.size + 1, 5, none⟩ = some (.int .i64 ey) := HK10.out.cell 1 rfl 5
    have c_e_6_20 : w2.cell? ⟨w.heap.size + 1, 6, none⟩ = some (.int .i64 ez) := HK10.out.cell 1 rfl 6
    go_wp2_with fail
    clear c_c_0_11 c_c_1_12 c_c_2_13 c_e_0_14 c_e_1_15 c_e_2_16 c_e_3_17 c_e_4_18 c_e_5_19 c_e_6_20
    refine wp_region_noPanic ?_
    refine wp_region_held_drew (S := fun W' => HeldBut w [] X W' [.box (w.heap.size + 2) 34 #[.int .i64 0, .int .i64 0, .slice none 0 0], .box (w.heap.size + 1) 44 #[.int .i64 eq, .int .i64 ea, .int .i64 ek, .string cm, .int .i64 ex, .int .i64 ey, .int .i64 ez], .box (w.heap.size) 34 #[.int .i64 q, .int .i64 a, .slice An nn cn]] [Sl.fact nameSh An nn cn ns] 0 (w.heap.size + 2) 34) (by kernel_rfl) (HK10.out.but 0 rfl).drew (fun hHeld => ?_)
    have c_r_0_21 : w2.cell? ⟨w.heap.size + 2, 0, none⟩ = some (.int .i64 0) := HK10.out.cell 0 rfl 0
    have z_r_0_22 : w2.frozen? ⟨w.heap.size + 2, 0, none⟩ = false := HK10.out.frozen 0 rfl 0
    have c_r_1_23 : w2.cell? ⟨w.heap.size + 2, 1, none⟩ = some (.int .i64 0) := HK10.out.cell 0 rfl 1
    have z_r_1_24 : w2.frozen? ⟨w.heap.size + 2, 1, none⟩ = false := HK10.out.frozen 0 rfl 1
    have c_r_2_25 : w2.cell? ⟨w.heap.size + 2, 2, none⟩ = some (.slice none 0 0) := HK10.out.cell 0 rfl 2
    have z_r_2_26 : w2.frozen? ⟨w.heap.size + 2, 2, none⟩ = false := HK10.out.frozen 0 rfl 2
    refine takeH 0 (v := ?v0u8) rfl (by kernel_rfl) (by kernel_rfl) (by kernel_rfl) rfl (fun _ _ _ h => h) (Or.inl ⟨by rfl, ?y0u8⟩) hHeld ?r0u8
    case y0u8 => (intro W hSW; (try dsimp only at hSW); have q0 : W.cell? ⟨w.heap.size, 0, none⟩ = some (.int .i64 q) := hSW.cell 2 rfl (by decide) 0; have q1 : W.cell? ⟨w.heap.size, 1, none⟩ = some (.int .i64 a) := hSW.cell 2 rfl (by decide) 1; have q2 : W.cell? ⟨w.heap.size, 2, none⟩ = some (.slice An nn cn) := hSW.cell 2 rfl (by decide) 2; go_simp; try with_reducible rfl)
    simp only [Act.put, sI, sZ, sS]
    refine takeH 1 (v := ?v1u9) rfl (by kernel_rfl) (by kernel_rfl) (by kernel_rfl) rfl (fun _ _ _ h => h) (Or.inl ⟨by rfl, ?y1u9⟩) hHeld ?r1u9
    case y1u9 => (intro W hSW; (try dsimp only at hSW); go_simp; try with_reducible rfl)
    simp only [Act.put, sI, sZ, sS]
    refine wpAnyH_ready (rs := [2]) (by kernel_rfl) (by simp) ?_
    refine AllReadyH.cons rfl (fun K hK => ?_) AllReadyH.nil
    go_simp
    refine hK.out _ _ (((hHeld.set_ (by simp) 0 (.int .i64 q)).set_ (by simp) 1 (.int .i64 a)).set_ (by simp) 2 (.slice An nn cn)) (fun hHeld => ?_)
    clear hK K
    try simp only [Act.put, sI, sZ, sS]
    refine takeH 3 (v := ?v3u10) rfl (by kernel_rfl) (by kernel_rfl) (by kernel_rfl) rfl (fun _ _ _ h => h) (Or.inl ⟨by rfl, ?y3u10⟩) hHeld ?r3u10
    case y3u10 => (intro W hSW; (try dsimp only at hSW); go_simp; try with_reducible rfl)
    simp only [Act.put, sI, sZ, sS]
    refine wpAnyH_done (by kernel_rfl) ?_ _
    refine NoPanic.normal ?_
    clear c_r_0_21 z_r_0_22 c_r_1_23 z_r_1_24 c_r_2_25 z_r_2_26
    have HK27 := Lib.hid (show Held w [] X (((w2.setCell ⟨w.heap.size + 2, 0, none⟩ (.int .i64 q)).setCell ⟨w.heap.size + 2, 1, none⟩ (.int .i64 a)).setCell ⟨w.heap.size + 2, 2, none⟩ (.slice An nn cn)) [.box (w.heap.size + 2) 34 #[.int .i64 q, .int .i64 a, .slice An nn cn], .box (w.heap.size + 1) 44 #[.int .i64 eq, .int .i64 ea, .int .i64 ek, .string cm, .int .i64 ex, .int .i64 ey, .int .i64 ez], .box (w.heap.size) 34 #[.int .i64 q, .int .i64 a, .slice An nn cn]] [Sl.fact nameSh An nn cn ns] from (((HK10.out.set_ 0 rfl 0 (.int .i64 q)).set_ 0 rfl 1 (.int .i64 a)).set_ 0 rfl 2 (.slice An nn cn)))
    clear HK10
    go_wp2
    exact bodyPost_ret (res_enc (HK27.out.drew.blk 0 rfl) (u := .int .i64 (1)) (v := .slice none 0 0) _ rfl rfl rfl) rfl ⟨HK27.out.drew.below, .inl ⟨by rw [HE.out]; decide, by rw [HE.out]⟩⟩
  rw [if_neg hq] at HE
  by_cases ha : ea < a
  · skip
    rw [if_pos ha] at HE
    have c_c_0_11 : w2.cell? ⟨w.heap.size, 0, none⟩ = some (.int .i64 q) := HK10.out.cell 2 rfl 0
    have c_c_1_12 : w2.cell? ⟨w.heap.size, 1, none⟩ = some (.int .i64 a) := HK10.out.cell 2 rfl 1
    have c_c_2_13 : w2.cell? ⟨w.heap.size, 2, none⟩ = some (.slice An nn cn) := HK10.out.cell 2 rfl 2
    have c_e_0_14 : w2.cell? ⟨w.heap.size + 1, 0, none⟩ = some (.int .i64 eq) := HK10.out.cell 1 rfl 0
    have c_e_1_15 : w2.cell? ⟨w.heap.size + 1, 1, none⟩ = some (.int .i64 ea) := HK10.out.cell 1 rfl 1
    have c_e_2_16 : w2.cell? ⟨w.heap.size + 1, 2, none⟩ = some (.int .i64 ek) := HK10.out.cell 1 rfl 2
    have c_e_3_17 : w2.cell? ⟨w.heap.size + 1, 3, none⟩ = some (.string cm) := HK10.out.cell 1 rfl 3
    have c_e_4_18 : w2.cell? ⟨w.heap.size + 1, 4, none⟩ = some (.int .i64 ex) := HK10.out.cell 1 rfl 4
    have c_e_5_19 : w2.cell? ⟨w.heap.size + 1, 5, none⟩ = some (.int .i64 ey) := HK10.out.cell 1 rfl 5
    have c_e_6_20 : w2.cell? ⟨w.heap.size + 1, 6, none⟩ = some (.int .i64 ez) := HK10.out.cell 1 rfl 6
    go_wp2_with fail
    clear c_c_0_11 c_c_1_12 c_c_2_13 c_e_0_14 c_e_1_15 c_e_2_16 c_e_3_17 c_e_4_18 c_e_5_19 c_e_6_20
    refine wp_region_noPanic ?_
    refine wp_region_held_drew (S := fun W' => HeldBut w [] X W' [.box (w.heap.size + 2) 34 #[.int .i64 0, .int .i64 0, .slice none 0 0], .box (w.heap.size + 1) 44 #[.int .i64 eq, .int .i64 ea, .int .i64 ek, .string cm, .int .i64 ex, .int .i64 ey, .int .i64 ez], .box (w.heap.size) 34 #[.int .i64 q, .int .i64 a, .slice An nn cn]] [Sl.fact nameSh An nn cn ns] 0 (w.heap.size + 2) 34) (by kernel_rfl) (HK10.out.but 0 rfl).drew (fun hHeld => ?_)
    have c_r_0_21 : w2.cell? ⟨w.heap.size + 2, 0, none⟩ = some (.int .i64 0) := HK10.out.cell 0 rfl 0
    have z_r_0_22 : w2.frozen? ⟨w.heap.size + 2, 0, none⟩ = false := HK10.out.frozen 0 rfl 0
    have c_r_1_23 : w2.cell? ⟨w.heap.size + 2, 1, none⟩ = some (.int .i64 0) := HK10.out.cell 0 rfl 1
    have z_r_1_24 : w2.frozen? ⟨w.heap.size + 2, 1, none⟩ = false := HK10.out.frozen 0 rfl 1
    have c_r_2_25 : w2.cell? ⟨w.heap.size + 2, 2, none⟩ = some (.slice none 0 0) := HK10.out.cell 0 rfl 2
    have z_r_2_26 : w2.frozen? ⟨w.heap.size + 2, 2, none⟩ = false := HK10.out.frozen 0 rfl 2
    refine takeH 0 (v := ?v0u11) rfl (by kernel_rfl) (by kernel_rfl) (by kernel_rfl) rfl (fun _ _ _ h => h) (Or.inl ⟨by rfl, ?y0u11⟩) hHeld ?r0u11
    case y0u11 => (intro W hSW; (try dsimp only at hSW); have q0 : W.cell? ⟨w.heap.size, 0, none⟩ = some (.int .i64 q) := hSW.cell 2 rfl (by decide) 0; have q1 : W.cell? ⟨w.heap.size, 1, none⟩ = some (.int .i64 a) := hSW.cell 2 rfl (by decide) 1; have q2 : W.cell? ⟨w.heap.size, 2, none⟩ = some (.slice An nn cn) := hSW.cell 2 rfl (by decide) 2; go_simp; try with_reducible rfl)
    simp only [Act.put, sI, sZ, sS]
    refine takeH 1 (v := ?v1u12) rfl (by kernel_rfl) (by kernel_rfl) (by kernel_rfl) rfl (fun _ _ _ h => h) (Or.inl ⟨by rfl, ?y1u12⟩) hHeld ?r1u12
    case y1u12 => (intro W hSW; (try dsimp only at hSW); go_simp; try with_reducible rfl)
    simp only [Act.put, sI, sZ, sS]
    refine wpAnyH_ready (rs := [2]) (by kernel_rfl) (by simp) ?_
    refine AllReadyH.cons rfl (fun K hK => ?_) AllReadyH.nil
    go_simp
    refine hK.out _ _ (((hHeld.set_ (by simp) 0 (.int .i64 q)).set_ (by simp) 1 (.int .i64 a)).set_ (by simp) 2 (.slice An nn cn)) (fun hHeld => ?_)
    clear hK K
    try simp only [Act.put, sI, sZ, sS]
    refine takeH 3 (v := ?v3u13) rfl (by kernel_rfl) (by kernel_rfl) (by kernel_rfl) rfl (fun _ _ _ h => h) (Or.inl ⟨by rfl, ?y3u13⟩) hHeld ?r3u13
    case y3u13 => (intro W hSW; (try dsimp only at hSW); go_simp; try with_reducible rfl)
    simp only [Act.put, sI, sZ, sS]
    refine wpAnyH_done (by kernel_rfl) ?_ _
    refine NoPanic.normal ?_
    clear c_r_0_21 z_r_0_22 c_r_1_23 z_r_1_24 c_r_2_25 z_r_2_26
    have HK27 := Lib.hid (show Held w [] X (((w2.setCell ⟨w.heap.size + 2, 0, none⟩ (.int .i64 q)).setCell ⟨w.heap.size + 2, 1, none⟩ (.int .i64 a)).setCell ⟨w.heap.size + 2, 2, none⟩ (.slice An nn cn)) [.box (w.heap.size + 2) 34 #[.int .i64 q, .int .i64 a, .slice An nn cn], .box (w.heap.size + 1) 44 #[.int .i64 eq, .int .i64 ea, .int .i64 ek, .string cm, .int .i64 ex, .int .i64 ey, .int .i64 ez], .box (w.heap.size) 34 #[.int .i64 q, .int .i64 a, .slice An nn cn]] [Sl.fact nameSh An nn cn ns] from (((HK10.out.set_ 0 rfl 0 (.int .i64 q)).set_ 0 rfl 1 (.int .i64 a)).set_ 0 rfl 2 (.slice An nn cn)))
    clear HK10
    go_wp2
    exact bodyPost_ret (res_enc (HK27.out.drew.blk 0 rfl) (u := .int .i64 (5)) (v := .slice none 0 0) _ rfl rfl rfl) rfl ⟨HK27.out.drew.below, .inl ⟨by rw [HE.out]; decide, by rw [HE.out]⟩⟩
  rw [if_neg ha] at HE
  have ha' : a ≤ ea := by omega
  have hq' : q < eq := by omega
  clear ha hq
  have c_c_0_11 : w2.cell? ⟨w.heap.size, 0, none⟩ = some (.int .i64 q) := HK10.out.cell 2 rfl 0
  have c_c_1_12 : w2.cell? ⟨w.heap.size, 1, none⟩ = some (.int .i64 a) := HK10.out.cell 2 rfl 1
  have c_c_2_13 : w2.cell? ⟨w.heap.size, 2, none⟩ = some (.slice An nn cn) := HK10.out.cell 2 rfl 2
  have c_e_0_14 : w2.cell? ⟨w.heap.size + 1, 0, none⟩ = some (.int .i64 eq) := HK10.out.cell 1 rfl 0
  have c_e_1_15 : w2.cell? ⟨w.heap.size + 1, 1, none⟩ = some (.int .i64 ea) := HK10.out.cell 1 rfl 1
  have c_e_2_16 : w2.cell? ⟨w.heap.size + 1, 2, none⟩ = some (.int .i64 ek) := HK10.out.cell 1 rfl 2
  have c_e_3_17 : w2.cell? ⟨w.heap.size + 1, 3, none⟩ = some (.string cm) := HK10.out.cell 1 rfl 3
  have c_e_4_18 : w2.cell? ⟨w.heap.size + 1, 4, none⟩ = some (.int .i64 ex) := HK10.out.cell 1 rfl 4
  have c_e_5_19 : w2.cell? ⟨w.heap.size + 1, 5, none⟩ = some (.int .i64 ey) := HK10.out.cell 1 rfl 5
  have c_e_6_20 : w2.cell? ⟨w.heap.size + 1, 6, none⟩ = some (.int .i64 ez) := HK10.out.cell 1 rfl 6
  go_wp2_with fail
  clear c_c_0_11 c_c_1_12 c_c_2_13 c_e_0_14 c_e_1_15 c_e_2_16 c_e_3_17 c_e_4_18 c_e_5_19 c_e_6_20
  refine wp_region_noPanic ?_
  refine wp_region_held_drew (S := fun W' => Held w [] X W' [.box (w.heap.size + 2) 34 #[.int .i64 0, .int .i64 0, .slice none 0 0], .box (w.heap.size + 1) 44 #[.int .i64 eq, .int .i64 ea, .int .i64 ek, .string cm, .int .i64 ex, .int .i64 ey, .int .i64 ez], .box (w.heap.size) 34 #[.int .i64 q, .int .i64 a, .slice An nn cn]] [Sl.fact nameSh An nn cn ns]) (by kernel_rfl) HK10.out.drew (fun hHeld => ?_)
  refine takeH 0 (v := ?v0u14) rfl (by kernel_rfl) (by kernel_rfl) (by kernel_rfl) rfl (fun _ _ _ h => h) (Or.inl ⟨by rfl, ?y0u14⟩) hHeld ?r0u14
  case y0u14 => (intro W hSW; (try dsimp only at hSW); go_simp; try with_reducible rfl)
  simp only [Act.put, sI, sZ, sS]
  refine takeH 1 (v := ?v1u15) rfl (by kernel_rfl) (by kernel_rfl) (by kernel_rfl) rfl (fun _ _ _ h => h) (Or.inl ⟨by rfl, ?y1u15⟩) hHeld ?r1u15
  case y1u15 => (intro W hSW; (try dsimp only at hSW); have q0 : W.cell? ⟨w.heap.size + 1, 0, none⟩ = some (.int .i64 eq) := hSW.cell 1 rfl 0; go_simp; try with_reducible rfl)
  simp only [Act.put, sI, sZ, sS]
  refine takeH 2 (v := ?v2u16) rfl (by kernel_rfl) (by kernel_rfl) (by kernel_rfl) rfl (fun _ _ _ h => h) (Or.inl ⟨by rfl, ?y2u16⟩) hHeld ?r2u16
  case y2u16 => (intro W hSW; (try dsimp only at hSW); go_simp; try with_reducible rfl)
  simp only [Act.put, sI, sZ, sS]
  refine takeH 3 (v := ?v3u17) rfl (by kernel_rfl) (by kernel_rfl) (by kernel_rfl) rfl (fun _ _ _ h => h) (Or.inl ⟨by rfl, ?y3u17⟩) hHeld ?r3u17
  case y3u17 => (intro W hSW; (try dsimp only at hSW); have q1 : W.cell? ⟨w.heap.size + 1, 1, none⟩ = some (.int .i64 ea) := hSW.cell 1 rfl 1; go_simp; try with_reducible rfl)
  simp only [Act.put, sI, sZ, sS]
  refine takeH 4 (v := ?v4u18) rfl (by kernel_rfl) (by kernel_rfl) (by kernel_rfl) rfl (fun _ _ _ h => h) (Or.inl ⟨by rfl, ?y4u18⟩) hHeld ?r4u18
  case y4u18 => (intro W hSW; (try dsimp only at hSW); go_simp; try with_reducible rfl)
  simp only [Act.put, sI, sZ, sS]
  refine takeH 5 (v := ?v5u19) rfl (by kernel_rfl) (by kernel_rfl) (by kernel_rfl) rfl (fun _ _ _ h => h) (Or.inl ⟨by rfl, ?y5u19⟩) hHeld ?r5u19
  case y5u19 => (intro W hSW; (try dsimp only at hSW); have q2 : W.cell? ⟨w.heap.size, 2, none⟩ = some (.slice An nn cn) := hSW.cell 2 rfl 2; go_simp; try with_reducible rfl)
  simp only [Act.put, sI, sZ, sS]
  refine by_key0 (G := ?G) ?main ?key
  case main =>
    intro hkey
    refine wpAnyH_ready (rs := [6, 8]) (by kernel_rfl) (by simp) ?_
    refine AllReadyH.cons rfl (fun K hK => ?_) (AllReadyH.cons rfl (fun K hK => ?_) AllReadyH.nil)
    · go_simp
      refine (Clip_c An nn cn _ HNC.out (by omega)).mono ?_
      rintro e w' ⟨rfl, rfl⟩
      refine hK.out _ _ hHeld (fun hHeld => ?_)
      clear hK K
      try simp only [Act.put, sI, sZ, sS]
      refine takeH 7 (v := ?v7u20) rfl (by kernel_rfl) (by kernel_rfl) (by kernel_rfl) rfl (fun _ _ _ h => h) (Or.inl ⟨by rfl, ?y7u20⟩) hHeld ?r7u20
      case y7u20 => (intro W hSW; (try dsimp only at hSW); go_simp; try with_reducible rfl)
      simp only [Act.put, sI, sZ, sS]
      refine wpAnyH_ready (rs := [8]) (by kernel_rfl) (by simp) ?_
      refine AllReadyH.cons rfl (fun K hK => ?_) AllReadyH.nil
      go_simp
      refine hK.out _ _ (hHeld.alloc_off (.cells #[.int .i64 0, .int .i64 0, .slice none 0 0] 34)) (fun hHeld => ?_)
      clear hK K
      try simp only [Act.put, sI, sZ, sS]
      clear hHeld
      exact hkey.out
    · go_simp
      refine hK.out _ _ (hHeld.alloc_off (.cells #[.int .i64 0, .int .i64 0, .slice none 0 0] 34)) (fun hHeld => ?_)
      clear hK K
      try simp only [Act.put, sI, sZ, sS]
      refine wpAnyH_ready (rs := [6]) (by kernel_rfl) (by simp) ?_
      refine AllReadyH.cons rfl (fun K hK => ?_) AllReadyH.nil
      go_simp
      refine (Clip_c An nn cn _ HNC.out (by omega)).mono ?_
      rintro e w' ⟨rfl, rfl⟩
      refine hK.out _ _ hHeld (fun hHeld => ?_)
      clear hK K
      try simp only [Act.put, sI, sZ, sS]
      refine takeH 7 (v := ?v7u21) rfl (by kernel_rfl) (by kernel_rfl) (by kernel_rfl) rfl (fun _ _ _ h => h) (Or.inl ⟨by rfl, ?y7u21⟩) hHeld ?r7u21
      case y7u21 => (intro W hSW; (try dsimp only at hSW); go_simp; try with_reducible rfl)
      simp only [Act.put, sI, sZ, sS]
      clear hHeld
      exact hkey.out
  case key =>
    have hH0 := hHeld
    replace hHeld := hHeld.alloc_off (.cells #[.int .i64 0, .int .i64 0, .slice none 0 0] 34)
    refine wpAnyH_ready (rs := [9]) (by kernel_rfl) (by simp) ?_
    refine AllReadyH.cons rfl (fun K hK => ?_) AllReadyH.nil
    go_simp
    refine hK.out _ _ (hH0.alloc_off (.cells #[.int .i64 eq, .int .i64 ea, .slice An nn nn] 34)) (fun hHeld => ?_)
    clear hK K
    try simp only [Act.put, sI, sZ, sS]
    refine wpAnyH_done (by kernel_rfl) ?_ _
    refine NoPanic.normal ?_
    clear hH0 hHeld
    have HK21 := Lib.hid (show Held w [] X (w2.alloc (.cells #[.int .i64 eq, .int .i64 ea, .slice An nn nn] 34)).drew [.box (w2.heap.size) 34 #[.int .i64 eq, .int .i64 ea, .slice An nn nn], .box (w.heap.size + 2) 34 #[.int .i64 0, .int .i64 0, .slice none 0 0], .box (w.heap.size + 1) 44 #[.int .i64 eq, .int .i64 ea, .int .i64 ek, .string cm, .int .i64 ex, .int .i64 ey, .int .i64 ez], .box (w.heap.size) 34 #[.int .i64 q, .int .i64 a, .slice An nn cn]] [Sl.fact nameSh An nn cn ns] from (HK10.out.alloc_at 34 #[.int .i64 eq, .int .i64 ea, .slice An nn nn] w2.heap.size rfl).drew)
    clear HK10
    generalize (w2.alloc (.cells #[.int .i64 eq, .int .i64 ea, .slice An nn nn] 34)).drew = w3 at HK21 ⊢
    generalize w2.heap.size = gb at HK21 ⊢
    have HPE := Lib.hid (show ∀ pl, placeOf ns cm.data.toList = pl → putErr ns cm.data.toList = if pl ≠ 0 then 7 else if ns.length = 32 then 9 else 0 from fun pl h => by unfold putErr; rw [HRB.out, if_neg (by simp), ← named_same, HNM.out, if_neg (by simp), h])
    have HPL := Lib.hid (lists_strB ns)
    have c_c_0_22 : w3.cell? ⟨w.heap.size, 0, none⟩ = some (.int .i64 q) := HK21.out.cell 3 rfl 0
    have c_c_1_23 : w3.cell? ⟨w.heap.size, 1, none⟩ = some (.int .i64 a) := HK21.out.cell 3 rfl 1
    have c_c_2_24 : w3.cell? ⟨w.heap.size, 2, none⟩ = some (.slice An nn cn) := HK21.out.cell 3 rfl 2
    have c_e_0_25 : w3.cell? ⟨w.heap.size + 1, 0, none⟩ = some (.int .i64 eq) := HK21.out.cell 2 rfl 0
    have c_e_1_26 : w3.cell? ⟨w.heap.size + 1, 1, none⟩ = some (.int .i64 ea) := HK21.out.cell 2 rfl 1
    have c_e_2_27 : w3.cell? ⟨w.heap.size + 1, 2, none⟩ = some (.int .i64 ek) := HK21.out.cell 2 rfl 2
    have c_e_3_28 : w3.cell? ⟨w.heap.size + 1, 3, none⟩ = some (.string cm) := HK21.out.cell 2 rfl 3
    have c_e_4_29 : w3.cell? ⟨w.heap.size + 1, 4, none⟩ = some (.int .i64 ex) := HK21.out.cell 2 rfl 4
    have c_e_5_30 : w3.cell? ⟨w.heap.size + 1, 5, none⟩ = some (.int .i64 ey) := HK21.out.cell 2 rfl 5
    have c_e_6_31 : w3.cell? ⟨w.heap.size + 1, 6, none⟩ = some (.int .i64 ez) := HK21.out.cell 2 rfl 6
    go_wp2_with fail
    with_reducible refine (Place_c An nn cn _ (ns.map strB) cm _ (HK21.out.sl 0 rfl).names.1 (Nat.le_refl _) (by omega) (HK21.out.sl 0 rfl).names.2 hcm).mono ?_
    rw [HPL.out]
    rintro e w4 ⟨rfl, hb⟩
    clear c_c_0_22 c_c_1_23 c_c_2_24 c_e_0_25 c_e_1_26 c_e_2_27 c_e_3_28 c_e_4_29 c_e_5_30 c_e_6_31
    have HK32 := Lib.hid (show Held w [] X w4 [.box (gb) 34 #[.int .i64 eq, .int .i64 ea, .slice An nn nn], .box (w.heap.size + 2) 34 #[.int .i64 0, .int .i64 0, .slice none 0 0], .box (w.heap.size + 1) 44 #[.int .i64 eq, .int .i64 ea, .int .i64 ek, .string cm, .int .i64 ex, .int .i64 ey, .int .i64 ez], .box (w.heap.size) 34 #[.int .i64 q, .int .i64 a, .slice An nn cn]] [Sl.fact nameSh An nn cn ns] from (HK21.out.on hb))
    clear HK21
    clear hb
    have hple := placeOf_le ns cm.data.toList
    have HPE2 := Lib.hid (HPE.out _ rfl)
    generalize placeOf ns cm.data.toList = pl at HE HBy HNx HPE2 hple ⊢
    have hpl2 : pl ≤ 1000 := by have := HNL.out; omega
    clear HPE hple
    by_cases hp : pl = 0
    · skip
      subst hp
      have hp0 : True := trivial
      rw [if_pos rfl] at HNx
      have c_c_0_33 : w4.cell? ⟨w.heap.size, 0, none⟩ = some (.int .i64 q) := HK32.out.cell 3 rfl 0
      have c_c_1_34 : w4.cell? ⟨w.heap.size, 1, none⟩ = some (.int .i64 a) := HK32.out.cell 3 rfl 1
      have c_c_2_35 : w4.cell? ⟨w.heap.size, 2, none⟩ = some (.slice An nn cn) := HK32.out.cell 3 rfl 2
      have c_e_0_36 : w4.cell? ⟨w.heap.size + 1, 0, none⟩ = some (.int .i64 eq) := HK32.out.cell 2 rfl 0
      have c_e_1_37 : w4.cell? ⟨w.heap.size + 1, 1, none⟩ = some (.int .i64 ea) := HK32.out.cell 2 rfl 1
      have c_e_2_38 : w4.cell? ⟨w.heap.size + 1, 2, none⟩ = some (.int .i64 ek) := HK32.out.cell 2 rfl 2
      have c_e_3_39 : w4.cell? ⟨w.heap.size + 1, 3, none⟩ = some (.string cm) := HK32.out.cell 2 rfl 3
      have c_e_4_40 : w4.cell? ⟨w.heap.size + 1, 4, none⟩ = some (.int .i64 ex) := HK32.out.cell 2 rfl 4
      have c_e_5_41 : w4.cell? ⟨w.heap.size + 1, 5, none⟩ = some (.int .i64 ey) := HK32.out.cell 2 rfl 5
      have c_e_6_42 : w4.cell? ⟨w.heap.size + 1, 6, none⟩ = some (.int .i64 ez) := HK32.out.cell 2 rfl 6
      go_wp2_with fail
      with_reducible refine (Put_c An nn cn _ (ns.map strB) cm _ (HK32.out.sl 0 rfl).names.1 (Nat.le_refl _) (by omega) (HK32.out.sl 0 rfl).names.2 hcm).mono ?_
      unfold PutPost
      rw [HPL.out, HPE2.out, if_neg (by simp)]
      by_cases h32 : ns.length = 32
      · skip
        rw [if_pos h32]
        rw [if_pos (show _ ∧ _ from ⟨trivial, h32⟩)] at HE
        rintro e w5 ⟨h1 | h1, hb⟩
        rotate_left
        · exact absurd h1.1 (by decide)
        obtain ⟨-, rfl⟩ := h1
        clear h32
        clear c_c_0_33 c_c_1_34 c_c_2_35 c_e_0_36 c_e_1_37 c_e_2_38 c_e_3_39 c_e_4_40 c_e_5_41 c_e_6_42
        have HK43 := Lib.hid (show Held w [] X w5 [.box (gb) 34 #[.int .i64 eq, .int .i64 ea, .slice An nn nn], .box (w.heap.size + 2) 34 #[.int .i64 0, .int .i64 0, .slice none 0 0], .box (w.heap.size + 1) 44 #[.int .i64 eq, .int .i64 ea, .int .i64 ek, .string cm, .int .i64 ex, .int .i64 ey, .int .i64 ez], .box (w.heap.size) 34 #[.int .i64 q, .int .i64 a, .slice An nn cn]] [Sl.fact nameSh An nn cn ns] from (HK32.out.on hb))
        clear HK32
        clear hb
        have c_c_0_44 : w5.cell? ⟨w.heap.size, 0, none⟩ = some (.int .i64 q) := HK43.out.cell 3 rfl 0
        have c_c_1_45 : w5.cell? ⟨w.heap.size, 1, none⟩ = some (.int .i64 a) := HK43.out.cell 3 rfl 1
        have c_c_2_46 : w5.cell? ⟨w.heap.size, 2, none⟩ = some (.slice An nn cn) := HK43.out.cell 3 rfl 2
        go_wp2_with fail
        clear c_c_0_44 c_c_1_45 c_c_2_46
        refine wp_region_noPanic ?_
        refine wp_region_held_drew (S := fun W' => HeldBut w [] X W' [.box (gb) 34 #[.int .i64 eq, .int .i64 ea, .slice An nn nn], .box (w.heap.size + 2) 34 #[.int .i64 0, .int .i64 0, .slice none 0 0], .box (w.heap.size + 1) 44 #[.int .i64 eq, .int .i64 ea, .int .i64 ek, .string cm, .int .i64 ex, .int .i64 ey, .int .i64 ez], .box (w.heap.size) 34 #[.int .i64 q, .int .i64 a, .slice An nn cn]] [Sl.fact nameSh An nn cn ns] 1 (w.heap.size + 2) 34) (by kernel_rfl) (HK43.out.but 1 rfl).drew (fun hHeld => ?_)
        have c_r_0_47 : w5.cell? ⟨w.heap.size + 2, 0, none⟩ = some (.int .i64 0) := HK43.out.cell 1 rfl 0
        have z_r_0_48 : w5.frozen? ⟨w.heap.size + 2, 0, none⟩ = false := HK43.out.frozen 1 rfl 0
        have c_r_1_49 : w5.cell? ⟨w.heap.size + 2, 1, none⟩ = some (.int .i64 0) := HK43.out.cell 1 rfl 1
        have z_r_1_50 : w5.frozen? ⟨w.heap.size + 2, 1, none⟩ = false := HK43.out.frozen 1 rfl 1
        have c_r_2_51 : w5.cell? ⟨w.heap.size + 2, 2, none⟩ = some (.slice none 0 0) := HK43.out.cell 1 rfl 2
        have z_r_2_52 : w5.frozen? ⟨w.heap.size + 2, 2, none⟩ = false := HK43.out.frozen 1 rfl 2
        refine takeH 0 (v := ?v0u22) rfl (by kernel_rfl) (by kernel_rfl) (by kernel_rfl) rfl (fun _ _ _ h => h) (Or.inl ⟨by rfl, ?y0u22⟩) hHeld ?r0u22
        case y0u22 => (intro W hSW; (try dsimp only at hSW); have q0 : W.cell? ⟨w.heap.size, 0, none⟩ = some (.int .i64 q) := hSW.cell 3 rfl (by decide) 0; have q1 : W.cell? ⟨w.heap.size, 1, none⟩ = some (.int .i64 a) := hSW.cell 3 rfl (by decide) 1; have q2 : W.cell? ⟨w.heap.size, 2, none⟩ = some (.slice An nn cn) := hSW.cell 3 rfl (by decide) 2; go_simp; try with_reducible rfl)
        simp only [Act.put, sI, sZ, sS]
        refine takeH 1 (v := ?v1u23) rfl (by kernel_rfl) (by kernel_rfl) (by kernel_rfl) rfl (fun _ _ _ h => h) (Or.inl ⟨by rfl, ?y1u23⟩) hHeld ?r1u23
        case y1u23 => (intro W hSW; (try dsimp only at hSW); go_simp; try with_reducible rfl)
        simp only [Act.put, sI, sZ, sS]
        refine takeH 2 (v := ?v2u24) rfl (by kernel_rfl) (by kernel_rfl) (by kernel_rfl) rfl (fun _ _ _ h => h) (Or.inl ⟨by rfl, ?y2u24⟩) hHeld ?r2u24
        case y2u24 => (intro W hSW; (try dsimp only at hSW); go_simp; try with_reducible rfl)
        simp only [Act.put, sI, sZ, sS]
        refine wpAnyH_ready (rs := [3]) (by kernel_rfl) (by simp) ?_
        refine AllReadyH.cons rfl (fun K hK => ?_) AllReadyH.nil
        go_simp
        refine hK.out _ _ (((hHeld.set_ (by simp) 0 (.int .i64 q)).set_ (by simp) 1 (.int .i64 a)).set_ (by simp) 2 (.slice An nn cn)) (fun hHeld => ?_)
        clear hK K
        try simp only [Act.put, sI, sZ, sS]
        refine takeH 4 (v := ?v4u25) rfl (by kernel_rfl) (by kernel_rfl) (by kernel_rfl) rfl (fun _ _ _ h => h) (Or.inl ⟨by rfl, ?y4u25⟩) hHeld ?r4u25
        case y4u25 => (intro W hSW; (try dsimp only at hSW); go_simp; try with_reducible rfl)
        simp only [Act.put, sI, sZ, sS]
        refine wpAnyH_done (by kernel_rfl) ?_ _
        refine NoPanic.normal ?_
        clear c_r_0_47 z_r_0_48 c_r_1_49 z_r_1_50 c_r_2_51 z_r_2_52
        have HK53 := Lib.hid (show Held w [] X (((w5.setCell ⟨w.heap.size + 2, 0, none⟩ (.int .i64 q)).setCell ⟨w.heap.size + 2, 1, none⟩ (.int .i64 a)).setCell ⟨w.heap.size + 2, 2, none⟩ (.slice An nn cn)) [.box (gb) 34 #[.int .i64 eq, .int .i64 ea, .slice An nn nn], .box (w.heap.size + 2) 34 #[.int .i64 q, .int .i64 a, .slice An nn cn], .box (w.heap.size + 1) 44 #[.int .i64 eq, .int .i64 ea, .int .i64 ek, .string cm, .int .i64 ex, .int .i64 ey, .int .i64 ez], .box (w.heap.size) 34 #[.int .i64 q, .int .i64 a, .slice An nn cn]] [Sl.fact nameSh An nn cn ns] from (((HK43.out.set_ 1 rfl 0 (.int .i64 q)).set_ 1 rfl 1 (.int .i64 a)).set_ 1 rfl 2 (.slice An nn cn)))
        clear HK43
        go_wp2
        exact bodyPost_ret (res_enc (HK53.out.drew.blk 1 rfl) (u := .int .i64 (9)) (v := .slice none 0 0) _ rfl rfl rfl) rfl ⟨HK53.out.drew.below, .inl ⟨by rw [HE.out]; decide, by rw [HE.out]⟩⟩
      rw [if_neg h32]
      rw [if_neg (fun h => h32 h.2)] at HE
      clear h32
      rintro e w5 ⟨h1 | h1, hb⟩
      · exact absurd rfl h1.1
      obtain ⟨-, v, rfl, hown⟩ := h1
      have hra : ∀ W X, RepAll nameSh W X ((ns.map strB ++ [cm]).map Value.string) (ns ++ [cm.data.toList]) := fun W X => by
        have h1 := repAll_names (w := W) (X := X) (ns ++ [cm.data.toList]) (fun s hs => by
          rcases List.mem_append.1 hs with hs | hs
          · have h2 := (HK32.out.sl 0 rfl).names.2 (strB s) (List.mem_map_of_mem hs); simpa [strB, ByteArray.size] using h2
          · rw [List.mem_singleton] at hs; subst hs; rw [Array.length_toList]; exact hcm)
        rw [List.map_append] at h1; exact h1
      obtain ⟨A5, c5, rfl, hsl⟩ := Sl.of_made (s := nameSh) hown HK32.out.xok' (hra _ _) Nat.zero_lt_one
      clear hown hra
      clear c_c_0_33 c_c_1_34 c_c_2_35 c_e_0_36 c_e_1_37 c_e_2_38 c_e_3_39 c_e_4_40 c_e_5_41 c_e_6_42
      have HK43 := Lib.hid (show Held w [] X w5 [.box (gb) 34 #[.int .i64 eq, .int .i64 ea, .slice An nn nn], .box (w.heap.size + 2) 34 #[.int .i64 0, .int .i64 0, .slice none 0 0], .box (w.heap.size + 1) 44 #[.int .i64 eq, .int .i64 ea, .int .i64 ek, .string cm, .int .i64 ex, .int .i64 ey, .int .i64 ez], .box (w.heap.size) 34 #[.int .i64 q, .int .i64 a, .slice An nn cn]] [Sl.fact nameSh A5 (nn + 1) c5 (ns ++ [cm.data.toList]), Sl.fact nameSh An nn cn ns] from ((HK32.out.on hb).know (Sl.fact nameSh A5 (nn + 1) c5 (ns ++ [cm.data.toList])) hsl))
      clear HK32
      clear hb
      clear hsl
      have c_b_0_44 : w5.cell? ⟨gb, 0, none⟩ = some (.int .i64 eq) := HK43.out.cell 0 rfl 0
      have z_b_0_45 : w5.frozen? ⟨gb, 0, none⟩ = false := HK43.out.frozen 0 rfl 0
      have c_b_1_46 : w5.cell? ⟨gb, 1, none⟩ = some (.int .i64 ea) := HK43.out.cell 0 rfl 1
      have z_b_1_47 : w5.frozen? ⟨gb, 1, none⟩ = false := HK43.out.frozen 0 rfl 1
      have c_b_2_48 : w5.cell? ⟨gb, 2, none⟩ = some (.slice An nn nn) := HK43.out.cell 0 rfl 2
      have z_b_2_49 : w5.frozen? ⟨gb, 2, none⟩ = false := HK43.out.frozen 0 rfl 2
      have ne_50 : ¬ (gb = w.heap.size + 1) := HK43.out.ne 0 2 (by decide) rfl rfl
      have ne_51 : ¬ (w.heap.size + 1 = gb) := HK43.out.ne 2 0 (by decide) rfl rfl
      have ne_52 : ¬ (gb = w.heap.size) := HK43.out.ne 0 3 (by decide) rfl rfl
      have ne_53 : ¬ (w.heap.size = gb) := HK43.out.ne 3 0 (by decide) rfl rfl
      go_upto_region 17 with (fail)
      clear c_b_0_44 z_b_0_45 c_b_1_46 z_b_1_47 c_b_2_48 z_b_2_49 ne_50 ne_51 ne_52 ne_53
      have HK54 := Lib.hid (show Held w [] X (w5.setCell ⟨gb, 2, none⟩ (.slice A5 (nn + 1) c5)) [.box (gb) 34 #[.int .i64 eq, .int .i64 ea, .slice A5 (nn + 1) c5], .box (w.heap.size + 2) 34 #[.int .i64 0, .int .i64 0, .slice none 0 0], .box (w.heap.size + 1) 44 #[.int .i64 eq, .int .i64 ea, .int .i64 ek, .string cm, .int .i64 ex, .int .i64 ey, .int .i64 ez], .box (w.heap.size) 34 #[.int .i64 q, .int .i64 a, .slice An nn cn]] [Sl.fact nameSh A5 (nn + 1) c5 (ns ++ [cm.data.toList]), Sl.fact nameSh An nn cn ns] from HK43.out.set_ 0 rfl 2 (.slice A5 (nn + 1) c5))
      clear HK43
      generalize w5.setCell ⟨gb, 2, none⟩ (.slice A5 (nn + 1) c5) = w6 at HK54 ⊢
      have wk : IntKind.u64.wrap ek = ek := IntWalk.u64_in _ (by omega)
      have wq : IntKind.i64.wrap (eq - q) = eq - q := IntWalk.i64_in _ (by omega)
      have wq2 : IntKind.u64.wrap (eq - q) = eq - q := IntWalk.u64_in _ (by omega)
      have wa : IntKind.i64.wrap (ea - a) = ea - a := IntWalk.i64_in _ (by omega)
      have wa2 : IntKind.u64.wrap (ea - a) = ea - a := IntWalk.u64_in _ (by omega)
      have c_e_0_55 : w6.cell? ⟨w.heap.size + 1, 0, none⟩ = some (.int .i64 eq) := HK54.out.cell 2 rfl 0
      have c_e_1_56 : w6.cell? ⟨w.heap.size + 1, 1, none⟩ = some (.int .i64 ea) := HK54.out.cell 2 rfl 1
      have c_e_2_57 : w6.cell? ⟨w.heap.size + 1, 2, none⟩ = some (.int .i64 ek) := HK54.out.cell 2 rfl 2
      have c_e_3_58 : w6.cell? ⟨w.heap.size + 1, 3, none⟩ = some (.string cm) := HK54.out.cell 2 rfl 3
      have c_e_4_59 : w6.cell? ⟨w.heap.size + 1, 4, none⟩ = some (.int .i64 ex) := HK54.out.cell 2 rfl 4
      have c_e_5_60 : w6.cell? ⟨w.heap.size + 1, 5, none⟩ = some (.int .i64 ey) := HK54.out.cell 2 rfl 5
      have c_e_6_61 : w6.cell? ⟨w.heap.size + 1, 6, none⟩ = some (.int .i64 ez) := HK54.out.cell 2 rfl 6
      have c_c_0_62 : w6.cell? ⟨w.heap.size, 0, none⟩ = some (.int .i64 q) := HK54.out.cell 3 rfl 0
      have c_c_1_63 : w6.cell? ⟨w.heap.size, 1, none⟩ = some (.int .i64 a) := HK54.out.cell 3 rfl 1
      have c_c_2_64 : w6.cell? ⟨w.heap.size, 2, none⟩ = some (.slice An nn cn) := HK54.out.cell 3 rfl 2
      go_wp2_with fail
      with_reducible refine (PutUint_i (A := none) (n := 0) (c := 0) (l := ([] : List UInt8)) HK54.out.xok' Sl.nil_ (ek) (by omega) (by omega) (by omega)).mono ?_
      rintro e wb1 ⟨Ab1, cb1, rfl, hsl, hb⟩
      have hl1 : 0 + (uencB (ek).toNat).length ≤ 10 := by have h1 := uencB_len ek.toNat (by omega); omega
      generalize 0 + (uencB (ek).toNat).length = nb1 at hsl hl1 ⊢
      clear c_e_0_55 c_e_1_56 c_e_2_57 c_e_3_58 c_e_4_59 c_e_5_60 c_e_6_61 c_c_0_62 c_c_1_63 c_c_2_64
      have HK65 := Lib.hid (show Held w [] X wb1 [.box (gb) 34 #[.int .i64 eq, .int .i64 ea, .slice A5 (nn + 1) c5], .box (w.heap.size + 2) 34 #[.int .i64 0, .int .i64 0, .slice none 0 0], .box (w.heap.size + 1) 44 #[.int .i64 eq, .int .i64 ea, .int .i64 ek, .string cm, .int .i64 ex, .int .i64 ey, .int .i64 ez], .box (w.heap.size) 34 #[.int .i64 q, .int .i64 a, .slice An nn cn]] [Sl.fact byteSh Ab1 nb1 cb1 (([] : List UInt8) ++ uencB (ek).toNat), Sl.fact nameSh A5 (nn + 1) c5 (ns ++ [cm.data.toList]), Sl.fact nameSh An nn cn ns] from ((HK54.out.on hb).know (Sl.fact byteSh Ab1 nb1 cb1 (([] : List UInt8) ++ uencB (ek).toNat)) hsl))
      clear HK54
      clear hb
      clear hsl
      have c_e_0_66 : wb1.cell? ⟨w.heap.size + 1, 0, none⟩ = some (.int .i64 eq) := HK65.out.cell 2 rfl 0
      have c_e_1_67 : wb1.cell? ⟨w.heap.size + 1, 1, none⟩ = some (.int .i64 ea) := HK65.out.cell 2 rfl 1
      have c_e_2_68 : wb1.cell? ⟨w.heap.size + 1, 2, none⟩ = some (.int .i64 ek) := HK65.out.cell 2 rfl 2
      have c_e_3_69 : wb1.cell? ⟨w.heap.size + 1, 3, none⟩ = some (.string cm) := HK65.out.cell 2 rfl 3
      have c_e_4_70 : wb1.cell? ⟨w.heap.size + 1, 4, none⟩ = some (.int .i64 ex) := HK65.out.cell 2 rfl 4
      have c_e_5_71 : wb1.cell? ⟨w.heap.size + 1, 5, none⟩ = some (.int .i64 ey) := HK65.out.cell 2 rfl 5
      have c_e_6_72 : wb1.cell? ⟨w.heap.size + 1, 6, none⟩ = some (.int .i64 ez) := HK65.out.cell 2 rfl 6
      have c_c_0_73 : wb1.cell? ⟨w.heap.size, 0, none⟩ = some (.int .i64 q) := HK65.out.cell 3 rfl 0
      have c_c_1_74 : wb1.cell? ⟨w.heap.size, 1, none⟩ = some (.int .i64 a) := HK65.out.cell 3 rfl 1
      have c_c_2_75 : wb1.cell? ⟨w.heap.size, 2, none⟩ = some (.slice An nn cn) := HK65.out.cell 3 rfl 2
      go_wp2_with fail
      with_reducible refine (PutUint_i (A := Ab1) (n := nb1) (c := cb1) (l := ([] : List UInt8) ++ uencB (ek).toNat) HK65.out.xok' (HK65.out.sl 0 rfl) (eq - q) (by omega) (by omega) (by omega)).mono ?_
      rintro e wb2 ⟨Ab2, cb2, rfl, hsl, hb⟩
      have hl2 : nb1 + (uencB (eq - q).toNat).length ≤ 20 := by have h1 := uencB_len (eq - q).toNat (by omega); omega
      generalize nb1 + (uencB (eq - q).toNat).length = nb2 at hsl hl2 ⊢
      clear c_e_0_66 c_e_1_67 c_e_2_68 c_e_3_69 c_e_4_70 c_e_5_71 c_e_6_72 c_c_0_73 c_c_1_74 c_c_2_75
      have HK76 := Lib.hid (show Held w [] X wb2 [.box (gb) 34 #[.int .i64 eq, .int .i64 ea, .slice A5 (nn + 1) c5], .box (w.heap.size + 2) 34 #[.int .i64 0, .int .i64 0, .slice none 0 0], .box (w.heap.size + 1) 44 #[.int .i64 eq, .int .i64 ea, .int .i64 ek, .string cm, .int .i64 ex, .int .i64 ey, .int .i64 ez], .box (w.heap.size) 34 #[.int .i64 q, .int .i64 a, .slice An nn cn]] [Sl.fact byteSh Ab2 nb2 cb2 (([] : List UInt8) ++ uencB (ek).toNat ++ uencB (eq - q).toNat), Sl.fact byteSh Ab1 nb1 cb1 (([] : List UInt8) ++ uencB (ek).toNat), Sl.fact nameSh A5 (nn + 1) c5 (ns ++ [cm.data.toList]), Sl.fact nameSh An nn cn ns] from ((HK65.out.on hb).know (Sl.fact byteSh Ab2 nb2 cb2 (([] : List UInt8) ++ uencB (ek).toNat ++ uencB (eq - q).toNat)) hsl))
      clear HK65
      clear hb
      clear hsl
      have HK77 := Lib.hid (show Held w [] X wb2 [.box (gb) 34 #[.int .i64 eq, .int .i64 ea, .slice A5 (nn + 1) c5], .box (w.heap.size + 2) 34 #[.int .i64 0, .int .i64 0, .slice none 0 0], .box (w.heap.size + 1) 44 #[.int .i64 eq, .int .i64 ea, .int .i64 ek, .string cm, .int .i64 ex, .int .i64 ey, .int .i64 ez], .box (w.heap.size) 34 #[.int .i64 q, .int .i64 a, .slice An nn cn]] [Sl.fact byteSh Ab2 nb2 cb2 (([] : List UInt8) ++ uencB (ek).toNat ++ uencB (eq - q).toNat), Sl.fact nameSh A5 (nn + 1) c5 (ns ++ [cm.data.toList]), Sl.fact nameSh An nn cn ns] from (HK76.out.forget (List.Sublist.cons_cons _ (List.Sublist.cons _ (List.Sublist.cons_cons _ (List.Sublist.cons_cons _ List.Sublist.slnil))))))
      clear HK76
      have c_e_0_78 : wb2.cell? ⟨w.heap.size + 1, 0, none⟩ = some (.int .i64 eq) := HK77.out.cell 2 rfl 0
      have c_e_1_79 : wb2.cell? ⟨w.heap.size + 1, 1, none⟩ = some (.int .i64 ea) := HK77.out.cell 2 rfl 1
      have c_e_2_80 : wb2.cell? ⟨w.heap.size + 1, 2, none⟩ = some (.int .i64 ek) := HK77.out.cell 2 rfl 2
      have c_e_3_81 : wb2.cell? ⟨w.heap.size + 1, 3, none⟩ = some (.string cm) := HK77.out.cell 2 rfl 3
      have c_e_4_82 : wb2.cell? ⟨w.heap.size + 1, 4, none⟩ = some (.int .i64 ex) := HK77.out.cell 2 rfl 4
      have c_e_5_83 : wb2.cell? ⟨w.heap.size + 1, 5, none⟩ = some (.int .i64 ey) := HK77.out.cell 2 rfl 5
      have c_e_6_84 : wb2.cell? ⟨w.heap.size + 1, 6, none⟩ = some (.int .i64 ez) := HK77.out.cell 2 rfl 6
      have c_c_0_85 : wb2.cell? ⟨w.heap.size, 0, none⟩ = some (.int .i64 q) := HK77.out.cell 3 rfl 0
      have c_c_1_86 : wb2.cell? ⟨w.heap.size, 1, none⟩ = some (.int .i64 a) := HK77.out.cell 3 rfl 1
      have c_c_2_87 : wb2.cell? ⟨w.heap.size, 2, none⟩ = some (.slice An nn cn) := HK77.out.cell 3 rfl 2
      go_wp2_with fail
      with_reducible refine (PutUint_i (A := Ab2) (n := nb2) (c := cb2) (l := ([] : List UInt8) ++ uencB (ek).toNat ++ uencB (eq - q).toNat) HK77.out.xok' (HK77.out.sl 0 rfl) (ea - a) (by omega) (by omega) (by omega)).mono ?_
      rintro e wb3 ⟨Ab3, cb3, rfl, hsl, hb⟩
      have hl3 : nb2 + (uencB (ea - a).toNat).length ≤ 30 := by have h1 := uencB_len (ea - a).toNat (by omega); omega
      generalize nb2 + (uencB (ea - a).toNat).length = nb3 at hsl hl3 ⊢
      clear c_e_0_78 c_e_1_79 c_e_2_80 c_e_3_81 c_e_4_82 c_e_5_83 c_e_6_84 c_c_0_85 c_c_1_86 c_c_2_87
      have HK88 := Lib.hid (show Held w [] X wb3 [.box (gb) 34 #[.int .i64 eq, .int .i64 ea, .slice A5 (nn + 1) c5], .box (w.heap.size + 2) 34 #[.int .i64 0, .int .i64 0, .slice none 0 0], .box (w.heap.size + 1) 44 #[.int .i64 eq, .int .i64 ea, .int .i64 ek, .string cm, .int .i64 ex, .int .i64 ey, .int .i64 ez], .box (w.heap.size) 34 #[.int .i64 q, .int .i64 a, .slice An nn cn]] [Sl.fact byteSh Ab3 nb3 cb3 (([] : List UInt8) ++ uencB (ek).toNat ++ uencB (eq - q).toNat ++ uencB (ea - a).toNat), Sl.fact byteSh Ab2 nb2 cb2 (([] : List UInt8) ++ uencB (ek).toNat ++ uencB (eq - q).toNat), Sl.fact nameSh A5 (nn + 1) c5 (ns ++ [cm.data.toList]), Sl.fact nameSh An nn cn ns] from ((HK77.out.on hb).know (Sl.fact byteSh Ab3 nb3 cb3 (([] : List UInt8) ++ uencB (ek).toNat ++ uencB (eq - q).toNat ++ uencB (ea - a).toNat)) hsl))
      clear HK77
      clear hb
      clear hsl
      have HK89 := Lib.hid (show Held w [] X wb3 [.box (gb) 34 #[.int .i64 eq, .int .i64 ea, .slice A5 (nn + 1) c5], .box (w.heap.size + 2) 34 #[.int .i64 0, .int .i64 0, .slice none 0 0], .box (w.heap.size + 1) 44 #[.int .i64 eq, .int .i64 ea, .int .i64 ek, .string cm, .int .i64 ex, .int .i64 ey, .int .i64 ez], .box (w.heap.size) 34 #[.int .i64 q, .int .i64 a, .slice An nn cn]] [Sl.fact byteSh Ab3 nb3 cb3 (([] : List UInt8) ++ uencB (ek).toNat ++ uencB (eq - q).toNat ++ uencB (ea - a).toNat), Sl.fact nameSh A5 (nn + 1) c5 (ns ++ [cm.data.toList]), Sl.fact nameSh An nn cn ns] from (HK88.out.forget (List.Sublist.cons_cons _ (List.Sublist.cons _ (List.Sublist.cons_cons _ (List.Sublist.cons_cons _ List.Sublist.slnil))))))
      clear HK88
      have c_e_0_90 : wb3.cell? ⟨w.heap.size + 1, 0, none⟩ = some (.int .i64 eq) := HK89.out.cell 2 rfl 0
      have c_e_1_91 : wb3.cell? ⟨w.heap.size + 1, 1, none⟩ = some (.int .i64 ea) := HK89.out.cell 2 rfl 1
      have c_e_2_92 : wb3.cell? ⟨w.heap.size + 1, 2, none⟩ = some (.int .i64 ek) := HK89.out.cell 2 rfl 2
      have c_e_3_93 : wb3.cell? ⟨w.heap.size + 1, 3, none⟩ = some (.string cm) := HK89.out.cell 2 rfl 3
      have c_e_4_94 : wb3.cell? ⟨w.heap.size + 1, 4, none⟩ = some (.int .i64 ex) := HK89.out.cell 2 rfl 4
      have c_e_5_95 : wb3.cell? ⟨w.heap.size + 1, 5, none⟩ = some (.int .i64 ey) := HK89.out.cell 2 rfl 5
      have c_e_6_96 : wb3.cell? ⟨w.heap.size + 1, 6, none⟩ = some (.int .i64 ez) := HK89.out.cell 2 rfl 6
      have c_c_0_97 : wb3.cell? ⟨w.heap.size, 0, none⟩ = some (.int .i64 q) := HK89.out.cell 3 rfl 0
      have c_c_1_98 : wb3.cell? ⟨w.heap.size, 1, none⟩ = some (.int .i64 a) := HK89.out.cell 3 rfl 1
      have c_c_2_99 : wb3.cell? ⟨w.heap.size, 2, none⟩ = some (.slice An nn cn) := HK89.out.cell 3 rfl 2
      go_wp2_with fail
      with_reducible refine (PutUint_i (A := Ab3) (n := nb3) (c := cb3) (l := ([] : List UInt8) ++ uencB (ek).toNat ++ uencB (eq - q).toNat ++ uencB (ea - a).toNat) HK89.out.xok' (HK89.out.sl 0 rfl) (0 : Int) (by omega) (by omega) (by omega)).mono ?_
      rintro e wb4 ⟨Ab4, cb4, rfl, hsl, hb⟩
      have hl4 : nb3 + (uencB (0 : Int).toNat).length ≤ 40 := by have h1 := uencB_len (0 : Int).toNat (by omega); omega
      generalize nb3 + (uencB (0 : Int).toNat).length = nb4 at hsl hl4 ⊢
      clear c_e_0_90 c_e_1_91 c_e_2_92 c_e_3_93 c_e_4_94 c_e_5_95 c_e_6_96 c_c_0_97 c_c_1_98 c_c_2_99
      have HK100 := Lib.hid (show Held w [] X wb4 [.box (gb) 34 #[.int .i64 eq, .int .i64 ea, .slice A5 (nn + 1) c5], .box (w.heap.size + 2) 34 #[.int .i64 0, .int .i64 0, .slice none 0 0], .box (w.heap.size + 1) 44 #[.int .i64 eq, .int .i64 ea, .int .i64 ek, .string cm, .int .i64 ex, .int .i64 ey, .int .i64 ez], .box (w.heap.size) 34 #[.int .i64 q, .int .i64 a, .slice An nn cn]] [Sl.fact byteSh Ab4 nb4 cb4 (([] : List UInt8) ++ uencB (ek).toNat ++ uencB (eq - q).toNat ++ uencB (ea - a).toNat ++ uencB (0 : Int).toNat), Sl.fact byteSh Ab3 nb3 cb3 (([] : List UInt8) ++ uencB (ek).toNat ++ uencB (eq - q).toNat ++ uencB (ea - a).toNat), Sl.fact nameSh A5 (nn + 1) c5 (ns ++ [cm.data.toList]), Sl.fact nameSh An nn cn ns] from ((HK89.out.on hb).know (Sl.fact byteSh Ab4 nb4 cb4 (([] : List UInt8) ++ uencB (ek).toNat ++ uencB (eq - q).toNat ++ uencB (ea - a).toNat ++ uencB (0 : Int).toNat)) hsl))
      clear HK89
      clear hb
      clear hsl
      have HK101 := Lib.hid (show Held w [] X wb4 [.box (gb) 34 #[.int .i64 eq, .int .i64 ea, .slice A5 (nn + 1) c5], .box (w.heap.size + 2) 34 #[.int .i64 0, .int .i64 0, .slice none 0 0], .box (w.heap.size + 1) 44 #[.int .i64 eq, .int .i64 ea, .int .i64 ek, .string cm, .int .i64 ex, .int .i64 ey, .int .i64 ez], .box (w.heap.size) 34 #[.int .i64 q, .int .i64 a, .slice An nn cn]] [Sl.fact byteSh Ab4 nb4 cb4 (([] : List UInt8) ++ uencB (ek).toNat ++ uencB (eq - q).toNat ++ uencB (ea - a).toNat ++ uencB (0 : Int).toNat), Sl.fact nameSh A5 (nn + 1) c5 (ns ++ [cm.data.toList]), Sl.fact nameSh An nn cn ns] from (HK100.out.forget (List.Sublist.cons_cons _ (List.Sublist.cons _ (List.Sublist.cons_cons _ (List.Sublist.cons_cons _ List.Sublist.slnil))))))
      clear HK100
      have c_e_0_102 : wb4.cell? ⟨w.heap.size + 1, 0, none⟩ = some (.int .i64 eq) := HK101.out.cell 2 rfl 0
      have c_e_1_103 : wb4.cell? ⟨w.heap.size + 1, 1, none⟩ = some (.int .i64 ea) := HK101.out.cell 2 rfl 1
      have c_e_2_104 : wb4.cell? ⟨w.heap.size + 1, 2, none⟩ = some (.int .i64 ek) := HK101.out.cell 2 rfl 2
      have c_e_3_105 : wb4.cell? ⟨w.heap.size + 1, 3, none⟩ = some (.string cm) := HK101.out.cell 2 rfl 3
      have c_e_4_106 : wb4.cell? ⟨w.heap.size + 1, 4, none⟩ = some (.int .i64 ex) := HK101.out.cell 2 rfl 4
      have c_e_5_107 : wb4.cell? ⟨w.heap.size + 1, 5, none⟩ = some (.int .i64 ey) := HK101.out.cell 2 rfl 5
      have c_e_6_108 : wb4.cell? ⟨w.heap.size + 1, 6, none⟩ = some (.int .i64 ez) := HK101.out.cell 2 rfl 6
      have c_c_0_109 : wb4.cell? ⟨w.heap.size, 0, none⟩ = some (.int .i64 q) := HK101.out.cell 3 rfl 0
      have c_c_1_110 : wb4.cell? ⟨w.heap.size, 1, none⟩ = some (.int .i64 a) := HK101.out.cell 3 rfl 1
      have c_c_2_111 : wb4.cell? ⟨w.heap.size, 2, none⟩ = some (.slice An nn cn) := HK101.out.cell 3 rfl 2
      go_wp2_with fail
      with_reducible refine (PutText_i (A := Ab4) (n := nb4) (c := cb4) (l := ([] : List UInt8) ++ uencB (ek).toNat ++ uencB (eq - q).toNat ++ uencB (ea - a).toNat ++ uencB (0 : Int).toNat) HK101.out.xok' (HK101.out.sl 0 rfl) cm (by omega) (by omega)).mono ?_
      rintro e wb5 ⟨Ab5, cb5, rfl, hsl, hb⟩
      have hl5 : nb4 + (textB cm.data.toList).length ≤ 80 := by have h1 := textB_len cm hsz; omega
      generalize nb4 + (textB cm.data.toList).length = nb5 at hsl hl5 ⊢
      clear c_e_0_102 c_e_1_103 c_e_2_104 c_e_3_105 c_e_4_106 c_e_5_107 c_e_6_108 c_c_0_109 c_c_1_110 c_c_2_111
      have HK112 := Lib.hid (show Held w [] X wb5 [.box (gb) 34 #[.int .i64 eq, .int .i64 ea, .slice A5 (nn + 1) c5], .box (w.heap.size + 2) 34 #[.int .i64 0, .int .i64 0, .slice none 0 0], .box (w.heap.size + 1) 44 #[.int .i64 eq, .int .i64 ea, .int .i64 ek, .string cm, .int .i64 ex, .int .i64 ey, .int .i64 ez], .box (w.heap.size) 34 #[.int .i64 q, .int .i64 a, .slice An nn cn]] [Sl.fact byteSh Ab5 nb5 cb5 (([] : List UInt8) ++ uencB (ek).toNat ++ uencB (eq - q).toNat ++ uencB (ea - a).toNat ++ uencB (0 : Int).toNat ++ textB cm.data.toList), Sl.fact byteSh Ab4 nb4 cb4 (([] : List UInt8) ++ uencB (ek).toNat ++ uencB (eq - q).toNat ++ uencB (ea - a).toNat ++ uencB (0 : Int).toNat), Sl.fact nameSh A5 (nn + 1) c5 (ns ++ [cm.data.toList]), Sl.fact nameSh An nn cn ns] from ((HK101.out.on hb).know (Sl.fact byteSh Ab5 nb5 cb5 (([] : List UInt8) ++ uencB (ek).toNat ++ uencB (eq - q).toNat ++ uencB (ea - a).toNat ++ uencB (0 : Int).toNat ++ textB cm.data.toList)) hsl))
      clear HK101
      clear hb
      clear hsl
      have HK113 := Lib.hid (show Held w [] X wb5 [.box (gb) 34 #[.int .i64 eq, .int .i64 ea, .slice A5 (nn + 1) c5], .box (w.heap.size + 2) 34 #[.int .i64 0, .int .i64 0, .slice none 0 0], .box (w.heap.size + 1) 44 #[.int .i64 eq, .int .i64 ea, .int .i64 ek, .string cm, .int .i64 ex, .int .i64 ey, .int .i64 ez], .box (w.heap.size) 34 #[.int .i64 q, .int .i64 a, .slice An nn cn]] [Sl.fact byteSh Ab5 nb5 cb5 (([] : List UInt8) ++ uencB (ek).toNat ++ uencB (eq - q).toNat ++ uencB (ea - a).toNat ++ uencB (0 : Int).toNat ++ textB cm.data.toList), Sl.fact nameSh A5 (nn + 1) c5 (ns ++ [cm.data.toList]), Sl.fact nameSh An nn cn ns] from (HK112.out.forget (List.Sublist.cons_cons _ (List.Sublist.cons _ (List.Sublist.cons_cons _ (List.Sublist.cons_cons _ List.Sublist.slnil))))))
      clear HK112
      have HBt := Lib.hid (show by_ = ([] : List UInt8) ++ uencB (ek).toNat ++ uencB (eq - q).toNat ++ uencB (ea - a).toNat ++ uencB (0 : Int).toNat ++ textB cm.data.toList ++ (([ex, ey, ez].take (manyE ek)).flatMap (fun n => uencB n.toNat)) from by rw [HBy.out]; simp)
      generalize ([] : List UInt8) ++ uencB (ek).toNat ++ uencB (eq - q).toNat ++ uencB (ea - a).toNat ++ uencB (0 : Int).toNat ++ textB cm.data.toList = pre at HK113 HBt
      have c_e_0_114 : wb5.cell? ⟨w.heap.size + 1, 0, none⟩ = some (.int .i64 eq) := HK113.out.cell 2 rfl 0
      have c_e_1_115 : wb5.cell? ⟨w.heap.size + 1, 1, none⟩ = some (.int .i64 ea) := HK113.out.cell 2 rfl 1
      have c_e_2_116 : wb5.cell? ⟨w.heap.size + 1, 2, none⟩ = some (.int .i64 ek) := HK113.out.cell 2 rfl 2
      have c_e_3_117 : wb5.cell? ⟨w.heap.size + 1, 3, none⟩ = some (.string cm) := HK113.out.cell 2 rfl 3
      have c_e_4_118 : wb5.cell? ⟨w.heap.size + 1, 4, none⟩ = some (.int .i64 ex) := HK113.out.cell 2 rfl 4
      have c_e_5_119 : wb5.cell? ⟨w.heap.size + 1, 5, none⟩ = some (.int .i64 ey) := HK113.out.cell 2 rfl 5
      have c_e_6_120 : wb5.cell? ⟨w.heap.size + 1, 6, none⟩ = some (.int .i64 ez) := HK113.out.cell 2 rfl 6
      go_wp2_with fail
      with_reducible refine ((HNu _).out).mono ?_
      rintro e wn ⟨gn, rfl, hgn, hbk, hb⟩
      clear c_e_0_114 c_e_1_115 c_e_2_116 c_e_3_117 c_e_4_118 c_e_5_119 c_e_6_120
      have HK121 := Lib.hid (show Held w [] X wn [.box (gn) 2 #[.int .i64 ex, .int .i64 ey, .int .i64 ez], .box (gb) 34 #[.int .i64 eq, .int .i64 ea, .slice A5 (nn + 1) c5], .box (w.heap.size + 2) 34 #[.int .i64 0, .int .i64 0, .slice none 0 0], .box (w.heap.size + 1) 44 #[.int .i64 eq, .int .i64 ea, .int .i64 ek, .string cm, .int .i64 ex, .int .i64 ey, .int .i64 ez], .box (w.heap.size) 34 #[.int .i64 q, .int .i64 a, .slice An nn cn]] [Sl.fact byteSh Ab5 nb5 cb5 pre, Sl.fact nameSh A5 (nn + 1) c5 (ns ++ [cm.data.toList]), Sl.fact nameSh An nn cn ns] from HK113.out.new_box hb hbk hgn)
      clear HK113
      clear hb
      clear hbk hgn
      have hm3 := manyE_le ek
      generalize manyE ek = m at HBt hm3 ⊢
      have HNT := Lib.hid (num_take ex ey ez m)
      go_wp2
      go_loopw [12, 99] (fun l0 i wr => ∃ (j : Nat) (Al : Option Addr) (nl cl : Nat), l0 = .slice Al nl cl ∧ j ≤ m ∧ i = .int .i64 j ∧ nl ≤ 80 + 10 * j ∧ Hid (Held w [] X wr [.box (gn) 2 #[.int .i64 ex, .int .i64 ey, .int .i64 ez], .box (gb) 34 #[.int .i64 eq, .int .i64 ea, .slice A5 (nn + 1) c5], .box (w.heap.size + 2) 34 #[.int .i64 0, .int .i64 0, .slice none 0 0], .box (w.heap.size + 1) 44 #[.int .i64 eq, .int .i64 ea, .int .i64 ek, .string cm, .int .i64 ex, .int .i64 ey, .int .i64 ez], .box (w.heap.size) 34 #[.int .i64 q, .int .i64 a, .slice An nn cn]] [Sl.fact byteSh Al nl cl (pre ++ (([ex, ey, ez].take m).take j).flatMap (fun n => uencB n.toNat)), Sl.fact nameSh A5 (nn + 1) c5 (ns ++ [cm.data.toList]), Sl.fact nameSh An nn cn ns])) (fun _ i _ => m - (intOf i).toNat)
      case atStart => exact ⟨0, _, _, _, rfl, Nat.zero_le _, rfl, by omega, Lib.hid (by simpa using HK121.out)⟩
      case round =>
        clear HK121
        obtain ⟨j, Al, nl, cl, rfl, hj, rfl, hnl, HKl⟩ := hrel
        by_cases hlt : j < m
        · skip
          have HZ := Lib.hid (num_at ex ey ez j (by omega))
          have HT := Lib.hid (HNT.out j hlt hm3)
          have hz : 0 ≤ [ex, ey, ez].getD j 0 ∧ [ex, ey, ez].getD j 0 ≤ 2147483647 := by rcases (by omega : j = 0 ∨ j = 1 ∨ j = 2) with rfl | rfl | rfl <;> (simp; omega)
          generalize [ex, ey, ez].getD j 0 = z at HZ HT hz
          obtain ⟨hz0, hz1⟩ := hz
          have cz : wr.cell? ⟨gn, j, none⟩ = some (.int .i64 z) := (HKl.out.cell 0 rfl j).trans HZ.out
          have wz : IntKind.u64.wrap z = z := IntWalk.u64_in _ (by omega)
          go_wp2_with fail
          with_reducible refine (PutUint_i HKl.out.xok' (HKl.out.sl 0 rfl) z hz0 (by omega) (by omega)).mono ?_
          rintro e w9 ⟨A9, c9, rfl, hsl, hb⟩
          clear cz wz
          have h9 : nl + (uencB z.toNat).length ≤ 80 + 10 * (j + 1) := by have h1 := uencB_len z.toNat (by omega); omega
          generalize nl + (uencB z.toNat).length = n9 at hsl h9 ⊢
          rw [List.append_assoc, ← HT.out] at hsl
          have HK122 := Lib.hid (show Held w [] X w9 [.box (gn) 2 #[.int .i64 ex, .int .i64 ey, .int .i64 ez], .box (gb) 34 #[.int .i64 eq, .int .i64 ea, .slice A5 (nn + 1) c5], .box (w.heap.size + 2) 34 #[.int .i64 0, .int .i64 0, .slice none 0 0], .box (w.heap.size + 1) 44 #[.int .i64 eq, .int .i64 ea, .int .i64 ek, .string cm, .int .i64 ex, .int .i64 ey, .int .i64 ez], .box (w.heap.size) 34 #[.int .i64 q, .int .i64 a, .slice An nn cn]] [Sl.fact byteSh A9 n9 c9 (pre ++ (([ex, ey, ez].take m).take (j + 1)).flatMap (fun n => uencB n.toNat)), Sl.fact byteSh Al nl cl (pre ++ (([ex, ey, ez].take m).take j).flatMap (fun n => uencB n.toNat)), Sl.fact nameSh A5 (nn + 1) c5 (ns ++ [cm.data.toList]), Sl.fact nameSh An nn cn ns] from ((HKl.out.on hb).know (Sl.fact byteSh A9 n9 c9 (pre ++ (([ex, ey, ez].take m).take (j + 1)).flatMap (fun n => uencB n.toNat))) hsl))
          clear HKl
          clear hb
          clear hsl
          have HK123 := Lib.hid (show Held w [] X w9 [.box (gn) 2 #[.int .i64 ex, .int .i64 ey, .int .i64 ez], .box (gb) 34 #[.int .i64 eq, .int .i64 ea, .slice A5 (nn + 1) c5], .box (w.heap.size + 2) 34 #[.int .i64 0, .int .i64 0, .slice none 0 0], .box (w.heap.size + 1) 44 #[.int .i64 eq, .int .i64 ea, .int .i64 ek, .string cm, .int .i64 ex, .int .i64 ey, .int .i64 ez], .box (w.heap.size) 34 #[.int .i64 q, .int .i64 a, .slice An nn cn]] [Sl.fact byteSh A9 n9 c9 (pre ++ (([ex, ey, ez].take m).take (j + 1)).flatMap (fun n => uencB n.toNat)), Sl.fact nameSh A5 (nn + 1) c5 (ns ++ [cm.data.toList]), Sl.fact nameSh An nn cn ns] from (HK122.out.forget (List.Sublist.cons_cons _ (List.Sublist.cons _ (List.Sublist.cons_cons _ (List.Sublist.cons_cons _ List.Sublist.slnil))))))
          clear HK122
          go_wp2
          exact ⟨⟨j + 1, A9, n9, c9, rfl, by omega, by go_num, h9, HK123⟩, by simp [intOf]; omega⟩
        · skip
          obtain rfl : m = j := by omega
          have HTT := Lib.hid (show ([ex, ey, ez].take m).take m = [ex, ey, ez].take m from by rw [List.take_take, Nat.min_self])
          rw [HTT.out] at HKl
          rw [← HBt.out] at HKl
          go_wp2_with fail
          refine wp_region_noPanic ?_
          refine wp_region_held_drew (S := fun W' => HeldBut w [] X W' [.box (gn) 2 #[.int .i64 ex, .int .i64 ey, .int .i64 ez], .box (gb) 34 #[.int .i64 eq, .int .i64 ea, .slice A5 (nn + 1) c5], .box (w.heap.size + 2) 34 #[.int .i64 0, .int .i64 0, .slice none 0 0], .box (w.heap.size + 1) 44 #[.int .i64 eq, .int .i64 ea, .int .i64 ek, .string cm, .int .i64 ex, .int .i64 ey, .int .i64 ez], .box (w.heap.size) 34 #[.int .i64 q, .int .i64 a, .slice An nn cn]] [Sl.fact byteSh Al nl cl by_, Sl.fact nameSh A5 (nn + 1) c5 (ns ++ [cm.data.toList]), Sl.fact nameSh An nn cn ns] 2 (w.heap.size + 2) 34) (by kernel_rfl) (HKl.out.but 2 rfl).drew (fun hHeld => ?_)
          have c_r_0_122 : wr.cell? ⟨w.heap.size + 2, 0, none⟩ = some (.int .i64 0) := HKl.out.cell 2 rfl 0
          have z_r_0_123 : wr.frozen? ⟨w.heap.size + 2, 0, none⟩ = false := HKl.out.frozen 2 rfl 0
          have c_r_1_124 : wr.cell? ⟨w.heap.size + 2, 1, none⟩ = some (.int .i64 0) := HKl.out.cell 2 rfl 1
          have z_r_1_125 : wr.frozen? ⟨w.heap.size + 2, 1, none⟩ = false := HKl.out.frozen 2 rfl 1
          have c_r_2_126 : wr.cell? ⟨w.heap.size + 2, 2, none⟩ = some (.slice none 0 0) := HKl.out.cell 2 rfl 2
          have z_r_2_127 : wr.frozen? ⟨w.heap.size + 2, 2, none⟩ = false := HKl.out.frozen 2 rfl 2
          refine takeH 0 (v := ?v0u26) rfl (by kernel_rfl) (by kernel_rfl) (by kernel_rfl) rfl (fun _ _ _ h => h) (Or.inl ⟨by rfl, ?y0u26⟩) hHeld ?r0u26
          case y0u26 => (intro W hSW; (try dsimp only at hSW); go_simp; try with_reducible rfl)
          simp only [Act.put, sI, sZ, sS]
          refine takeH 1 (v := ?v1u27) rfl (by kernel_rfl) (by kernel_rfl) (by kernel_rfl) rfl (fun _ _ _ h => h) (Or.inl ⟨by rfl, ?y1u27⟩) hHeld ?r1u27
          case y1u27 => (intro W hSW; (try dsimp only at hSW); have q0 : W.cell? ⟨gb, 0, none⟩ = some (.int .i64 eq) := hSW.cell 1 rfl (by decide) 0; have q1 : W.cell? ⟨gb, 1, none⟩ = some (.int .i64 ea) := hSW.cell 1 rfl (by decide) 1; have q2 : W.cell? ⟨gb, 2, none⟩ = some (.slice A5 (nn + 1) c5) := hSW.cell 1 rfl (by decide) 2; go_simp; try with_reducible rfl)
          simp only [Act.put, sI, sZ, sS]
          refine takeH 2 (v := ?v2u28) rfl (by kernel_rfl) (by kernel_rfl) (by kernel_rfl) rfl (fun _ _ _ h => h) (Or.inl ⟨by rfl, ?y2u28⟩) hHeld ?r2u28
          case y2u28 => (intro W hSW; (try dsimp only at hSW); go_simp; try with_reducible rfl)
          simp only [Act.put, sI, sZ, sS]
          refine wpAnyH_ready (rs := [3]) (by kernel_rfl) (by simp) ?_
          refine AllReadyH.cons rfl (fun K hK => ?_) AllReadyH.nil
          go_simp
          refine hK.out _ _ (((hHeld.set_ (by simp) 0 (.int .i64 eq)).set_ (by simp) 1 (.int .i64 ea)).set_ (by simp) 2 (.slice A5 (nn + 1) c5)) (fun hHeld => ?_)
          clear hK K
          try simp only [Act.put, sI, sZ, sS]
          refine takeH 4 (v := ?v4u29) rfl (by kernel_rfl) (by kernel_rfl) (by kernel_rfl) rfl (fun _ _ _ h => h) (Or.inl ⟨by rfl, ?y4u29⟩) hHeld ?r4u29
          case y4u29 => (intro W hSW; (try dsimp only at hSW); go_simp; try with_reducible rfl)
          simp only [Act.put, sI, sZ, sS]
          refine wpAnyH_done (by kernel_rfl) ?_ _
          refine NoPanic.normal ?_
          clear c_r_0_122 z_r_0_123 c_r_1_124 z_r_1_125 c_r_2_126 z_r_2_127
          have HK128 := Lib.hid (show Held w [] X (((wr.setCell ⟨w.heap.size + 2, 0, none⟩ (.int .i64 eq)).setCell ⟨w.heap.size + 2, 1, none⟩ (.int .i64 ea)).setCell ⟨w.heap.size + 2, 2, none⟩ (.slice A5 (nn + 1) c5)) [.box (gn) 2 #[.int .i64 ex, .int .i64 ey, .int .i64 ez], .box (gb) 34 #[.int .i64 eq, .int .i64 ea, .slice A5 (nn + 1) c5], .box (w.heap.size + 2) 34 #[.int .i64 eq, .int .i64 ea, .slice A5 (nn + 1) c5], .box (w.heap.size + 1) 44 #[.int .i64 eq, .int .i64 ea, .int .i64 ek, .string cm, .int .i64 ex, .int .i64 ey, .int .i64 ez], .box (w.heap.size) 34 #[.int .i64 q, .int .i64 a, .slice An nn cn]] [Sl.fact byteSh Al nl cl by_, Sl.fact nameSh A5 (nn + 1) c5 (ns ++ [cm.data.toList]), Sl.fact nameSh An nn cn ns] from (((HKl.out.set_ 2 rfl 0 (.int .i64 eq)).set_ 2 rfl 1 (.int .i64 ea)).set_ 2 rfl 2 (.slice A5 (nn + 1) c5)))
          clear HKl
          go_wp2
          exact bodyPost_ret (res_enc (HK128.out.drew.blk 2 rfl) (u := .int .i64 0) (v := .slice Al nl cl) _ rfl rfl rfl) rfl ⟨HK128.out.drew.below, .inr ⟨by rw [HE.out], Al, nl, cl, A5, (nn + 1), c5, rfl, HK128.out.drew.back' 0 rfl, by rw [HNx.out]; exact HK128.out.drew.back' 1 rfl⟩⟩
    · skip
      have p1 : ((pl : Int) == 0) = false := by rw [beq_eq_false_iff_ne]; omega
      have p2 : (pl == 0) = false := by rw [beq_eq_false_iff_ne]; exact hp
      rw [if_neg hp] at HNx
      rw [if_neg (fun h => hp h.1)] at HE
      have hp1 := hp
      clear hp HPE2
      have HK33 := Lib.hid (show Held w [] X w4 [.box (gb) 34 #[.int .i64 eq, .int .i64 ea, .slice An nn nn], .box (w.heap.size + 2) 34 #[.int .i64 0, .int .i64 0, .slice none 0 0], .box (w.heap.size + 1) 44 #[.int .i64 eq, .int .i64 ea, .int .i64 ek, .string cm, .int .i64 ex, .int .i64 ey, .int .i64 ez], .box (w.heap.size) 34 #[.int .i64 q, .int .i64 a, .slice An nn cn]] [Sl.fact nameSh An nn nn ns, Sl.fact nameSh An nn cn ns] from HK32.out.know (Sl.fact nameSh An nn nn ns) (by have h := HK32.out.sl 0 rfl; exact ⟨h.len, Nat.le_refl _, by have := h.max; have := h.le; omega, fun e => by have := h.none_ e; have := h.le; omega, h.reads⟩))
      clear HK32
      have wk : IntKind.u64.wrap ek = ek := IntWalk.u64_in _ (by omega)
      have wq : IntKind.i64.wrap (eq - q) = eq - q := IntWalk.i64_in _ (by omega)
      have wq2 : IntKind.u64.wrap (eq - q) = eq - q := IntWalk.u64_in _ (by omega)
      have wa : IntKind.i64.wrap (ea - a) = ea - a := IntWalk.i64_in _ (by omega)
      have wa2 : IntKind.u64.wrap (ea - a) = ea - a := IntWalk.u64_in _ (by omega)
      have wp : IntKind.u64.wrap (pl : Int) = (pl : Int) := IntWalk.u64_in _ (by omega)
      have c_e_0_34 : w4.cell? ⟨w.heap.size + 1, 0, none⟩ = some (.int .i64 eq) := HK33.out.cell 2 rfl 0
      have c_e_1_35 : w4.cell? ⟨w.heap.size + 1, 1, none⟩ = some (.int .i64 ea) := HK33.out.cell 2 rfl 1
      have c_e_2_36 : w4.cell? ⟨w.heap.size + 1, 2, none⟩ = some (.int .i64 ek) := HK33.out.cell 2 rfl 2
      have c_e_3_37 : w4.cell? ⟨w.heap.size + 1, 3, none⟩ = some (.string cm) := HK33.out.cell 2 rfl 3
      have c_e_4_38 : w4.cell? ⟨w.heap.size + 1, 4, none⟩ = some (.int .i64 ex) := HK33.out.cell 2 rfl 4
      have c_e_5_39 : w4.cell? ⟨w.heap.size + 1, 5, none⟩ = some (.int .i64 ey) := HK33.out.cell 2 rfl 5
      have c_e_6_40 : w4.cell? ⟨w.heap.size + 1, 6, none⟩ = some (.int .i64 ez) := HK33.out.cell 2 rfl 6
      have c_c_0_41 : w4.cell? ⟨w.heap.size, 0, none⟩ = some (.int .i64 q) := HK33.out.cell 3 rfl 0
      have c_c_1_42 : w4.cell? ⟨w.heap.size, 1, none⟩ = some (.int .i64 a) := HK33.out.cell 3 rfl 1
      have c_c_2_43 : w4.cell? ⟨w.heap.size, 2, none⟩ = some (.slice An nn cn) := HK33.out.cell 3 rfl 2
      go_wp2_with fail
      with_reducible refine (PutUint_i (A := none) (n := 0) (c := 0) (l := ([] : List UInt8)) HK33.out.xok' Sl.nil_ (ek) (by omega) (by omega) (by omega)).mono ?_
      rintro e wb1 ⟨Ab1, cb1, rfl, hsl, hb⟩
      have hl1 : 0 + (uencB (ek).toNat).length ≤ 10 := by have h1 := uencB_len ek.toNat (by omega); omega
      generalize 0 + (uencB (ek).toNat).length = nb1 at hsl hl1 ⊢
      clear c_e_0_34 c_e_1_35 c_e_2_36 c_e_3_37 c_e_4_38 c_e_5_39 c_e_6_40 c_c_0_41 c_c_1_42 c_c_2_43
      have HK44 := Lib.hid (show Held w [] X wb1 [.box (gb) 34 #[.int .i64 eq, .int .i64 ea, .slice An nn nn], .box (w.heap.size + 2) 34 #[.int .i64 0, .int .i64 0, .slice none 0 0], .box (w.heap.size + 1) 44 #[.int .i64 eq, .int .i64 ea, .int .i64 ek, .string cm, .int .i64 ex, .int .i64 ey, .int .i64 ez], .box (w.heap.size) 34 #[.int .i64 q, .int .i64 a, .slice An nn cn]] [Sl.fact byteSh Ab1 nb1 cb1 (([] : List UInt8) ++ uencB (ek).toNat), Sl.fact nameSh An nn nn ns, Sl.fact nameSh An nn cn ns] from ((HK33.out.on hb).know (Sl.fact byteSh Ab1 nb1 cb1 (([] : List UInt8) ++ uencB (ek).toNat)) hsl))
      clear HK33
      clear hb
      clear hsl
      have c_e_0_45 : wb1.cell? ⟨w.heap.size + 1, 0, none⟩ = some (.int .i64 eq) := HK44.out.cell 2 rfl 0
      have c_e_1_46 : wb1.cell? ⟨w.heap.size + 1, 1, none⟩ = some (.int .i64 ea) := HK44.out.cell 2 rfl 1
      have c_e_2_47 : wb1.cell? ⟨w.heap.size + 1, 2, none⟩ = some (.int .i64 ek) := HK44.out.cell 2 rfl 2
      have c_e_3_48 : wb1.cell? ⟨w.heap.size + 1, 3, none⟩ = some (.string cm) := HK44.out.cell 2 rfl 3
      have c_e_4_49 : wb1.cell? ⟨w.heap.size + 1, 4, none⟩ = some (.int .i64 ex) := HK44.out.cell 2 rfl 4
      have c_e_5_50 : wb1.cell? ⟨w.heap.size + 1, 5, none⟩ = some (.int .i64 ey) := HK44.out.cell 2 rfl 5
      have c_e_6_51 : wb1.cell? ⟨w.heap.size + 1, 6, none⟩ = some (.int .i64 ez) := HK44.out.cell 2 rfl 6
      have c_c_0_52 : wb1.cell? ⟨w.heap.size, 0, none⟩ = some (.int .i64 q) := HK44.out.cell 3 rfl 0
      have c_c_1_53 : wb1.cell? ⟨w.heap.size, 1, none⟩ = some (.int .i64 a) := HK44.out.cell 3 rfl 1
      have c_c_2_54 : wb1.cell? ⟨w.heap.size, 2, none⟩ = some (.slice An nn cn) := HK44.out.cell 3 rfl 2
      go_wp2_with fail
      with_reducible refine (PutUint_i (A := Ab1) (n := nb1) (c := cb1) (l := ([] : List UInt8) ++ uencB (ek).toNat) HK44.out.xok' (HK44.out.sl 0 rfl) (eq - q) (by omega) (by omega) (by omega)).mono ?_
      rintro e wb2 ⟨Ab2, cb2, rfl, hsl, hb⟩
      have hl2 : nb1 + (uencB (eq - q).toNat).length ≤ 20 := by have h1 := uencB_len (eq - q).toNat (by omega); omega
      generalize nb1 + (uencB (eq - q).toNat).length = nb2 at hsl hl2 ⊢
      clear c_e_0_45 c_e_1_46 c_e_2_47 c_e_3_48 c_e_4_49 c_e_5_50 c_e_6_51 c_c_0_52 c_c_1_53 c_c_2_54
      have HK55 := Lib.hid (show Held w [] X wb2 [.box (gb) 34 #[.int .i64 eq, .int .i64 ea, .slice An nn nn], .box (w.heap.size + 2) 34 #[.int .i64 0, .int .i64 0, .slice none 0 0], .box (w.heap.size + 1) 44 #[.int .i64 eq, .int .i64 ea, .int .i64 ek, .string cm, .int .i64 ex, .int .i64 ey, .int .i64 ez], .box (w.heap.size) 34 #[.int .i64 q, .int .i64 a, .slice An nn cn]] [Sl.fact byteSh Ab2 nb2 cb2 (([] : List UInt8) ++ uencB (ek).toNat ++ uencB (eq - q).toNat), Sl.fact byteSh Ab1 nb1 cb1 (([] : List UInt8) ++ uencB (ek).toNat), Sl.fact nameSh An nn nn ns, Sl.fact nameSh An nn cn ns] from ((HK44.out.on hb).know (Sl.fact byteSh Ab2 nb2 cb2 (([] : List UInt8) ++ uencB (ek).toNat ++ uencB (eq - q).toNat)) hsl))
      clear HK44
      clear hb
      clear hsl
      have HK56 := Lib.hid (show Held w [] X wb2 [.box (gb) 34 #[.int .i64 eq, .int .i64 ea, .slice An nn nn], .box (w.heap.size + 2) 34 #[.int .i64 0, .int .i64 0, .slice none 0 0], .box (w.heap.size + 1) 44 #[.int .i64 eq, .int .i64 ea, .int .i64 ek, .string cm, .int .i64 ex, .int .i64 ey, .int .i64 ez], .box (w.heap.size) 34 #[.int .i64 q, .int .i64 a, .slice An nn cn]] [Sl.fact byteSh Ab2 nb2 cb2 (([] : List UInt8) ++ uencB (ek).toNat ++ uencB (eq - q).toNat), Sl.fact nameSh An nn nn ns, Sl.fact nameSh An nn cn ns] from (HK55.out.forget (List.Sublist.cons_cons _ (List.Sublist.cons _ (List.Sublist.cons_cons _ (List.Sublist.cons_cons _ List.Sublist.slnil))))))
      clear HK55
      have c_e_0_57 : wb2.cell? ⟨w.heap.size + 1, 0, none⟩ = some (.int .i64 eq) := HK56.out.cell 2 rfl 0
      have c_e_1_58 : wb2.cell? ⟨w.heap.size + 1, 1, none⟩ = some (.int .i64 ea) := HK56.out.cell 2 rfl 1
      have c_e_2_59 : wb2.cell? ⟨w.heap.size + 1, 2, none⟩ = some (.int .i64 ek) := HK56.out.cell 2 rfl 2
      have c_e_3_60 : wb2.cell? ⟨w.heap.size + 1, 3, none⟩ = some (.string cm) := HK56.out.cell 2 rfl 3
      have c_e_4_61 : wb2.cell? ⟨w.heap.size + 1, 4, none⟩ = some (.int .i64 ex) := HK56.out.cell 2 rfl 4
      have c_e_5_62 : wb2.cell? ⟨w.heap.size + 1, 5, none⟩ = some (.int .i64 ey) := HK56.out.cell 2 rfl 5
      have c_e_6_63 : wb2.cell? ⟨w.heap.size + 1, 6, none⟩ = some (.int .i64 ez) := HK56.out.cell 2 rfl 6
      have c_c_0_64 : wb2.cell? ⟨w.heap.size, 0, none⟩ = some (.int .i64 q) := HK56.out.cell 3 rfl 0
      have c_c_1_65 : wb2.cell? ⟨w.heap.size, 1, none⟩ = some (.int .i64 a) := HK56.out.cell 3 rfl 1
      have c_c_2_66 : wb2.cell? ⟨w.heap.size, 2, none⟩ = some (.slice An nn cn) := HK56.out.cell 3 rfl 2
      go_wp2_with fail
      with_reducible refine (PutUint_i (A := Ab2) (n := nb2) (c := cb2) (l := ([] : List UInt8) ++ uencB (ek).toNat ++ uencB (eq - q).toNat) HK56.out.xok' (HK56.out.sl 0 rfl) (ea - a) (by omega) (by omega) (by omega)).mono ?_
      rintro e wb3 ⟨Ab3, cb3, rfl, hsl, hb⟩
      have hl3 : nb2 + (uencB (ea - a).toNat).length ≤ 30 := by have h1 := uencB_len (ea - a).toNat (by omega); omega
      generalize nb2 + (uencB (ea - a).toNat).length = nb3 at hsl hl3 ⊢
      clear c_e_0_57 c_e_1_58 c_e_2_59 c_e_3_60 c_e_4_61 c_e_5_62 c_e_6_63 c_c_0_64 c_c_1_65 c_c_2_66
      have HK67 := Lib.hid (show Held w [] X wb3 [.box (gb) 34 #[.int .i64 eq, .int .i64 ea, .slice An nn nn], .box (w.heap.size + 2) 34 #[.int .i64 0, .int .i64 0, .slice none 0 0], .box (w.heap.size + 1) 44 #[.int .i64 eq, .int .i64 ea, .int .i64 ek, .string cm, .int .i64 ex, .int .i64 ey, .int .i64 ez], .box (w.heap.size) 34 #[.int .i64 q, .int .i64 a, .slice An nn cn]] [Sl.fact byteSh Ab3 nb3 cb3 (([] : List UInt8) ++ uencB (ek).toNat ++ uencB (eq - q).toNat ++ uencB (ea - a).toNat), Sl.fact byteSh Ab2 nb2 cb2 (([] : List UInt8) ++ uencB (ek).toNat ++ uencB (eq - q).toNat), Sl.fact nameSh An nn nn ns, Sl.fact nameSh An nn cn ns] from ((HK56.out.on hb).know (Sl.fact byteSh Ab3 nb3 cb3 (([] : List UInt8) ++ uencB (ek).toNat ++ uencB (eq - q).toNat ++ uencB (ea - a).toNat)) hsl))
      clear HK56
      clear hb
      clear hsl
      have HK68 := Lib.hid (show Held w [] X wb3 [.box (gb) 34 #[.int .i64 eq, .int .i64 ea, .slice An nn nn], .box (w.heap.size + 2) 34 #[.int .i64 0, .int .i64 0, .slice none 0 0], .box (w.heap.size + 1) 44 #[.int .i64 eq, .int .i64 ea, .int .i64 ek, .string cm, .int .i64 ex, .int .i64 ey, .int .i64 ez], .box (w.heap.size) 34 #[.int .i64 q, .int .i64 a, .slice An nn cn]] [Sl.fact byteSh Ab3 nb3 cb3 (([] : List UInt8) ++ uencB (ek).toNat ++ uencB (eq - q).toNat ++ uencB (ea - a).toNat), Sl.fact nameSh An nn nn ns, Sl.fact nameSh An nn cn ns] from (HK67.out.forget (List.Sublist.cons_cons _ (List.Sublist.cons _ (List.Sublist.cons_cons _ (List.Sublist.cons_cons _ List.Sublist.slnil))))))
      clear HK67
      have c_e_0_69 : wb3.cell? ⟨w.heap.size + 1, 0, none⟩ = some (.int .i64 eq) := HK68.out.cell 2 rfl 0
      have c_e_1_70 : wb3.cell? ⟨w.heap.size + 1, 1, none⟩ = some (.int .i64 ea) := HK68.out.cell 2 rfl 1
      have c_e_2_71 : wb3.cell? ⟨w.heap.size + 1, 2, none⟩ = some (.int .i64 ek) := HK68.out.cell 2 rfl 2
      have c_e_3_72 : wb3.cell? ⟨w.heap.size + 1, 3, none⟩ = some (.string cm) := HK68.out.cell 2 rfl 3
      have c_e_4_73 : wb3.cell? ⟨w.heap.size + 1, 4, none⟩ = some (.int .i64 ex) := HK68.out.cell 2 rfl 4
      have c_e_5_74 : wb3.cell? ⟨w.heap.size + 1, 5, none⟩ = some (.int .i64 ey) := HK68.out.cell 2 rfl 5
      have c_e_6_75 : wb3.cell? ⟨w.heap.size + 1, 6, none⟩ = some (.int .i64 ez) := HK68.out.cell 2 rfl 6
      have c_c_0_76 : wb3.cell? ⟨w.heap.size, 0, none⟩ = some (.int .i64 q) := HK68.out.cell 3 rfl 0
      have c_c_1_77 : wb3.cell? ⟨w.heap.size, 1, none⟩ = some (.int .i64 a) := HK68.out.cell 3 rfl 1
      have c_c_2_78 : wb3.cell? ⟨w.heap.size, 2, none⟩ = some (.slice An nn cn) := HK68.out.cell 3 rfl 2
      go_wp2_with fail
      with_reducible refine (PutUint_i (A := Ab3) (n := nb3) (c := cb3) (l := ([] : List UInt8) ++ uencB (ek).toNat ++ uencB (eq - q).toNat ++ uencB (ea - a).toNat) HK68.out.xok' (HK68.out.sl 0 rfl) ((pl : Int)) (by omega) (by omega) (by omega)).mono ?_
      rintro e wb4 ⟨Ab4, cb4, rfl, hsl, hb⟩
      have hl4 : nb3 + (uencB ((pl : Int)).toNat).length ≤ 40 := by have h1 := uencB_len ((pl : Int)).toNat (by omega); omega
      generalize nb3 + (uencB ((pl : Int)).toNat).length = nb4 at hsl hl4 ⊢
      clear c_e_0_69 c_e_1_70 c_e_2_71 c_e_3_72 c_e_4_73 c_e_5_74 c_e_6_75 c_c_0_76 c_c_1_77 c_c_2_78
      have HK79 := Lib.hid (show Held w [] X wb4 [.box (gb) 34 #[.int .i64 eq, .int .i64 ea, .slice An nn nn], .box (w.heap.size + 2) 34 #[.int .i64 0, .int .i64 0, .slice none 0 0], .box (w.heap.size + 1) 44 #[.int .i64 eq, .int .i64 ea, .int .i64 ek, .string cm, .int .i64 ex, .int .i64 ey, .int .i64 ez], .box (w.heap.size) 34 #[.int .i64 q, .int .i64 a, .slice An nn cn]] [Sl.fact byteSh Ab4 nb4 cb4 (([] : List UInt8) ++ uencB (ek).toNat ++ uencB (eq - q).toNat ++ uencB (ea - a).toNat ++ uencB ((pl : Int)).toNat), Sl.fact byteSh Ab3 nb3 cb3 (([] : List UInt8) ++ uencB (ek).toNat ++ uencB (eq - q).toNat ++ uencB (ea - a).toNat), Sl.fact nameSh An nn nn ns, Sl.fact nameSh An nn cn ns] from ((HK68.out.on hb).know (Sl.fact byteSh Ab4 nb4 cb4 (([] : List UInt8) ++ uencB (ek).toNat ++ uencB (eq - q).toNat ++ uencB (ea - a).toNat ++ uencB ((pl : Int)).toNat)) hsl))
      clear HK68
      clear hb
      clear hsl
      have HK80 := Lib.hid (show Held w [] X wb4 [.box (gb) 34 #[.int .i64 eq, .int .i64 ea, .slice An nn nn], .box (w.heap.size + 2) 34 #[.int .i64 0, .int .i64 0, .slice none 0 0], .box (w.heap.size + 1) 44 #[.int .i64 eq, .int .i64 ea, .int .i64 ek, .string cm, .int .i64 ex, .int .i64 ey, .int .i64 ez], .box (w.heap.size) 34 #[.int .i64 q, .int .i64 a, .slice An nn cn]] [Sl.fact byteSh Ab4 nb4 cb4 (([] : List UInt8) ++ uencB (ek).toNat ++ uencB (eq - q).toNat ++ uencB (ea - a).toNat ++ uencB ((pl : Int)).toNat), Sl.fact nameSh An nn nn ns, Sl.fact nameSh An nn cn ns] from (HK79.out.forget (List.Sublist.cons_cons _ (List.Sublist.cons _ (List.Sublist.cons_cons _ (List.Sublist.cons_cons _ List.Sublist.slnil))))))
      clear HK79
      have HBt := Lib.hid (show by_ = ([] : List UInt8) ++ uencB (ek).toNat ++ uencB (eq - q).toNat ++ uencB (ea - a).toNat ++ uencB ((pl : Int)).toNat ++ (([ex, ey, ez].take (manyE ek)).flatMap (fun n => uencB n.toNat)) from by rw [HBy.out]; simp [hp1])
      generalize ([] : List UInt8) ++ uencB (ek).toNat ++ uencB (eq - q).toNat ++ uencB (ea - a).toNat ++ uencB ((pl : Int)).toNat = pre at HK80 HBt
      have c_e_0_81 : wb4.cell? ⟨w.heap.size + 1, 0, none⟩ = some (.int .i64 eq) := HK80.out.cell 2 rfl 0
      have c_e_1_82 : wb4.cell? ⟨w.heap.size + 1, 1, none⟩ = some (.int .i64 ea) := HK80.out.cell 2 rfl 1
      have c_e_2_83 : wb4.cell? ⟨w.heap.size + 1, 2, none⟩ = some (.int .i64 ek) := HK80.out.cell 2 rfl 2
      have c_e_3_84 : wb4.cell? ⟨w.heap.size + 1, 3, none⟩ = some (.string cm) := HK80.out.cell 2 rfl 3
      have c_e_4_85 : wb4.cell? ⟨w.heap.size + 1, 4, none⟩ = some (.int .i64 ex) := HK80.out.cell 2 rfl 4
      have c_e_5_86 : wb4.cell? ⟨w.heap.size + 1, 5, none⟩ = some (.int .i64 ey) := HK80.out.cell 2 rfl 5
      have c_e_6_87 : wb4.cell? ⟨w.heap.size + 1, 6, none⟩ = some (.int .i64 ez) := HK80.out.cell 2 rfl 6
      go_wp2_with fail
      with_reducible refine ((HNu _).out).mono ?_
      rintro e wn ⟨gn, rfl, hgn, hbk, hb⟩
      clear c_e_0_81 c_e_1_82 c_e_2_83 c_e_3_84 c_e_4_85 c_e_5_86 c_e_6_87
      have HK88 := Lib.hid (show Held w [] X wn [.box (gn) 2 #[.int .i64 ex, .int .i64 ey, .int .i64 ez], .box (gb) 34 #[.int .i64 eq, .int .i64 ea, .slice An nn nn], .box (w.heap.size + 2) 34 #[.int .i64 0, .int .i64 0, .slice none 0 0], .box (w.heap.size + 1) 44 #[.int .i64 eq, .int .i64 ea, .int .i64 ek, .string cm, .int .i64 ex, .int .i64 ey, .int .i64 ez], .box (w.heap.size) 34 #[.int .i64 q, .int .i64 a, .slice An nn cn]] [Sl.fact byteSh Ab4 nb4 cb4 pre, Sl.fact nameSh An nn nn ns, Sl.fact nameSh An nn cn ns] from HK80.out.new_box hb hbk hgn)
      clear HK80
      clear hb
      clear hbk hgn
      have hm3 := manyE_le ek
      generalize manyE ek = m at HBt hm3 ⊢
      have HNT := Lib.hid (num_take ex ey ez m)
      go_wp2
      go_loopw [12, 99] (fun l0 i wr => ∃ (j : Nat) (Al : Option Addr) (nl cl : Nat), l0 = .slice Al nl cl ∧ j ≤ m ∧ i = .int .i64 j ∧ nl ≤ 80 + 10 * j ∧ Hid (Held w [] X wr [.box (gn) 2 #[.int .i64 ex, .int .i64 ey, .int .i64 ez], .box (gb) 34 #[.int .i64 eq, .int .i64 ea, .slice An nn nn], .box (w.heap.size + 2) 34 #[.int .i64 0, .int .i64 0, .slice none 0 0], .box (w.heap.size + 1) 44 #[.int .i64 eq, .int .i64 ea, .int .i64 ek, .string cm, .int .i64 ex, .int .i64 ey, .int .i64 ez], .box (w.heap.size) 34 #[.int .i64 q, .int .i64 a, .slice An nn cn]] [Sl.fact byteSh Al nl cl (pre ++ (([ex, ey, ez].take m).take j).flatMap (fun n => uencB n.toNat)), Sl.fact nameSh An nn nn ns, Sl.fact nameSh An nn cn ns])) (fun _ i _ => m - (intOf i).toNat)
      case atStart => exact ⟨0, _, _, _, rfl, Nat.zero_le _, rfl, by omega, Lib.hid (by simpa using HK88.out)⟩
      case round =>
        clear HK88
        obtain ⟨j, Al, nl, cl, rfl, hj, rfl, hnl, HKl⟩ := hrel
        by_cases hlt : j < m
        · skip
          have HZ := Lib.hid (num_at ex ey ez j (by omega))
          have HT := Lib.hid (HNT.out j hlt hm3)
          have hz : 0 ≤ [ex, ey, ez].getD j 0 ∧ [ex, ey, ez].getD j 0 ≤ 2147483647 := by rcases (by omega : j = 0 ∨ j = 1 ∨ j = 2) with rfl | rfl | rfl <;> (simp; omega)
          generalize [ex, ey, ez].getD j 0 = z at HZ HT hz
          obtain ⟨hz0, hz1⟩ := hz
          have cz : wr.cell? ⟨gn, j, none⟩ = some (.int .i64 z) := (HKl.out.cell 0 rfl j).trans HZ.out
          have wz : IntKind.u64.wrap z = z := IntWalk.u64_in _ (by omega)
          go_wp2_with fail
          with_reducible refine (PutUint_i HKl.out.xok' (HKl.out.sl 0 rfl) z hz0 (by omega) (by omega)).mono ?_
          rintro e w9 ⟨A9, c9, rfl, hsl, hb⟩
          clear cz wz
          have h9 : nl + (uencB z.toNat).length ≤ 80 + 10 * (j + 1) := by have h1 := uencB_len z.toNat (by omega); omega
          generalize nl + (uencB z.toNat).length = n9 at hsl h9 ⊢
          rw [List.append_assoc, ← HT.out] at hsl
          have HK89 := Lib.hid (show Held w [] X w9 [.box (gn) 2 #[.int .i64 ex, .int .i64 ey, .int .i64 ez], .box (gb) 34 #[.int .i64 eq, .int .i64 ea, .slice An nn nn], .box (w.heap.size + 2) 34 #[.int .i64 0, .int .i64 0, .slice none 0 0], .box (w.heap.size + 1) 44 #[.int .i64 eq, .int .i64 ea, .int .i64 ek, .string cm, .int .i64 ex, .int .i64 ey, .int .i64 ez], .box (w.heap.size) 34 #[.int .i64 q, .int .i64 a, .slice An nn cn]] [Sl.fact byteSh A9 n9 c9 (pre ++ (([ex, ey, ez].take m).take (j + 1)).flatMap (fun n => uencB n.toNat)), Sl.fact byteSh Al nl cl (pre ++ (([ex, ey, ez].take m).take j).flatMap (fun n => uencB n.toNat)), Sl.fact nameSh An nn nn ns, Sl.fact nameSh An nn cn ns] from ((HKl.out.on hb).know (Sl.fact byteSh A9 n9 c9 (pre ++ (([ex, ey, ez].take m).take (j + 1)).flatMap (fun n => uencB n.toNat))) hsl))
          clear HKl
          clear hb
          clear hsl
          have HK90 := Lib.hid (show Held w [] X w9 [.box (gn) 2 #[.int .i64 ex, .int .i64 ey, .int .i64 ez], .box (gb) 34 #[.int .i64 eq, .int .i64 ea, .slice An nn nn], .box (w.heap.size + 2) 34 #[.int .i64 0, .int .i64 0, .slice none 0 0], .box (w.heap.size + 1) 44 #[.int .i64 eq, .int .i64 ea, .int .i64 ek, .string cm, .int .i64 ex, .int .i64 ey, .int .i64 ez], .box (w.heap.size) 34 #[.int .i64 q, .int .i64 a, .slice An nn cn]] [Sl.fact byteSh A9 n9 c9 (pre ++ (([ex, ey, ez].take m).take (j + 1)).flatMap (fun n => uencB n.toNat)), Sl.fact nameSh An nn nn ns, Sl.fact nameSh An nn cn ns] from (HK89.out.forget (List.Sublist.cons_cons _ (List.Sublist.cons _ (List.Sublist.cons_cons _ (List.Sublist.cons_cons _ List.Sublist.slnil))))))
          clear HK89
          go_wp2
          exact ⟨⟨j + 1, A9, n9, c9, rfl, by omega, by go_num, h9, HK90⟩, by simp [intOf]; omega⟩
        · skip
          obtain rfl : m = j := by omega
          have HTT := Lib.hid (show ([ex, ey, ez].take m).take m = [ex, ey, ez].take m from by rw [List.take_take, Nat.min_self])
          rw [HTT.out] at HKl
          rw [← HBt.out] at HKl
          go_wp2_with fail
          refine wp_region_noPanic ?_
          refine wp_region_held_drew (S := fun W' => HeldBut w [] X W' [.box (gn) 2 #[.int .i64 ex, .int .i64 ey, .int .i64 ez], .box (gb) 34 #[.int .i64 eq, .int .i64 ea, .slice An nn nn], .box (w.heap.size + 2) 34 #[.int .i64 0, .int .i64 0, .slice none 0 0], .box (w.heap.size + 1) 44 #[.int .i64 eq, .int .i64 ea, .int .i64 ek, .string cm, .int .i64 ex, .int .i64 ey, .int .i64 ez], .box (w.heap.size) 34 #[.int .i64 q, .int .i64 a, .slice An nn cn]] [Sl.fact byteSh Al nl cl by_, Sl.fact nameSh An nn nn ns, Sl.fact nameSh An nn cn ns] 2 (w.heap.size + 2) 34) (by kernel_rfl) (HKl.out.but 2 rfl).drew (fun hHeld => ?_)
          have c_r_0_89 : wr.cell? ⟨w.heap.size + 2, 0, none⟩ = some (.int .i64 0) := HKl.out.cell 2 rfl 0
          have z_r_0_90 : wr.frozen? ⟨w.heap.size + 2, 0, none⟩ = false := HKl.out.frozen 2 rfl 0
          have c_r_1_91 : wr.cell? ⟨w.heap.size + 2, 1, none⟩ = some (.int .i64 0) := HKl.out.cell 2 rfl 1
          have z_r_1_92 : wr.frozen? ⟨w.heap.size + 2, 1, none⟩ = false := HKl.out.frozen 2 rfl 1
          have c_r_2_93 : wr.cell? ⟨w.heap.size + 2, 2, none⟩ = some (.slice none 0 0) := HKl.out.cell 2 rfl 2
          have z_r_2_94 : wr.frozen? ⟨w.heap.size + 2, 2, none⟩ = false := HKl.out.frozen 2 rfl 2
          refine takeH 0 (v := ?v0u30) rfl (by kernel_rfl) (by kernel_rfl) (by kernel_rfl) rfl (fun _ _ _ h => h) (Or.inl ⟨by rfl, ?y0u30⟩) hHeld ?r0u30
          case y0u30 => (intro W hSW; (try dsimp only at hSW); go_simp; try with_reducible rfl)
          simp only [Act.put, sI, sZ, sS]
          refine takeH 1 (v := ?v1u31) rfl (by kernel_rfl) (by kernel_rfl) (by kernel_rfl) rfl (fun _ _ _ h => h) (Or.inl ⟨by rfl, ?y1u31⟩) hHeld ?r1u31
          case y1u31 => (intro W hSW; (try dsimp only at hSW); have q0 : W.cell? ⟨gb, 0, none⟩ = some (.int .i64 eq) := hSW.cell 1 rfl (by decide) 0; have q1 : W.cell? ⟨gb, 1, none⟩ = some (.int .i64 ea) := hSW.cell 1 rfl (by decide) 1; have q2 : W.cell? ⟨gb, 2, none⟩ = some (.slice An nn nn) := hSW.cell 1 rfl (by decide) 2; go_simp; try with_reducible rfl)
          simp only [Act.put, sI, sZ, sS]
          refine takeH 2 (v := ?v2u32) rfl (by kernel_rfl) (by kernel_rfl) (by kernel_rfl) rfl (fun _ _ _ h => h) (Or.inl ⟨by rfl, ?y2u32⟩) hHeld ?r2u32
          case y2u32 => (intro W hSW; (try dsimp only at hSW); go_simp; try with_reducible rfl)
          simp only [Act.put, sI, sZ, sS]
          refine wpAnyH_ready (rs := [3]) (by kernel_rfl) (by simp) ?_
          refine AllReadyH.cons rfl (fun K hK => ?_) AllReadyH.nil
          go_simp
          refine hK.out _ _ (((hHeld.set_ (by simp) 0 (.int .i64 eq)).set_ (by simp) 1 (.int .i64 ea)).set_ (by simp) 2 (.slice An nn nn)) (fun hHeld => ?_)
          clear hK K
          try simp only [Act.put, sI, sZ, sS]
          refine takeH 4 (v := ?v4u33) rfl (by kernel_rfl) (by kernel_rfl) (by kernel_rfl) rfl (fun _ _ _ h => h) (Or.inl ⟨by rfl, ?y4u33⟩) hHeld ?r4u33
          case y4u33 => (intro W hSW; (try dsimp only at hSW); go_simp; try with_reducible rfl)
          simp only [Act.put, sI, sZ, sS]
          refine wpAnyH_done (by kernel_rfl) ?_ _
          refine NoPanic.normal ?_
          clear c_r_0_89 z_r_0_90 c_r_1_91 z_r_1_92 c_r_2_93 z_r_2_94
          have HK95 := Lib.hid (show Held w [] X (((wr.setCell ⟨w.heap.size + 2, 0, none⟩ (.int .i64 eq)).setCell ⟨w.heap.size + 2, 1, none⟩ (.int .i64 ea)).setCell ⟨w.heap.size + 2, 2, none⟩ (.slice An nn nn)) [.box (gn) 2 #[.int .i64 ex, .int .i64 ey, .int .i64 ez], .box (gb) 34 #[.int .i64 eq, .int .i64 ea, .slice An nn nn], .box (w.heap.size + 2) 34 #[.int .i64 eq, .int .i64 ea, .slice An nn nn], .box (w.heap.size + 1) 44 #[.int .i64 eq, .int .i64 ea, .int .i64 ek, .string cm, .int .i64 ex, .int .i64 ey, .int .i64 ez], .box (w.heap.size) 34 #[.int .i64 q, .int .i64 a, .slice An nn cn]] [Sl.fact byteSh Al nl cl by_, Sl.fact nameSh An nn nn ns, Sl.fact nameSh An nn cn ns] from (((HKl.out.set_ 2 rfl 0 (.int .i64 eq)).set_ 2 rfl 1 (.int .i64 ea)).set_ 2 rfl 2 (.slice An nn nn)))
          clear HKl
          go_wp2
          exact bodyPost_ret (res_enc (HK95.out.drew.blk 2 rfl) (u := .int .i64 0) (v := .slice Al nl cl) _ rfl rfl rfl) rfl ⟨HK95.out.drew.below, .inr ⟨by rw [HE.out], Al, nl, cl, An, nn, nn, rfl, HK95.out.drew.back' 0 rfl, by rw [HNx.out]; exact HK95.out.drew.back' 1 rfl⟩⟩
end
section
set_option maxRecDepth 100000
def maskN : Nat := 4294967295
def polyN : Nat := 3988292384
def stepN (n : Nat) : Nat := if n % 2 = 1 then n / 2 ^^^ polyN else n / 2
def step8 (n : Nat) : Nat := stepN (stepN (stepN (stepN (stepN (stepN (stepN (stepN n)))))))
def stepK : Nat → Nat → Nat
  | 0, n => n
  | k + 1, n => stepN (stepK k n)
def goN (t : Nat → Nat) (n : Nat) (b : List Nat) : Nat := b.foldl (fun n x => t (n % 256 ^^^ x) ^^^ n / 256) n
def sumT (t : Nat → Nat) (s : Nat) (b : List Nat) : Nat := goN t (s ^^^ maskN) b ^^^ maskN
def le4 (n : Nat) : List Nat := [n % 256, n / 256 % 256, n / 65536 % 256, n / 16777216 % 256]
theorem stepK_8 (n : Nat) : stepK 8 n = step8 n := rfl
theorem xor_lt32 {a b : Nat} (ha : a < 4294967296) (hb : b < 4294967296) : a ^^^ b < 4294967296 := Nat.xor_lt_two_pow (n := 32) (by simpa using ha) (by simpa using hb)
theorem xor_lt8 {a b : Nat} (ha : a < 256) (hb : b < 256) : a ^^^ b < 256 := Nat.xor_lt_two_pow (n := 8) (by simpa using ha) (by simpa using hb)
theorem stepN_lt {n : Nat} (h : n < 4294967296) : stepN n < 4294967296 := by
  unfold stepN
  split
  · exact xor_lt32 (by omega) (by decide)
  · omega
theorem stepK_lt {n : Nat} (h : n < 4294967296) (k : Nat) : stepK k n < 4294967296 := by
  induction k with
  | zero => exact h
  | succ k ih => exact stepN_lt ih
theorem step8_lt {n : Nat} (h : n < 4294967296) : step8 n < 4294967296 := stepK_lt h 8
theorem xor_same_right (a b : Nat) : (a ^^^ b) ^^^ b = a := by rw [Nat.xor_assoc, Nat.xor_self, Nat.xor_zero]
theorem goN_lt (t : Nat → Nat) (ht : ∀ i, i < 256 → t i < 4294967296) (b : List Nat) (hb : ∀ x ∈ b, x < 256) : ∀ n, n < 4294967296 → goN t n b < 4294967296 := by
  induction b with
  | nil => intro n hn; exact hn
  | cons x b ih =>
    intro n hn
    simp only [goN, List.foldl_cons]
    exact ih (fun y hy => hb y (List.mem_cons_of_mem _ hy)) _ (xor_lt32 (ht _ (xor_lt8 (by omega) (hb x (List.mem_cons_self ..)))) (by omega))
theorem sumT_lt (t : Nat → Nat) (ht : ∀ i, i < 256 → t i < 4294967296) (s : Nat) (hs : s < 4294967296) (b : List Nat) (hb : ∀ x ∈ b, x < 256) : sumT t s b < 4294967296 :=
  xor_lt32 (goN_lt t ht b hb _ (xor_lt32 hs (by decide))) (by decide)
end
section
set_option maxRecDepth 100000
open Go.RowKit
theorem retI {k : IntKind} {a b : Int} (h : a = b) : Ending.returned (.int k a) = .returned (.int k b) := by rw [h]
theorem xor_poly (n : Nat) (h : n < 4294967296) : bits .xor .u32 ((n : Int) / 2) 3988292384 = ((n / 2 ^^^ polyN : Nat) : Int) := by
  have e : ((n : Int) / 2) = ((n / 2 : Nat) : Int) := by omega
  have e2 : (3988292384 : Int) = ((polyN : Nat) : Int) := rfl
  rw [e, e2, u32_xor_nat _ _ (by omega) (by decide)]
theorem step_c (n : Nat) (hn : n < 4294967296) (w : World) : Calls Tryz.prog 174 #[.int .u32 n] w fun e w' => e = .returned (.int .u32 (stepN n)) ∧ w = w' := by
  have hx := xor_poly n hn
  have HX := Lib.hid hx; clear hx
  by_cases h : n % 2 = 1
  · have h1 : (((n : Int) % 2) == 1) = true := by rw [beq_iff_eq]; omega
    have HS := Lib.hid (show stepN n = n / 2 ^^^ polyN from by unfold stepN; rw [if_pos h])
    clear h
    go_enter Tryz.func174, Tryz.ntmps174
    go_wp2
    go_ret
    exact ⟨retI (by rw [HS.out, ← HX.out]), rfl⟩
  · have h1 : (((n : Int) % 2) == 1) = false := by rw [beq_eq_false_iff_ne]; omega
    have HS := Lib.hid (show stepN n = n / 2 from by unfold stepN; rw [if_neg h])
    clear h
    go_enter Tryz.func174, Tryz.ntmps174
    go_wp2
    go_ret
    exact ⟨retI (by rw [HS.out]; rfl), rfl⟩
def tabArr (t : Nat → Nat) : Array Value := ((List.range 256).map (fun i => Value.int .u32 ((t i : Nat) : Int))).toArray
theorem tabArr_size (t : Nat → Nat) : (tabArr t).size = 256 := by simp [tabArr]
theorem tabArr_get (t : Nat → Nat) (i : Nat) (h : i < 256) : (tabArr t)[i]? = some (.int .u32 (t i)) := by
  simp [tabArr, h]
theorem tabArr_zero : Tryz.zeroCells185 = tabArr (fun _ => 0) := by kernel_rfl
theorem tabArr_set (t : Nat → Nat) (k : Nat) (hk : k < 256) (v : Nat) : (tabArr t).setIfInBounds k (.int .u32 v) = tabArr (fun i => if i = k then v else t i) := by
  apply Array.ext_getElem?
  intro i
  rw [Array.getElem?_setIfInBounds]
  by_cases hi : k = i
  · subst hi
    rw [if_pos rfl, tabArr_size, if_pos hk, tabArr_get _ _ hk]; simp
  · rw [if_neg hi]
    by_cases h : i < 256
    · rw [tabArr_get _ _ h, tabArr_get _ _ h, if_neg (fun e => hi e.symm)]
    · rw [Array.getElem?_eq_none (by rw [tabArr_size]; omega), Array.getElem?_eq_none (by rw [tabArr_size]; omega)]
theorem tabArr_ext {t u : Nat → Nat} (h : ∀ i, i < 256 → t i = u i) : tabArr t = tabArr u := by
  apply Array.ext_getElem?
  intro i
  by_cases hi : i < 256
  · rw [tabArr_get _ _ hi, tabArr_get _ _ hi, h i hi]
  · rw [Array.getElem?_eq_none (by rw [tabArr_size]; omega), Array.getElem?_eq_none (by rw [tabArr_size]; omega)]
theorem tabArr_one (t : Nat → Nat) : (tabArr t).all (·.oneCell') = true := by
  rw [Array.all_eq_true]
  intro i hi
  have h256 : i < 256 := by rw [tabArr_size] at hi; exact hi
  have := tabArr_get t i h256
  rw [Array.getElem?_eq_getElem hi] at this
  injection this with this
  rw [this]; rfl
attribute [irreducible] tabArr
theorem tabArr_info (t : Nat → Nat) : (Tryz.prog.info? 185).map (·.size) = some (tabArr t).size := by rw [tabArr_size]; kernel_rfl
theorem Blk.setRow {w : World} {g : Nat} {t : TypeId} {old : Array Value} (h : Blk w g t old) (cs : Array Value) : Blk (w.setRow g cs) g t cs := setRow_heap w g old cs t (0, 0) h
theorem below_setRow {B : Nat} {a w : World} (h : Below B a w) {g : Nat} (hg : B ≤ g) (cs : Array Value) : Below B a (w.setRow g cs) :=
  h.trans ⟨rfl, rfl, rfl, by simp, fun k hk => setRow_other w g k cs (by omega)⟩
set_option maxRecDepth 100000 in
theorem Table_c (w : World) : Calls Tryz.prog 110 #[] w fun e w' => e = .returned (.agg (tabArr step8)) ∧ Below w.heap.size w w' := by
  go_enter Tryz.func110, Tryz.ntmps110
  go_wp2
  go_loopw [4] (fun i wr => ∃ k : Nat, k ≤ 256 ∧ i = .int .i64 k ∧ Hid (Blk wr (w.heap.size + 1) 185 (tabArr (fun i => if i < k then step8 i else 0))) ∧ Hid (Blk wr w.heap.size 185 (tabArr (fun _ => 0))) ∧ Below w.heap.size w wr) (fun i _ => 256 - (intOf i).toNat)
  case atStart =>
    refine ⟨0, Nat.zero_le _, rfl, ?_, ?_, (((Below.refl _ _).alloc (Nat.le_refl _) _).alloc (by simp) _)⟩
    · have h := blk2_1 w 185 185 Tryz.zeroCells185 Tryz.zeroCells185
      rw [show tabArr (fun i => if i < 0 then step8 i else 0) = Tryz.zeroCells185 from by rw [tabArr_zero]; exact tabArr_ext (fun i _ => rfl)]
      exact h
    · rw [← tabArr_zero]
      exact blk2_0 w 185 185 Tryz.zeroCells185 Tryz.zeroCells185
  case round =>
    obtain ⟨k, hk, rfl, H1, H0, hbr⟩ := hrel
    by_cases hlt : k < 256
    · have hcell : wr.cell? ⟨w.heap.size + 1, k, none⟩ = some (.int .u32 0) := by
        rw [H1.out.cell k, tabArr_get _ _ hlt, if_neg (by omega)]; rfl
      have hfz : wr.frozen? ⟨w.heap.size + 1, k, none⟩ = false := H1.out.frozen k
      have hi0 : (0 : Int) ≤ (k : Int) := by omega
      have hd : decide ((k : Int) < 256) = true := by simp; omega
      go_wp2
      go_loop [3, 9] (fun t j => ∃ q : Nat, q ≤ 8 ∧ j = .int .i64 q ∧ t = .int .u32 (stepK q k)) (fun _ j => 8 - (intOf j).toNat)
      case atStart => exact ⟨0, Nat.zero_le _, rfl, rfl⟩
      case round =>
        obtain ⟨q, hq, rfl, rfl⟩ := hrel
        by_cases hq8 : q < 8
        · go_wp2_with (go_at_call 174; refine (step_c _ (stepK_lt (by omega) q) _).mono ?_; rintro e w' ⟨rfl, rfl⟩)
          go_round
          case rel => exact ⟨q + 1, by omega, by go_num, rfl⟩
          case measure => simp [intOf]; omega
        · obtain rfl : q = 8 := by omega
          go_wp2
          go_roundw
          case rel =>
            refine ⟨k + 1, by omega, by go_num, ?_, H0.out.far (by simp) _, hbr.setCell (by simp) _⟩
            have e := H1.out.set_ k (.int .u32 (stepK 8 k))
            rw [tabArr_set _ k hlt, tabArr_ext (u := fun i => if i < k + 1 then step8 i else 0) (fun i _ => ?_)] at e
            · exact e
            · by_cases h1 : i = k
              · subst h1; rw [if_pos rfl, if_pos (by omega), stepK_8]
              · rw [if_neg h1]
                by_cases h2 : i < k
                · rw [if_pos h2, if_pos (by omega)]
                · rw [if_neg h2, if_neg (by omega)]
          case measure => simp [intOf]; omega
    · obtain rfl : k = 256 := by omega
      rw [tabArr_ext (u := step8) (fun i hi => by rw [if_pos hi])] at H1
      go_wp2_with (first
        | (refine wpList_load_row rfl 185 _ rfl (w.heap.size + 1) rfl 185 (tabArr step8) (0, 0) _ H1.out Tryz.underlying185 rfl (tabArr_info _) ?_)
        | (refine wpList_store_row rfl 185 _ _ rfl w.heap.size (tabArr step8) rfl rfl 185 (tabArr (fun _ => 0)) H0.out (tabArr_info _) (by rw [tabArr_size, tabArr_size]) (tabArr_one _) ?_))
      exact bodyPost_ret (results_cell_row rfl _ _ w.heap.size 185 (tabArr step8) (0, 0) _ rfl (H0.out.setRow _) Tryz.underlying185 rfl (tabArr_info _)) rfl ⟨rfl, below_setRow hbr (Nat.le_refl _) _⟩
end
section
set_option maxRecDepth 100000
open Go.RowKit
theorem xor_max (g : Nat) (hg : g < 4294967296) : bits .xor .u32 IntKind.u32.max ((g ^^^ maskN : Nat) : Int) = (g : Int) := by
  have e2 : IntKind.u32.max = ((maskN : Nat) : Int) := rfl
  rw [e2, u32_xor_nat _ _ (by decide) (xor_lt32 hg (by decide)), Nat.xor_comm, xor_same_right]
theorem xor_max' (g : Nat) (hg : g < 4294967296) : bits .xor .u32 IntKind.u32.max (g : Int) = ((g ^^^ maskN : Nat) : Int) := by
  have e2 : IntKind.u32.max = ((maskN : Nat) : Int) := rfl
  rw [e2, u32_xor_nat _ _ (by decide) hg, Nat.xor_comm]
theorem xor_low (g x : Nat) (hx : x < 256) : bits .xor .u8 ((g : Int) % 256) (x : Int) = ((g % 256 ^^^ x : Nat) : Int) := by
  have e : (g : Int) % 256 = ((g % 256 : Nat) : Int) := by omega
  rw [e, u8_xor_nat _ _ (by omega) hx]
theorem xor_high (a g : Nat) (ha : a < 4294967296) (hg : g < 4294967296) : bits .xor .u32 (a : Int) ((g : Int) / 256) = ((a ^^^ g / 256 : Nat) : Int) := by
  have e : (g : Int) / 256 = ((g / 256 : Nat) : Int) := by omega
  rw [e, u32_xor_nat _ _ ha (by omega)]
theorem goN_snoc (t : Nat → Nat) (n : Nat) (b : List Nat) (x : Nat) : goN t n (b ++ [x]) = t (goN t n b % 256 ^^^ x) ^^^ goN t n b / 256 := by simp [goN]
set_option maxRecDepth 100000 in
theorem Sum_c (t : Nat → Nat) (ht : ∀ i, i < 256 → t i < 4294967296) (s : Nat) (hs : s < 4294967296) (A : Option Addr) (n c B : Nat) (bs : List UInt8) (w : World) (hr : Reads w B 1 A n (byteCells bs)) (hB : B ≤ w.heap.size) (hn : n ≤ 1000000) :
    Calls Tryz.prog 225 #[.agg (tabArr t), .int .u32 s, .slice A n c] w fun e w' => e = .returned (.int .u32 (sumT t s (natB bs))) ∧ Below w.heap.size w w' := by
  have hl := hr.lenB
  have HL := Lib.hid hl; clear hl
  go_enter Tryz.func225, Tryz.ntmps225
  go_wp2
  go_loop [1, 12] (fun v i => ∃ k : Nat, k ≤ n ∧ i = .int .i64 k ∧ v = .int .u32 ((goN t (s ^^^ maskN) ((natB bs).take k) ^^^ maskN : Nat) : Int)) (fun _ i => n - (intOf i).toNat)
  case atStart => exact ⟨0, Nat.zero_le _, rfl, by simp [goN, xor_same_right]⟩
  case round =>
    obtain ⟨k, hk, rfl, rfl⟩ := hrel
    by_cases hlt : k < n
    · obtain ⟨ad, x, rfl, hb, hx, hc⟩ := hr.byte_at hlt
      have hc' := (World.cell?_alloc_lt w (.cells (tabArr t) 185) (ad.add k) (by rw [block_of_add]; omega)).trans hc
      obtain ⟨g, hg⟩ : ∃ g, goN t (s ^^^ maskN) ((natB bs).take k) = g := ⟨_, rfl⟩
      have hgl : g < 4294967296 := by rw [← hg]; exact goN_lt t ht _ (fun y hy => natB_lt bs y (List.mem_of_mem_take hy)) _ (xor_lt32 hs (by decide))
      rw [hg]
      have hx1 := xor_max g hgl
      have hxl := x.toNat_lt
      clear hc hr
      obtain ⟨j, hj⟩ : ∃ j, g % 256 ^^^ x.toNat = j := ⟨_, rfl⟩
      have hjl : j < 256 := by rw [← hj]; exact xor_lt8 (by omega) hxl
      have hx2 := xor_low g x.toNat hxl
      rw [hj] at hx2
      have htab := tabArr_get t j hjl
      have htj := ht j hjl
      have hx3 := xor_high (t j) g htj hgl
      have hx4 := xor_max' (t j ^^^ g / 256) (xor_lt32 htj (by omega))
      have hj0 : (0 : Int) ≤ bits BinOp.xor IntKind.u8 (bits BinOp.xor IntKind.u32 IntKind.u32.max ((g ^^^ maskN : Nat) : Int) % 256) (x.toNat : Int) := by rw [hx1, hx2]; omega
      have hj1 : bits BinOp.xor IntKind.u8 (bits BinOp.xor IntKind.u32 IntKind.u32.max ((g ^^^ maskN : Nat) : Int) % 256) (x.toNat : Int) < 256 := by rw [hx1, hx2]; omega
      have HG := Lib.hid (show goN t (s ^^^ maskN) ((natB bs).take (k + 1)) = t j ^^^ g / 256 from by
        have e : (natB bs).take (k + 1) = (natB bs).take k ++ [x.toNat] := by rw [List.take_add_one]; simp [natB, hx]
        rw [e, goN_snoc, hg, hj])
      clear hg hj hx
      go_wp2
      go_round
      case rel => exact ⟨k + 1, by omega, by go_num, by rw [HG.out]⟩
      case measure => simp [intOf]; omega
    · have HT := Lib.hid (List.take_of_length_le (l := natB bs) (i := k) (by rw [natB_length, HL.out]; omega))
      go_wp2
      go_ret
      exact ⟨retI (by rw [HT.out]; rfl), (Below.refl _ _).alloc (Nat.le_refl _) _⟩
end
section
set_option maxRecDepth 100000
open Go.RowKit
def le4B (s : Nat) : List UInt8 := (le4 s).map UInt8.ofNat
def sealB (t : Nat → Nat) (bs : List UInt8) : List UInt8 := bs ++ le4B (sumT t 0 (natB bs))
theorem le4B_length (s : Nat) : (le4B s).length = 4 := by simp [le4B, le4]
theorem sealB_length (t : Nat → Nat) (bs : List UInt8) : (sealB t bs).length = bs.length + 4 := by unfold sealB; rw [List.length_append, le4B_length]
theorem le4B_snoc (s k : Nat) (hk : k < 4) : (le4B s).take (k + 1) = (le4B s).take k ++ [UInt8.ofNat (s / 256 ^ k % 256)] := by
  rcases (by omega : k = 0 ∨ k = 1 ∨ k = 2 ∨ k = 3) with rfl | rfl | rfl | rfl <;> simp [le4B, le4]
theorem byte_ofNat (m : Nat) (h : m < 256) : ((UInt8.ofNat m).toNat : Int) = (m : Int) := by simp; omega
set_option maxRecDepth 100000 in
theorem Seal_c (t : Nat → Nat) (ht : ∀ i, i < 256 → t i < 4294967296) (A : Option Addr) (n c B : Nat) (bs : List UInt8) (w : World) (hr : Reads w B 1 A n (byteCells bs)) (hB : B ≤ w.heap.size) (hn : n ≤ 900000) :
    Calls Tryz.prog 173 #[.agg (tabArr t), .slice A n c] w fun e w' => ∃ v, e = .returned v ∧ w'.ownsRow w.heap.size 5 1 v (n + 4) (byteCells (sealB t bs)) ∧ Below w.heap.size w w' := by
  have hl := hr.lenB
  have HL := Lib.hid hl; clear hl
  have HR := Lib.hid hr; clear hr
  obtain ⟨i0, hi0, hz0, hz1, hz2⟩ := info_parts Tryz.infoU8
  go_enter Tryz.func173, Tryz.ntmps173
  go_wp2_with (refine wpList_load_row rfl 185 _ rfl w.heap.size rfl 185 (tabArr t) (0, 0) _ (Blk.new w 185 (tabArr t)) Tryz.underlying185 rfl (tabArr_info _) ?_)
  refine (Sum_c t ht 0 (by decide) A n c B bs _ (HR.out.alloc hB _) (by simp; omega) (by omega)).mono ?_
  rintro e w1 ⟨rfl, hb1⟩
  obtain ⟨s, hs⟩ : ∃ s, sumT t 0 (natB bs) = s := ⟨_, rfl⟩
  have hsl : s < 4294967296 := by rw [← hs]; exact sumT_lt t ht 0 (by decide) _ (natB_lt bs)
  rw [hs]
  have HS := Lib.hid hs; clear hs
  have hb1' : Below w.heap.size w w1 := ((Below.refl _ _).alloc (Nat.le_refl _) _).trans (hb1.mono (by simp))
  have HR1 := Lib.hid ((HR.out.more hB).below hb1')
  have hw1 := hb1'.size
  go_wp2_with fail
  refine (CloneB_c A n c w.heap.size bs _ HR1.out hw1 (by omega)).mono ?_
  rintro e w2 ⟨v, rfl, hown, hb2⟩
  have hb2' := hb1'.trans (hb2.mono hw1)
  have hown' := ownsRow_base hown hw1
  clear hb1 hb2 hown
  go_wp2
  go_loopw [6, 13] (fun v i wr => ∃ k : Nat, k ≤ 4 ∧ i = .int .i64 k ∧ wr.ownsRow w.heap.size 5 1 v (n + k) (byteCells (bs ++ (le4B s).take k)) ∧ Below w.heap.size w wr) (fun _ i _ => 4 - (intOf i).toNat)
  case atStart => exact ⟨0, Nat.zero_le _, rfl, by simpa using hown', hb2'⟩
  case round =>
    obtain ⟨k, hk, rfl, hown, hbr⟩ := hrel
    by_cases hlt : k < 4
    · have EL := Lib.hid (show byteCells (bs ++ (le4B s).take (k + 1)) = byteCells (bs ++ (le4B s).take k) ++ [.int .u8 ((s / 256 ^ k % 256 : Nat) : Int)] from by
        rw [le4B_snoc s k hlt, ← List.append_assoc, byteCells_append]
        congr 1
        simp only [byteCells, List.map_cons, List.map_nil]
        rw [byte_ofNat _ (by omega)])
      rcases (by omega : k = 0 ∨ k = 1 ∨ k = 2 ∨ k = 3) with rfl | rfl | rfl | rfl
      all_goals
        go_wp2_with (at_builtin; go_must (refine wpList_append_one wr rfl _ _ 50 rfl w.heap.size 5 i0 _ 1 Tryz.underlying50 hi0 hz0 hz1 hz2 rfl _ _ _ hown rfl _ rfl rfl (by unfold maxLen; omega) (by omega) hbr.size ?_); intro v' w3 hown3 hg3)
        go_roundw
        case rel => exact ⟨_, hlt, by go_num, by rw [EL.out]; first | exact hown3 | (rw [show ((s / 256 ^ 0 % 256 : Nat) : Int) = (s : Int) % 256 from by omega]; exact hown3) | (rw [show ((s / 256 ^ 3 % 256 : Nat) : Int) = (s : Int) / 16777216 from by omega]; exact hown3), below_own hbr hg3 hown (Nat.le_refl _) hbr.size⟩
        case measure => simp [intOf]
    · obtain rfl : k = 4 := by omega
      go_wp2
      go_ret
      refine ⟨_, rfl, ?_, hbr⟩
      unfold sealB
      rw [HS.out]
      rw [List.take_of_length_le (by rw [le4B_length]; omega)] at hown
      exact hown
set_option maxRecDepth 100000 in
theorem Equal_c (A A2 : Option Addr) (n c n2 c2 B B2 : Nat) (bs cs : List UInt8) (w : World) (hr : Reads w B 1 A n (byteCells bs)) (hr2 : Reads w B2 1 A2 n2 (byteCells cs)) :
    Calls Tryz.prog 113 #[.slice A n c, .slice A2 n2 c2] w fun e w' => e = .returned (.bool (bs == cs)) ∧ w = w' := by
  have h1 := conv_reads hr c
  have h2 := conv_reads hr2 c2
  clear hr hr2
  go_enter Tryz.func113, Tryz.ntmps113
  go_wp2
  go_ret
  exact ⟨rfl, rfl⟩
end
section
set_option maxRecDepth 100000
open Go.RowKit
theorem tab_range {w : World} {g : Nat} {t : Nat → Nat} (h : Blk w g 185 (tabArr t)) : w.rangeAt g 0 (tabArr t).toList := fun j v hv => by
  rw [Nat.zero_add, h.cell j]
  simpa using hv
theorem range_below {B b o : Nat} {w w' : World} {cs : List Value} (h : w.rangeAt b o cs) (hb : Below B w w') (hlt : b < B) : w'.rangeAt b o cs := fun j v hv => (hb.cell (p := ⟨b, o + j, none⟩) hlt).trans (h j v hv)
set_option maxRecDepth 100000 in
set_option maxHeartbeats 1000000 in
theorem Open_yes (t : Nat → Nat) (ht : ∀ i, i < 256 → t i < 4294967296) (A : Option Addr) (m c B : Nat) (bs : List UInt8) (w : World) (hr : Reads w B 1 A (m + 4) (byteCells bs)) (hB : B ≤ w.heap.size) (hmc : m + 4 ≤ c) (hn : m ≤ 900000) (hcm : c ≤ 9223372036854775807) (b : Bool) (hbb : (sealB t (bs.take m) == bs) = b) :
    Calls Tryz.prog 109 #[.agg (tabArr t), .slice A (m + 4) c] w fun e w' => e = .returned (.tuple #[if b then .slice A m m else .slice none 0 0, .int .i64 (if b then 0 else 12)]) ∧ Below w.heap.size w w' := by
  have HP := Lib.hid (hr.preB (k := m) (by omega))
  have HR := Lib.hid hr; clear hr
  have hu := Tryz.underlying185
  have hi2 : (Tryz.prog.info? 185).map (·.size) = some (tabArr t).toList.length := by rw [Array.length_toList]; exact tabArr_info t
  have hl2 : (tabArr t).toList.length = 256 := by rw [Array.length_toList, tabArr_size]
  have ho2 : ∀ v ∈ (tabArr t).toList, v.oneCell' = true := by have := tabArr_one t; rw [Array.all_eq_true'] at this; intro v hv; exact this v (by simpa using hv)
  have h4 : ((m + 4 : Nat) : Int) - 4 = (m : Int) := by omega
  have hmc' : m ≤ c := by omega
  have HQ := Lib.hid (show (w.alloc (.cells (tabArr t) 185)).drew.rangeAt w.heap.size 0 (tabArr t).toList from (tab_range (Blk.new w 185 (tabArr t))))
  have HB0 := Lib.hid (show Below w.heap.size w (w.alloc (.cells (tabArr t) 185)).drew from ((Below.refl _ _).alloc (Nat.le_refl _) _).drew)
  go_enter Tryz.func109, Tryz.ntmps109
  go_wp2
  go_region_held3 (fun w' => w'.rangeAt w.heap.size 0 (tabArr t).toList ∧ Below w.heap.size w w')
    (first
      | exact ⟨HQ.out, HB0.out⟩
      | exact ⟨range_below HQ.out hbn (by simp), HB0.out.trans (hbn.mono (by simp))⟩
      | assumption)
    (first
      | (go_at_call 173; refine (Seal_c t ht A m c B (bs.take m) _ ((HP.out.alloc hB _).drew) (by simp; omega) (by omega)).mono ?_; rintro e wn ⟨v, rfl, hown, hbn⟩; obtain ⟨A1, c1, rfl, hc1, hc2, hc3, hR1⟩ := own_reads hown; clear hown hc1 hc2 hc3)
      | (go_at_call 113; refine (Equal_c _ _ _ _ _ _ _ B (sealB t (bs.take m)) bs _ hR1 (((HR.out.alloc hB _).drew).below (hbn.mono (by simp; omega)))).mono ?_; rintro e wn2 ⟨rfl, rfl⟩; rw [hbb]))
  all_goals
    have hbe : Below w.heap.size w wn := HB0.out.trans (hbn.mono (by simp))
    clear hbn hR1
    cases b
    · go_wp2
      go_ret2
      exact ⟨rfl, hbe⟩
    · go_wp2
      go_ret2
      exact ⟨rfl, hbe⟩
end
section
set_option maxRecDepth 100000
open Go.RowKit
theorem tab8 (i : Nat) (h : i < 256) : step8 i < 4294967296 := step8_lt (by omega)
def headB (n : Nat) (k : Int) : List UInt8 := [UInt8.ofNat (n / 256), UInt8.ofNat (n % 256), UInt8.ofNat k.toNat]
def frameB (k : Int) (p : List UInt8) : List UInt8 := sealB step8 (headB p.length k ++ p)
theorem frameB_length (k : Int) (p : List UInt8) : (frameB k p).length = p.length + 7 := by
  unfold frameB headB; rw [sealB_length]; simp
theorem own_below {w w' : World} {base : Nat} {e : TypeId} {size n : Nat} {v : Value} {xs : List Value} (h : w.ownsRow base e size v n xs) (hb : Below w.heap.size w w') : w'.ownsRow base e size v n xs := by
  rcases h with ⟨h1, h2 | ⟨g, cap, cur, h2, h3, h4, h5⟩⟩
  · exact ⟨h1, .inl h2⟩
  · refine ⟨h1, .inr ⟨g, cap, cur, h2, h3, (hb.block g ?_).trans h4, h5⟩⟩
    exact Blk.lt (t := e) (cs := cur) h4
theorem own_list (W : World) (e : TypeId) (base : Nat) (cs : List Value) (hb : base ≤ W.heap.size) (hl : cs.length ≤ maxLen) : (W.alloc (.cells cs.toArray e)).ownsRow base e 1 (.slice (some ⟨W.heap.size, 0, none⟩) cs.length cs.length) cs.length cs :=
  ⟨by simp, .inr ⟨W.heap.size, cs.length, cs.toArray, rfl, hb, Blk.new W e cs.toArray, Nat.le_refl _, hl, by simp, by simp⟩⟩
theorem kindly_yes (k : Int) (w : World) (h1 : 1 ≤ k) (h3 : k ≤ 3) : Calls Tryz.prog 108 #[.int .i64 k] w fun e w' => e = .returned (.bool true) ∧ w = w' := by
  have h1' : decide ((1 : Int) ≤ k) = true := by simpa using h1
  have h3' : decide (k ≤ (3 : Int)) = true := by simpa using h3
  go_enter Tryz.func108, Tryz.ntmps108
  go_wp2
  go_ret
  exact ⟨rfl, rfl⟩
theorem kindly_no (k : Int) (w : World) (h : k < 1 ∨ 3 < k) : Calls Tryz.prog 108 #[.int .i64 k] w fun e w' => e = .returned (.bool false) ∧ w = w' := by
  rcases h with h | h
  · have h1' : decide ((1 : Int) ≤ k) = false := by simpa using h
    go_enter Tryz.func108, Tryz.ntmps108
    go_wp2
    go_ret
    exact ⟨rfl, rfl⟩
  · have h1' : decide ((1 : Int) ≤ k) = true := by simp; omega
    have h3' : decide (k ≤ (3 : Int)) = false := by simpa using h
    go_enter Tryz.func108, Tryz.ntmps108
    go_wp2
    go_ret
    exact ⟨rfl, rfl⟩
theorem headB_cells (n : Nat) (k : Int) (hn : n ≤ 200) (h1 : 0 ≤ k) (h3 : k ≤ 255) : byteCells (headB n k) = [.int .u8 0, .int .u8 (n : Int), .int .u8 k] := by
  unfold byteCells headB
  simp only [List.map_cons, List.map_nil]
  rw [byte_ofNat _ (by omega), byte_ofNat _ (by omega), byte_ofNat _ (by omega), show n / 256 = 0 from by omega, show n % 256 = n from by omega, show ((k.toNat : Nat) : Int) = k from by omega]
  rfl
set_option maxRecDepth 100000 in
set_option maxHeartbeats 1000000 in
theorem frPut_c (k : Int) (A : Option Addr) (n c B : Nat) (bs : List UInt8) (w : World) (h1 : 1 ≤ k) (h3 : k ≤ 3) (hn : n ≤ 200) (hr : Reads w B 1 A n (byteCells bs)) (hB : B ≤ w.heap.size) :
    Calls Tryz.prog 126 #[.int .i64 k, .slice A n c] w fun e w' => ∃ v, e = .returned (.tuple #[v, .int .i64 0]) ∧ w'.ownsRow w.heap.size 5 1 v (n + 7) (byteCells (frameB k bs)) ∧ Below w.heap.size w w' := by
  have HL := Lib.hid hr.lenB
  have HR := Lib.hid hr; clear hr
  have hd : decide ((200 : Int) < (n : Int)) = false := by simp; omega
  have hdiv : (n : Int) / 256 = 0 := by omega
  have hmod : (n : Int) % 256 = (n : Int) := by omega
  have hkm : k % 256 = k := by omega
  obtain ⟨i0, hi0, hz0, hz1, hz2⟩ := info_parts Tryz.infoU8
  go_enter Tryz.func126, Tryz.ntmps126
  go_wp2_with fail
  refine (kindly_yes k _ h1 h3).mono ?_
  rintro e w1 ⟨rfl, rfl⟩
  go_wp2_with fail
  refine (Table_c _).mono ?_
  rintro e w2 ⟨rfl, hb2⟩
  have HO := Lib.hid (own_below (own_list w 5 w.heap.size [.int .u8 0, .int .u8 (n : Int), .int .u8 k] (Nat.le_refl _) (by unfold maxLen; simp)) hb2)
  have HB2 := Lib.hid (show Below w.heap.size w w2 from ((Below.refl _ _).alloc (Nat.le_refl _) _).trans (hb2.mono (by simp)))
  have hs2 := HB2.out.size
  clear hb2
  go_wp2_with (at_builtin; go_must (refine wpList_append_any _ rfl _ _ 50 rfl w.heap.size 5 i0 _ 1 1 Tryz.underlying50 hi0 hz0 hz1 hz2 rfl (by omega) _ 3 _ rfl HO.out w.heap.size A n c _ rfl ((HR.out.more hB).below HB2.out) (byteCells_one bs) (by unfold maxLen; omega) (by omega) hs2 ?_); intro v1 w3 hown3 hg3 hat3)
  have hb3 := below_own HB2.out hg3 HO.out (Nat.le_refl _) hs2
  have HB3 := Lib.hid hb3
  obtain ⟨A3, c3, rfl, hc1, hc2, hc3, hR3⟩ := own_reads hown3
  rw [← headB_cells n k hn (by omega) (by omega), ← byteCells_append] at hR3
  have hs3 := hb3.size
  clear hown3 hg3 hat3 hb3 HB2 HO
  refine (Seal_c step8 tab8 A3 (3 + n) c3 w3.heap.size _ _ hR3 (Nat.le_refl _) (by omega)).mono ?_
  rintro e w4 ⟨v, rfl, hown4, hb4⟩
  go_wp2
  go_ret2
  refine ⟨v, rfl, ?_, HB3.out.trans (hb4.mono hs3)⟩
  unfold frameB
  rw [HL.out, show n + 7 = 3 + n + 4 from by omega]
  exact ownsRow_base hown4 hs3
end
section
set_option maxRecDepth 100000
open Go.RowKit
def numB (n : Int) : Bool := decide (1 ≤ n) && decide (n ≤ 99999999)
theorem numbered_c (n : Int) (w : World) : Calls Tryz.prog 53 #[.int .i64 n] w fun e w' => e = .returned (.bool (numB n)) ∧ w = w' := by
  by_cases h1 : 1 ≤ n
  · go_enter Tryz.func53, Tryz.ntmps53
    go_wp2
    go_ret
    exact ⟨ret_b (by unfold numB; rw [decide_eq_true h1]; simp), rfl⟩
  · have h2 : n < 1 := by omega
    go_enter Tryz.func53, Tryz.ntmps53
    go_wp2
    go_ret
    exact ⟨ret_b (by unfold numB; rw [decide_eq_false (by omega)]; rfl), rfl⟩
def putS (n q a : Int) : List UInt8 := uencB n.toNat ++ uencB q.toNat ++ uencB a.toNat
theorem putS_len {n q a : Int} (h1 : n < 18446744073709551616) (h2 : q < 18446744073709551616) (h3 : a < 18446744073709551616) : (putS n q a).length ≤ 30 := by
  unfold putS
  rw [List.length_append, List.length_append]
  have := uencB_len n.toNat (by omega)
  have := uencB_len q.toNat (by omega)
  have := uencB_len a.toNat (by omega)
  omega
set_option maxHeartbeats 2000000 in
theorem put_s (A : Option Addr) (n c : Nat) (l : List UInt8) (num q a : Int) (v : Value) (X : List Nat) (w : World) (hX : XOk X w) (hs : Sl byteSh w X A n c l) (hn : n ≤ 1000) (h0 : 0 ≤ num) (h1 : num ≤ 9223372036854775807) (hq0 : 0 ≤ q) (hq1 : q ≤ 4294967296) (ha0 : 0 ≤ a) (ha1 : a ≤ 1099511627776) :
    Calls Tryz.prog 114 #[.slice A n c, .int .i64 num, .agg #[.int .i64 q, .int .i64 a, v]] w fun e w' => ∃ A' c', e = .returned (.slice A' (n + (putS num q a).length) c') ∧ Sl byteSh w' X A' (n + (putS num q a).length) c' (l ++ putS num q a) ∧ Below w.heap.size w w' := by
  have wn : IntKind.u64.wrap num = num := IntWalk.u64_in _ (by omega)
  have wq : IntKind.u64.wrap q = q := IntWalk.u64_in _ (by omega)
  have wa : IntKind.u64.wrap a = a := IntWalk.u64_in _ (by omega)
  have HE := Lib.hid (show l ++ putS num q a = l ++ uencB num.toNat ++ uencB q.toNat ++ uencB a.toNat from by unfold putS; simp)
  have HL := Lib.hid (show n + (putS num q a).length = n + (uencB num.toNat).length + (uencB q.toNat).length + (uencB a.toNat).length from by unfold putS; simp; omega)
  have l1 := uencB_len num.toNat (by omega)
  have l2 := uencB_len q.toNat (by omega)
  generalize putS num q a = p at HE HL ⊢
  have HK1 := Lib.hid (show Held w [] X (w.alloc (.cells #[.int .i64 q, .int .i64 a, v] 34)) [.box (w.heap.size) 34 #[.int .i64 q, .int .i64 a, v]] [Sl.fact byteSh A n c l] from (((Held.start w hX).alloc_at 34 #[.int .i64 q, .int .i64 a, v] (w.heap.size) (by simp)).know0 (Sl.fact byteSh A n c l) hs))
  clear hs
  go_enter Tryz.func114, Tryz.ntmps114
  go_wp2_with fail
  with_reducible refine (PutUint_i HK1.out.xok' (HK1.out.sl 0 rfl) num (by omega) (by omega) (by omega)).mono ?_
  rintro e w1 ⟨A1, c1, rfl, hsl, hb⟩
  have HK2 := Lib.hid (show Held w [] X w1 [.box (w.heap.size) 34 #[.int .i64 q, .int .i64 a, v]] [Sl.fact byteSh A1 (n + (uencB num.toNat).length) c1 (l ++ uencB num.toNat), Sl.fact byteSh A n c l] from ((HK1.out.on hb).know (Sl.fact byteSh A1 (n + (uencB num.toNat).length) c1 (l ++ uencB num.toNat)) hsl))
  clear HK1
  clear hb
  clear hsl
  have HK3 := Lib.hid (show Held w [] X w1 [.box (w.heap.size) 34 #[.int .i64 q, .int .i64 a, v]] [Sl.fact byteSh A1 (n + (uencB num.toNat).length) c1 (l ++ uencB num.toNat)] from (HK2.out.forget (List.Sublist.cons_cons _ (List.Sublist.cons _ List.Sublist.slnil))))
  clear HK2
  have c_c_0_4 : w1.cell? ⟨w.heap.size, 0, none⟩ = some (.int .i64 q) := HK3.out.cell 0 rfl 0
  have c_c_1_5 : w1.cell? ⟨w.heap.size, 1, none⟩ = some (.int .i64 a) := HK3.out.cell 0 rfl 1
  have c_c_2_6 : w1.cell? ⟨w.heap.size, 2, none⟩ = some (v) := HK3.out.cell 0 rfl 2
  go_wp2_with fail
  with_reducible refine (PutUint_i HK3.out.xok' (HK3.out.sl 0 rfl) q (by omega) (by omega) (by omega)).mono ?_
  rintro e w2 ⟨A2, c2, rfl, hsl, hb⟩
  clear c_c_0_4 c_c_1_5 c_c_2_6
  have HK7 := Lib.hid (show Held w [] X w2 [.box (w.heap.size) 34 #[.int .i64 q, .int .i64 a, v]] [Sl.fact byteSh A2 (n + (uencB num.toNat).length + (uencB q.toNat).length) c2 (l ++ uencB num.toNat ++ uencB q.toNat), Sl.fact byteSh A1 (n + (uencB num.toNat).length) c1 (l ++ uencB num.toNat)] from ((HK3.out.on hb).know (Sl.fact byteSh A2 (n + (uencB num.toNat).length + (uencB q.toNat).length) c2 (l ++ uencB num.toNat ++ uencB q.toNat)) hsl))
  clear HK3
  clear hb
  clear hsl
  have HK8 := Lib.hid (show Held w [] X w2 [.box (w.heap.size) 34 #[.int .i64 q, .int .i64 a, v]] [Sl.fact byteSh A2 (n + (uencB num.toNat).length + (uencB q.toNat).length) c2 (l ++ uencB num.toNat ++ uencB q.toNat)] from (HK7.out.forget (List.Sublist.cons_cons _ (List.Sublist.cons _ List.Sublist.slnil))))
  clear HK7
  have c_c_0_9 : w2.cell? ⟨w.heap.size, 0, none⟩ = some (.int .i64 q) := HK8.out.cell 0 rfl 0
  have c_c_1_10 : w2.cell? ⟨w.heap.size, 1, none⟩ = some (.int .i64 a) := HK8.out.cell 0 rfl 1
  have c_c_2_11 : w2.cell? ⟨w.heap.size, 2, none⟩ = some (v) := HK8.out.cell 0 rfl 2
  go_wp2_with fail
  with_reducible refine (PutUint_i HK8.out.xok' (HK8.out.sl 0 rfl) a (by omega) (by omega) (by omega)).mono ?_
  rintro e w3 ⟨A3, c3, rfl, hsl, hb⟩
  clear c_c_0_9 c_c_1_10 c_c_2_11
  have HK12 := Lib.hid (show Held w [] X w3 [.box (w.heap.size) 34 #[.int .i64 q, .int .i64 a, v]] [Sl.fact byteSh A3 (n + (uencB num.toNat).length + (uencB q.toNat).length + (uencB a.toNat).length) c3 (l ++ uencB num.toNat ++ uencB q.toNat ++ uencB a.toNat), Sl.fact byteSh A2 (n + (uencB num.toNat).length + (uencB q.toNat).length) c2 (l ++ uencB num.toNat ++ uencB q.toNat)] from ((HK8.out.on hb).know (Sl.fact byteSh A3 (n + (uencB num.toNat).length + (uencB q.toNat).length + (uencB a.toNat).length) c3 (l ++ uencB num.toNat ++ uencB q.toNat ++ uencB a.toNat)) hsl))
  clear HK8
  clear hb
  clear hsl
  have HK13 := Lib.hid (show Held w [] X w3 [.box (w.heap.size) 34 #[.int .i64 q, .int .i64 a, v]] [Sl.fact byteSh A3 (n + (uencB num.toNat).length + (uencB q.toNat).length + (uencB a.toNat).length) c3 (l ++ uencB num.toNat ++ uencB q.toNat ++ uencB a.toNat)] from (HK12.out.forget (List.Sublist.cons_cons _ (List.Sublist.cons _ List.Sublist.slnil))))
  clear HK12
  have HF := Lib.hid (HK13.out.sl 0 rfl)
  rw [← HL.out] at HF
  rw [← HE.out] at HF
  go_wp2
  go_ret
  exact ⟨A3, c3, by rw [HL.out]; rfl, HF.out.more (fun _ _ hm => List.mem_append_right _ hm), HK13.out.below⟩
theorem frPut_i {A : Option Addr} {n c : Nat} {l : List UInt8} {X : List Nat} {w : World} (hX : XOk X w) (hs : Sl byteSh w X A n c l) (k : Int) (h1 : 1 ≤ k) (h3 : k ≤ 3) (hn : n ≤ 200) :
    Calls Tryz.prog 126 #[.int .i64 k, .slice A n c] w fun e w' => ∃ A' c', e = .returned (.tuple #[.slice A' (n + 7) c', .int .i64 0]) ∧ Sl byteSh w' X A' (n + 7) c' (frameB k l) ∧ Below w.heap.size w w' := by
  refine (frPut_c k A n c w.heap.size l w h1 h3 hn hs.bytes (Nat.le_refl _)).mono ?_
  rintro e w' ⟨v, rfl, hown, hb⟩
  obtain ⟨A', c', rfl, h2⟩ := Sl.of_made (s := byteSh) hown hX (repAll_bytes _) (Nat.zero_lt_one)
  exact ⟨A', c', rfl, h2, hb⟩
end
section
set_option maxRecDepth 100000
open Go.RowKit
def BytesPost (r : List UInt8 × Int) (X : List Nat) (w : World) (e : Ending) (w' : World) : Prop :=
  Below w.heap.size w w' ∧ ((r.2 ≠ 0 ∧ e = .returned (.tuple #[.slice none 0 0, .int .i64 r.2])) ∨ (r.2 = 0 ∧ ∃ A c, e = .returned (.tuple #[.slice A r.1.length c, .int .i64 0]) ∧ Sl byteSh w' X A r.1.length c r.1))
def markS : List UInt8 := [102, 98, 120, 49]
def sealR (many : Int) (c : Cx) : List UInt8 × Int := if many < 0 ∨ rightC c = false then ([], 1) else (frameB 3 (putS many c.q c.a), 0)
theorem right_bd {c : Cx} (h : rightC c = true) : 0 ≤ c.q ∧ c.q ≤ 4294967296 ∧ 0 ≤ c.a ∧ c.a ≤ 1099511627776 := by
  unfold rightC at h
  simp only [Bool.and_eq_true, decide_eq_true_iff] at h
  exact ⟨h.1.1.1.1, h.1.1.1.2, h.1.1.2, h.1.2⟩
set_option maxHeartbeats 4000000 in
theorem Seal_s (many q a : Int) (ns : List (List UInt8)) (An : Option Addr) (nn cn : Nat) (X : List Nat) (w : World) (hX : XOk X w) (hs : Sl nameSh w X An nn cn ns) (hnn : nn ≤ 1000) (hm : many ≤ 9223372036854775807) :
    Calls Tryz.prog 63 #[.int .i64 many, .agg #[.int .i64 q, .int .i64 a, .slice An nn cn]] w (BytesPost (sealR many ⟨q, a, ns⟩) X w) := by
  have HE : Hid (sealR many ⟨q, a, ns⟩ = if many < 0 ∨ rightC ⟨q, a, ns⟩ = false then ([], 1) else (frameB 3 (putS many q a), 0)) := rfl
  have HR := fun (X : List Nat) (W : World) (h : Sl nameSh W X An nn cn ns) => Lib.hid (cRight_s q a ns An nn cn X W h hnn)
  have HRt := Lib.hid (@right_bd ⟨q, a, ns⟩)
  unfold BytesPost
  generalize sealR many ⟨q, a, ns⟩ = r at HE ⊢
  generalize rightC ⟨q, a, ns⟩ = rc at HE HR HRt
  have HK1 := Lib.hid (show Held w [] X (w.alloc (.cells #[.int .i64 q, .int .i64 a, .slice An nn cn] 34)) [.box (w.heap.size) 34 #[.int .i64 q, .int .i64 a, .slice An nn cn]] [Sl.fact nameSh An nn cn ns] from (((Held.start w hX).alloc_at 34 #[.int .i64 q, .int .i64 a, .slice An nn cn] (w.heap.size) (by simp)).know0 (Sl.fact nameSh An nn cn ns) hs))
  clear hs
  by_cases h0 : many < 0
  · skip
    rw [if_pos (.inl h0)] at HE
    go_enter Tryz.func63, Tryz.ntmps63
    go_wp2
    go_ret2
    exact ⟨HK1.out.below, .inl ⟨by rw [HE.out]; exact (by decide : (1 : Int) ≠ 0), by rw [HE.out]; rfl⟩⟩
  have h0' : 0 ≤ many := by omega
  cases rc
  · skip
    rw [if_pos (.inr rfl)] at HE
    go_enter Tryz.func63, Tryz.ntmps63
    go_wp2_with fail
    with_reducible refine ((HR _ _ (HK1.out.sl 0 rfl)).out).mono ?_
    rintro e w1 ⟨rfl, hb⟩
    have HK2 := Lib.hid (show Held w [] X w1 [.box (w.heap.size) 34 #[.int .i64 q, .int .i64 a, .slice An nn cn]] [Sl.fact nameSh An nn cn ns] from (HK1.out.on hb))
    clear HK1
    clear hb
    have c_c_0_3 : w1.cell? ⟨w.heap.size, 0, none⟩ = some (.int .i64 q) := HK2.out.cell 0 rfl 0
    have c_c_1_4 : w1.cell? ⟨w.heap.size, 1, none⟩ = some (.int .i64 a) := HK2.out.cell 0 rfl 1
    have c_c_2_5 : w1.cell? ⟨w.heap.size, 2, none⟩ = some (.slice An nn cn) := HK2.out.cell 0 rfl 2
    go_wp2
    clear c_c_0_3 c_c_1_4 c_c_2_5
    go_ret2
    exact ⟨HK2.out.below, .inl ⟨by rw [HE.out]; exact (by decide : (1 : Int) ≠ 0), by rw [HE.out]; rfl⟩⟩
  rw [if_neg (by simpa using h0)] at HE
  obtain ⟨hq0, hq1, ha0, ha1⟩ := HRt.out rfl
  simp only at hq0 hq1 ha0 ha1
  clear HRt h0
  go_enter Tryz.func63, Tryz.ntmps63
  go_wp2_with fail
  with_reducible refine ((HR _ _ (HK1.out.sl 0 rfl)).out).mono ?_
  rintro e w1 ⟨rfl, hb⟩
  have HK2 := Lib.hid (show Held w [] X w1 [.box (w.heap.size) 34 #[.int .i64 q, .int .i64 a, .slice An nn cn]] [Sl.fact nameSh An nn cn ns] from (HK1.out.on hb))
  clear HK1
  clear hb
  have c_c_0_3 : w1.cell? ⟨w.heap.size, 0, none⟩ = some (.int .i64 q) := HK2.out.cell 0 rfl 0
  have c_c_1_4 : w1.cell? ⟨w.heap.size, 1, none⟩ = some (.int .i64 a) := HK2.out.cell 0 rfl 1
  have c_c_2_5 : w1.cell? ⟨w.heap.size, 2, none⟩ = some (.slice An nn cn) := HK2.out.cell 0 rfl 2
  go_wp2_with fail
  with_reducible refine (put_s none 0 0 [] many q a _ _ _ HK2.out.xok' Sl.nil_ (by omega) (by omega) (by omega) hq0 hq1 ha0 ha1).mono ?_
  rintro e w2 ⟨A2, c2, rfl, hsl, hb⟩
  rw [List.nil_append, Nat.zero_add] at hsl
  rw [Nat.zero_add]
  have hl := putS_len (n := many) (q := q) (a := a) (by omega) (by omega) (by omega)
  have HPl := Lib.hid (show (putS many q a).length + 7 = (frameB 3 (putS many q a)).length from (frameB_length 3 (putS many q a)).symm)
  clear c_c_0_3 c_c_1_4 c_c_2_5
  have HK6 := Lib.hid (show Held w [] X w2 [.box (w.heap.size) 34 #[.int .i64 q, .int .i64 a, .slice An nn cn]] [Sl.fact byteSh A2 (putS many q a).length c2 (putS many q a), Sl.fact nameSh An nn cn ns] from ((HK2.out.on hb).know (Sl.fact byteSh A2 (putS many q a).length c2 (putS many q a)) hsl))
  clear HK2
  clear hb
  clear hsl
  go_wp2_with fail
  with_reducible refine (frPut_i HK6.out.xok' (HK6.out.sl 0 rfl) 3 (by omega) (by omega) (by omega)).mono ?_
  rintro e w3 ⟨A3, c3, rfl, hsl, hb⟩
  have HK7 := Lib.hid (show Held w [] X w3 [.box (w.heap.size) 34 #[.int .i64 q, .int .i64 a, .slice An nn cn]] [Sl.fact byteSh A3 ((putS many q a).length + 7) c3 (frameB 3 (putS many q a)), Sl.fact byteSh A2 (putS many q a).length c2 (putS many q a), Sl.fact nameSh An nn cn ns] from ((HK6.out.on hb).know (Sl.fact byteSh A3 ((putS many q a).length + 7) c3 (frameB 3 (putS many q a))) hsl))
  clear HK6
  clear hb
  clear hsl
  have HF := Lib.hid (HK7.out.back' 0 rfl)
  rw [HPl.out] at HF
  go_wp2
  go_ret2
  exact ⟨HK7.out.below, .inr ⟨by rw [HE.out], A3, c3, by rw [HE.out, ← HPl.out]; rfl, by rw [HE.out]; exact HF.out⟩⟩
end
end Go.Proofs.YtpokkciheejeiaaGreatDoor
