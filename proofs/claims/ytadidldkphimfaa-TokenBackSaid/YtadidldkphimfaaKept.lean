/- Blocks that a walk keeps, in one fact: newest first, all of the call's own, what lies below is as it was. -/
import Derived.Test.YtadidldkphimfaaWords
namespace Go.Proofs.Ytadidldkphimfaa
set_option linter.unusedVariables false
open Go.RowKit

abbrev Ent : Type := Nat × TypeId × Array Value
def Kept (w0 W : World) (L : List Ent) : Prop :=
  Below w0.heap.size w0 W ∧ (∀ x ∈ L, Blk W x.1 x.2.1 x.2.2 ∧ w0.heap.size ≤ x.1) ∧ L.Pairwise (fun x y => y.1 < x.1)
section
variable {w0 W W' : World} {L : List Ent} {g : Nat} {t : TypeId} {cs : Array Value}
theorem Kept.start (w : World) : Kept w w [] := ⟨Below.refl _ _, by simp, List.Pairwise.nil⟩
theorem Kept.bel (h : Kept w0 W L) : Below w0.heap.size w0 W := h.1
theorem Kept.size (h : Kept w0 W L) : w0.heap.size ≤ W.heap.size := h.1.size
theorem Kept.next (h : Kept w0 W L) (hb : Below W.heap.size W W') : Kept w0 W' L :=
  ⟨h.1.trans (hb.mono h.1.size), fun x hx => ⟨(h.2.1 x hx).1.below hb (h.2.1 x hx).1.lt, (h.2.1 x hx).2⟩, h.2.2⟩
theorem Kept.alloc (h : Kept w0 W L) (t : TypeId) (cs : Array Value) : Kept w0 (W.alloc (.cells cs t)) ((W.heap.size, t, cs) :: L) := by
  refine ⟨h.1.alloc h.1.size _, fun x hx => ?_, List.Pairwise.cons (fun y hy => (h.2.1 y hy).1.lt) h.2.2⟩
  rcases List.mem_cons.1 hx with rfl | hx
  · exact ⟨Blk.new W t cs, h.1.size⟩
  · exact ⟨(h.2.1 x hx).1.alloc _, (h.2.1 x hx).2⟩
theorem Kept.alloc_at (h : Kept w0 W L) (t : TypeId) (cs : Array Value) (g : Nat) (hg : W.heap.size = g) : Kept w0 (W.alloc (.cells cs t)) ((g, t, cs) :: L) := hg ▸ h.alloc t cs
theorem Kept.alloc_off (h : Kept w0 W L) (o : Obj) : Kept w0 (W.alloc o) L :=
  ⟨h.1.alloc h.1.size _, fun x hx => ⟨(h.2.1 x hx).1.alloc _, (h.2.1 x hx).2⟩, h.2.2⟩
theorem Kept.drew (h : Kept w0 W L) : Kept w0 W.drew L := ⟨h.1.drew, h.2.1, h.2.2⟩
theorem Kept.drewN (h : Kept w0 W L) (n : Nat) : Kept w0 (W.drewN n) L := ⟨below_drewN h.1 n, h.2.1, h.2.2⟩
theorem Kept.blk (h : Kept w0 W L) (i : Nat) (hi : L[i]? = some (g, t, cs)) : Blk W g t cs := (h.2.1 _ (List.mem_of_getElem? hi)).1
theorem Kept.cell (h : Kept w0 W L) (i : Nat) (hi : L[i]? = some (g, t, cs)) (j : Nat) : W.cell? ⟨g, j, none⟩ = cs[j]? := (h.blk i hi).cell j
theorem Kept.frozen (h : Kept w0 W L) (i : Nat) (hi : L[i]? = some (g, t, cs)) (j : Nat) : W.frozen? ⟨g, j, none⟩ = false := (h.blk i hi).frozen j
theorem Kept.lt (h : Kept w0 W L) (i : Nat) (hi : L[i]? = some (g, t, cs)) : g < W.heap.size := (h.blk i hi).lt
theorem Kept.ge (h : Kept w0 W L) (i : Nat) (hi : L[i]? = some (g, t, cs)) : w0.heap.size ≤ g := (h.2.1 _ (List.mem_of_getElem? hi)).2
theorem Kept.ord (h : Kept w0 W L) (i j : Nat) (hij : i < j) {x y : Ent} (hi : L[i]? = some x) (hj : L[j]? = some y) : y.1 < x.1 := by
  obtain ⟨hi', rfl⟩ := List.getElem?_eq_some_iff.1 hi
  obtain ⟨hj', rfl⟩ := List.getElem?_eq_some_iff.1 hj
  exact List.pairwise_iff_getElem.1 h.2.2 i j hi' hj' hij
theorem Kept.drop1 {x : Ent} (h : Kept w0 W (x :: L)) : Kept w0 W L := ⟨h.1, fun y hy => h.2.1 y (List.mem_cons_of_mem _ hy), h.2.2.of_cons⟩
theorem Kept.sub (h : Kept w0 W L) {L' : List Ent} (hs : L'.Sublist L) : Kept w0 W L' := ⟨h.1, fun y hy => h.2.1 y (hs.subset hy), h.2.2.sublist hs⟩
/-- what a change of one block leaves. -/
theorem Kept.turn (h : Kept w0 W L) (i : Nat) (hi : L[i]? = some (g, t, cs)) (cs' : Array Value) (hB : Below w0.heap.size w0 W') (hg : Blk W' g t cs') (hf : ∀ x ∈ L, x.1 ≠ g → Blk W x.1 x.2.1 x.2.2 → Blk W' x.1 x.2.1 x.2.2) : Kept w0 W' (L.set i (g, t, cs')) := by
  refine ⟨hB, fun x hx => ?_, ?_⟩
  · obtain ⟨j, hj⟩ := List.mem_iff_getElem?.1 hx
    rw [List.getElem?_set] at hj
    by_cases hij : i = j
    · subst hij
      have hil : i < L.length := (List.getElem?_eq_some_iff.1 hi).1
      simp [hil] at hj
      subst hj
      exact ⟨hg, h.ge i hi⟩
    · rw [if_neg hij] at hj
      have hx' := h.2.1 x (List.mem_of_getElem? hj)
      refine ⟨hf x (List.mem_of_getElem? hj) ?_ hx'.1, hx'.2⟩
      rcases Nat.lt_or_ge i j with hlt | hge
      · have := h.ord i j hlt hi hj; simp only at this; omega
      · have := h.ord j i (by omega) hj hi; simp only at this; omega
  · have hl : (L.set i (g, t, cs')).map (fun x : Ent => x.1) = L.map (fun x : Ent => x.1) := by
      apply List.ext_getElem?
      intro j
      simp only [List.getElem?_map, List.getElem?_set]
      by_cases hij : i = j
      · subst hij
        have hil : i < L.length := (List.getElem?_eq_some_iff.1 hi).1
        simp [hil]
        obtain ⟨_, he⟩ := List.getElem?_eq_some_iff.1 hi
        rw [he]
      · rw [if_neg hij]
    have hp : (L.map (fun x : Ent => x.1)).Pairwise (fun a b => b < a) := List.pairwise_map.2 h.2.2
    rw [← hl] at hp
    exact List.pairwise_map.1 hp
theorem Kept.set_ (h : Kept w0 W L) (i : Nat) (hi : L[i]? = some (g, t, cs)) (o : Nat) (u : Value) : Kept w0 (W.setCell ⟨g, o, none⟩ u) (L.set i (g, t, cs.setIfInBounds o u)) :=
  h.turn i hi _ (h.1.setCell (by simpa using h.ge i hi) u) ((h.blk i hi).set_ o u) (fun x _ hne hb => hb.far (by simpa using hne) u)
/-- a call that changes one block (and makes new ones). -/
theorem Kept.grown (h : Kept w0 W L) (i : Nat) (hi : L[i]? = some (g, t, cs)) (cs' : Array Value) (hg : W.grownBy W' (some g)) (hb : Blk W' g t cs') : Kept w0 W' (L.set i (g, t, cs')) :=
  h.turn i hi _ (h.1.grown hg h.1.size (fun g' hg' => by injection hg' with e; subst e; exact h.ge i hi)) hb (fun x _ hne hb' => hb'.grown hg (by simpa using hne))
/-- a row of the call's own, newer than all boxes, has grown. -/
theorem Kept.own {row : Option Nat} (h : Kept w0 W L) (hg : W.grownBy W' row) (hr : ∀ g, row = some g → w0.heap.size ≤ g ∧ ∀ x ∈ L, x.1 ≠ g) : Kept w0 W' L :=
  ⟨h.1.grown hg h.1.size (fun g e => (hr g e).1), fun x hx => ⟨(h.2.1 x hx).1.grown hg (fun e => (hr x.1 e.symm).2 x hx rfl), (h.2.1 x hx).2⟩, h.2.2⟩
theorem own_ge {base : Nat} {e : TypeId} {size n : Nat} {v : Value} {xs : List Value} (h : W.ownsRow base e size v n xs) : ∀ g, v.ownBlock = some g → base ≤ g ∧ g < W.heap.size := by
  intro g hg
  rcases h.2 with ⟨rfl, _⟩ | ⟨g', cap, cur, rfl, hb, hh, _⟩
  · simp [Value.ownBlock] at hg
  · have e : g' = g := by simpa [Value.ownBlock] using hg
    subst e
    exact ⟨hb, Blk.lt hh⟩
theorem own_below {B base : Nat} {e : TypeId} {size n : Nat} {v : Value} {xs : List Value} (h : W.ownsRow base e size v n xs) (hb : Below B W W') (hB : W.heap.size ≤ B) : W'.ownsRow base e size v n xs := by
  rcases h with ⟨h1, h2 | ⟨g, cap, cur, h2, h3, h4, h5⟩⟩
  · exact ⟨h1, .inl h2⟩
  · refine ⟨h1, .inr ⟨g, cap, cur, h2, h3, (hb.block g ?_).trans h4, h5⟩⟩
    have := Blk.lt (t := e) h4
    omega
theorem own_setCell {base : Nat} {e : TypeId} {size n : Nat} {v : Value} {xs : List Value} (h : W.ownsRow base e size v n xs) {p : Addr} (hp : v.ownBlock ≠ some p.block) (u : Value) : (W.setCell p u).ownsRow base e size v n xs := by
  rcases h with ⟨h1, h2 | ⟨g, cap, cur, h2, h3, h4, h5⟩⟩
  · exact ⟨h1, .inl h2⟩
  · refine ⟨h1, .inr ⟨g, cap, cur, h2, h3, (Below.heap_setCell W p u g ?_).trans h4, h5⟩⟩
    rintro rfl
    subst h2
    exact hp (by simp [Value.ownBlock])
end
end Go.Proofs.Ytadidldkphimfaa
