/- The walk of the law HistOrder. -/
import Derived.Test.YtmdclaahfndhdaaLawHist2
import Derived.RegionTactic
namespace Go.Proofs.Ytmdclaahfndhdaa
set_option linter.unusedVariables false
open Go.RowKit

/-- a histogram with numbers added, in order. -/
def addAll (f : Nat → Int) (s : Int) : List Int → (Nat → Int) × Int
  | [] => (f, s)
  | n :: l => addAll (addF f s n) (addS f s n) l
theorem addAll_snoc (l : List Int) (n : Int) : ∀ f s, addAll f s (l ++ [n]) = (addF (addAll f s l).1 (addAll f s l).2 n, addS (addAll f s l).1 (addAll f s l).2 n) := by
  induction l with
  | nil => intro f s; rfl
  | cons m l ih => intro f s; simp only [List.cons_append, addAll]; exact ih _ _
theorem addF_right {f : Nat → Int} {s n : Int} (h : rightF f s = true) : rightF (addF f s n) (addS f s n) = true := by
  unfold addF addS
  by_cases hn : 0 ≤ n
  · rw [if_pos ⟨h, hn⟩, if_pos ⟨h, hn⟩]
    obtain ⟨h1, h2, h3⟩ := rightF_bd h
    refine rightF_of (fun i hi => ?_) (up_lo _ _) (up_hi _ _)
    unfold updF
    split
    · exact ⟨up_lo _ _, up_hi _ _⟩
    · exact h1 i hi
  · rw [if_neg (fun h => hn h.2), if_neg (fun h => hn h.2)]; exact h
theorem add_comm2 (f : Nat → Int) (s m n : Int) : (∀ i, addF (addF f s m) (addS f s m) n i = addF (addF f s n) (addS f s n) m i) ∧ addS (addF f s m) (addS f s m) n = addS (addF f s n) (addS f s n) m := by
  by_cases h : rightF f s = true
  · have hm := addF_right (n := m) h
    have hn := addF_right (n := n) h
    have key : ∀ (f : Nat → Int) (s n : Int), rightF f s = true → addF f s n = (if 0 ≤ n then updF f (placeF n) (up (f (placeF n)) 1) else f) ∧ addS f s n = (if 0 ≤ n then up s n else s) := by
      intro f s n hr
      unfold addF addS
      by_cases h0 : 0 ≤ n
      · simp only [hr, h0, and_self, if_true]
      · simp [h0]
    rw [(key _ _ n hm).1, (key _ _ n hm).2, (key _ _ m hn).1, (key _ _ m hn).2, (key f s m h).1, (key f s m h).2, (key f s n h).1, (key f s n h).2]
    by_cases h0 : 0 ≤ n <;> by_cases h1 : 0 ≤ m
    · simp only [if_pos h0, if_pos h1]
      refine ⟨fun i => ?_, ?_⟩
      · unfold updF
        by_cases e : placeF n = placeF m
        · rw [e]
        · by_cases a : i = placeF n
          · subst a; simp [e]
          · by_cases b : i = placeF m
            · subst b; have e' : ¬ placeF m = placeF n := fun h => e h.symm; simp [e']
            · simp [a, b]
      · rw [up_assoc, up_comm m n, ← up_assoc]
    · simp [h0, h1]
    · simp [h0, h1]
    · simp [h0, h1]
  · have e1 : ∀ n, addF f s n = f := fun n => by unfold addF; rw [if_neg (fun h' => h h'.1)]
    have e2 : ∀ n, addS f s n = s := fun n => by unfold addS; rw [if_neg (fun h' => h h'.1)]
    simp [e1, e2]
/-- two histograms that are the same at the nine places. -/
def Eq9 (a b : (Nat → Int) × Int) : Prop := (∀ i, a.1 i = b.1 i) ∧ a.2 = b.2
theorem Eq9.eq {a b : (Nat → Int) × Int} (h : Eq9 a b) : a = b := by
  obtain ⟨f, s⟩ := a; obtain ⟨g, t⟩ := b
  obtain ⟨h1, h2⟩ := h
  have : f = g := funext h1
  simp at h2
  rw [this, h2]
theorem addAll_move (l : List Int) (n : Int) : ∀ f s, addAll (addF f s n) (addS f s n) l = (addF (addAll f s l).1 (addAll f s l).2 n, addS (addAll f s l).1 (addAll f s l).2 n) := by
  induction l with
  | nil => intro f s; rfl
  | cons m l ih =>
    intro f s
    simp only [addAll]
    have h := Eq9.eq (a := (addF (addF f s n) (addS f s n) m, addS (addF f s n) (addS f s n) m)) (b := (addF (addF f s m) (addS f s m) n, addS (addF f s m) (addS f s m) n)) (add_comm2 f s n m)
    have h1 := congrArg Prod.fst h
    have h2 := congrArg Prod.snd h
    simp only at h1 h2
    rw [h1, h2, ih]
theorem addAll_reverse (l : List Int) : ∀ f s, addAll f s l.reverse = addAll f s l := by
  induction l with
  | nil => intro f s; rfl
  | cons n l ih =>
    intro f s
    rw [List.reverse_cons, addAll_snoc, ih]
    simp only [addAll]
    rw [addAll_move]

theorem take_succ_i (zs : List Int) (k : Nat) (x : Int) (h : zs[k]? = some x) : zs.take (k + 1) = zs.take k ++ [x] := by rw [List.take_add_one, h]; rfl

def cells10 (p : (Nat → Int) × Int) : Array Value := #[.int .i64 (p.1 0), .int .i64 (p.1 1), .int .i64 (p.1 2), .int .i64 (p.1 3), .int .i64 (p.1 4), .int .i64 (p.1 5), .int .i64 (p.1 6), .int .i64 (p.1 7), .int .i64 (p.1 8), .int .i64 p.2]
theorem cells10_get (p : (Nat → Int) × Int) {w : World} {g : Nat} (h : Blk w g 62 (cells10 p)) : w.cell? ⟨g, 0, none⟩ = some (.int .i64 (p.1 0)) ∧ w.cell? ⟨g, 1, none⟩ = some (.int .i64 (p.1 1)) ∧ w.cell? ⟨g, 2, none⟩ = some (.int .i64 (p.1 2)) ∧ w.cell? ⟨g, 3, none⟩ = some (.int .i64 (p.1 3)) ∧ w.cell? ⟨g, 4, none⟩ = some (.int .i64 (p.1 4)) ∧ w.cell? ⟨g, 5, none⟩ = some (.int .i64 (p.1 5)) ∧ w.cell? ⟨g, 6, none⟩ = some (.int .i64 (p.1 6)) ∧ w.cell? ⟨g, 7, none⟩ = some (.int .i64 (p.1 7)) ∧ w.cell? ⟨g, 8, none⟩ = some (.int .i64 (p.1 8)) ∧ w.cell? ⟨g, 9, none⟩ = some (.int .i64 p.2) :=
  ⟨h.cell 0, h.cell 1, h.cell 2, h.cell 3, h.cell 4, h.cell 5, h.cell 6, h.cell 7, h.cell 8, h.cell 9⟩
end Go.Proofs.Ytmdclaahfndhdaa
