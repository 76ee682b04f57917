/- Plain facts on lists of names: places, right lists. -/
import Derived.Test.YtmdclaahfndhdaaWords
namespace Go.Proofs.Ytmdclaahfndhdaa
set_option linter.unusedVariables false

def placeOf (l : List (List UInt8)) (s : List UInt8) : Nat := if s ∈ l then l.idxOf s + 1 else 0
def namedB (s : List UInt8) : Bool := decide (1 ≤ s.length ∧ s.length ≤ 24)
def rightB (l : List (List UInt8)) : Bool := decide (l.length ≤ 32 ∧ l.Nodup ∧ ∀ s ∈ l, namedB s = true)

theorem placeOf_nil (s : List UInt8) : placeOf [] s = 0 := by simp [placeOf]
theorem placeOf_le (l : List (List UInt8)) (s : List UInt8) : placeOf l s ≤ l.length := by
  unfold placeOf
  split
  · rename_i h; have := List.idxOf_lt_length_of_mem h; omega
  · omega
theorem placeOf_zero (l : List (List UInt8)) (s : List UInt8) : placeOf l s = 0 ↔ s ∉ l := by
  unfold placeOf; split <;> simp_all
theorem placeOf_append (l m : List (List UInt8)) (s : List UInt8) (h : placeOf l s ≠ 0) : placeOf (l ++ m) s = placeOf l s := by
  have hm : s ∈ l := by
    rcases Classical.em (s ∈ l) with h' | h'
    · exact h'
    · exact absurd ((placeOf_zero l s).2 h') h
  unfold placeOf
  rw [if_pos hm, if_pos (List.mem_append_left _ hm), List.idxOf_append, if_pos hm]
theorem placeOf_snoc_hit (l : List (List UInt8)) (s : List UInt8) (h : placeOf l s = 0) : placeOf (l ++ [s]) s = l.length + 1 := by
  have hm := (placeOf_zero l s).1 h
  unfold placeOf
  rw [if_pos (by simp), List.idxOf_append, if_neg hm]
  simp
theorem placeOf_snoc_miss (l : List (List UInt8)) (s x : List UInt8) (hx : x ≠ s) : placeOf (l ++ [x]) s = placeOf l s := by
  rcases Classical.em (s ∈ l) with h | h
  · exact placeOf_append l [x] s (fun e => (placeOf_zero l s).1 e h)
  · rw [(placeOf_zero l s).2 h, placeOf_zero]
    simp [h]
    exact fun e => hx e.symm
theorem placeOf_at (l : List (List UInt8)) (s : List UInt8) (h : placeOf l s ≠ 0) : l[placeOf l s - 1]? = some s := by
  have hm : s ∈ l := by
    rcases Classical.em (s ∈ l) with h' | h'
    · exact h'
    · exact absurd ((placeOf_zero l s).2 h') h
  unfold placeOf
  rw [if_pos hm, Nat.add_sub_cancel]
  have hlt := List.idxOf_lt_length_of_mem hm
  rw [List.getElem?_eq_getElem hlt, List.getElem_idxOf hlt]
theorem placeOf_of_take (l : List (List UInt8)) (k : Nat) (s : List UInt8) (h0 : placeOf (l.take k) s = 0) (hk : l[k]? = some s) : placeOf l s = k + 1 := by
  have hlt : k < l.length := by
    rcases Nat.lt_or_ge k l.length with h | h
    · exact h
    · rw [List.getElem?_eq_none h] at hk; cases hk
  have e : l = l.take k ++ [s] ++ l.drop (k + 1) := by
    have h1 : l.take (k + 1) = l.take k ++ [s] := by rw [List.take_add_one, hk]; rfl
    rw [← h1, List.take_append_drop]
  have h1 := placeOf_snoc_hit (l.take k) s h0
  have hl : (l.take k).length = k := by simp; omega
  rw [hl] at h1
  have h2 := placeOf_append (l.take k ++ [s]) (l.drop (k + 1)) s (by omega)
  rw [← e] at h2
  omega
theorem right_iff (l : List (List UInt8)) : rightB l = true ↔ ∀ i s, l[i]? = some s → i ≤ 31 ∧ namedB s = true ∧ placeOf l s = i + 1 := by
  unfold rightB
  rw [decide_eq_true_eq]
  constructor
  · rintro ⟨hl, hn, ha⟩ i s hi
    have hlt : i < l.length := by
      rcases Nat.lt_or_ge i l.length with h | h
      · exact h
      · rw [List.getElem?_eq_none h] at hi; cases hi
    refine ⟨by omega, ha s (List.mem_of_getElem? hi), ?_⟩
    have hm : s ∈ l := List.mem_of_getElem? hi
    have hne : placeOf l s ≠ 0 := fun e => (placeOf_zero l s).1 e hm
    have hat := placeOf_at l s hne
    have hp := placeOf_le l s
    have := (List.getElem?_inj (i := placeOf l s - 1) (j := i) (by omega) hn).1 (hat.trans hi.symm)
    omega
  · intro h
    refine ⟨?_, ?_, ?_⟩
    · rcases Nat.lt_or_ge 32 l.length with h' | h'
      · have := (h 32 l[32] (List.getElem?_eq_getElem h')).1; omega
      · exact h'
    · rw [List.nodup_iff_pairwise_ne, List.pairwise_iff_getElem]
      intro i j hi hj hij e
      have h1 := (h i l[i] (List.getElem?_eq_getElem hi)).2.2
      have h2 := (h j l[j] (List.getElem?_eq_getElem hj)).2.2
      rw [e] at h1
      omega
    · intro s hs
      obtain ⟨i, hi⟩ := List.mem_iff_getElem?.1 hs
      exact (h i s hi).2.1
theorem nodup_snoc (l : List (List UInt8)) (s : List UInt8) : (l ++ [s]).Nodup ↔ l.Nodup ∧ s ∉ l := by
  rw [List.nodup_append]
  simp
  intro _
  constructor
  · intro h e; exact h s e rfl
  · rintro h a ha rfl; exact h ha
end Go.Proofs.Ytmdclaahfndhdaa
