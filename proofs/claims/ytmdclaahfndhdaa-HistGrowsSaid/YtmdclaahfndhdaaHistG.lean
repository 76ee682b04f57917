/- Plain facts for the law HistGrows: what a histogram holds behind numbers that were added to none. -/
import Derived.Test.YtmdclaahfndhdaaLawHist3
namespace Go.Proofs.Ytmdclaahfndhdaa
set_option linter.unusedVariables false

def cntP (l : List Int) (p : Nat) : Int := (l.countP (fun z => decide (0 ≤ z) && (placeF z == p)) : Nat)
def cntB (l : List Int) (k : Nat) : Int := (l.countP (fun z => decide (0 ≤ z) && decide (placeF z < k)) : Nat)
def manyN (l : List Int) : Int := (l.countP (fun z => decide (0 ≤ z)) : Nat)
def sumN : List Int → Int
  | [] => 0
  | z :: l => (if 0 ≤ z then z else 0) + sumN l

theorem sumN_snoc (l : List Int) (z : Int) : sumN (l ++ [z]) = sumN l + (if 0 ≤ z then z else 0) := by
  induction l with
  | nil => simp [sumN]
  | cons a l ih => simp only [List.cons_append, sumN, ih]; omega
theorem cntP_snoc (l : List Int) (z : Int) (p : Nat) : cntP (l ++ [z]) p = cntP l p + (if 0 ≤ z ∧ placeF z = p then 1 else 0) := by
  unfold cntP
  rw [List.countP_append, List.countP_cons, List.countP_nil]
  by_cases h1 : 0 ≤ z <;> by_cases h2 : placeF z = p <;> simp [h1, h2]
theorem cntB_snoc (l : List Int) (z : Int) (k : Nat) : cntB (l ++ [z]) k = cntB l k + (if 0 ≤ z ∧ placeF z < k then 1 else 0) := by
  unfold cntB
  rw [List.countP_append, List.countP_cons, List.countP_nil]
  by_cases h1 : 0 ≤ z <;> by_cases h2 : placeF z < k <;> simp [h1, h2]
theorem manyN_snoc (l : List Int) (z : Int) : manyN (l ++ [z]) = manyN l + (if 0 ≤ z then 1 else 0) := by
  unfold manyN
  rw [List.countP_append, List.countP_cons, List.countP_nil]
  by_cases h1 : 0 ≤ z <;> simp [h1]
theorem cntP_bd (l : List Int) (p : Nat) : 0 ≤ cntP l p ∧ cntP l p ≤ l.length := by
  unfold cntP
  have := List.countP_le_length (l := l) (p := fun z => decide (0 ≤ z) && (placeF z == p))
  omega
theorem cntB_bd (l : List Int) (p : Nat) : 0 ≤ cntB l p ∧ cntB l p ≤ l.length := by
  unfold cntB
  have := List.countP_le_length (l := l) (p := fun z => decide (0 ≤ z) && decide (placeF z < p))
  omega
theorem manyN_bd (l : List Int) : 0 ≤ manyN l ∧ manyN l ≤ l.length := by
  unfold manyN
  have := List.countP_le_length (l := l) (p := fun z => decide (0 ≤ z))
  omega
theorem sumN_bd (l : List Int) (h : ∀ z ∈ l, z ≤ 2147483647) : 0 ≤ sumN l ∧ sumN l ≤ 2147483647 * l.length := by
  induction l with
  | nil => simp [sumN]
  | cons a l ih =>
    have h1 := ih (fun z hz => h z (List.mem_cons_of_mem _ hz))
    have h2 := h a (List.mem_cons_self ..)
    simp only [sumN, List.length_cons]
    split <;> omega
theorem cntB_succ (l : List Int) (k : Nat) : cntB l (k + 1) = cntB l k + cntP l k := by
  refine list_rev_ind (P := fun l => cntB l (k + 1) = cntB l k + cntP l k) rfl ?_ l
  intro l z ih
  rw [cntB_snoc, cntB_snoc, cntP_snoc, ih]
  by_cases h1 : 0 ≤ z
  · by_cases h2 : placeF z < k
    · rw [if_pos ⟨h1, by omega⟩, if_pos ⟨h1, h2⟩, if_neg (by omega)]; omega
    · by_cases h3 : placeF z = k
      · rw [if_pos ⟨h1, by omega⟩, if_neg (by omega), if_pos ⟨h1, h3⟩]; omega
      · rw [if_neg (by omega), if_neg (by omega), if_neg (by omega)]; omega
  · rw [if_neg (fun h => h1 h.1), if_neg (fun h => h1 h.1), if_neg (fun h => h1 h.1)]; omega
theorem cntB_zero (l : List Int) : cntB l 0 = 0 := by unfold cntB; simp
theorem cntB_all (l : List Int) : cntB l 9 = manyN l := by
  unfold cntB manyN
  congr 1
  refine List.countP_congr (fun z _ => ?_)
  have := placeF_le z
  simp
  omega
theorem sumTo_cnt (l : List Int) (k : Nat) : sumTo (cntP l) k = cntB l k := by
  induction k with
  | zero => simp [sumTo, cntB_zero]
  | succ k ih => rw [sumTo, ih, cntB_succ]
theorem grown (l : List Int) (hl : l.length ≤ 60) (hz : ∀ z ∈ l, z ≤ 2147483647) : (∀ p, (addAll (fun _ => 0) 0 l).1 p = cntP l p) ∧ (addAll (fun _ => 0) 0 l).2 = sumN l := by
  revert hl hz
  refine list_rev_ind (P := fun l => l.length ≤ 60 → (∀ z ∈ l, z ≤ 2147483647) → (∀ p, (addAll (fun _ => 0) 0 l).1 p = cntP l p) ∧ (addAll (fun _ => 0) 0 l).2 = sumN l) ?_ ?_ l
  · intro _ _; exact ⟨fun p => by simp [addAll, cntP], rfl⟩
  · intro l z ih hl hz
    simp only [List.length_append, List.length_singleton] at hl
    obtain ⟨h1, h2⟩ := ih (by omega) (fun y hy => hz y (List.mem_append_left _ hy))
    have hs := sumN_bd l (fun y hy => hz y (List.mem_append_left _ hy))
    have hzz := hz z (by simp)
    obtain ⟨f, s, hp⟩ : ∃ f s, addAll (fun _ => 0) 0 l = (f, s) := ⟨_, _, rfl⟩
    rw [addAll_snoc]
    rw [hp] at h1 h2 ⊢
    simp only at h1 h2 ⊢
    have hr : rightF f s = true := rightF_of (fun i _ => by rw [h1 i]; have := cntP_bd l i; omega) (by omega) (by omega)
    by_cases h0 : 0 ≤ z
    · have e1 : addF f s z = updF f (placeF z) (up (f (placeF z)) 1) := by unfold addF; rw [if_pos ⟨hr, h0⟩]
      have e2 : addS f s z = up s z := by unfold addS; rw [if_pos ⟨hr, h0⟩]
      rw [e1, e2]
      refine ⟨fun p => ?_, ?_⟩
      · rw [cntP_snoc]
        unfold updF
        have hc := cntP_bd l p
        by_cases hpp : p = placeF z
        · rw [if_pos hpp, if_pos ⟨h0, hpp.symm⟩, ← hpp, h1 p, up_min, hold_id _ hc.1 (by omega), hold_id 1 (by omega) (by omega), Int.min_def]
          split <;> omega
        · rw [if_neg hpp, if_neg (fun h => hpp h.2.symm), h1 p]; omega
      · rw [sumN_snoc, if_pos h0, h2, up_min, hold_id _ hs.1 (by omega), hold_id z h0 (by omega), Int.min_def]
        split <;> omega
    · have e1 : addF f s z = f := by unfold addF; rw [if_neg (fun h => h0 h.2)]
      have e2 : addS f s z = s := by unfold addS; rw [if_neg (fun h => h0 h.2)]
      rw [e1, e2]
      exact ⟨fun p => by rw [cntP_snoc, if_neg (fun h => h0 h.1), h1 p]; omega, by rw [sumN_snoc, if_neg h0, h2]; omega⟩
theorem place_bound (z : Int) (k : Nat) (hk : k < 8) : placeF z < k + 1 ↔ z ≤ boundF k := by
  rw [boundF_of k hk]
  rcases (by omega : k = 0 ∨ k = 1 ∨ k = 2 ∨ k = 3 ∨ k = 4 ∨ k = 5 ∨ k = 6 ∨ k = 7) with rfl | rfl | rfl | rfl | rfl | rfl | rfl | rfl
  all_goals
    simp only [Int.reducePow]
    unfold placeF
    repeat (first | omega | split)
/-- what is known of the histogram h = (f, s) behind the numbers l. -/
theorem grown_facts (l : List Int) (hl : l.length ≤ 60) (hz : ∀ z ∈ l, z ≤ 2147483647) (f : Nat → Int) (s : Int) (hp : addAll (fun _ => 0) 0 l = (f, s)) :
    rightF f s = true ∧ s = sumN l ∧ belowF f s 8 = manyN l ∧ ∀ k, k ≤ 8 → belowF f s k = cntB l (k + 1) := by
  have hg := grown l hl hz
  rw [hp] at hg
  obtain ⟨h1, h2⟩ := hg
  simp only at h1 h2
  have hs := sumN_bd l hz
  have hr : rightF f s = true := rightF_of (fun i _ => by rw [h1 i]; have := cntP_bd l i; omega) (by omega) (by omega)
  have hf : f = cntP l := funext h1
  have hb : ∀ k, belowF f s k = cntB l (k + 1) := fun k => by unfold belowF; rw [if_pos hr, hf, sumTo_cnt]
  exact ⟨hr, h2, by rw [hb, cntB_all], fun k _ => hb k⟩
theorem firstK_spec (b : Nat → Int) (part : Int) : ∀ (m k : Nat), (∃ j, k ≤ j ∧ j < k + m ∧ leastP b part j) → ∃ q, firstK b part m k = (q : Nat) ∧ k ≤ q ∧ q < k + m ∧ leastP b part q ∧ ∀ j, k ≤ j → j < q → ¬ leastP b part j := by
  intro m
  induction m with
  | zero => rintro k ⟨j, h1, h2, _⟩; omega
  | succ m ih =>
    rintro k ⟨j, h1, h2, h3⟩
    by_cases hk : leastP b part k
    · exact ⟨k, firstK_hit _ _ _ _ hk, Nat.le_refl _, by omega, hk, fun j h1 h2 => by omega⟩
    · have hjk : j ≠ k := fun e => hk (e ▸ h3)
      obtain ⟨q, e1, e2, e3, e4, e5⟩ := ih (k + 1) ⟨j, by omega, by omega, h3⟩
      refine ⟨q, by rw [firstK_miss _ _ _ _ hk, e1], by omega, by omega, e4, fun i hi1 hi2 => ?_⟩
      by_cases h : i = k
      · subst h; exact hk
      · exact e5 i (by omega) hi2
end Go.Proofs.Ytmdclaahfndhdaa
