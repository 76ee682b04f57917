/- The first place of a list at which something holds. -/
import Derived.Test.YtadidldkphimfaaWords
namespace Go.Proofs.Ytadidldkphimfaa
set_option linter.unusedVariables false

def firstIdx {α : Type} (p : α → Bool) : List α → Int
  | [] => -1
  | x :: l => if p x then 0 else if firstIdx p l < 0 then -1 else firstIdx p l + 1

theorem firstIdx_ge {α : Type} (p : α → Bool) (l : List α) : -1 ≤ firstIdx p l := by
  induction l with
  | nil => simp [firstIdx]
  | cons x l ih => unfold firstIdx; split <;> (try split) <;> omega
theorem firstIdx_none {α : Type} (p : α → Bool) (l : List α) (h : ∀ (j : Nat) x, l[j]? = some x → p x = false) : firstIdx p l = -1 := by
  induction l with
  | nil => rfl
  | cons x l ih =>
    have h0 := h 0 x rfl
    have h1 := ih (fun j y hy => h (j + 1) y (by simpa using hy))
    unfold firstIdx
    rw [h0, h1]
    simp
theorem firstIdx_hit {α : Type} (p : α → Bool) (l : List α) (k : Nat) (x : α) (h : ∀ (j : Nat) y, j < k → l[j]? = some y → p y = false) (hk : l[k]? = some x) (hx : p x = true) : firstIdx p l = k := by
  induction l generalizing k with
  | nil => simp at hk
  | cons y l ih =>
    cases k with
    | zero =>
      simp at hk
      subst hk
      unfold firstIdx
      rw [hx]; simp
    | succ k =>
      have h0 := h 0 y (by omega) rfl
      have h1 := ih k (fun j z hj hz => h (j + 1) z (by omega) (by simpa using hz)) (by simpa using hk)
      unfold firstIdx
      rw [h0, h1]
      simp
      omega
theorem firstIdx_any {α : Type} (p : α → Bool) (l : List α) : decide (0 ≤ firstIdx p l) = l.any p := by
  induction l with
  | nil => rfl
  | cons x l ih =>
    have := firstIdx_ge p l
    unfold firstIdx
    rw [List.any_cons, ← ih]
    cases p x
    · rw [if_neg (by decide), Bool.false_or]
      by_cases h : firstIdx p l < 0
      · rw [if_pos h, decide_eq_decide]; omega
      · rw [if_neg h, decide_eq_decide]; omega
    · simp
theorem firstIdx_lt {α : Type} (p : α → Bool) (l : List α) : firstIdx p l < l.length := by
  induction l with
  | nil => simp [firstIdx]
  | cons x l ih => unfold firstIdx; simp only [List.length_cons]; split <;> (try split) <;> omega
theorem firstIdx_at {α : Type} (p : α → Bool) (l : List α) (k : Nat) (h : firstIdx p l = k) : ∃ x, l[k]? = some x ∧ p x = true ∧ ∀ (j : Nat) y, j < k → l[j]? = some y → p y = false := by
  induction l generalizing k with
  | nil => unfold firstIdx at h; omega
  | cons y l ih =>
    unfold firstIdx at h
    split at h
    · rename_i hy
      obtain rfl : k = 0 := by omega
      exact ⟨y, rfl, hy, fun j z hj => by omega⟩
    · rename_i hy
      split at h
      · omega
      · obtain ⟨k', rfl⟩ : ∃ k', k = k' + 1 := ⟨k - 1, by omega⟩
        obtain ⟨x, h1, h2, h3⟩ := ih k' (by omega)
        refine ⟨x, by simpa using h1, h2, fun j z hj hz => ?_⟩
        cases j with
        | zero => simp at hz; subst hz; simpa using hy
        | succ j => exact h3 j z (by omega) (by simpa using hz)
end Go.Proofs.Ytadidldkphimfaa
