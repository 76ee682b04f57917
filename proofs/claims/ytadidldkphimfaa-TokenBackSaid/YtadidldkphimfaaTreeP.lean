/- Plain facts of filters' trees: by counting down, and by Size, they are right alike. -/
import Derived.Test.YtadidldkphimfaaTree7
namespace Go.Proofs.Ytadidldkphimfaa
set_option linter.unusedVariables false

mutual
def cntF : FT → Nat
  | .mk _ _ _ _ ks => 1 + cntL ks
def cntL : List FT → Nat
  | [] => 0
  | t :: ts => cntF t + cntL ts
end
mutual
def dpF : FT → Nat
  | .mk _ _ _ _ ks => dpL ks + 1
def dpL : List FT → Nat
  | [] => 0
  | t :: ts => max (dpF t) (dpL ts)
end
mutual
theorem rightF_sem : ∀ (t : FT) (d l : Nat), (everyF t = true ∧ d + dpF t ≤ 17 ∧ cntF t ≤ l → rightF t d l = (true, l - cntF t)) ∧ (¬ (everyF t = true ∧ d + dpF t ≤ 17 ∧ cntF t ≤ l) → (rightF t d l).1 = false)
  | .mk op a b name ks, d, l => by
    have ih := rightL_sem ks (d + 1) (l - 1)
    unfold rightF everyF dpF cntF
    by_cases h : 16 < d ∨ l = 0 ∨ oneF op a b name.size ks.length = false
    · rw [if_pos h]
      refine ⟨fun hh => ?_, fun _ => rfl⟩
      obtain ⟨h1, h2, h3⟩ := hh
      rcases h with h | h | h
      · omega
      · omega
      · rw [h] at h1; simp at h1
    · rw [if_neg h]
      have ho : oneF op a b name.size ks.length = true := by
        cases hx : oneF op a b name.size ks.length
        · exact absurd (Or.inr (Or.inr hx)) h
        · rfl
      have hd : d ≤ 16 := by rcases Nat.lt_or_ge 16 d with g | g; exact absurd (Or.inl g) h; exact g
      have hl : l ≠ 0 := fun g => h (Or.inr (Or.inl g))
      rw [ho, Bool.true_and]
      refine ⟨fun hh => ?_, fun hh => ?_⟩
      · rw [(ih (by omega)).1 ⟨hh.1, by omega, by omega⟩]
        congr 1; omega
      · exact (ih (by omega)).2 (fun g => hh ⟨g.1, by omega, by omega⟩)
theorem rightL_sem : ∀ (ts : List FT) (d l : Nat), d ≤ 17 → (everyL ts = true ∧ d + dpL ts ≤ 17 ∧ cntL ts ≤ l → rightL ts d l = (true, l - cntL ts)) ∧ (¬ (everyL ts = true ∧ d + dpL ts ≤ 17 ∧ cntL ts ≤ l) → (rightL ts d l).1 = false)
  | [], d, l, hd => by
    unfold rightL everyL dpL cntL
    exact ⟨fun _ => rfl, fun h => absurd ⟨rfl, by omega, by omega⟩ h⟩
  | t :: ts, d, l, hd => by
    have it := rightF_sem t d l
    unfold rightL everyL dpL cntL
    by_cases h : everyF t = true ∧ d + dpF t ≤ 17 ∧ cntF t ≤ l
    · have ih := rightL_sem ts d (l - cntF t) hd
      rw [it.1 h, if_neg (by simp)]
      simp only
      rw [h.1, Bool.true_and]
      refine ⟨fun hh => ?_, fun hh => ?_⟩
      · rw [ih.1 ⟨hh.1, by omega, by omega⟩]
        congr 1; omega
      · exact ih.2 (fun g => hh ⟨g.1, by omega, by omega⟩)
    · rw [if_pos (it.2 h)]
      refine ⟨fun hh => absurd ⟨?_, by omega, by omega⟩ h, fun _ => rfl⟩
      have := hh.1
      rw [Bool.and_eq_true] at this
      exact this.1
end
def Trunc (m : Nat) (x : Int × Int) : Prop := ∃ r : Nat, r ≤ m ∧ 2 * ((m : Int) - r) < x.1 ∧ (r : Int) + 1 ≤ x.2
theorem sizeL_mono : ∀ (ts : List FT) (m : Nat) (s : Int × Int), s.1 ≤ (sizeL ts m s).1 ∧ s.2 ≤ (sizeL ts m s).2
  | [], m, s => by unfold sizeL; omega
  | t :: ts, m, s => by
    unfold sizeL
    split
    · split
      · simp only; omega
      · have hb := sizeF_bound t (m - 1)
        have h := sizeL_mono ts m (s.1 + (sizeF t (m - 1)).1, if s.2 < (sizeF t (m - 1)).2 + 1 then (sizeF t (m - 1)).2 + 1 else s.2)
        simp only at h
        split at h <;> rename_i g
        · rw [if_pos g]; omega
        · rw [if_neg g]; omega
    · omega
mutual
theorem dp_pos : ∀ (t : FT), 1 ≤ dpF t ∧ 1 ≤ cntF t
  | .mk _ _ _ _ ks => by unfold dpF cntF; omega
end
mutual
theorem sizeF_sem : ∀ (t : FT) (m : Nat), (sizeF t m).1 ≤ cntF t ∧ (sizeF t m).2 ≤ dpF t ∧ (sizeF t m = ((cntF t : Int), (dpF t : Int)) ∨ Trunc m (sizeF t m))
  | .mk _ _ _ _ ks, m => by
    have h := sizeL_sem ks m (1, 1) (by simp) (by simp) (by simp)
    unfold sizeF cntF dpF
    simp only at h
    refine ⟨by omega, by omega, ?_⟩
    rcases h.2.2 with h | h
    · left
      rw [h]
      refine Prod.ext ?_ ?_
      · simp only; omega
      · simp only; omega
    · exact .inr h
theorem sizeL_sem : ∀ (ts : List FT) (m : Nat) (s : Int × Int), 1 ≤ s.1 → 1 ≤ s.2 → (m = 0 → s.2 ≤ 1) → (sizeL ts m s).1 ≤ s.1 + cntL ts ∧ (sizeL ts m s).2 ≤ max s.2 (dpL ts + 1) ∧ (sizeL ts m s = (s.1 + cntL ts, max s.2 (dpL ts + 1)) ∨ Trunc m (sizeL ts m s))
  | [], m, s, h1, h2, h3 => by
    unfold sizeL cntL dpL
    refine ⟨by omega, by omega, .inl ?_⟩
    refine Prod.ext ?_ ?_ <;> simp only <;> omega
  | t :: ts, m, s, h1, h2, h3 => by
    have hp := dp_pos t
    unfold sizeL cntL dpL
    by_cases hs : s.1 ≤ 2 * (m : Int)
    · rw [if_pos hs]
      by_cases hm : m = 0
      · rw [if_pos hm]
        have := h3 hm
        refine ⟨by simp only; omega, by simp only; omega, .inr ⟨0, by omega, by simp only; omega, by simp only; omega⟩⟩
      · rw [if_neg hm]
        obtain ⟨m', rfl⟩ : ∃ m', m = m' + 1 := ⟨m - 1, by omega⟩
        have ht := sizeF_sem t m'
        have hb := sizeF_bound t m'
        rw [show m' + 1 - 1 = m' from rfl]
        generalize sizeF t m' = X at ht hb ⊢
        have e : (if s.2 < X.2 + 1 then X.2 + 1 else s.2) = max s.2 (X.2 + 1) := by split <;> omega
        rw [e]
        have ih := sizeL_sem ts (m' + 1) (s.1 + X.1, max s.2 (X.2 + 1)) (by simp only; omega) (by simp only; omega) (fun h => by omega)
        have mono := sizeL_mono ts (m' + 1) (s.1 + X.1, max s.2 (X.2 + 1))
        simp only at ih mono
        refine ⟨by omega, by omega, ?_⟩
        rcases ht.2.2 with hx | ⟨r, hr1, hr2, hr3⟩
        · rcases ih.2.2 with hy | hy
          · left
            rw [hy]
            have hx1 : X.1 = (cntF t : Int) := by rw [hx]
            have hx2 : X.2 = (dpF t : Int) := by rw [hx]
            refine Prod.ext ?_ ?_
            · simp only; omega
            · simp only; omega
          · exact .inr hy
        · right
          refine ⟨r + 1, by omega, ?_, ?_⟩
          · omega
          · omega
    · rw [if_neg hs]
      refine ⟨by omega, by omega, .inr ⟨0, by omega, by omega, by omega⟩⟩
end
theorem right_same (t : FT) : rightT t = rightR t := by
  have hs := sizeF_sem t 70
  have hr := rightF_sem t 1 64
  unfold rightT rightR
  have key : ((sizeF t 70).1 ≤ 64 ∧ (sizeF t 70).2 ≤ 16) ↔ (cntF t ≤ 64 ∧ dpF t ≤ 16) := by
    rcases hs.2.2 with h | ⟨r, h1, h2, h3⟩
    · rw [h]; simp only; omega
    · constructor
      · intro h; omega
      · intro h; omega
  by_cases h : everyF t = true ∧ 1 + dpF t ≤ 17 ∧ cntF t ≤ 64
  · rw [hr.1 h]
    have k := key.2 ⟨h.2.2, by omega⟩
    rw [decide_eq_true k.1, decide_eq_true k.2, h.1]
    rfl
  · rw [hr.2 h]
    symm
    rw [Bool.and_eq_false_iff, Bool.and_eq_false_iff, decide_eq_false_iff_not, decide_eq_false_iff_not]
    by_cases he : everyF t = true
    · left
      by_cases g : (sizeF t 70).1 ≤ 64
      · right
        intro g2
        have k := key.1 ⟨g, g2⟩
        exact h ⟨he, by omega, by omega⟩
      · exact .inl g
    · right; simpa using he
end Go.Proofs.Ytadidldkphimfaa
