/- Plain facts of spans: And and Or of two; bounds. -/
import Derived.Test.YtgbcgkhcmellfaaSpan6
namespace Go.Proofs.Ytgbcgkhcmellfaa
set_option linter.unusedVariables false

def InB (s : Sp) : Prop := 0 ≤ s.f ∧ s.l ≤ 4294967296 ∧ 0 ≤ s.r ∧ s.t ≤ 1099511627776
theorem InB.whole : InB .whole := by unfold InB Sp.whole; decide
theorem InB.empty : InB .empty := by unfold InB Sp.empty; decide
theorem InB.norm {s : Sp} (h : InB s) : InB s.norm := by unfold Sp.norm; split; exact InB.empty; exact h
theorem InB.joinM {s x : Sp} (h : InB s) : InB (joinM s x) := by unfold InB at *; unfold Go.Proofs.Ytgbcgkhcmellfaa.joinM; simp only; omega
theorem InB.joinL {s x : Sp} (h : InB s) (hx : InB x) : InB (joinL s x) := by
  unfold Go.Proofs.Ytgbcgkhcmellfaa.joinL
  split
  · exact hx
  · split
    · exact h
    · unfold joinW; unfold InB at *; simp only; omega
theorem one_two {a b : Int} {n m : Nat} (h : oneF 2 a b n m = true) : 0 ≤ a ∧ b ≤ 1099511627776 := by unfold oneF at h; rw [decide_eq_true_eq] at h; unfold oneP at h; omega
theorem one_three {a b : Int} {n m : Nat} (h : oneF 3 a b n m = true) : 0 ≤ a ∧ b ≤ 4294967296 := by unfold oneF at h; rw [decide_eq_true_eq] at h; unfold oneP at h; omega
mutual
theorem ofF_in : ∀ (t : FT), everyF t = true → InB (ofF t)
  | .mk op a b name ks, h => by
    unfold everyF at h
    rw [Bool.and_eq_true] at h
    unfold ofF
    apply InB.norm
    by_cases h2 : op = 2
    · rw [if_pos h2]; subst h2; have := one_two h.1; unfold InB; simp only; omega
    rw [if_neg h2]
    by_cases h3 : op = 3
    · rw [if_pos h3]; subst h3; have := one_three h.1; unfold InB; simp only; omega
    rw [if_neg h3]
    by_cases h6 : op = 6
    · rw [if_pos h6]; exact foldM_in ks _ InB.whole
    rw [if_neg h6]
    by_cases h7 : op = 7
    · rw [if_pos h7]; exact foldL_in ks _ InB.empty h.2
    rw [if_neg h7]
    exact InB.whole
theorem foldM_in : ∀ (ts : List FT) (s : Sp), InB s → InB (foldM ts s)
  | [], s, h => by unfold foldM; exact h
  | t :: ts, s, h => by unfold foldM; exact foldM_in ts _ h.joinM
theorem foldL_in : ∀ (ts : List FT) (s : Sp), InB s → everyL ts = true → InB (foldL ts s)
  | [], s, h, _ => by unfold foldL; exact h
  | t :: ts, s, h, he => by
    unfold everyL at he
    rw [Bool.and_eq_true] at he
    unfold foldL
    exact foldL_in ts _ (h.joinL (ofF_in t he.1)) he.2
end
theorem within_norm (q a : Int) (s : Sp) : withinF q a s.norm = withinF q a s := by
  unfold Sp.norm
  split
  · rename_i h
    unfold Sp.void at h
    rw [decide_eq_true_eq] at h
    unfold withinF Sp.empty
    rw [Bool.eq_iff_iff, decide_eq_true_eq, decide_eq_true_eq]
    simp only
    omega
  · rfl
theorem every_of_right (t : FT) (h : rightT t = true) : everyF t = true := by
  cases he : everyF t
  · have := (rightF_sem t 1 64).2 (by rw [he]; simp)
    unfold rightT at h
    rw [h] at this
    cases this
  · rfl
theorem span_and (t1 t2 : FT) (nm : ByteArray) (h1 : rightT t1 = true) (h2 : rightT t2 = true) (q a : Int) : withinF q a (ofF (.mk 6 0 0 nm [t1, t2])) = (withinF q a (ofF t1) && withinF q a (ofF t2)) := by
  have b1 := ofF_in t1 (every_of_right t1 h1)
  have b2 := ofF_in t2 (every_of_right t2 h2)
  have e : ofF (.mk 6 0 0 nm [t1, t2]) = Sp.norm (joinM (joinM .whole (ofF t1)) (ofF t2)) := by
    rw [ofF, if_neg (by decide), if_neg (by decide), if_pos rfl, foldM, foldM, foldM]
  rw [e, within_norm]
  generalize ofF t1 = s1 at *
  generalize ofF t2 = s2 at *
  unfold InB at b1 b2
  unfold withinF joinM Sp.whole
  rw [Bool.eq_iff_iff, Bool.and_eq_true, decide_eq_true_eq, decide_eq_true_eq, decide_eq_true_eq]
  simp only
  omega
theorem span_or (t1 t2 : FT) (nm : ByteArray) (q a : Int) (h : withinF q a (ofF t1) = true ∨ withinF q a (ofF t2) = true) : withinF q a (ofF (.mk 7 0 0 nm [t1, t2])) = true := by
  have e : ofF (.mk 7 0 0 nm [t1, t2]) = Sp.norm (joinL (joinL .empty (ofF t1)) (ofF t2)) := by
    rw [ofF, if_neg (by decide), if_neg (by decide), if_neg (by decide), if_pos rfl, foldL, foldL, foldL]
  rw [e, within_norm]
  generalize ofF t1 = s1 at *
  generalize ofF t2 = s2 at *
  rw [show joinL .empty s1 = s1 from by unfold joinL; rw [if_pos (by decide)]]
  unfold joinL
  unfold withinF at *
  simp only [decide_eq_true_eq] at h
  split
  · rename_i g
    unfold Sp.void at g
    rw [decide_eq_true_eq] at g ⊢
    omega
  · split
    · rename_i g
      unfold Sp.void at g
      rw [decide_eq_true_eq] at g ⊢
      omega
    · unfold joinW
      rw [decide_eq_true_eq]
      simp only
      omega
end Go.Proofs.Ytgbcgkhcmellfaa
