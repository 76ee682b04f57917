/- The contracts of filter.same and of the reference's Equal. -/
import Derived.Test.YtadidldkphimfaaMatch
namespace Go.Proofs.Ytadidldkphimfaa
set_option linter.unusedVariables false
open Go.RowKit Go.ChangeShapes

mutual
def sameF : FT → FT → Bool
  | .mk op a b name ks, .mk op' a' b' name' ks' => decide (op = op' ∧ a = a' ∧ b = b' ∧ name = name') && sameL ks ks'
def sameL : List FT → List FT → Bool
  | [], [] => true
  | t :: ts, u :: us => sameF t u && sameL ts us
  | [], _ :: _ => false
  | _ :: _, [] => false
end
mutual
theorem sameF_iff : ∀ (t u : FT), sameF t u = true ↔ t = u
  | .mk op a b name ks, .mk op' a' b' name' ks' => by
    rw [sameF, Bool.and_eq_true, decide_eq_true_eq, sameL_iff ks ks', FT.mk.injEq]
    constructor
    · rintro ⟨⟨h1, h2, h3, h4⟩, h5⟩; exact ⟨h1, h2, h3, h4, h5⟩
    · rintro ⟨h1, h2, h3, h4, h5⟩; exact ⟨⟨h1, h2, h3, h4⟩, h5⟩
theorem sameL_iff : ∀ (ts us : List FT), sameL ts us = true ↔ ts = us
  | [], [] => by simp [sameL]
  | t :: ts, u :: us => by rw [sameL, Bool.and_eq_true, sameF_iff t u, sameL_iff ts us, List.cons.injEq]
  | [], _ :: _ => by simp [sameL]
  | _ :: _, [] => by simp [sameL]
end
theorem sameL_at : ∀ (ts us : List FT) (k : Nat) (t u : FT), ts[k]? = some t → us[k]? = some u → sameF t u = false → sameL ts us = false := by
  intro ts us k t u ht hu hf
  cases hs : sameL ts us
  · rfl
  · rw [sameL_iff] at hs
    subst hs
    rw [ht] at hu
    injection hu with hu
    subst hu
    have := (sameF_iff t t).2 rfl
    rw [this] at hf
    cases hf
theorem sameL_all (ts us : List FT) (hl : ts.length = us.length) (h : ∀ (k : Nat) t u, ts[k]? = some t → us[k]? = some u → sameF t u = true) : sameL ts us = true := by
  rw [sameL_iff]
  apply List.ext_getElem?
  intro k
  by_cases hk : k < ts.length
  · rw [List.getElem?_eq_getElem hk, List.getElem?_eq_getElem (by omega)]
    congr 1
    exact (sameF_iff _ _).1 (h k _ _ (List.getElem?_eq_getElem hk) (List.getElem?_eq_getElem (by omega)))
  · rw [List.getElem?_eq_none (by omega), List.getElem?_eq_none (by omega)]
theorem toList_eq {s t : ByteArray} (h : s.toList = t.toList) : s = t := by
  rw [ByteArray.toList_eq, ByteArray.toList_eq] at h
  cases s; cases t
  congr 1
  exact Array.toList_inj.1 h

end Go.Proofs.Ytadidldkphimfaa
