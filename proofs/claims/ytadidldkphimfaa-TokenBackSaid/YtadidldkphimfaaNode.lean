/- Nodes: what a filter grows to, in memory. -/
import Derived.Test.YtadidldkphimfaaTreeP
import Derived.Test.YtadidldkphimfaaKept
import Derived.Test.YtadidldkphimfaaHeld
namespace Go.Proofs.Ytadidldkphimfaa
set_option linter.unusedVariables false
open Go.RowKit Go.ChangeShapes

theorem everyL_get {ks : List FT} {i : Nat} {t : FT} (h : everyL ks = true) (hi : ks[i]? = some t) : everyF t = true := by
  cases he : everyF t
  · rw [everyL_false ks i t hi he] at h; cases h
  · rfl
theorem cntL_len : ∀ ks : List FT, ks.length ≤ cntL ks
  | [] => by simp
  | t :: ks => by have h := cntL_len ks; have h1 := (dp_pos t).2; unfold cntL; simp only [List.length_cons]; omega
theorem cntL_get : ∀ (ks : List FT) (i : Nat) (t : FT), ks[i]? = some t → cntF t ≤ cntL ks
  | [], i, t, h => by simp at h
  | x :: ks, 0, t, h => by simp at h; subst h; unfold cntL; omega
  | x :: ks, i + 1, t, h => by have := cntL_get ks i t (by simpa using h); unfold cntL; omega
end Go.Proofs.Ytadidldkphimfaa
