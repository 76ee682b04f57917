/- The contract of filter.means. -/
import Derived.Test.YtadidldkphimfaaNode2
import Derived.Laws.EntriesVeiled
import Derived.WideLaws
namespace Go.Proofs.Ytadidldkphimfaa
set_option linter.unusedVariables false
open Go.RowKit Go.ChangeShapes

structure Evt where
  q : Int
  a : Int
  k : Int
  cm : ByteArray
  x : Int
  y : Int
  z : Int
abbrev evA (ev : Evt) : Array Value := #[.int .i64 ev.q, .int .i64 ev.a, .int .i64 ev.k, .string ev.cm, .int .i64 ev.x, .int .i64 ev.y, .int .i64 ev.z]
mutual
def meansF : FT → Evt → Bool
  | .mk op a b name ks, e => if op = 2 then decide (a ≤ e.a ∧ e.a ≤ b) else if op = 3 then decide (a ≤ e.q ∧ e.q ≤ b) else if op = 4 then (e.cm.toList == name.toList) else if op = 5 then decide (a ≤ e.k ∧ e.k ≤ a) else if op = 8 then !(meansH ks e) else if op = 7 then anyL ks e else allL ks e
def meansH : List FT → Evt → Bool
  | [], _ => false
  | t :: _, e => meansF t e
def anyL : List FT → Evt → Bool
  | [], _ => false
  | t :: ts, e => meansF t e || anyL ts e
def allL : List FT → Evt → Bool
  | [], _ => true
  | t :: ts, e => meansF t e && allL ts e
end
theorem anyL_none : ∀ (ks : List FT) (e : Evt), (∀ (j : Nat) t, ks[j]? = some t → meansF t e = false) → anyL ks e = false
  | [], e, h => by unfold anyL; rfl
  | t :: ks, e, h => by
    unfold anyL
    rw [h 0 t rfl, anyL_none ks e (fun j u hj => h (j + 1) u (by simpa using hj))]
    rfl
theorem allL_all : ∀ (ks : List FT) (e : Evt), (∀ (j : Nat) t, ks[j]? = some t → meansF t e = true) → allL ks e = true
  | [], e, h => by unfold allL; rfl
  | t :: ks, e, h => by
    unfold allL
    rw [h 0 t rfl, allL_all ks e (fun j u hj => h (j + 1) u (by simpa using hj))]
    rfl
theorem anyL_some : ∀ (ks : List FT) (e : Evt) (j : Nat) (t : FT), ks[j]? = some t → meansF t e = true → anyL ks e = true
  | [], e, j, t, h, _ => by simp at h
  | x :: ks, e, 0, t, h, hm => by simp at h; subst h; unfold anyL; rw [hm]; rfl
  | x :: ks, e, j + 1, t, h, hm => by unfold anyL; rw [anyL_some ks e j t (by simpa using h) hm]; simp
theorem allL_not : ∀ (ks : List FT) (e : Evt) (j : Nat) (t : FT), ks[j]? = some t → meansF t e = false → allL ks e = false
  | [], e, j, t, h, _ => by simp at h
  | x :: ks, e, 0, t, h, hm => by simp at h; subst h; unfold allL; rw [hm]; rfl
  | x :: ks, e, j + 1, t, h, hm => by unfold allL; rw [allL_not ks e j t (by simpa using h) hm]; simp
section
variable {op a b : Int} {name : ByteArray} {ks : List FT} {e : Evt}
theorem means_grp (h2 : op ≠ 2) (h3 : op ≠ 3) (h4 : op ≠ 4) (h5 : op ≠ 5) (h8 : op ≠ 8) : meansF (.mk op a b name ks) e = if op = 7 then anyL ks e else allL ks e := by
  rw [meansF, if_neg h2, if_neg h3, if_neg h4, if_neg h5, if_neg h8]
theorem means_all (h2 : op ≠ 2) (h3 : op ≠ 3) (h4 : op ≠ 4) (h5 : op ≠ 5) (h8 : op ≠ 8) (h : ∀ (j : Nat) t, ks[j]? = some t → meansF t e = (op != 7)) : meansF (.mk op a b name ks) e = (op != 7) := by
  rw [means_grp h2 h3 h4 h5 h8]
  by_cases h7 : op = 7
  · subst h7; rw [if_pos rfl, anyL_none ks e (fun j t hj => (h j t hj).trans rfl)]; rfl
  · have e7 : (op != 7) = true := by rw [bne_iff_ne]; exact h7
    rw [if_neg h7, e7, allL_all ks e (fun j t hj => (h j t hj).trans e7)]
theorem means_stop (h2 : op ≠ 2) (h3 : op ≠ 3) (h4 : op ≠ 4) (h5 : op ≠ 5) (h8 : op ≠ 8) (k : Nat) (t : FT) (hk : ks[k]? = some t) (h : meansF t e = !(op != 7)) : meansF (.mk op a b name ks) e = !(op != 7) := by
  rw [means_grp h2 h3 h4 h5 h8]
  by_cases h7 : op = 7
  · subst h7; rw [if_pos rfl, anyL_some ks e k t hk (h.trans rfl)]; rfl
  · have e7 : (op != 7) = true := by rw [bne_iff_ne]; exact h7
    rw [if_neg h7, e7, allL_not ks e k t hk (by rw [h, e7]; rfl)]; rfl
end
end Go.Proofs.Ytadidldkphimfaa
