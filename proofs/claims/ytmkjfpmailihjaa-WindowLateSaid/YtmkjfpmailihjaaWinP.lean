/- Plain: what a window becomes when it goes on. -/
import Derived.Test.YtmkjfpmailihjaaWin4
namespace Go.Proofs.Ytmkjfpmailihjaa
set_option linter.unusedVariables false

/-- the cells s0, s0 + 1, .. (k of them) are cleared. -/
def clr (cs : List (Int × Int)) (n : Int) (s0 : Int) : Nat → List (Int × Int)
  | 0 => cs
  | k + 1 => (clr cs n s0 k).set ((s0 + k) % n).toNat (0, 0)
theorem clr_length (cs : List (Int × Int)) (n s0 : Int) (k : Nat) : (clr cs n s0 k).length = cs.length := by
  induction k with
  | zero => rfl
  | succ k ih => rw [clr, List.length_set, ih]
/-- the while of the last n up to 'to' that falls on the cell i. -/
def whileOf (to n : Int) (i : Nat) : Int := to - (to - (i : Int)) % n
theorem whileOf_spec {to n : Int} {i : Nat} (hn : 0 < n) (hi : (i : Int) < n) : to - n < whileOf to n i ∧ whileOf to n i ≤ to ∧ whileOf to n i % n = i := by
  unfold whileOf
  have h1 := Int.emod_nonneg (to - i) (by omega : n ≠ 0)
  have h2 := Int.emod_lt_of_pos (to - i) hn
  refine ⟨by omega, by omega, ?_⟩
  have h3 : to - (to - (i : Int)) % n = i + n * ((to - i) / n) := by
    have := Int.emod_add_mul_ediv (to - i) n
    omega
  rw [h3, Int.add_mul_emod_self_left]
  exact Int.emod_eq_of_lt (by omega) hi
theorem whileOf_uniq {to n s : Int} {i : Nat} (hn : 0 < n) (hi : (i : Int) < n) (h1 : to - n < s) (h2 : s ≤ to) (h3 : s % n = i) : s = whileOf to n i := by
  obtain ⟨g1, g2, g3⟩ := whileOf_spec (to := to) hn hi
  have h4 : (s - whileOf to n i) % n = 0 := by rw [Int.sub_emod, h3, g3]; simp
  have h5 := Int.emod_add_mul_ediv (s - whileOf to n i) n
  rw [h4] at h5
  rcases Int.lt_trichotomy ((s - whileOf to n i) / n) 0 with h | h | h
  · have : n * ((s - whileOf to n i) / n) ≤ n * (-1) := Int.mul_le_mul_of_nonneg_left (by omega) (by omega)
    omega
  · rw [h] at h5; omega
  · have : n * 1 ≤ n * ((s - whileOf to n i) / n) := Int.mul_le_mul_of_nonneg_left (by omega) (by omega)
    omega
/-- the cells of a window that goes on from sl to 'to'. -/
def moved (cs : List (Int × Int)) (sl to : Int) : List (Int × Int) := (List.range cs.length).map (fun i => if sl < whileOf to cs.length i then (0, 0) else cs.getD i (0, 0))
theorem moved_length (cs : List (Int × Int)) (sl to : Int) : (moved cs sl to).length = cs.length := by simp [moved]
theorem clr_get (cs : List (Int × Int)) (n s0 : Int) (k i : Nat) (hi : i < cs.length) : (clr cs n s0 k)[i]? = if ∃ j, j < k ∧ ((s0 + (j : Int)) % n).toNat = i then some (0, 0) else cs[i]? := by
  induction k with
  | zero => rw [clr, if_neg (by rintro ⟨j, h, _⟩; omega)]
  | succ k ih =>
    rw [clr, List.getElem?_set]
    by_cases h : ((s0 + (k : Int)) % n).toNat = i
    · rw [if_pos h, if_pos (by rw [clr_length]; omega), if_pos ⟨k, by omega, h⟩]
    · rw [if_neg h, ih]
      by_cases g : ∃ j, j < k ∧ ((s0 + (j : Int)) % n).toNat = i
      · rw [if_pos g, if_pos (by obtain ⟨j, h1, h2⟩ := g; exact ⟨j, by omega, h2⟩)]
      · rw [if_neg g, if_neg (by
          rintro ⟨j, h1, h2⟩
          by_cases hj : j = k
          · subst hj; exact h h2
          · exact g ⟨j, by omega, h2⟩)]
theorem clr_moved (cs : List (Int × Int)) (sl to : Int) (h0 : 0 ≤ sl) (hlt : sl < to) (hn : 1 ≤ cs.length) : clr cs cs.length (max (sl + 1) (to - cs.length + 1)) (to - max (sl + 1) (to - cs.length + 1) + 1).toNat = moved cs sl to := by
  apply List.ext_getElem?
  intro i
  by_cases hi : i < cs.length
  · rw [clr_get _ _ _ _ _ hi, moved, List.getElem?_map, List.getElem?_range hi, Option.map_some]
    obtain ⟨g1, g2, g3⟩ := whileOf_spec (to := to) (n := (cs.length : Int)) (i := i) (by omega) (by omega)
    have hget : cs[i]? = some (cs.getD i (0, 0)) := by rw [List.getD_eq_getElem?_getD, List.getElem?_eq_getElem hi]; rfl
    by_cases h : sl < whileOf to cs.length i
    · rw [if_pos h, if_pos ⟨(whileOf to cs.length i - max (sl + 1) (to - cs.length + 1)).toNat, by omega, by
        rw [show max (sl + 1) (to - (cs.length : Int) + 1) + ((whileOf to cs.length i - max (sl + 1) (to - cs.length + 1)).toNat : Int) = whileOf to cs.length i from by omega, g3]; simp⟩]
    · rw [if_neg h, if_neg (by
        rintro ⟨j, h1, h2⟩
        have h4 := Int.emod_nonneg (max (sl + 1) (to - (cs.length : Int) + 1) + (j : Int)) (by omega : (cs.length : Int) ≠ 0)
        have := whileOf_uniq (to := to) (n := (cs.length : Int)) (i := i) (s := max (sl + 1) (to - cs.length + 1) + (j : Int)) (by omega) (by omega) (by omega) (by omega) (by omega)
        omega), hget]
  · rw [List.getElem?_eq_none (by rw [clr_length]; omega), List.getElem?_eq_none (by rw [moved_length]; omega)]
def moveR (wd sl : Int) (cs : List (Int × Int)) (a : Int) : Wr :=
  if (rightW wd sl cs && timeB a) = false then ⟨wd, sl, cs, 1⟩ else if a / wd ≤ sl then ⟨wd, sl, cs, 0⟩ else ⟨wd, a / wd, moved cs sl (a / wd), 0⟩
end Go.Proofs.Ytmkjfpmailihjaa
