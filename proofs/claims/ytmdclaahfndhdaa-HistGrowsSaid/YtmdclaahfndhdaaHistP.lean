/- Plain facts on histograms. -/
import Derived.Test.YtmdclaahfndhdaaCount
namespace Go.Proofs.Ytmdclaahfndhdaa
set_option linter.unusedVariables false

def boundF (p : Int) : Int := if p < 0 then 0 else if 8 ≤ p then 0 else 2 ^ p.toNat
def placeF (n : Int) : Nat := if n ≤ 1 then 0 else if n ≤ 2 then 1 else if n ≤ 4 then 2 else if n ≤ 8 then 3 else if n ≤ 16 then 4 else if n ≤ 32 then 5 else if n ≤ 64 then 6 else if n ≤ 128 then 7 else 8
def rightF (f : Nat → Int) (s : Int) : Bool := (List.range 9).all (fun i => f i == hold (f i)) && (s == hold s)
theorem rightF_iff (f : Nat → Int) (s : Int) : rightF f s = true ↔ (∀ i, i < 9 → f i = hold (f i)) ∧ s = hold s := by
  simp only [rightF, Bool.and_eq_true, List.all_eq_true, List.mem_range, beq_iff_eq]
def updF (f : Nat → Int) (p : Nat) (v : Int) : Nat → Int := fun i => if i = p then v else f i
def addF (f : Nat → Int) (s n : Int) : Nat → Int := if rightF f s = true ∧ 0 ≤ n then updF f (placeF n) (up (f (placeF n)) 1) else f
def addS (f : Nat → Int) (s n : Int) : Int := if rightF f s = true ∧ 0 ≤ n then up s n else s
def sumTo (f : Nat → Int) : Nat → Int
  | 0 => 0
  | k + 1 => sumTo f k + f k
def belowF (f : Nat → Int) (s : Int) (k : Nat) : Int := if rightF f s = true then sumTo f (k + 1) else 0
def leastP (b : Nat → Int) (part : Int) (k : Nat) : Prop := part * b 8 ≤ 1000 * b k
instance (b : Nat → Int) (part : Int) (k : Nat) : Decidable (leastP b part k) := by unfold leastP; infer_instance
def firstK (b : Nat → Int) (part : Int) : Nat → Nat → Int
  | 0, _ => -1
  | m + 1, k => if leastP b part k then k else firstK b part m (k + 1)
def leastF (f : Nat → Int) (s part : Int) : Int :=
  if belowF f s 8 = 0 ∨ part < 0 ∨ 1000 < part then -1 else firstK (belowF f s) part 9 0

theorem boundF_of (k : Nat) (hk : k < 8) : boundF k = 2 ^ k := by unfold boundF; rw [if_neg (by omega), if_neg (by omega)]; rfl
theorem placeF_hit (n : Int) (k : Nat) (hk : k < 8) (h : ∀ j : Nat, j < k → boundF j < n) (hn : n ≤ boundF k) : placeF n = k := by
  have b0 := boundF_of 0 (by omega); have b1 := boundF_of 1 (by omega); have b2 := boundF_of 2 (by omega); have b3 := boundF_of 3 (by omega)
  have b4 := boundF_of 4 (by omega); have b5 := boundF_of 5 (by omega); have b6 := boundF_of 6 (by omega); have b7 := boundF_of 7 (by omega)
  have hl : ∀ j : Nat, j < k → (2 : Int) ^ j < n := fun j hj => by rw [← boundF_of j (by omega)]; exact h j hj
  rw [boundF_of k hk] at hn
  clear h b0 b1 b2 b3 b4 b5 b6 b7
  rcases (by omega : k = 0 ∨ k = 1 ∨ k = 2 ∨ k = 3 ∨ k = 4 ∨ k = 5 ∨ k = 6 ∨ k = 7) with rfl | rfl | rfl | rfl | rfl | rfl | rfl | rfl
  · unfold placeF; rw [if_pos (by simpa using hn)]
  all_goals
    have hq := hl _ (Nat.lt_succ_self _)
    simp at hq hn
    unfold placeF
    repeat rw [if_neg (by omega)]
    rw [if_pos (by omega)]
theorem placeF_none (n : Int) (h : ∀ j : Nat, j < 8 → boundF j < n) : placeF n = 8 := by
  have := h 7 (by omega)
  rw [boundF_of 7 (by omega)] at this
  unfold placeF
  repeat rw [if_neg (by omega)]
theorem placeF_le (n : Int) : placeF n ≤ 8 := by unfold placeF; repeat (first | omega | split)
theorem sumTo_bd (f : Nat → Int) (h : ∀ i, i < 9 → 0 ≤ f i ∧ f i ≤ 1099511627776) (k : Nat) (hk : k ≤ 9) : 0 ≤ sumTo f k ∧ sumTo f k ≤ 1099511627776 * k := by
  induction k with
  | zero => simp [sumTo]
  | succ k ih =>
    have := ih (by omega)
    have := h k (by omega)
    simp only [sumTo]
    omega
theorem rightF_bd {f : Nat → Int} {s : Int} (h : rightF f s = true) : (∀ i, i < 9 → 0 ≤ f i ∧ f i ≤ 1099511627776) ∧ 0 ≤ s ∧ s ≤ 1099511627776 := by
  rw [rightF_iff] at h
  refine ⟨fun i hi => ?_, ?_, ?_⟩
  · rw [h.1 i hi]; exact ⟨hold_lo _, hold_hi _⟩
  · rw [h.2]; exact hold_lo _
  · rw [h.2]; exact hold_hi _
theorem rightF_of {f : Nat → Int} {s : Int} (h : ∀ i, i < 9 → 0 ≤ f i ∧ f i ≤ 1099511627776) (h0 : 0 ≤ s) (h1 : s ≤ 1099511627776) : rightF f s = true := by
  rw [rightF_iff]
  exact ⟨fun i hi => (hold_id _ (h i hi).1 (h i hi).2).symm, (hold_id _ h0 h1).symm⟩
theorem belowF_bd (f : Nat → Int) (s : Int) (k : Nat) (hk : k ≤ 8) : 0 ≤ belowF f s k ∧ belowF f s k ≤ 9895604649984 := by
  unfold belowF
  split
  · rename_i h
    have := sumTo_bd f (rightF_bd h).1 (k + 1) (by omega)
    omega
  · omega
theorem sumTo_mono (f : Nat → Int) (h : ∀ i, i < 9 → 0 ≤ f i ∧ f i ≤ 1099511627776) (k : Nat) (hk : k < 9) : sumTo f k ≤ sumTo f (k + 1) := by
  have := h k hk
  simp only [sumTo]; omega
theorem firstK_hit (b : Nat → Int) (part : Int) (m k : Nat) (h : leastP b part k) : firstK b part (m + 1) k = k := by simp [firstK, h]
theorem firstK_miss (b : Nat → Int) (part : Int) (m k : Nat) (h : ¬ leastP b part k) : firstK b part (m + 1) k = firstK b part m (k + 1) := by simp [firstK, h]
end Go.Proofs.Ytmdclaahfndhdaa
