/- The contract of the reference's one. -/
import Derived.Test.YtadidldkphimfaaTree4
namespace Go.Proofs.Ytadidldkphimfaa
set_option linter.unusedVariables false
open Go.RowKit Go.ChangeShapes

theorem ne_t (s : ByteArray) : ((!s.toList.isEmpty) = true) = (s.size ≠ 0) := by
  rw [eq_iff_iff, Bool.not_eq_true', ← Bool.not_eq_true, List.isEmpty_iff, emp_iff]
theorem ne_f (s : ByteArray) : ((!s.toList.isEmpty) = false) = (s.size = 0) := by
  rw [eq_iff_iff, Bool.not_eq_false', List.isEmpty_iff, emp_iff]

set_option maxHeartbeats 1000000 in
theorem one_1 (a b : Int) (name : ByteArray) (A : Option Addr) (n c : Nat) (w : World) : Calls Try.prog 28 #[.agg #[.int .i64 1, .int .i64 a, .int .i64 b, .string name, .slice A n c]] w fun e w' => e = .returned (.bool (oneF 1 a b name.size n)) ∧ Below w.heap.size w w' := by
  go_enter Try.func28, Try.ntmps28
  go_wp2
  all_goals
    go_ret
    refine ⟨ret_bool ?_, (Below.refl _ _).alloc (Nat.le_refl _) _⟩
    (try simp only [ne_t, ne_f] at *)
    unfold oneF
    first
    | (symm; rw [decide_eq_false_iff_not]; unfold oneP; omega)
    | (rw [Bool.eq_iff_iff, beq_iff_eq, decide_eq_true_eq]; unfold oneP; omega)
    | (rw [Bool.eq_iff_iff, List.isEmpty_iff, emp_iff, decide_eq_true_eq]; unfold oneP; omega)
    | (rw [Bool.eq_iff_iff, decide_eq_true_eq, decide_eq_true_eq]; unfold oneP; omega)

set_option maxHeartbeats 1000000 in
theorem one_2 (a b : Int) (name : ByteArray) (A : Option Addr) (n c : Nat) (w : World) : Calls Try.prog 28 #[.agg #[.int .i64 2, .int .i64 a, .int .i64 b, .string name, .slice A n c]] w fun e w' => e = .returned (.bool (oneF 2 a b name.size n)) ∧ Below w.heap.size w w' := by
  go_enter Try.func28, Try.ntmps28
  go_wp2
  all_goals
    go_ret
    refine ⟨ret_bool ?_, (Below.refl _ _).alloc (Nat.le_refl _) _⟩
    (try simp only [ne_t, ne_f] at *)
    unfold oneF
    first
    | (symm; rw [decide_eq_false_iff_not]; unfold oneP; omega)
    | (rw [Bool.eq_iff_iff, beq_iff_eq, decide_eq_true_eq]; unfold oneP; omega)
    | (rw [Bool.eq_iff_iff, List.isEmpty_iff, emp_iff, decide_eq_true_eq]; unfold oneP; omega)
    | (rw [Bool.eq_iff_iff, decide_eq_true_eq, decide_eq_true_eq]; unfold oneP; omega)

set_option maxHeartbeats 1000000 in
theorem one_3 (a b : Int) (name : ByteArray) (A : Option Addr) (n c : Nat) (w : World) : Calls Try.prog 28 #[.agg #[.int .i64 3, .int .i64 a, .int .i64 b, .string name, .slice A n c]] w fun e w' => e = .returned (.bool (oneF 3 a b name.size n)) ∧ Below w.heap.size w w' := by
  go_enter Try.func28, Try.ntmps28
  go_wp2
  all_goals
    go_ret
    refine ⟨ret_bool ?_, (Below.refl _ _).alloc (Nat.le_refl _) _⟩
    (try simp only [ne_t, ne_f] at *)
    unfold oneF
    first
    | (symm; rw [decide_eq_false_iff_not]; unfold oneP; omega)
    | (rw [Bool.eq_iff_iff, beq_iff_eq, decide_eq_true_eq]; unfold oneP; omega)
    | (rw [Bool.eq_iff_iff, List.isEmpty_iff, emp_iff, decide_eq_true_eq]; unfold oneP; omega)
    | (rw [Bool.eq_iff_iff, decide_eq_true_eq, decide_eq_true_eq]; unfold oneP; omega)

set_option maxHeartbeats 1000000 in
theorem one_4 (a b : Int) (name : ByteArray) (A : Option Addr) (n c : Nat) (w : World) : Calls Try.prog 28 #[.agg #[.int .i64 4, .int .i64 a, .int .i64 b, .string name, .slice A n c]] w fun e w' => e = .returned (.bool (oneF 4 a b name.size n)) ∧ Below w.heap.size w w' := by
  go_enter Try.func28, Try.ntmps28
  go_wp2
  all_goals
    go_ret
    refine ⟨ret_bool ?_, (Below.refl _ _).alloc (Nat.le_refl _) _⟩
    unfold oneF
    first
    | (symm; rw [decide_eq_false_iff_not]; unfold oneP; omega)
    | (rw [Bool.eq_iff_iff, beq_iff_eq, decide_eq_true_eq]; unfold oneP; omega)
    | (rw [Bool.eq_iff_iff, List.isEmpty_iff, emp_iff, decide_eq_true_eq]; unfold oneP; omega)
    | (rw [Bool.eq_iff_iff, decide_eq_true_eq, decide_eq_true_eq]; unfold oneP; omega)

set_option maxHeartbeats 1000000 in
theorem one_5 (a b : Int) (name : ByteArray) (A : Option Addr) (n c : Nat) (w : World) : Calls Try.prog 28 #[.agg #[.int .i64 5, .int .i64 a, .int .i64 b, .string name, .slice A n c]] w fun e w' => e = .returned (.bool (oneF 5 a b name.size n)) ∧ Below w.heap.size w w' := by
  go_enter Try.func28, Try.ntmps28
  go_wp2
  all_goals
    go_ret
    refine ⟨ret_bool ?_, (Below.refl _ _).alloc (Nat.le_refl _) _⟩
    (try simp only [ne_t, ne_f] at *)
    unfold oneF
    first
    | (symm; rw [decide_eq_false_iff_not]; unfold oneP; omega)
    | (rw [Bool.eq_iff_iff, beq_iff_eq, decide_eq_true_eq]; unfold oneP; omega)
    | (rw [Bool.eq_iff_iff, List.isEmpty_iff, emp_iff, decide_eq_true_eq]; unfold oneP; omega)
    | (rw [Bool.eq_iff_iff, decide_eq_true_eq, decide_eq_true_eq]; unfold oneP; omega)

set_option maxHeartbeats 1000000 in
theorem one_6 (a b : Int) (name : ByteArray) (A : Option Addr) (n c : Nat) (w : World) : Calls Try.prog 28 #[.agg #[.int .i64 6, .int .i64 a, .int .i64 b, .string name, .slice A n c]] w fun e w' => e = .returned (.bool (oneF 6 a b name.size n)) ∧ Below w.heap.size w w' := by
  go_enter Try.func28, Try.ntmps28
  go_wp2
  all_goals
    go_ret
    refine ⟨ret_bool ?_, (Below.refl _ _).alloc (Nat.le_refl _) _⟩
    (try simp only [ne_t, ne_f] at *)
    unfold oneF
    first
    | (symm; rw [decide_eq_false_iff_not]; unfold oneP; omega)
    | (rw [Bool.eq_iff_iff, beq_iff_eq, decide_eq_true_eq]; unfold oneP; omega)
    | (rw [Bool.eq_iff_iff, List.isEmpty_iff, emp_iff, decide_eq_true_eq]; unfold oneP; omega)
    | (rw [Bool.eq_iff_iff, decide_eq_true_eq, decide_eq_true_eq]; unfold oneP; omega)

set_option maxHeartbeats 1000000 in
theorem one_7 (a b : Int) (name : ByteArray) (A : Option Addr) (n c : Nat) (w : World) : Calls Try.prog 28 #[.agg #[.int .i64 7, .int .i64 a, .int .i64 b, .string name, .slice A n c]] w fun e w' => e = .returned (.bool (oneF 7 a b name.size n)) ∧ Below w.heap.size w w' := by
  go_enter Try.func28, Try.ntmps28
  go_wp2
  all_goals
    go_ret
    refine ⟨ret_bool ?_, (Below.refl _ _).alloc (Nat.le_refl _) _⟩
    (try simp only [ne_t, ne_f] at *)
    unfold oneF
    first
    | (symm; rw [decide_eq_false_iff_not]; unfold oneP; omega)
    | (rw [Bool.eq_iff_iff, beq_iff_eq, decide_eq_true_eq]; unfold oneP; omega)
    | (rw [Bool.eq_iff_iff, List.isEmpty_iff, emp_iff, decide_eq_true_eq]; unfold oneP; omega)
    | (rw [Bool.eq_iff_iff, decide_eq_true_eq, decide_eq_true_eq]; unfold oneP; omega)

set_option maxHeartbeats 1000000 in
theorem one_8 (a b : Int) (name : ByteArray) (A : Option Addr) (n c : Nat) (w : World) : Calls Try.prog 28 #[.agg #[.int .i64 8, .int .i64 a, .int .i64 b, .string name, .slice A n c]] w fun e w' => e = .returned (.bool (oneF 8 a b name.size n)) ∧ Below w.heap.size w w' := by
  go_enter Try.func28, Try.ntmps28
  go_wp2
  all_goals
    go_ret
    refine ⟨ret_bool ?_, (Below.refl _ _).alloc (Nat.le_refl _) _⟩
    (try simp only [ne_t, ne_f, bne_iff_ne, bne_eq_false_iff_eq] at *)
    unfold oneF
    first
    | (symm; rw [decide_eq_false_iff_not]; unfold oneP; omega)
    | (rw [Bool.eq_iff_iff, beq_iff_eq, decide_eq_true_eq]; unfold oneP; omega)
    | (rw [Bool.eq_iff_iff, List.isEmpty_iff, emp_iff, decide_eq_true_eq]; unfold oneP; omega)
    | (rw [Bool.eq_iff_iff, decide_eq_true_eq, decide_eq_true_eq]; unfold oneP; omega)

set_option maxHeartbeats 1000000 in
theorem one_lo (op : Int) (a b : Int) (name : ByteArray) (A : Option Addr) (n c : Nat) (w : World) (h : op < 1) : Calls Try.prog 28 #[.agg #[.int .i64 op, .int .i64 a, .int .i64 b, .string name, .slice A n c]] w fun e w' => e = .returned (.bool (oneF op a b name.size n)) ∧ Below w.heap.size w w' := by
  have d : decide (op < 1) = true := by simp; omega
  go_enter Try.func28, Try.ntmps28
  go_wp2
  go_ret
  refine ⟨ret_bool ?_, (Below.refl _ _).alloc (Nat.le_refl _) _⟩
  symm
  unfold oneF
  rw [decide_eq_false_iff_not]
  unfold oneP
  omega

set_option maxHeartbeats 1000000 in
theorem one_hi (op : Int) (a b : Int) (name : ByteArray) (A : Option Addr) (n c : Nat) (w : World) (h : 8 < op) : Calls Try.prog 28 #[.agg #[.int .i64 op, .int .i64 a, .int .i64 b, .string name, .slice A n c]] w fun e w' => e = .returned (.bool (oneF op a b name.size n)) ∧ Below w.heap.size w w' := by
  have d : decide (op < 1) = false := by simp; omega
  have d2 : decide (8 < op) = true := by simp; omega
  go_enter Try.func28, Try.ntmps28
  go_wp2
  go_ret
  refine ⟨ret_bool ?_, (Below.refl _ _).alloc (Nat.le_refl _) _⟩
  symm
  unfold oneF
  rw [decide_eq_false_iff_not]
  unfold oneP
  omega

theorem one_c (op : Int) (a b : Int) (name : ByteArray) (A : Option Addr) (n c : Nat) (w : World) : Calls Try.prog 28 #[.agg #[.int .i64 op, .int .i64 a, .int .i64 b, .string name, .slice A n c]] w fun e w' => e = .returned (.bool (oneF op a b name.size n)) ∧ Below w.heap.size w w' := by
  by_cases g1 : op = 1
  · subst g1; exact one_1 a b name A n c w
  by_cases g2 : op = 2
  · subst g2; exact one_2 a b name A n c w
  by_cases g3 : op = 3
  · subst g3; exact one_3 a b name A n c w
  by_cases g4 : op = 4
  · subst g4; exact one_4 a b name A n c w
  by_cases g5 : op = 5
  · subst g5; exact one_5 a b name A n c w
  by_cases g6 : op = 6
  · subst g6; exact one_6 a b name A n c w
  by_cases g7 : op = 7
  · subst g7; exact one_7 a b name A n c w
  by_cases g8 : op = 8
  · subst g8; exact one_8 a b name A n c w
  by_cases g : op < 1
  · exact one_lo op a b name A n c w g
  · exact one_hi op a b name A n c w (by omega)
end Go.Proofs.Ytadidldkphimfaa
