/- Contracts over one filter: event.Named, filter.within, filter.alone, the reference's one. -/
import Derived.Test.YtadidldkphimfaaTree3
namespace Go.Proofs.Ytadidldkphimfaa
set_option linter.unusedVariables false
open Go.RowKit Go.ChangeShapes

theorem bl_loop (s : ByteArray) (n i : Nat) (r : List UInt8) (h : s.size - i = n) : (ByteArray.toList.loop s i r).length = r.length + n := by
  induction n generalizing i r with
  | zero => rw [ByteArray.toList.loop, if_neg (by omega)]; simp
  | succ n ih => rw [ByteArray.toList.loop, if_pos (by omega), ih (i + 1) _ (by omega)]; simp; omega
theorem toList_len (s : ByteArray) : s.toList.length = s.size := by unfold ByteArray.toList; rw [bl_loop s s.size 0 [] (by omega)]; simp
theorem emp_iff (s : ByteArray) : s.toList = [] ↔ s.size = 0 := by rw [← List.length_eq_zero_iff, toList_len]

/-- one filter is what its Op says (z: its name's length, k: how many kids). -/
def oneP (op a b : Int) (z k : Nat) : Prop :=
  (op = 1 ∧ a = 0 ∧ b = 0 ∧ z = 0 ∧ k = 0) ∨ (op = 2 ∧ (0 ≤ a ∧ a ≤ 1099511627776) ∧ (0 ≤ b ∧ b ≤ 1099511627776) ∧ z = 0 ∧ k = 0) ∨ (op = 3 ∧ (0 ≤ a ∧ a ≤ 4294967296) ∧ (0 ≤ b ∧ b ≤ 4294967296) ∧ z = 0 ∧ k = 0) ∨
  (op = 4 ∧ (1 ≤ z ∧ z ≤ 24) ∧ a = 0 ∧ b = 0 ∧ k = 0) ∨ (op = 5 ∧ 1 ≤ a ∧ a ≤ 10 ∧ b = 0 ∧ z = 0 ∧ k = 0) ∨ ((op = 6 ∨ op = 7) ∧ a = 0 ∧ b = 0 ∧ z = 0) ∨ (op = 8 ∧ a = 0 ∧ b = 0 ∧ z = 0 ∧ k = 1)
instance (op a b : Int) (z k : Nat) : Decidable (oneP op a b z k) := by unfold oneP; infer_instance
def oneF (op a b : Int) (z k : Nat) : Bool := decide (oneP op a b z k)
def winF (n m : Int) : Bool := decide (0 ≤ n ∧ n ≤ m)
def namedF (z : Nat) : Bool := decide (1 ≤ z ∧ z ≤ 24)

theorem within_c (n m : Int) (w : World) : Calls Try.prog 48 #[.int .i64 n, .int .i64 m] w fun e w' => e = .returned (.bool (winF n m)) ∧ w = w' := by
  go_enter Try.func48, Try.ntmps48
  go_wp2
  all_goals
    go_ret
    refine ⟨ret_bool ?_, rfl⟩
    unfold winF
    first
    | (symm; rw [decide_eq_false_iff_not]; omega)
    | (rw [Bool.eq_iff_iff, decide_eq_true_eq, decide_eq_true_eq]; omega)
theorem Named_c (s : ByteArray) (w : World) : Calls Try.prog 49 #[.string s] w fun e w' => e = .returned (.bool (namedF s.size)) ∧ w = w' := by
  go_enter Try.func49, Try.ntmps49
  go_wp2
  all_goals
    go_ret
    refine ⟨ret_bool ?_, rfl⟩
    unfold namedF
    first
    | (symm; rw [decide_eq_false_iff_not]; omega)
    | (rw [Bool.eq_iff_iff, decide_eq_true_eq, decide_eq_true_eq]; omega)

set_option maxHeartbeats 1000000 in
theorem alone_1 (a b : Int) (name : ByteArray) (A : Option Addr) (n c : Nat) (w : World) : Calls Try.prog 39 #[.agg #[.int .i64 1, .int .i64 a, .int .i64 b, .string name, .slice A n c]] w fun e w' => e = .returned (.bool (oneF 1 a b name.size n)) ∧ Below w.heap.size w w' := by
  go_enter Try.func39, Try.ntmps39
  go_wp2_with (first | (go_at_call 48; refine (within_c _ _ _).mono ?_; rintro e w' ⟨rfl, rfl⟩) | (go_at_call 49; refine (Named_c _ _).mono ?_; rintro e w' ⟨rfl, rfl⟩))
  all_goals
    go_ret
    refine ⟨ret_bool ?_, (Below.refl _ _).alloc (Nat.le_refl _) _⟩
    (try simp only [emp_iff] at *)
    unfold oneF
    first
    | (symm; rw [decide_eq_false_iff_not]; unfold oneP; omega)
    | (rw [Bool.eq_iff_iff, beq_iff_eq, decide_eq_true_eq]; unfold oneP; omega)
    | (rw [Bool.eq_iff_iff, List.isEmpty_iff, emp_iff, decide_eq_true_eq]; unfold oneP; omega)
    | (rw [Bool.eq_iff_iff, decide_eq_true_eq, decide_eq_true_eq]; unfold oneP; omega)

set_option maxHeartbeats 1000000 in
theorem alone_2 (a b : Int) (name : ByteArray) (A : Option Addr) (n c : Nat) (w : World) : Calls Try.prog 39 #[.agg #[.int .i64 2, .int .i64 a, .int .i64 b, .string name, .slice A n c]] w fun e w' => e = .returned (.bool (oneF 2 a b name.size n)) ∧ Below w.heap.size w w' := by
  go_enter Try.func39, Try.ntmps39
  go_wp2_with (first | (go_at_call 48; refine (within_c _ _ _).mono ?_; rintro e w' ⟨rfl, rfl⟩) | (go_at_call 49; refine (Named_c _ _).mono ?_; rintro e w' ⟨rfl, rfl⟩))
  all_goals
    go_ret
    refine ⟨ret_bool ?_, (Below.refl _ _).alloc (Nat.le_refl _) _⟩
    (try simp only [emp_iff, winF, decide_eq_true_eq] at *)
    unfold oneF
    first
    | (symm; rw [decide_eq_false_iff_not]; unfold oneP; omega)
    | (rw [Bool.eq_iff_iff, beq_iff_eq, decide_eq_true_eq]; unfold oneP; omega)
    | (rw [Bool.eq_iff_iff, List.isEmpty_iff, emp_iff, decide_eq_true_eq]; unfold oneP; omega)
    | (rw [Bool.eq_iff_iff, decide_eq_true_eq, decide_eq_true_eq]; unfold oneP; omega)

set_option maxHeartbeats 1000000 in
theorem alone_3 (a b : Int) (name : ByteArray) (A : Option Addr) (n c : Nat) (w : World) : Calls Try.prog 39 #[.agg #[.int .i64 3, .int .i64 a, .int .i64 b, .string name, .slice A n c]] w fun e w' => e = .returned (.bool (oneF 3 a b name.size n)) ∧ Below w.heap.size w w' := by
  go_enter Try.func39, Try.ntmps39
  go_wp2_with (first | (go_at_call 48; refine (within_c _ _ _).mono ?_; rintro e w' ⟨rfl, rfl⟩) | (go_at_call 49; refine (Named_c _ _).mono ?_; rintro e w' ⟨rfl, rfl⟩))
  all_goals
    go_ret
    refine ⟨ret_bool ?_, (Below.refl _ _).alloc (Nat.le_refl _) _⟩
    (try simp only [emp_iff, winF, decide_eq_true_eq] at *)
    unfold oneF
    first
    | (symm; rw [decide_eq_false_iff_not]; unfold oneP; omega)
    | (rw [Bool.eq_iff_iff, beq_iff_eq, decide_eq_true_eq]; unfold oneP; omega)
    | (rw [Bool.eq_iff_iff, List.isEmpty_iff, emp_iff, decide_eq_true_eq]; unfold oneP; omega)
    | (rw [Bool.eq_iff_iff, decide_eq_true_eq, decide_eq_true_eq]; unfold oneP; omega)

set_option maxHeartbeats 1000000 in
theorem alone_4 (a b : Int) (name : ByteArray) (A : Option Addr) (n c : Nat) (w : World) : Calls Try.prog 39 #[.agg #[.int .i64 4, .int .i64 a, .int .i64 b, .string name, .slice A n c]] w fun e w' => e = .returned (.bool (oneF 4 a b name.size n)) ∧ Below w.heap.size w w' := by
  go_enter Try.func39, Try.ntmps39
  go_wp2_with (first | (go_at_call 48; refine (within_c _ _ _).mono ?_; rintro e w' ⟨rfl, rfl⟩) | (go_at_call 49; refine (Named_c _ _).mono ?_; rintro e w' ⟨rfl, rfl⟩))
  all_goals
    go_ret
    refine ⟨ret_bool ?_, (Below.refl _ _).alloc (Nat.le_refl _) _⟩
    (try simp only [namedF, decide_eq_true_eq] at *)
    unfold oneF
    first
    | (symm; rw [decide_eq_false_iff_not]; unfold oneP; omega)
    | (rw [Bool.eq_iff_iff, beq_iff_eq, decide_eq_true_eq]; unfold oneP; omega)
    | (rw [Bool.eq_iff_iff, List.isEmpty_iff, emp_iff, decide_eq_true_eq]; unfold oneP; omega)
    | (rw [Bool.eq_iff_iff, decide_eq_true_eq, decide_eq_true_eq]; unfold oneP; omega)

set_option maxHeartbeats 1000000 in
theorem alone_5 (a b : Int) (name : ByteArray) (A : Option Addr) (n c : Nat) (w : World) : Calls Try.prog 39 #[.agg #[.int .i64 5, .int .i64 a, .int .i64 b, .string name, .slice A n c]] w fun e w' => e = .returned (.bool (oneF 5 a b name.size n)) ∧ Below w.heap.size w w' := by
  go_enter Try.func39, Try.ntmps39
  go_wp2_with (first | (go_at_call 48; refine (within_c _ _ _).mono ?_; rintro e w' ⟨rfl, rfl⟩) | (go_at_call 49; refine (Named_c _ _).mono ?_; rintro e w' ⟨rfl, rfl⟩))
  all_goals
    go_ret
    refine ⟨ret_bool ?_, (Below.refl _ _).alloc (Nat.le_refl _) _⟩
    (try simp only [emp_iff] at *)
    unfold oneF
    first
    | (symm; rw [decide_eq_false_iff_not]; unfold oneP; omega)
    | (rw [Bool.eq_iff_iff, beq_iff_eq, decide_eq_true_eq]; unfold oneP; omega)
    | (rw [Bool.eq_iff_iff, List.isEmpty_iff, emp_iff, decide_eq_true_eq]; unfold oneP; omega)
    | (rw [Bool.eq_iff_iff, decide_eq_true_eq, decide_eq_true_eq]; unfold oneP; omega)

set_option maxHeartbeats 1000000 in
theorem alone_6 (a b : Int) (name : ByteArray) (A : Option Addr) (n c : Nat) (w : World) : Calls Try.prog 39 #[.agg #[.int .i64 6, .int .i64 a, .int .i64 b, .string name, .slice A n c]] w fun e w' => e = .returned (.bool (oneF 6 a b name.size n)) ∧ Below w.heap.size w w' := by
  go_enter Try.func39, Try.ntmps39
  go_wp2_with (first | (go_at_call 48; refine (within_c _ _ _).mono ?_; rintro e w' ⟨rfl, rfl⟩) | (go_at_call 49; refine (Named_c _ _).mono ?_; rintro e w' ⟨rfl, rfl⟩))
  all_goals
    go_ret
    refine ⟨ret_bool ?_, (Below.refl _ _).alloc (Nat.le_refl _) _⟩
    (try simp only [emp_iff] at *)
    unfold oneF
    first
    | (symm; rw [decide_eq_false_iff_not]; unfold oneP; omega)
    | (rw [Bool.eq_iff_iff, beq_iff_eq, decide_eq_true_eq]; unfold oneP; omega)
    | (rw [Bool.eq_iff_iff, List.isEmpty_iff, emp_iff, decide_eq_true_eq]; unfold oneP; omega)
    | (rw [Bool.eq_iff_iff, decide_eq_true_eq, decide_eq_true_eq]; unfold oneP; omega)

set_option maxHeartbeats 1000000 in
theorem alone_7 (a b : Int) (name : ByteArray) (A : Option Addr) (n c : Nat) (w : World) : Calls Try.prog 39 #[.agg #[.int .i64 7, .int .i64 a, .int .i64 b, .string name, .slice A n c]] w fun e w' => e = .returned (.bool (oneF 7 a b name.size n)) ∧ Below w.heap.size w w' := by
  go_enter Try.func39, Try.ntmps39
  go_wp2_with (first | (go_at_call 48; refine (within_c _ _ _).mono ?_; rintro e w' ⟨rfl, rfl⟩) | (go_at_call 49; refine (Named_c _ _).mono ?_; rintro e w' ⟨rfl, rfl⟩))
  all_goals
    go_ret
    refine ⟨ret_bool ?_, (Below.refl _ _).alloc (Nat.le_refl _) _⟩
    (try simp only [emp_iff] at *)
    unfold oneF
    first
    | (symm; rw [decide_eq_false_iff_not]; unfold oneP; omega)
    | (rw [Bool.eq_iff_iff, beq_iff_eq, decide_eq_true_eq]; unfold oneP; omega)
    | (rw [Bool.eq_iff_iff, List.isEmpty_iff, emp_iff, decide_eq_true_eq]; unfold oneP; omega)
    | (rw [Bool.eq_iff_iff, decide_eq_true_eq, decide_eq_true_eq]; unfold oneP; omega)

set_option maxHeartbeats 1000000 in
theorem alone_8 (a b : Int) (name : ByteArray) (A : Option Addr) (n c : Nat) (w : World) : Calls Try.prog 39 #[.agg #[.int .i64 8, .int .i64 a, .int .i64 b, .string name, .slice A n c]] w fun e w' => e = .returned (.bool (oneF 8 a b name.size n)) ∧ Below w.heap.size w w' := by
  go_enter Try.func39, Try.ntmps39
  go_wp2_with (first | (go_at_call 48; refine (within_c _ _ _).mono ?_; rintro e w' ⟨rfl, rfl⟩) | (go_at_call 49; refine (Named_c _ _).mono ?_; rintro e w' ⟨rfl, rfl⟩))
  all_goals
    go_ret
    refine ⟨ret_bool ?_, (Below.refl _ _).alloc (Nat.le_refl _) _⟩
    (try simp only [emp_iff] at *)
    unfold oneF
    first
    | (symm; rw [decide_eq_false_iff_not]; unfold oneP; omega)
    | (rw [Bool.eq_iff_iff, beq_iff_eq, decide_eq_true_eq]; unfold oneP; omega)
    | (rw [Bool.eq_iff_iff, List.isEmpty_iff, emp_iff, decide_eq_true_eq]; unfold oneP; omega)
    | (rw [Bool.eq_iff_iff, decide_eq_true_eq, decide_eq_true_eq]; unfold oneP; omega)

set_option maxHeartbeats 1000000 in
theorem alone_no (op : Int) (a b : Int) (name : ByteArray) (A : Option Addr) (n c : Nat) (w : World) (h1 : (op == 1) = false) (h2 : (op == 2) = false) (h3 : (op == 3) = false) (h4 : (op == 4) = false) (h5 : (op == 5) = false) (h6 : (op == 6) = false) (h7 : (op == 7) = false) (h8 : (op == 8) = false) : Calls Try.prog 39 #[.agg #[.int .i64 op, .int .i64 a, .int .i64 b, .string name, .slice A n c]] w fun e w' => e = .returned (.bool (oneF op a b name.size n)) ∧ Below w.heap.size w w' := by
  go_enter Try.func39, Try.ntmps39
  go_wp2
  all_goals
    go_ret
    refine ⟨ret_bool ?_, (Below.refl _ _).alloc (Nat.le_refl _) _⟩
    simp only [beq_eq_false_iff_ne] at h1 h2 h3 h4 h5 h6 h7 h8
    symm
    unfold oneF
    rw [decide_eq_false_iff_not]
    unfold oneP
    omega

theorem alone_c (op : Int) (a b : Int) (name : ByteArray) (A : Option Addr) (n c : Nat) (w : World) : Calls Try.prog 39 #[.agg #[.int .i64 op, .int .i64 a, .int .i64 b, .string name, .slice A n c]] w fun e w' => e = .returned (.bool (oneF op a b name.size n)) ∧ Below w.heap.size w w' := by
  by_cases g1 : op = 1
  · subst g1; exact alone_1 a b name A n c w
  by_cases g2 : op = 2
  · subst g2; exact alone_2 a b name A n c w
  by_cases g3 : op = 3
  · subst g3; exact alone_3 a b name A n c w
  by_cases g4 : op = 4
  · subst g4; exact alone_4 a b name A n c w
  by_cases g5 : op = 5
  · subst g5; exact alone_5 a b name A n c w
  by_cases g6 : op = 6
  · subst g6; exact alone_6 a b name A n c w
  by_cases g7 : op = 7
  · subst g7; exact alone_7 a b name A n c w
  by_cases g8 : op = 8
  · subst g8; exact alone_8 a b name A n c w
  exact alone_no op a b name A n c w (by rw [beq_eq_false_iff_ne]; exact g1) (by rw [beq_eq_false_iff_ne]; exact g2) (by rw [beq_eq_false_iff_ne]; exact g3) (by rw [beq_eq_false_iff_ne]; exact g4) (by rw [beq_eq_false_iff_ne]; exact g5) (by rw [beq_eq_false_iff_ne]; exact g6) (by rw [beq_eq_false_iff_ne]; exact g7) (by rw [beq_eq_false_iff_ne]; exact g8)
end Go.Proofs.Ytadidldkphimfaa
