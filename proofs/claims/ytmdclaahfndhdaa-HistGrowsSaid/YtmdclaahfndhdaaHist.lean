/- Contracts of the package hist and of its reference. -/
import Derived.Test.YtmdclaahfndhdaaHistP
import Derived.Test.YtmdclaahfndhdaaArgs
import Derived.BigQuiet
import Derived.Outline
import Derived.Deep.DeepMust
namespace Go.Proofs.Ytmdclaahfndhdaa
set_option linter.unusedVariables false
open Go.RowKit

theorem ret_n {k : IntKind} {a b : Int} (h : a = b) : Ending.returned (.int k a) = .returned (.int k b) := by rw [h]
theorem ret_bb {a b : Bool} (h : a = b) : Ending.returned (.bool a) = .returned (.bool b) := by rw [h]
theorem idx9 (f : Nat → Int) (k : Nat) (hk : k < 9) (w : World) : (Instr.index 60 (.agg #[.int .i64 (f 0), .int .i64 (f 1), .int .i64 (f 2), .int .i64 (f 3), .int .i64 (f 4), .int .i64 (f 5), .int .i64 (f 6), .int .i64 (f 7), .int .i64 (f 8)]) (.int .i64 (k : Int))).run Try.prog w = .ok (.int .i64 (f k)) w := by
  rcases (by omega : k = 0 ∨ k = 1 ∨ k = 2 ∨ k = 3 ∨ k = 4 ∨ k = 5 ∨ k = 6 ∨ k = 7 ∨ k = 8) with rfl | rfl | rfl | rfl | rfl | rfl | rfl | rfl | rfl
  all_goals kernel_rfl
theorem cell10 (f : Nat → Int) (s : Int) (k : Nat) (hk : k < 9) (w : World) : (w.alloc (.cells #[.int .i64 (f 0), .int .i64 (f 1), .int .i64 (f 2), .int .i64 (f 3), .int .i64 (f 4), .int .i64 (f 5), .int .i64 (f 6), .int .i64 (f 7), .int .i64 (f 8), .int .i64 s] 62)).cell? ⟨w.heap.size, k, none⟩ = some (.int .i64 (f k)) := by
  rw [(Blk.new w 62 _).cell k]
  rcases (by omega : k = 0 ∨ k = 1 ∨ k = 2 ∨ k = 3 ∨ k = 4 ∨ k = 5 ∨ k = 6 ∨ k = 7 ∨ k = 8) with rfl | rfl | rfl | rfl | rfl | rfl | rfl | rfl | rfl
  all_goals rfl

theorem Bound_c (p : Int) (w : World) : Calls Try.prog 44 #[.int .i64 p] w fun e w' => e = .returned (.int .i64 (boundF p)) ∧ w = w' := by
  by_cases h0 : p < 0
  · go_enter Try.func44, Try.ntmps44
    go_wp2
    go_ret
    exact ⟨ret_n (by unfold boundF; rw [if_pos h0]), rfl⟩
  · by_cases h8 : 8 ≤ p
    · go_enter Try.func44, Try.ntmps44
      go_wp2
      go_ret
      exact ⟨ret_n (by unfold boundF; rw [if_neg (by omega), if_pos h8]), rfl⟩
    · rcases (by omega : p = 0 ∨ p = 1 ∨ p = 2 ∨ p = 3 ∨ p = 4 ∨ p = 5 ∨ p = 6 ∨ p = 7) with rfl | rfl | rfl | rfl | rfl | rfl | rfl | rfl
      all_goals
        go_enter Try.func44, Try.ntmps44
        go_wp2
        go_ret
        exact ⟨rfl, rfl⟩

set_option maxHeartbeats 2000000 in
theorem rBound_c (p : Int) (w : World) : Calls Try.prog 45 #[.int .i64 p] w fun e w' => e = .returned (.int .i64 (boundF p)) ∧ Below w.heap.size w w' := by
  by_cases h0 : p < 0
  · go_enter Try.func45, Try.ntmps45
    go_wp2
    go_ret
    exact ⟨ret_n (by unfold boundF; rw [if_pos h0]), (Below.refl _ _).alloc (Nat.le_refl _) _⟩
  · by_cases h8 : 8 ≤ p
    · go_enter Try.func45, Try.ntmps45
      go_wp2
      go_ret
      exact ⟨ret_n (by unfold boundF; rw [if_neg (by omega), if_pos h8]), (Below.refl _ _).alloc (Nat.le_refl _) _⟩
    · rcases (by omega : p = 0 ∨ p = 1 ∨ p = 2 ∨ p = 3 ∨ p = 4 ∨ p = 5 ∨ p = 6 ∨ p = 7) with rfl | rfl | rfl | rfl | rfl | rfl | rfl | rfl
      all_goals
        go_enter Try.func45, Try.ntmps45
        go_wp2
        go_ret
        exact ⟨rfl, (Below.refl _ _).alloc (Nat.le_refl _) _⟩

theorem Place_h (n : Int) (w : World) : Calls Try.prog 46 #[.int .i64 n] w fun e w' => e = .returned (.int .i64 (placeF n)) ∧ w = w' := by
  go_enter Try.func46, Try.ntmps46
  go_wp2
  go_loop [4] (fun i => ∃ k : Nat, k ≤ 8 ∧ i = .int .i64 k ∧ Hid (∀ j : Nat, j < k → boundF j < n)) (fun i => 8 - (intOf i).toNat)
  case atStart => exact ⟨0, Nat.zero_le _, rfl, fun j hj => by omega⟩
  case round =>
    obtain ⟨k, hk, rfl, H0⟩ := hrel
    by_cases hlt : k < 8
    · by_cases hb : n ≤ boundF k
      · go_wp2_with (go_at_call 44; refine (Bound_c _ _).mono ?_; rintro e w' ⟨rfl, rfl⟩)
        go_ret
        exact ⟨ret_n (by rw [placeF_hit n k hlt H0.out hb]), rfl⟩
      · go_wp2_with (go_at_call 44; refine (Bound_c _ _).mono ?_; rintro e w' ⟨rfl, rfl⟩)
        go_round
        case rel =>
          refine ⟨k + 1, by omega, by go_num, fun j hj => ?_⟩
          rcases Nat.lt_or_ge j k with h | h
          · exact H0.out j h
          · obtain rfl : j = k := by omega
            omega
        case measure => simp [intOf]; omega
    · obtain rfl : k = 8 := by omega
      go_wp2
      go_ret
      exact ⟨ret_n (by rw [placeF_none n H0.out]; rfl), rfl⟩

theorem rPlace_h (n : Int) (w : World) : Calls Try.prog 47 #[.int .i64 n] w fun e w' => e = .returned (.int .i64 (placeF n)) ∧ Below w.heap.size w w' := by
  go_enter Try.func47, Try.ntmps47
  go_wp2
  go_loopw [3] (fun i wr => ∃ k : Nat, k ≤ 8 ∧ i = .int .i64 k ∧ Hid (∀ j : Nat, j < k → boundF j < n) ∧ Below w.heap.size w wr) (fun i _ => 8 - (intOf i).toNat)
  case atStart => exact ⟨0, Nat.zero_le _, rfl, fun j hj => by omega, Below.refl _ _⟩
  case round =>
    obtain ⟨k, hk, rfl, H0, hbr⟩ := hrel
    by_cases hlt : k < 8
    · by_cases hb : n ≤ boundF k
      · go_wp2_with (go_at_call 45; refine (rBound_c _ _).mono ?_; rintro e w1 ⟨rfl, hb1⟩)
        go_ret
        exact ⟨ret_n (by rw [placeF_hit n k hlt H0.out hb]), hbr.trans (hb1.mono hbr.size)⟩
      · go_wp2_with (go_at_call 45; refine (rBound_c _ _).mono ?_; rintro e w1 ⟨rfl, hb1⟩)
        go_roundw
        case rel =>
          refine ⟨k + 1, by omega, by go_num, fun j hj => ?_, hbr.trans (hb1.mono hbr.size)⟩
          rcases Nat.lt_or_ge j k with h | h
          · exact H0.out j h
          · obtain rfl : j = k := by omega
            omega
        case measure => simp [intOf]; omega
    · obtain rfl : k = 8 := by omega
      go_wp2
      go_ret
      exact ⟨ret_n (by rw [placeF_none n H0.out]; rfl), hbr⟩

theorem rightF_no {f : Nat → Int} {s : Int} {k : Nat} (hk : k < 9) (h : ¬ f k = hold (f k)) : rightF f s = false := by
  cases hr : rightF f s
  · rfl
  · exact absurd (((rightF_iff f s).1 hr).1 k hk) h
theorem rightF_yes {f : Nat → Int} {s : Int} (h : ∀ j, j < 9 → f j = hold (f j)) : rightF f s = (s == hold s) := by
  rw [Bool.eq_iff_iff, rightF_iff, beq_iff_eq]
  exact ⟨fun h' => h'.2, fun h' => ⟨h, h'⟩⟩

theorem Right_h (f : Nat → Int) (s : Int) (w : World) : Calls Try.prog 48 #[.agg #[.int .i64 (f 0), .int .i64 (f 1), .int .i64 (f 2), .int .i64 (f 3), .int .i64 (f 4), .int .i64 (f 5), .int .i64 (f 6), .int .i64 (f 7), .int .i64 (f 8), .int .i64 s]] w fun e w' => e = .returned (.bool (rightF f s)) ∧ Below w.heap.size w w' := by
  have HI := fun k hk W => Lib.hid (idx9 f k hk W)
  go_enter Try.func48, Try.ntmps48
  go_wp2
  go_loop [7] (fun i => ∃ k : Nat, k ≤ 9 ∧ i = .int .i64 k ∧ Hid (∀ j : Nat, j < k → f j = hold (f j))) (fun i => 9 - (intOf i).toNat)
  case atStart => exact ⟨0, Nat.zero_le _, rfl, fun j hj => by omega⟩
  case round =>
    obtain ⟨k, hk, rfl, H0⟩ := hrel
    by_cases hlt : k < 9
    · have hidx := fun W => (HI k hlt W).out
      by_cases hb : f k = hold (f k)
      · have hbb : (f k != hold (f k)) = false := by rw [bne_eq_false_iff_eq]; exact hb
        have HB := Lib.hid hb; clear hb
        go_wp2_with (go_at_call 17; refine (Hold_c _ _).mono ?_; rintro e w' ⟨rfl, rfl⟩)
        go_round
        case rel =>
          refine ⟨k + 1, by omega, by go_num, fun j hj => ?_⟩
          rcases Nat.lt_or_ge j k with h | h
          · exact H0.out j h
          · obtain rfl : j = k := by omega
            exact HB.out
        case measure => simp [intOf]; omega
      · have hbb : (f k != hold (f k)) = true := by rw [bne_iff_ne]; exact hb
        have HB := Lib.hid hb; clear hb
        go_wp2_with (go_at_call 17; refine (Hold_c _ _).mono ?_; rintro e w' ⟨rfl, rfl⟩)
        go_ret
        exact ⟨ret_bb (rightF_no hlt HB.out).symm, (Below.refl _ _).alloc (Nat.le_refl _) _⟩
    · obtain rfl : k = 9 := by omega
      go_wp2
      go_quiet ((go_at_call 17; exact quiet_left (Hold_c _ _)))
      go_wp2
      go_ret
      exact ⟨ret_bb (rightF_yes H0.out).symm, below_drewN ((Below.refl _ _).alloc (Nat.le_refl _) _) _⟩

theorem rRight_h (f : Nat → Int) (s : Int) (w : World) : Calls Try.prog 49 #[.agg #[.int .i64 (f 0), .int .i64 (f 1), .int .i64 (f 2), .int .i64 (f 3), .int .i64 (f 4), .int .i64 (f 5), .int .i64 (f 6), .int .i64 (f 7), .int .i64 (f 8), .int .i64 s]] w fun e w' => e = .returned (.bool (rightF f s)) ∧ Below w.heap.size w w' := by
  go_enter Try.func49, Try.ntmps49
  go_wp2
  go_loopw [3] (fun i wr => ∃ k m : Nat, k ≤ 9 ∧ i = .int .i64 k ∧ Hid (∀ j : Nat, j < k → f j = hold (f j)) ∧ wr = (w.alloc (.cells #[.int .i64 (f 0), .int .i64 (f 1), .int .i64 (f 2), .int .i64 (f 3), .int .i64 (f 4), .int .i64 (f 5), .int .i64 (f 6), .int .i64 (f 7), .int .i64 (f 8), .int .i64 s] 62)).drewN m) (fun i _ => 9 - (intOf i).toNat)
  case atStart => exact ⟨0, 0, Nat.zero_le _, rfl, fun j hj => by omega, rfl⟩
  case round =>
    obtain ⟨k, m, hk, rfl, H0, rfl⟩ := hrel
    by_cases hlt : k < 9
    · have hcell := cell10 f s k hlt w
      by_cases hb : f k = hold (f k)
      · have hbb : (f k != hold (f k)) = false := by rw [bne_eq_false_iff_eq]; exact hb
        have HB := Lib.hid hb; clear hb
        go_wp2
        go_quiet ((go_at_call 18; exact quiet_add_left (rHold_c _ _)))
        go_wp2
        go_roundw
        case rel =>
          refine ⟨k + 1, _, by omega, by go_num, fun j hj => ?_, rfl⟩
          rcases Nat.lt_or_ge j k with h | h
          · exact H0.out j h
          · obtain rfl : j = k := by omega
            exact HB.out
        case measure => simp [intOf]; omega
      · have hbb : (f k != hold (f k)) = true := by rw [bne_iff_ne]; exact hb
        have HB := Lib.hid hb; clear hb
        go_wp2
        go_quiet ((go_at_call 18; exact quiet_add_left (rHold_c _ _)))
        go_wp2
        go_ret
        exact ⟨ret_bb (rightF_no hlt HB.out).symm, below_drewN (below_drewN ((Below.refl _ _).alloc (Nat.le_refl _) _) _) _⟩
    · obtain rfl : k = 9 := by omega
      go_wp2
      go_quiet ((go_at_call 18; exact quiet_add_left (rHold_c _ _)))
      go_wp2
      go_ret
      exact ⟨ret_bb (rightF_yes H0.out).symm, below_drewN (below_drewN ((Below.refl _ _).alloc (Nat.le_refl _) _) _) _⟩
end Go.Proofs.Ytmdclaahfndhdaa
