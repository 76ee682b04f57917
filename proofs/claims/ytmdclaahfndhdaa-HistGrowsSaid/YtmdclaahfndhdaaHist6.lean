/- Contracts of hist.Least and of its reference. -/
import Derived.Test.YtmdclaahfndhdaaHist5
namespace Go.Proofs.Ytmdclaahfndhdaa
set_option linter.unusedVariables false
open Go.RowKit

theorem leastF_no {f : Nat → Int} {s part : Int} (h : belowF f s 8 = 0 ∨ part < 0 ∨ 1000 < part) : leastF f s part = -1 := by unfold leastF; rw [if_pos h]
theorem leastF_yes {f : Nat → Int} {s part : Int} (h : ¬ (belowF f s 8 = 0 ∨ part < 0 ∨ 1000 < part)) : leastF f s part = firstK (belowF f s) part 9 0 := by unfold leastF; rw [if_neg h]
theorem prod_bd {part b : Int} (h0 : 0 ≤ part) (h1 : part ≤ 1000) (hb0 : 0 ≤ b) (hb1 : b ≤ 9895604649984) : 0 ≤ part * b ∧ part * b ≤ 9895604649984000 := by
  refine ⟨Int.mul_nonneg h0 hb0, ?_⟩
  have h2 : part * b ≤ 1000 * b := Int.mul_le_mul_of_nonneg_right h1 hb0
  omega
def cutK (b : Nat → Int) (part : Int) (k : Nat) : Prop := firstK b part 9 0 = firstK b part (9 - k) k
theorem cutK_step {b : Nat → Int} {part : Int} {k : Nat} (hk : k < 9) (h : cutK b part k) (hn : ¬ leastP b part k) : cutK b part (k + 1) := by
  unfold cutK at h ⊢
  obtain ⟨m, hm⟩ : ∃ m, 9 - k = m + 1 := ⟨8 - k, by omega⟩
  rw [h, hm, firstK_miss _ _ _ _ hn]
  congr 1
  omega
theorem cutK_hit {b : Nat → Int} {part : Int} {k : Nat} (hk : k < 9) (h : cutK b part k) (hn : leastP b part k) : firstK b part 9 0 = k := by
  unfold cutK at h
  obtain ⟨m, hm⟩ : ∃ m, 9 - k = m + 1 := ⟨8 - k, by omega⟩
  rw [h, hm, firstK_hit _ _ _ _ hn]

set_option maxRecDepth 100000 in
set_option maxHeartbeats 4000000 in
theorem Least_h (f : Nat → Int) (s part : Int) (w : World) : Calls Try.prog 54 #[.agg #[.int .i64 (f 0), .int .i64 (f 1), .int .i64 (f 2), .int .i64 (f 3), .int .i64 (f 4), .int .i64 (f 5), .int .i64 (f 6), .int .i64 (f 7), .int .i64 (f 8), .int .i64 s], .int .i64 part] w fun e w' => e = .returned (.int .i64 (leastF f s part)) ∧ Below w.heap.size w w' := by
  have HB := fun W => Lib.hid (Below_h f s W)
  have hb8 := belowF_bd f s 8 (by omega)
  have HBD := Lib.hid (belowF_bd f s)
  have HI := fun k hk W => Lib.hid (idx9 (belowF f s) k hk W)

  by_cases h : belowF f s 8 = 0 ∨ part < 0 ∨ 1000 < part
  · have HL := Lib.hid (leastF_no h)
    by_cases ha : belowF f s 8 = 0
    · have hab : (belowF f s 8 == 0) = true := by rw [ha]; rfl
      clear h ha
      go_enter Try.func54, Try.ntmps54
      go_wp2_with (go_at_call 52; refine ((HB _).out).mono ?_; rintro e w1 ⟨rfl, hb1⟩)
      go_ret
      exact ⟨ret_n HL.out.symm, ((((Below.refl _ _).alloc (Nat.le_refl _) _).trans (hb1.mono (by simp))).alloc (by have := hb1.size; simp at this; omega) _)⟩
    · have hab : (belowF f s 8 == 0) = false := by rw [beq_eq_false_iff_ne]; exact ha
      clear ha
      by_cases hp : part < 0
      · clear h
        go_enter Try.func54, Try.ntmps54
        go_wp2_with (go_at_call 52; refine ((HB _).out).mono ?_; rintro e w1 ⟨rfl, hb1⟩)
        go_ret
        exact ⟨ret_n HL.out.symm, ((((Below.refl _ _).alloc (Nat.le_refl _) _).trans (hb1.mono (by simp))).alloc (by have := hb1.size; simp at this; omega) _)⟩
      · have hp2 : 1000 < part := by
          rcases h with h | h | h
          · rw [h] at hab; cases hab
          · omega
          · exact h
        clear h
        go_enter Try.func54, Try.ntmps54
        go_wp2_with (go_at_call 52; refine ((HB _).out).mono ?_; rintro e w1 ⟨rfl, hb1⟩)
        go_ret
        exact ⟨ret_n HL.out.symm, ((((Below.refl _ _).alloc (Nat.le_refl _) _).trans (hb1.mono (by simp))).alloc (by have := hb1.size; simp at this; omega) _)⟩
  · have HL := Lib.hid (leastF_yes h)
    have hab : (belowF f s 8 == 0) = false := by rw [beq_eq_false_iff_ne]; exact fun e => h (.inl e)
    have hp0 : 0 ≤ part := by omega
    have hp1 : part ≤ 1000 := by omega
    clear h
    obtain ⟨hq0, hq1⟩ := prod_bd hp0 hp1 hb8.1 hb8.2
    go_enter Try.func54, Try.ntmps54
    go_wp2_with (go_at_call 52; refine ((HB _).out).mono ?_; rintro e w1 ⟨rfl, hb1⟩)
    have hbase : Below w.heap.size w (w1.alloc (.cells #[.int .i64 (belowF f s 0), .int .i64 (belowF f s 1), .int .i64 (belowF f s 2), .int .i64 (belowF f s 3), .int .i64 (belowF f s 4), .int .i64 (belowF f s 5), .int .i64 (belowF f s 6), .int .i64 (belowF f s 7), .int .i64 (belowF f s 8)] 60)) := ((((Below.refl _ _).alloc (Nat.le_refl _) _).trans (hb1.mono (by simp))).alloc (by have := hb1.size; simp at this; omega) _)
    clear hb1
    go_loop [24] (fun i => ∃ k : Nat, k ≤ 9 ∧ i = .int .i64 k ∧ Hid (cutK (belowF f s) part k)) (fun i => 9 - (intOf i).toNat)
    case atStart => exact ⟨0, Nat.zero_le _, rfl, rfl⟩
    case round =>
      obtain ⟨k, hk, rfl, H0⟩ := hrel
      by_cases hlt : k < 9
      · have hidx := fun W => (HI k hlt W).out
        have hbk := HBD.out k (by omega)
        by_cases hP : part * belowF f s 8 ≤ 1000 * belowF f s k
        · go_wp2
          go_ret
          exact ⟨ret_n (by rw [HL.out, cutK_hit hlt H0.out hP]), hbase⟩
        · go_wp2
          go_round
          case rel => exact ⟨k + 1, by omega, by go_num, cutK_step hlt H0.out (by unfold leastP; omega)⟩
          case measure => simp [intOf]; omega
      · obtain rfl : k = 9 := by omega
        go_wp2
        go_ret
        exact ⟨ret_n (by rw [HL.out]; exact H0.out.symm), hbase⟩

set_option maxRecDepth 100000 in
set_option maxHeartbeats 4000000 in
theorem rLeast_h (f : Nat → Int) (s part : Int) (w : World) : Calls Try.prog 55 #[.agg #[.int .i64 (f 0), .int .i64 (f 1), .int .i64 (f 2), .int .i64 (f 3), .int .i64 (f 4), .int .i64 (f 5), .int .i64 (f 6), .int .i64 (f 7), .int .i64 (f 8), .int .i64 s], .int .i64 part] w fun e w' => e = .returned (.int .i64 (leastF f s part)) ∧ Below w.heap.size w w' := by
  have HB := fun W => Lib.hid (rBelow_h f s W)
  have hb8 := belowF_bd f s 8 (by omega)
  have HBD := Lib.hid (belowF_bd f s)
  have HI := fun k hk W => Lib.hid (idx9 (belowF f s) k hk W)

  by_cases h : belowF f s 8 = 0 ∨ part < 0 ∨ 1000 < part
  · have HL := Lib.hid (leastF_no h)
    by_cases hp : part < 0
    · clear h
      go_enter Try.func55, Try.ntmps55
      go_wp2_with (go_at_call 53; refine ((HB _).out).mono ?_; rintro e w1 ⟨rfl, hb1⟩)
      go_ret
      exact ⟨ret_n HL.out.symm, ((((Below.refl _ _).alloc (Nat.le_refl _) _).trans (hb1.mono (by simp))).alloc (by have := hb1.size; simp at this; omega) _)⟩
    · by_cases hp1 : 1000 < part
      · clear h
        go_enter Try.func55, Try.ntmps55
        go_wp2_with (go_at_call 53; refine ((HB _).out).mono ?_; rintro e w1 ⟨rfl, hb1⟩)
        go_ret
        exact ⟨ret_n HL.out.symm, ((((Below.refl _ _).alloc (Nat.le_refl _) _).trans (hb1.mono (by simp))).alloc (by have := hb1.size; simp at this; omega) _)⟩
      · have hab : (belowF f s 8 == 0) = true := by
          rcases h with h | h | h
          · rw [h]; rfl
          · omega
          · omega
        clear h
        go_enter Try.func55, Try.ntmps55
        go_wp2_with (go_at_call 53; refine ((HB _).out).mono ?_; rintro e w1 ⟨rfl, hb1⟩)
        go_ret
        exact ⟨ret_n HL.out.symm, ((((Below.refl _ _).alloc (Nat.le_refl _) _).trans (hb1.mono (by simp))).alloc (by have := hb1.size; simp at this; omega) _)⟩
  · have HL := Lib.hid (leastF_yes h)
    have hab : (belowF f s 8 == 0) = false := by rw [beq_eq_false_iff_ne]; exact fun e => h (.inl e)
    have hp0 : 0 ≤ part := by omega
    have hp1 : part ≤ 1000 := by omega
    clear h
    obtain ⟨hq0, hq1⟩ := prod_bd hp0 hp1 hb8.1 hb8.2
    have hP8 : part * belowF f s 8 ≤ 1000 * belowF f s 8 := Int.mul_le_mul_of_nonneg_right hp1 hb8.1
    go_enter Try.func55, Try.ntmps55
    go_wp2_with (go_at_call 53; refine ((HB _).out).mono ?_; rintro e w1 ⟨rfl, hb1⟩)
    have hbase : Below w.heap.size w (w1.alloc (.cells #[.int .i64 (belowF f s 0), .int .i64 (belowF f s 1), .int .i64 (belowF f s 2), .int .i64 (belowF f s 3), .int .i64 (belowF f s 4), .int .i64 (belowF f s 5), .int .i64 (belowF f s 6), .int .i64 (belowF f s 7), .int .i64 (belowF f s 8)] 60)) := ((((Below.refl _ _).alloc (Nat.le_refl _) _).trans (hb1.mono (by simp))).alloc (by have := hb1.size; simp at this; omega) _)
    clear hb1
    go_loopw [6] (fun i wr => ∃ k m : Nat, k ≤ 8 ∧ i = .int .i64 k ∧ Hid (cutK (belowF f s) part k) ∧ wr = (w1.alloc (.cells #[.int .i64 (belowF f s 0), .int .i64 (belowF f s 1), .int .i64 (belowF f s 2), .int .i64 (belowF f s 3), .int .i64 (belowF f s 4), .int .i64 (belowF f s 5), .int .i64 (belowF f s 6), .int .i64 (belowF f s 7), .int .i64 (belowF f s 8)] 60)).drewN m) (fun i _ => 9 - (intOf i).toNat)
    case atStart => exact ⟨0, 0, Nat.zero_le _, rfl, rfl, rfl⟩
    case round =>
      obtain ⟨k, m, hk, rfl, H0, rfl⟩ := hrel
      have hbk := HBD.out k (by omega)
      have hcell : (w1.alloc (.cells #[.int .i64 (belowF f s 0), .int .i64 (belowF f s 1), .int .i64 (belowF f s 2), .int .i64 (belowF f s 3), .int .i64 (belowF f s 4), .int .i64 (belowF f s 5), .int .i64 (belowF f s 6), .int .i64 (belowF f s 7), .int .i64 (belowF f s 8)] 60)).cell? ⟨w1.heap.size, k, none⟩ = some (.int .i64 (belowF f s k)) := ((Blk.new w1 60 (lit9 (belowF f s))).cell k).trans (lit9_get _ k (by omega))
      have hcell8 : (w1.alloc (.cells #[.int .i64 (belowF f s 0), .int .i64 (belowF f s 1), .int .i64 (belowF f s 2), .int .i64 (belowF f s 3), .int .i64 (belowF f s 4), .int .i64 (belowF f s 5), .int .i64 (belowF f s 6), .int .i64 (belowF f s 7), .int .i64 (belowF f s 8)] 60)).cell? ⟨w1.heap.size, 8, none⟩ = some (.int .i64 (belowF f s 8)) := ((Blk.new w1 60 (lit9 (belowF f s))).cell 8).trans (lit9_get _ 8 (by omega))
      have hw1 : IntKind.i64.wrap (belowF f s k * 1000) = belowF f s k * 1000 := IntWalk.i64_in _ (by omega)
      have hw2 : IntKind.i64.wrap (part * belowF f s 8) = part * belowF f s 8 := IntWalk.i64_in _ (by omega)
      have hk9 : k < 9 := by omega
      by_cases hP : part * belowF f s 8 ≤ 1000 * belowF f s k
      · have hPd : decide (belowF f s k * 1000 < part * belowF f s 8) = false := by rw [decide_eq_false_iff_not]; omega
        have HPP := Lib.hid hP
        clear hP hP8
        go_wp2
        go_quiet (fail)
        go_wp2
        go_ret
        exact ⟨ret_n (by rw [HL.out, cutK_hit hk9 H0.out HPP.out]), below_drewN (below_drewN hbase _) _⟩
      · have hPd : decide (belowF f s k * 1000 < part * belowF f s 8) = true := by rw [decide_eq_true_eq]; omega
        have hk8 : k < 8 := by
          rcases Nat.lt_or_ge k 8 with h | h
          · exact h
          · obtain rfl : k = 8 := by omega
            exact absurd hP8 hP
        have HPP := Lib.hid hP
        clear hP hP8
        go_wp2
        go_quiet (fail)
        go_wp2
        go_roundw
        case rel => exact ⟨k + 1, _, by omega, by go_num, cutK_step hk9 H0.out (by have := HPP.out; unfold leastP; omega), rfl⟩
        case measure => simp [intOf]; omega
end Go.Proofs.Ytmdclaahfndhdaa
