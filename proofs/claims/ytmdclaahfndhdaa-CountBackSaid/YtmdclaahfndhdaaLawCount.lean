/- The walks of the three laws of layer 1 (count). -/
import Derived.Test.YtmdclaahfndhdaaCount
import Derived.Test.YtmdclaahfndhdaaArgs
import Derived.BigQuiet
namespace Go.Proofs.Ytmdclaahfndhdaa
open Go.RowKit

theorem Count_awake (w : World) : Calls Try.prog 15 #[] w fun e w' => e = .returned (.bool true) ∧ Below w.heap.size w w' := by
  have hr : Reads (w.alloc (.cells #[.int .i64 1, .int .i64 2, .int .i64 3] 2)) (w.heap.size + 1) 1 (some ⟨w.heap.size, 0, none⟩) 3 ([1, 2, 3].map (Value.int .i64)) :=
    Reads.of_blk (Blk.new w 2 #[.int .i64 1, .int .i64 2, .int .i64 3]) 3 _ rfl rfl
  have HR := Lib.hid hr; clear hr
  have h1 : hold 7 = 7 := by decide
  have h2 : up 1099511627776 5 = 1099511627776 := by decide
  have h3 : down 9 5 = 4 := by decide
  have h4 : total [1, 2, 3] = 6 := by decide
  go_enter Try.func15, Try.ntmps15
  go_wp2_with (first | (go_at_call 17; refine (Hold_c _ _).mono ?_; rintro e w' ⟨rfl, rfl⟩) | (go_at_call 19; refine (Up_c _ _ _).mono ?_; rintro e w' ⟨rfl, rfl⟩) | (go_at_call 20; refine (Down_c _ _ _).mono ?_; rintro e w' ⟨rfl, rfl⟩) | (go_at_call 22; refine (Total_c _ _ _ _ [1, 2, 3] _ HR.out (by omega)).mono ?_; rintro e w' ⟨rfl, rfl⟩))
  go_ret
  exact ⟨rfl, (Below.refl _ _).alloc (Nat.le_refl _) _⟩

theorem CountRight_walk (a b : Int) (A : Option Addr) (n c : Nat) (zs : List Int) (w : World) (hz : IntArg .i64 w A n c zs) :
    Calls Try.prog 3 #[.int .i64 a, .int .i64 b, .slice A n c] w fun e w' => e = .returned (.bool true) ∧ Below w.heap.size w w' := by
  obtain ⟨hr, hnc, hcm, _, _⟩ := hz
  unfold maxLen at hcm
  have hl : zs.length = n := by simpa using hr.1
  have HL := Lib.hid hl; clear hl
  by_cases h300 : n ≤ 300
  · go_enter Try.func3, Try.ntmps3
    go_wp2_with (go_at_call 15; refine (Count_awake _).mono ?_; rintro e w1 ⟨rfl, hb1⟩)
    have hr1 := hr.below hb1
    clear hr
    go_loop [7, 8] (fun s i => ∃ k : Nat, k ≤ n ∧ i = .int .i64 k ∧ s = .int .i64 (total (zs.take k))) (fun _ i => n - (intOf i).toNat)
    case atStart => exact ⟨0, Nat.zero_le _, rfl, rfl⟩
    case round =>
      obtain ⟨k, hk, rfl, rfl⟩ := hrel
      by_cases hlt : k < n
      · obtain ⟨ad, u, rfl, hb, hx, hc⟩ := hr1.at_ hlt
        obtain ⟨x, hx', rfl⟩ : ∃ x, zs[k]? = some x ∧ Value.int .i64 x = u := by simpa using hx
        have HX := Lib.hid (take_succ_map zs k x hx')
        clear hx hx' hr1
        go_wp2_with (go_at_call 16; refine (rUp_c _ _ _).mono ?_; rintro e w' ⟨rfl, rfl⟩)
        go_round
        case rel => exact ⟨k + 1, by omega, by go_num, by rw [HX.out, total_snoc]⟩
        case measure => simp [intOf]; omega
      · have HT := Lib.hid (List.take_of_length_le (l := zs) (i := k) (by rw [HL.out]; omega))
        rw [HT.out]
        have HR := Lib.hid hr1; clear hr1
        go_wp2_with (first | (go_at_call 17; refine (Hold_c _ _).mono ?_; rintro e w' ⟨rfl, rfl⟩) | (go_at_call 18; refine (rHold_c _ _).mono ?_; rintro e w' ⟨rfl, rfl⟩) | (go_at_call 19; refine (Up_c _ _ _).mono ?_; rintro e w' ⟨rfl, rfl⟩) | (go_at_call 16; refine (rUp_c _ _ _).mono ?_; rintro e w' ⟨rfl, rfl⟩) | (go_at_call 20; refine (Down_c _ _ _).mono ?_; rintro e w' ⟨rfl, rfl⟩) | (go_at_call 21; refine (rDown_c _ _ _).mono ?_; rintro e w' ⟨rfl, rfl⟩) | (go_at_call 22; refine (Total_c _ _ _ _ zs _ HR.out (by omega)).mono ?_; rintro e w' ⟨rfl, rfl⟩))
        go_ret
        exact ⟨rfl, hb1⟩
  · go_enter Try.func3, Try.ntmps3
    go_wp2_with (go_at_call 15; refine (Count_awake _).mono ?_; rintro e w1 ⟨rfl, hb1⟩)
    go_ret
    exact ⟨rfl, hb1⟩

set_option maxHeartbeats 1000000 in
theorem CountBack_walk (a b : Int) (w : World) : Calls Try.prog 4 #[.int .i64 a, .int .i64 b] w fun e w' => e = .returned (.bool true) ∧ Below w.heap.size w w' := by
  have a1 := hold_lo a; have a2 := hold_hi a; have b1 := hold_lo b; have b2 := hold_hi b
  have u1 := up_lo a b; have u2 := up_hi a b
  have um := up_min a b
  have u3 : hold a ≤ up a b := by omega
  have u4 : hold b ≤ up a b := by omega
  have hh : (hold (hold a) != hold a) = false := by simp [hold_hold]
  have hu : (up a b != up b a) = false := by simp [up_comm]
  have d1 : (down a a == 0) = true := by simp [down_eq]
  have d2 : (down a 0 == hold a) = true := by
    have h0 : hold 0 = 0 := by decide
    simp only [down_eq, h0, beq_iff_eq]; rw [if_neg (by omega)]; omega
  have hd : up a b < 1099511627776 → (down (up a b) b != hold a) = false ∧ (down (up a b) a != hold b) = false := by
    intro hlt
    have g : hold (up a b) = up a b := hold_hold _
    have g1 := down_eq (up a b) b
    have g2 := down_eq (up a b) a
    rw [g, if_neg (by omega)] at g1 g2
    simp only [bne_eq_false_iff_eq]
    omega
  clear um
  by_cases hlt : up a b < 1099511627776
  · obtain ⟨h1, h2⟩ := hd hlt
    clear hd
    by_cases hab : hold a < hold b
    · have e3 : (up (down a b) b == hold b) = true := by rw [up_down_lt a b hab]; simp
      go_enter Try.func4, Try.ntmps4
      go_wp2_with (first | (go_at_call 15; refine (Count_awake _).mono ?_; rintro e w1 ⟨rfl, hb1⟩) | (go_at_call 17; refine (Hold_c _ _).mono ?_; rintro e w' ⟨rfl, rfl⟩) | (go_at_call 19; refine (Up_c _ _ _).mono ?_; rintro e w' ⟨rfl, rfl⟩) | (go_at_call 20; refine (Down_c _ _ _).mono ?_; rintro e w' ⟨rfl, rfl⟩))
      all_goals
        go_ret
        exact ⟨rfl, hb1⟩
    · have e3 : (up (down a b) b == hold a) = true := by rw [up_down_ge a b hab]; simp
      go_enter Try.func4, Try.ntmps4
      go_wp2_with (first | (go_at_call 15; refine (Count_awake _).mono ?_; rintro e w1 ⟨rfl, hb1⟩) | (go_at_call 17; refine (Hold_c _ _).mono ?_; rintro e w' ⟨rfl, rfl⟩) | (go_at_call 19; refine (Up_c _ _ _).mono ?_; rintro e w' ⟨rfl, rfl⟩) | (go_at_call 20; refine (Down_c _ _ _).mono ?_; rintro e w' ⟨rfl, rfl⟩))
      all_goals
        go_ret
        exact ⟨rfl, hb1⟩
  · clear hd
    by_cases hab : hold a < hold b
    · have e3 : (up (down a b) b == hold b) = true := by rw [up_down_lt a b hab]; simp
      go_enter Try.func4, Try.ntmps4
      go_wp2_with (first | (go_at_call 15; refine (Count_awake _).mono ?_; rintro e w1 ⟨rfl, hb1⟩) | (go_at_call 17; refine (Hold_c _ _).mono ?_; rintro e w' ⟨rfl, rfl⟩) | (go_at_call 19; refine (Up_c _ _ _).mono ?_; rintro e w' ⟨rfl, rfl⟩) | (go_at_call 20; refine (Down_c _ _ _).mono ?_; rintro e w' ⟨rfl, rfl⟩))
      all_goals
        go_ret
        exact ⟨rfl, hb1⟩
    · have e3 : (up (down a b) b == hold a) = true := by rw [up_down_ge a b hab]; simp
      go_enter Try.func4, Try.ntmps4
      go_wp2_with (first | (go_at_call 15; refine (Count_awake _).mono ?_; rintro e w1 ⟨rfl, hb1⟩) | (go_at_call 17; refine (Hold_c _ _).mono ?_; rintro e w' ⟨rfl, rfl⟩) | (go_at_call 19; refine (Up_c _ _ _).mono ?_; rintro e w' ⟨rfl, rfl⟩) | (go_at_call 20; refine (Down_c _ _ _).mono ?_; rintro e w' ⟨rfl, rfl⟩))
      all_goals
        go_ret
        exact ⟨rfl, hb1⟩
end Go.Proofs.Ytmdclaahfndhdaa
