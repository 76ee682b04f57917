/- Contracts of count.Hold and its reference (and Up, where it is there). -/
import Derived.Test.YtmkjfpmailihjaaRows
import Derived.Test.YtmkjfpmailihjaaWords
import Derived.WalkLawsBesides
import Derived.WalkSpells
namespace Go.Proofs.Ytmkjfpmailihjaa
set_option linter.unusedVariables false
open Go.RowKit

def hold (n : Int) : Int := if n < 0 then 0 else if 1099511627776 < n then 1099511627776 else n
def up (a b : Int) : Int := hold (hold a + hold b)
theorem hold_lo (n : Int) : 0 ≤ hold n := by unfold hold; split <;> (try split) <;> omega
theorem hold_hi (n : Int) : hold n ≤ 1099511627776 := by unfold hold; split <;> (try split) <;> omega
theorem hold_id (n : Int) (h0 : 0 ≤ n) (h1 : n ≤ 1099511627776) : hold n = n := by unfold hold; rw [if_neg (by omega), if_neg (by omega)]
theorem hold_hold (n : Int) : hold (hold n) = hold n := hold_id _ (hold_lo n) (hold_hi n)
theorem up_lo (a b : Int) : 0 ≤ up a b := hold_lo _
theorem up_hi (a b : Int) : up a b ≤ 1099511627776 := hold_hi _
theorem up_min (a b : Int) : up a b = min (hold a + hold b) 1099511627776 := by
  have := hold_lo a; have := hold_lo b
  unfold up; rw [hold.eq_1 (hold a + hold b)]; split <;> (try split) <;> omega
theorem ret_int {k : IntKind} {a b : Int} (h : a = b) : Ending.returned (.int k a) = .returned (.int k b) := by rw [h]
theorem ret_bool {a b : Bool} (h : a = b) : Ending.returned (.bool a) = .returned (.bool b) := by rw [h]
theorem take_succ_map {α : Type} (zs : List α) (k : Nat) (x : α) (h : zs[k]? = some x) : zs.take (k + 1) = zs.take k ++ [x] := by
  rw [List.take_add_one, h]; rfl

theorem Hold_c (n : Int) (w : World) : Calls Try.prog 25 #[.int .i64 n] w fun e w' => e = .returned (.int .i64 (hold n)) ∧ w = w' := by
  go_enter Try.func25, Try.ntmps25
  go_wp2
  all_goals
    go_ret
    refine ⟨ret_int ?_, rfl⟩
    unfold hold
    repeat' split
    all_goals omega
theorem rHold_c (n : Int) (w : World) : Calls Try.prog 38 #[.int .i64 n] w fun e w' => e = .returned (.int .i64 (hold n)) ∧ w = w' := by
  go_enter Try.func38, Try.ntmps38
  go_wp2
  all_goals
    go_ret
    refine ⟨ret_int ?_, rfl⟩
    unfold hold
    repeat' split
    all_goals omega
theorem Up_c (a b : Int) (w : World) : Calls Try.prog 30 #[.int .i64 a, .int .i64 b] w fun e w' => e = .returned (.int .i64 (up a b)) ∧ w = w' := by
  have := hold_lo a; have := hold_lo b; have := hold_hi a; have := hold_hi b
  go_enter Try.func30, Try.ntmps30
  go_wp2_with (go_at_call 25; refine (Hold_c _ _).mono ?_; rintro e w' ⟨rfl, rfl⟩)
  go_ret
  exact ⟨rfl, rfl⟩
theorem rUp_c (a b : Int) (w : World) : Calls Try.prog 31 #[.int .i64 a, .int .i64 b] w fun e w' => e = .returned (.int .i64 (up a b)) ∧ w = w' := by
  have := hold_lo a; have := hold_lo b; have := hold_hi a; have := hold_hi b
  go_enter Try.func31, Try.ntmps31
  go_wp2_with (go_at_call 38; refine (rHold_c _ _).mono ?_; rintro e w' ⟨rfl, rfl⟩)
  all_goals
    go_ret
    exact ⟨ret_int (by rw [up_min]; omega), rfl⟩
end Go.Proofs.Ytmkjfpmailihjaa
