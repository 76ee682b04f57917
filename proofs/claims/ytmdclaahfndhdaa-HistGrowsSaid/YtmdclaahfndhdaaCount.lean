/- Contracts of the package count and of its reference: Hold, Up, Down, Total. -/
import Derived.Test.YtmdclaahfndhdaaRows
import Derived.Test.YtmdclaahfndhdaaWords
import Derived.WalkLawsBesides
import Derived.WalkSpells
namespace Go.Proofs.Ytmdclaahfndhdaa
set_option linter.unusedVariables false
open Go.RowKit

def hold (n : Int) : Int := if n < 0 then 0 else if 1099511627776 < n then 1099511627776 else n
def up (a b : Int) : Int := hold (hold a + hold b)
def down (a b : Int) : Int := hold (hold a - hold b)
def total (l : List Int) : Int := l.foldl up 0

theorem hold_lo (n : Int) : 0 ≤ hold n := by unfold hold; split <;> (try split) <;> omega
theorem hold_hi (n : Int) : hold n ≤ 1099511627776 := by unfold hold; split <;> (try split) <;> omega
theorem hold_id (n : Int) (h0 : 0 ≤ n) (h1 : n ≤ 1099511627776) : hold n = n := by unfold hold; rw [if_neg (by omega), if_neg (by omega)]
theorem hold_hold (n : Int) : hold (hold n) = hold n := hold_id _ (hold_lo n) (hold_hi n)
theorem up_lo (a b : Int) : 0 ≤ up a b := hold_lo _
theorem up_hi (a b : Int) : up a b ≤ 1099511627776 := hold_hi _
theorem up_comm (a b : Int) : up a b = up b a := by unfold up; rw [Int.add_comm]
theorem up_min (a b : Int) : up a b = min (hold a + hold b) 1099511627776 := by
  have := hold_lo a; have := hold_lo b
  unfold up; rw [hold.eq_1 (hold a + hold b)]; split <;> (try split) <;> omega
theorem hold_up (a b : Int) : hold (up a b) = up a b := hold_hold _
theorem up_assoc (a b c : Int) : up (up a b) c = up a (up b c) := by
  have := hold_lo a; have := hold_lo b; have := hold_lo c
  rw [up_min (up a b) c, up_min a (up b c), hold_up, hold_up, up_min, up_min]; omega
theorem down_lo (a b : Int) : 0 ≤ down a b := hold_lo _
theorem down_hi (a b : Int) : down a b ≤ 1099511627776 := hold_hi _
theorem down_eq (a b : Int) : down a b = if hold a < hold b then 0 else hold a - hold b := by
  have := hold_lo a; have := hold_lo b; have := hold_hi a; have := hold_hi b
  unfold down; rw [hold.eq_1 (hold a - hold b)]; split <;> (try split) <;> (try split) <;> omega
theorem total_snoc (l : List Int) (n : Int) : total (l ++ [n]) = up (total l) n := by simp [total]
theorem total_lo (l : List Int) : 0 ≤ total l := by
  rcases List.eq_nil_or_concat l with rfl | ⟨t, x, rfl⟩
  · exact Int.le_refl 0
  · rw [List.concat_eq_append, total_snoc]; exact up_lo _ _
theorem total_hi (l : List Int) : total l ≤ 1099511627776 := by
  rcases List.eq_nil_or_concat l with rfl | ⟨t, x, rfl⟩
  · decide
  · rw [List.concat_eq_append, total_snoc]; exact up_hi _ _

theorem up_down_lt (a b : Int) (h : hold a < hold b) : up (down a b) b = hold b := by
  have := hold_hi b; have := hold_lo b
  have e : hold (down a b) = down a b := hold_hold _
  rw [up_min, e, down_eq, if_pos h, Int.min_def]; split <;> omega
theorem up_down_ge (a b : Int) (h : ¬ hold a < hold b) : up (down a b) b = hold a := by
  have := hold_hi a; have := hold_lo b
  have e : hold (down a b) = down a b := hold_hold _
  rw [up_min, e, down_eq, if_neg h, Int.min_def]; split <;> omega
theorem hold_total (l : List Int) : hold (total l) = total l := hold_id _ (total_lo l) (total_hi l)
theorem up_zero (a : Int) : up a 0 = hold a := by
  have h0 : hold 0 = 0 := by decide
  unfold up; rw [h0, Int.add_zero, hold_hold]
theorem up_hold (a b : Int) : up (hold a) b = up a b := by unfold up; rw [hold_hold]
theorem list_rev_ind {P : List Int → Prop} (h0 : P []) (h1 : ∀ l x, P l → P (l ++ [x])) (l : List Int) : P l := by
  have h : ∀ m : List Int, P m.reverse := fun m => by
    induction m with
    | nil => exact h0
    | cons x m ih => rw [List.reverse_cons]; exact h1 _ _ ih
  have := h l.reverse
  rwa [List.reverse_reverse] at this
theorem total_append (x y : List Int) : total (x ++ y) = up (total x) (total y) := by
  refine list_rev_ind (P := fun y => total (x ++ y) = up (total x) (total y)) ?_ ?_ y
  · have h0 : total [] = 0 := rfl
    rw [List.append_nil, h0, up_zero, hold_total]
  · intro l n ih
    rw [← List.append_assoc, total_snoc, ih, total_snoc, up_assoc]
theorem total_reverse (l : List Int) : total l.reverse = total l := by
  induction l with
  | nil => rfl
  | cons n l ih =>
    have h1 : total [n] = hold n := by show up 0 n = _; rw [up_comm, up_zero]
    rw [List.reverse_cons, total_snoc, ih, ← List.singleton_append, total_append, h1, up_comm, up_hold]

theorem take_succ_map (zs : List Int) (k : Nat) (x : Int) (h : zs[k]? = some x) : zs.take (k + 1) = zs.take k ++ [x] := by
  rw [List.take_add_one, h]; rfl

theorem ret_int {k : IntKind} {a b : Int} (h : a = b) : Ending.returned (.int k a) = .returned (.int k b) := by rw [h]
theorem ret_bool {a b : Bool} (h : a = b) : Ending.returned (.bool a) = .returned (.bool b) := by rw [h]

theorem Hold_c (n : Int) (w : World) : Calls Try.prog 17 #[.int .i64 n] w fun e w' => e = .returned (.int .i64 (hold n)) ∧ w = w' := by
  go_enter Try.func17, Try.ntmps17
  go_wp2
  all_goals
    go_ret
    refine ⟨ret_int ?_, rfl⟩
    unfold hold
    repeat' split
    all_goals omega

theorem Up_c (a b : Int) (w : World) : Calls Try.prog 19 #[.int .i64 a, .int .i64 b] w fun e w' => e = .returned (.int .i64 (up a b)) ∧ w = w' := by
  have := hold_lo a; have := hold_lo b; have := hold_hi a; have := hold_hi b
  go_enter Try.func19, Try.ntmps19
  go_wp2_with (go_at_call 17; refine (Hold_c _ _).mono ?_; rintro e w' ⟨rfl, rfl⟩)
  go_ret
  exact ⟨rfl, rfl⟩

theorem Down_c (a b : Int) (w : World) : Calls Try.prog 20 #[.int .i64 a, .int .i64 b] w fun e w' => e = .returned (.int .i64 (down a b)) ∧ w = w' := by
  have := hold_lo a; have := hold_lo b; have := hold_hi a; have := hold_hi b
  go_enter Try.func20, Try.ntmps20
  go_wp2_with (go_at_call 17; refine (Hold_c _ _).mono ?_; rintro e w' ⟨rfl, rfl⟩)
  go_ret
  exact ⟨rfl, rfl⟩

theorem rHold_c (n : Int) (w : World) : Calls Try.prog 18 #[.int .i64 n] w fun e w' => e = .returned (.int .i64 (hold n)) ∧ w = w' := by
  go_enter Try.func18, Try.ntmps18
  go_wp2
  all_goals
    go_ret
    refine ⟨ret_int ?_, rfl⟩
    unfold hold
    repeat' split
    all_goals omega

theorem rUp_c (a b : Int) (w : World) : Calls Try.prog 16 #[.int .i64 a, .int .i64 b] w fun e w' => e = .returned (.int .i64 (up a b)) ∧ w = w' := by
  have := hold_lo a; have := hold_lo b; have := hold_hi a; have := hold_hi b
  go_enter Try.func16, Try.ntmps16
  go_wp2_with (go_at_call 18; refine (rHold_c _ _).mono ?_; rintro e w' ⟨rfl, rfl⟩)
  all_goals
    go_ret
    exact ⟨ret_int (by rw [up_min]; omega), rfl⟩

theorem rDown_c (a b : Int) (w : World) : Calls Try.prog 21 #[.int .i64 a, .int .i64 b] w fun e w' => e = .returned (.int .i64 (down a b)) ∧ w = w' := by
  have := hold_lo a; have := hold_lo b; have := hold_hi a; have := hold_hi b
  go_enter Try.func21, Try.ntmps21
  go_wp2_with (go_at_call 18; refine (rHold_c _ _).mono ?_; rintro e w' ⟨rfl, rfl⟩)
  all_goals
    go_ret
    exact ⟨ret_int (by rw [down_eq]; split <;> omega), rfl⟩

theorem Total_c (A : Option Addr) (n c B : Nat) (zs : List Int) (w : World) (hr : Reads w B 1 A n (zs.map (Value.int .i64))) (hn : n ≤ 9223372036854775807) :
    Calls Try.prog 22 #[.slice A n c] w fun e w' => e = .returned (.int .i64 (total zs)) ∧ w = w' := by
  have hl : zs.length = n := by simpa using hr.1
  have HL := Lib.hid hl; clear hl
  go_enter Try.func22, Try.ntmps22
  go_wp2
  go_loop [3, 8] (fun s i => ∃ k : Nat, k ≤ n ∧ i = .int .i64 k ∧ s = .int .i64 (total (zs.take k))) (fun _ i => n - (intOf i).toNat)
  case atStart => exact ⟨0, Nat.zero_le _, rfl, rfl⟩
  case round =>
    obtain ⟨k, hk, rfl, rfl⟩ := hrel
    by_cases hlt : k < n
    · obtain ⟨ad, u, rfl, hb, hx, hc⟩ := hr.at_ hlt
      obtain ⟨x, hx', rfl⟩ : ∃ x, zs[k]? = some x ∧ Value.int .i64 x = u := by simpa using hx
      have HX := Lib.hid (take_succ_map zs k x hx')
      clear hx hx' hr
      go_wp2_with (go_at_call 19; refine (Up_c _ _ _).mono ?_; rintro e w' ⟨rfl, rfl⟩)
      go_round
      case rel => exact ⟨k + 1, by omega, by go_num, by rw [HX.out, total_snoc]⟩
      case measure => simp [intOf]; omega
    · go_wp2
      go_ret
      exact ⟨ret_int (by rw [List.take_of_length_le (by rw [HL.out]; omega)]), rfl⟩
end Go.Proofs.Ytmdclaahfndhdaa
