/- Contracts of tally's whole, Parts, Of, Turn, Sum and of the reference's Turn. -/
import Derived.Test.YtmkjfpmailihjaaTally
namespace Go.Proofs.Ytmkjfpmailihjaa
set_option linter.unusedVariables false
open Go.RowKit

theorem read_lo : Ieee.double.read 14069245235905429504 = .number true 4503599627370496 1 := by decide
theorem read_hi : Ieee.double.read 4845873199050653696 = .number false 4503599627370496 1 := by decide
theorem signed_far (s : Bool) (u : Nat) : Ieee.signed s 4503599627370496 (1 - -(u : Int)).toNat = sgn s 9007199254740992 * 2 ^ u := by
  have e : 4503599627370496 <<< (1 - -(u : Int)).toNat = 9007199254740992 * 2 ^ u := by
    rw [show (1 - -(u : Int)).toNat = 1 + u from by omega, Nat.shiftLeft_eq, Nat.pow_add, ← Nat.mul_assoc]
  unfold Ieee.signed sgn
  rw [e]
  split
  · rw [Int.neg_mul, Int.natCast_mul, Int.natCast_pow]; rfl
  · rw [Int.natCast_mul, Int.natCast_pow]; rfl
theorem order_lo {b : Nat} {z : Int} (h : Fl b z) : FloatKind.f64.format.order b 14069245235905429504 = some .gt := by
  have hz := h.bound
  obtain ⟨s, m, rfl, hm, rfl⟩ := h
  obtain ⟨u, hu, eu⟩ := read_FW s m hm
  simp only [FloatKind.format, Ieee.Format.order, eu, read_lo, Ieee.Datum.order]
  rw [show min (-(u : Int)) 1 = -(u : Int) from by omega, signed_FW s m u u (Nat.le_refl _), signed_far, compare_mul _ _ _ (pow_pos_int u), Int.compare_eq_gt.2]
  unfold sgn at hz ⊢
  simp only [if_true]
  omega
theorem order_hi {b : Nat} {z : Int} (h : Fl b z) : FloatKind.f64.format.order b 4845873199050653696 = some .lt := by
  have hz := h.bound
  obtain ⟨s, m, rfl, hm, rfl⟩ := h
  obtain ⟨u, hu, eu⟩ := read_FW s m hm
  simp only [FloatKind.format, Ieee.Format.order, eu, read_hi, Ieee.Datum.order]
  rw [show min (-(u : Int)) 1 = -(u : Int) from by omega, signed_FW s m u u (Nat.le_refl _), signed_far, compare_mul _ _ _ (pow_pos_int u), Int.compare_eq_lt.2]
  unfold sgn at hz ⊢
  simp only [Bool.false_eq_true, if_false]
  omega

theorem whole_c {b : Nat} {z : Int} (h : Fl b z) (w : World) : Calls Try.prog 40 #[.float .f64 b] w fun e w' => e = .returned (.int .i64 z) ∧ w = w' := by
  have h1 := order_lo h
  have h2 := order_hi h
  have h3 : FloatKind.f64.format.order b b = some .eq := by rw [h.order h, Int.compare_eq_eq.2 rfl]
  have h4 := fun W => run_convert_float_int (P := Try.prog) W 66 2 .f64 .i64 b z (by kernel_rfl) Try.underlying2 h.toInt
  have H := Lib.hid h
  clear h
  go_enter Try.func40, Try.ntmps40
  go_wp2_with (go_at_call 41; refine (Trunc_c H.out _).mono ?_; rintro e w' ⟨rfl, rfl⟩)
  go_ret
  exact ⟨rfl, rfl⟩
theorem Parts_c {a b : Nat} {x y : Int} (ha : Fl a x) (hb : Fl b y) (w : World) : Calls Try.prog 35 #[.complex .f64 a b] w fun e w' => e = .returned (.tuple #[.int .i64 x, .int .i64 y]) ∧ w = w' := by
  have HA := Lib.hid ha
  have HB := Lib.hid hb
  clear ha hb
  go_enter Try.func35, Try.ntmps35
  go_wp2_with fail
  refine (whole_c HA.out _).mono ?_
  rintro e w' ⟨rfl, rfl⟩
  go_wp2_with fail
  refine (whole_c HB.out _).mono ?_
  rintro e w' ⟨rfl, rfl⟩
  go_wp2
  go_ret2
  exact ⟨rfl, rfl⟩

/-- a complex number of two whole parts. -/
def CV (v : Value) (x y : Int) : Prop := ∃ a b, v = .complex .f64 a b ∧ Fl a x ∧ Fl b y
theorem Of_c (x y : Int) (w : World) : Calls Try.prog 34 #[.int .i64 x, .int .i64 y] w fun e w' => ∃ v, e = .returned v ∧ CV v (hold x) (hold y) ∧ w = w' := by
  have HC := Lib.hid (show CV (.complex .f64 (floatOfInt .f64 (hold x)) (floatOfInt .f64 (hold y))) (hold x) (hold y) from by
    have := hold_lo x; have := hold_hi x; have := hold_lo y; have := hold_hi y
    exact ⟨_, _, rfl, Fl.ofInt _ (by omega) (by omega), Fl.ofInt _ (by omega) (by omega)⟩)
  go_enter Try.func34, Try.ntmps34
  go_wp2_with (go_at_call 25; refine (Hold_c _ _).mono ?_; rintro e w' ⟨rfl, rfl⟩)
  go_ret
  exact ⟨_, rfl, HC.out, rfl⟩

def turnN : Nat → Int × Int → Int × Int
  | 0, p => p
  | n + 1, p => (-(turnN n p).2, (turnN n p).1)
theorem turnN_bound (n : Nat) (p : Int × Int) (M : Int) (h1 : -M ≤ p.1) (h2 : p.1 ≤ M) (h3 : -M ≤ p.2) (h4 : p.2 ≤ M) : -M ≤ (turnN n p).1 ∧ (turnN n p).1 ≤ M ∧ -M ≤ (turnN n p).2 ∧ (turnN n p).2 ≤ M := by
  induction n with
  | zero => exact ⟨h1, h2, h3, h4⟩
  | succ n ih => unfold turnN; simp only; omega
theorem quarter (q : Int) (h1 : -9223372036854775808 ≤ q) (h2 : q ≤ 9223372036854775807) : ∃ (r : Int) (k : Nat), q.tmod 4 = r ∧ -3 ≤ r ∧ r ≤ 3 ∧ k < 4 ∧ (k : Int) = q % 4 ∧ r % 4 = (k : Int) ∧ (r < 0 → r + 4 = (k : Int)) ∧ (0 ≤ r → r = (k : Int)) := by
  have hm : q.tmod 4 = if 0 ≤ q then q % 4 else if q % 4 = 0 then 0 else q % 4 - 4 := by
    by_cases h : 0 ≤ q
    · rw [if_pos h, Int.tmod_eq_emod_of_nonneg h]
    · rw [if_neg h, Int.tmod_eq_emod]
      split <;> split <;> omega
  refine ⟨q.tmod 4, (q % 4).toNat, rfl, ?_⟩
  rw [hm]
  split
  · omega
  · split <;> omega
theorem Turn_c (v : Value) (x y q : Int) (hv : CV v x y) (h1 : -9223372036854775808 ≤ q) (h2 : q ≤ 9223372036854775807) (w : World) :
    Calls Try.prog 39 #[v, .int .i64 q] w fun e w' => ∃ v', e = .returned v' ∧ CV v' (turnN (q % 4).toNat (x, y)).1 (turnN (q % 4).toNat (x, y)).2 ∧ w = w' := by
  obtain ⟨r, k, hr, hr1, hr2, hk4, hkq, hk, _, _⟩ := quarter q h1 h2
  rw [show (q % 4).toNat = k from by omega]
  have HV := Lib.hid hv
  have hng := fun (W : World) (b : Nat) => show (Op.unary .neg (.float .f64 b)).run Try.prog W = Result.ok (.float .f64 (Op.negFloat .f64 b)) W from rfl
  clear hv hkq h1 h2
  go_enter Try.func39, Try.ntmps39
  go_wp2
  clear hr hk
  go_loop [0, 9] (fun v i => ∃ j : Nat, j ≤ k ∧ i = .int .i64 j ∧ Hid (CV v (turnN j (x, y)).1 (turnN j (x, y)).2)) (fun _ i => k - (intOf i).toNat)
  case atStart => exact ⟨0, Nat.zero_le _, rfl, HV⟩
  case round =>
    obtain ⟨j, hj, rfl, HC⟩ := hrel
    clear HV
    obtain ⟨a, b, rfl, ha, hb⟩ := HC.out
    have HN := Lib.hid (show CV (.complex .f64 (Op.negFloat .f64 b) a) (turnN (j + 1) (x, y)).1 (turnN (j + 1) (x, y)).2 from ⟨_, _, rfl, hb.neg, ha⟩)
    clear ha hb
    by_cases hlt : j < k
    · go_wp2
      go_round
      case rel => exact ⟨j + 1, by omega, by go_num, HN⟩
      case measure => simp [intOf]; omega
    · obtain rfl : j = k := by omega
      go_wp2
      go_ret
      exact ⟨_, rfl, HC.out, rfl⟩
end Go.Proofs.Ytmkjfpmailihjaa
