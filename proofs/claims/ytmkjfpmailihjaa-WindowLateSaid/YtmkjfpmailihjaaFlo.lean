/- Whole numbers as floats (float64): which bits they have; sums, orders, negations and conversions of them are those of the numbers. Plain: no program in sight. -/
import Derived.Test.YtmkjfpmailihjaaWords
import Derived.Laws.FloatArith
import Derived.Laws.ComplexArith
namespace Go.Proofs.Ytmkjfpmailihjaa
set_option linter.unusedVariables false

theorem dsw : Ieee.double.signWeight = 9223372036854775808 := by decide
theorem dbin : Ieee.double.binade = 4503599627370496 := by decide
theorem dinf : Ieee.double.infRung = 9218868437227405312 := by decide
theorem dlp : Ieee.double.leastPlace = -1074 := by decide

/-- the lower 63 bits of a whole number's float. -/
def rung (m : Nat) : Nat := if m = 0 then 0 else (1022 + m.log2) * 4503599627370496 + m * 2 ^ (52 - m.log2)
def FW (s : Bool) (m : Nat) : Nat := Ieee.double.word s (rung m)
def sgn (s : Bool) (m : Nat) : Int := if s then -(m : Int) else (m : Int)
/-- the bits b are those of the whole number z (a zero may have either sign). -/
def Fl (b : Nat) (z : Int) : Prop := ∃ s m, b = FW s m ∧ m ≤ 4503599627370496 ∧ z = sgn s m

theorem log2_shift (m u : Nat) (h : m ≠ 0) : (m * 2 ^ u).log2 = m.log2 + u := by
  have hp : 0 < 2 ^ u := Nat.two_pow_pos u
  have hne : m * 2 ^ u ≠ 0 := Nat.mul_ne_zero h (by omega)
  rw [Nat.log2_eq_iff hne, Nat.pow_add, show m.log2 + u + 1 = (m.log2 + 1) + u from by omega, Nat.pow_add]
  exact ⟨Nat.mul_le_mul_right _ (Nat.log2_self_le h), Nat.mul_lt_mul_of_pos_right Nat.lt_log2_self hp⟩
theorem rung_parts (m : Nat) (h0 : m ≠ 0) (hm : m ≤ 4503599627370496) : ∃ k c, k ≤ 52 ∧ m.log2 = k ∧ c = m * 2 ^ (52 - k) ∧ 4503599627370496 ≤ c ∧ c < 9007199254740992 ∧ rung m = (1022 + k) * 4503599627370496 + c := by
  have hk : m.log2 ≤ 52 := by
    have h1 := Nat.log2_self_le h0
    rcases Nat.lt_or_ge 52 m.log2 with h | h
    · have h2 : 2 ^ 53 ≤ 2 ^ m.log2 := Nat.pow_le_pow_right (by omega) h
      have h3 : (2 : Nat) ^ 53 = 9007199254740992 := by decide
      omega
    · exact h
  have e1 : 2 ^ m.log2 * 2 ^ (52 - m.log2) = 4503599627370496 := by rw [← Nat.pow_add, show m.log2 + (52 - m.log2) = 52 from by omega]
  have e2 : 2 ^ (m.log2 + 1) * 2 ^ (52 - m.log2) = 9007199254740992 := by rw [← Nat.pow_add, show m.log2 + 1 + (52 - m.log2) = 53 from by omega]
  refine ⟨m.log2, m * 2 ^ (52 - m.log2), hk, rfl, rfl, ?_, ?_, ?_⟩
  · rw [← e1]; exact Nat.mul_le_mul_right _ (Nat.log2_self_le h0)
  · rw [← e2]; exact Nat.mul_lt_mul_of_pos_right Nat.lt_log2_self (Nat.two_pow_pos _)
  · unfold rung; rw [if_neg h0]
theorem rung_lt (m : Nat) (hm : m ≤ 4503599627370496) : rung m < 9218868437227405312 := by
  by_cases h0 : m = 0
  · subst h0; decide
  · obtain ⟨k, c, h1, h2, h3, h4, h5, h6⟩ := rung_parts m h0 hm
    rw [h6]; omega
theorem FW_val (s : Bool) (m : Nat) : FW s m = if s then 9223372036854775808 + rung m else rung m := by unfold FW Ieee.Format.word; rw [dsw]
theorem FW_lt (s : Bool) (m : Nat) (hm : m ≤ 4503599627370496) : FW s m < 18446744073709551616 := by
  have := rung_lt m hm
  rw [FW_val]; split <;> omega

theorem read_FW (s : Bool) (m : Nat) (hm : m ≤ 4503599627370496) : ∃ u : Nat, u ≤ 1074 ∧ Ieee.double.read (FW s m) = .number s (m * 2 ^ u) (-(u : Int)) := by
  have hr := rung_lt m hm
  have hmod : FW s m % 9223372036854775808 = rung m := by rw [FW_val]; cases s <;> simp <;> omega
  have hneg : (FW s m / 9223372036854775808 % 2 == 1) = s := by rw [FW_val]; cases s <;> simp <;> omega
  unfold Ieee.Format.read
  simp only [dsw, dbin, dinf, dlp, hmod, hneg]
  by_cases h0 : m = 0
  · subst h0
    obtain ⟨u, hu⟩ : ∃ u : Nat, u = 1074 := ⟨_, rfl⟩
    refine ⟨u, by omega, ?_⟩
    rw [Nat.zero_mul, if_pos (by decide), show -(u : Int) = -1074 from by omega]
    rfl
  · obtain ⟨k, c, h1, h2, h3, h4, h5, h6⟩ := rung_parts m h0 hm
    rw [if_neg (by rw [h6]; omega), if_pos hr]
    refine ⟨52 - k, by omega, ?_⟩
    rw [← h3, h6]
    congr 1
    · omega
    · omega

theorem cut_even (s : Bool) (c d : Nat) : Ieee.Toward.even.cut s (c * 2 ^ d) d = c := by
  have hp : 0 < 2 ^ d := Nat.two_pow_pos d
  unfold Ieee.Toward.cut
  by_cases h : c = 0
  · subst h
    simp
  · have hl : min d ((c * 2 ^ d).log2 + 2) = d := by rw [log2_shift c d h]; omega
    simp only [hl, Nat.shiftLeft_eq, Nat.one_mul, Nat.mul_mod_left, Nat.mul_div_cancel _ hp]
    simp
theorem cut_zero (s : Bool) (c d : Nat) : Ieee.Toward.zero.cut s (c * 2 ^ d) d = c := by
  have hp : 0 < 2 ^ d := Nat.two_pow_pos d
  unfold Ieee.Toward.cut
  by_cases h : c = 0
  · subst h
    simp
  · have hl : min d ((c * 2 ^ d).log2 + 2) = d := by rw [log2_shift c d h]; omega
    simp only [hl, Nat.shiftLeft_eq, Nat.one_mul, Nat.mul_div_cancel _ hp]
    simp

theorem near_FW (s : Bool) (m u : Nat) (hm : m ≤ 4503599627370496) : Ieee.double.nearest s (m * 2 ^ u) (-(u : Int)) = FW s m := by
  have hp : 0 < 2 ^ u := Nat.two_pow_pos u
  unfold Ieee.Format.nearest
  by_cases h0 : m = 0
  · subst h0
    rw [if_pos (by simp)]
    simp [FW, rung]
  · obtain ⟨k, c, h1, h2, h3, h4, h5, h6⟩ := rung_parts m h0 hm
    rw [if_neg (Nat.mul_ne_zero h0 (by omega)), log2_shift m u h0, h2]
    simp only [dlp, dbin, dinf, show (Ieee.double.fractionBits : Int) = 52 from rfl]
    have hlast : max (-(u : Int) + ((k + u : Nat) : Int) - 52) (-1074) = (k : Int) - 52 := by omega
    rw [hlast]
    have hkept : Ieee.Toward.even.cut s ((m * 2 ^ u) <<< (-(u : Int) - ((k : Int) - 52)).toNat) (((k : Int) - 52) - -(u : Int)).toNat = c := by
      by_cases hu : u + k ≤ 52
      · rw [show (((k : Int) - 52) - -(u : Int)).toNat = 0 from by omega, show (-(u : Int) - ((k : Int) - 52)).toNat = 52 - k - u from by omega, Nat.shiftLeft_eq, Nat.mul_assoc, ← Nat.pow_add, show u + (52 - k - u) = 52 - k from by omega, ← h3]
        have h := cut_even s c 0
        simpa using h
      · obtain ⟨d, hd⟩ : ∃ d, u = (52 - k) + d := ⟨u - (52 - k), by omega⟩
        rw [show (((k : Int) - 52) - -(u : Int)).toNat = d from by omega, show (-(u : Int) - ((k : Int) - 52)).toNat = 0 from by omega, Nat.shiftLeft_zero, hd, Nat.pow_add, ← Nat.mul_assoc, ← h3]
        exact cut_even s c d
    rw [hkept, show ((k : Int) - 52 - -1074).toNat = 1022 + k from by omega, Nat.min_eq_left (by omega), ← h6]
    rfl

theorem sgn_natAbs (s : Bool) (m : Nat) : (sgn s m).natAbs = m := by unfold sgn; split <;> omega
theorem Fl.bound {b : Nat} {z : Int} (h : Fl b z) : -4503599627370496 ≤ z ∧ z ≤ 4503599627370496 := by
  obtain ⟨s, m, _, hm, rfl⟩ := h
  unfold sgn; split <;> omega
theorem Fl.zero : Fl 0 0 := ⟨false, 0, by decide, by omega, by decide⟩
theorem Fl.ofInt (z : Int) (h1 : -4503599627370496 ≤ z) (h2 : z ≤ 4503599627370496) : Fl (floatOfInt .f64 z) z := by
  refine ⟨decide (z < 0), z.natAbs, ?_, by omega, ?_⟩
  · have h := near_FW (decide (z < 0)) z.natAbs 0 (by omega)
    rw [← h]
    unfold floatOfInt FloatKind.nearest FloatKind.encode FloatKind.format Ieee.Format.write
    simp
  · unfold sgn
    by_cases h : z < 0
    · rw [if_pos (by simpa using h)]; omega
    · rw [if_neg (by simpa using h)]; omega
theorem signed_FW (s : Bool) (m u q : Nat) (hq : u ≤ q) : Ieee.signed s (m * 2 ^ u) (-(u : Int) - -(q : Int)).toNat = sgn s m * 2 ^ q := by
  have e : (m * 2 ^ u) <<< (-(u : Int) - -(q : Int)).toNat = m * 2 ^ q := by
    rw [show (-(u : Int) - -(q : Int)).toNat = q - u from by omega, Nat.shiftLeft_eq, Nat.mul_assoc, ← Nat.pow_add, show u + (q - u) = q from by omega]
  unfold Ieee.signed sgn
  rw [e]
  split
  · rw [Int.neg_mul, Int.natCast_mul, Int.natCast_pow]; rfl
  · rw [Int.natCast_mul, Int.natCast_pow]; rfl
theorem pow_pos_int (q : Nat) : (0 : Int) < 2 ^ q := by
  have : ((2 ^ q : Nat) : Int) = (2 : Int) ^ q := by rw [Int.natCast_pow]; rfl
  rw [← this]
  exact Int.natCast_pos.2 (Nat.two_pow_pos q)
theorem Fl.add {a b : Nat} {x y : Int} (ha : Fl a x) (hb : Fl b y) (h1 : -4503599627370496 ≤ x + y) (h2 : x + y ≤ 4503599627370496) : ∃ r, floatBits .add .f64 a b = some r ∧ Fl r (x + y) := by
  obtain ⟨s, m, rfl, hm, rfl⟩ := ha
  obtain ⟨t, n, rfl, hn, rfl⟩ := hb
  obtain ⟨u, hu, eu⟩ := read_FW s m hm
  obtain ⟨v, hv, ev⟩ := read_FW t n hn
  unfold floatBits
  simp only [FloatKind.format, Ieee.Format.add, eu, ev, Ieee.Datum.sum, Option.map_some, Ieee.Format.write]
  obtain ⟨q, hq⟩ : ∃ q, max u v = q := ⟨_, rfl⟩
  rw [show min (-(u : Int)) (-(v : Int)) = -(q : Int) from by omega, signed_FW s m u q (by omega), signed_FW t n v q (by omega), ← Int.add_mul]
  obtain ⟨z, hz⟩ : ∃ z, sgn s m + sgn t n = z := ⟨_, rfl⟩
  rw [hz] at h1 h2 ⊢
  have habs : (z * 2 ^ q).natAbs = z.natAbs * 2 ^ q := by rw [Int.natAbs_mul, Int.natAbs_pow]; rfl
  have hp := pow_pos_int q
  rw [habs, near_FW _ _ _ (by omega)]
  refine ⟨_, rfl, _, _, rfl, by omega, ?_⟩
  by_cases h0 : z = 0
  · subst h0
    simp [sgn]
  · rw [if_neg (by rw [Int.mul_eq_zero]; omega)]
    unfold sgn
    by_cases hneg : z < 0
    · have : z * 2 ^ q < 0 := Int.mul_neg_of_neg_of_pos hneg hp
      rw [if_pos (by simpa using this)]; omega
    · have : ¬ z * 2 ^ q < 0 := by have := Int.mul_nonneg (show 0 ≤ z by omega) (Int.le_of_lt hp); omega
      rw [if_neg (by simpa using this)]; omega
theorem compare_mul (x y p : Int) (hp : 0 < p) : compare (x * p) (y * p) = compare x y := by
  rcases Int.lt_trichotomy x y with h | h | h
  · rw [Int.compare_eq_lt.2 h, Int.compare_eq_lt.2 (Int.mul_lt_mul_of_pos_right h hp)]
  · subst h
    rw [Int.compare_eq_eq.2 rfl, Int.compare_eq_eq.2 rfl]
  · rw [Int.compare_eq_gt.2 h, Int.compare_eq_gt.2 (Int.mul_lt_mul_of_pos_right h hp)]
theorem Fl.order {a b : Nat} {x y : Int} (ha : Fl a x) (hb : Fl b y) : FloatKind.f64.format.order a b = some (compare x y) := by
  obtain ⟨s, m, rfl, hm, rfl⟩ := ha
  obtain ⟨t, n, rfl, hn, rfl⟩ := hb
  obtain ⟨u, hu, eu⟩ := read_FW s m hm
  obtain ⟨v, hv, ev⟩ := read_FW t n hn
  simp only [FloatKind.format, Ieee.Format.order, eu, ev, Ieee.Datum.order]
  obtain ⟨q, hq⟩ : ∃ q, max u v = q := ⟨_, rfl⟩
  rw [show min (-(u : Int)) (-(v : Int)) = -(q : Int) from by omega, signed_FW s m u q (by omega), signed_FW t n v q (by omega), compare_mul _ _ _ (pow_pos_int q)]
theorem Fl.toInt {b : Nat} {z : Int} (h : Fl b z) : floatToIntVal .f64 b .i64 = some z := by
  have hz := h.bound
  obtain ⟨s, m, rfl, hm, rfl⟩ := h
  obtain ⟨u, hu, eu⟩ := read_FW s m hm
  unfold floatToIntVal FloatKind.decode
  have e : (Ieee.Datum.number s (m * 2 ^ u) (-(u : Int))).toInt .zero = some (sgn s m) := by
    unfold Ieee.Datum.toInt Ieee.Datum.integral
    simp only
    rw [show (-(u : Int)).toNat = 0 from by omega, Nat.shiftLeft_zero, Int.neg_neg, Int.toNat_natCast, cut_zero]
    unfold Ieee.signed sgn
    simp
  simp only [FloatKind.format, eu, e]
  rw [if_pos]
  simp [IntKind.min, IntKind.max, IntKind.signed, IntKind.bits]
  omega
theorem xor_top (r : Nat) (h : r < 9223372036854775808) : (9223372036854775808 + r) ^^^ 9223372036854775808 = r ∧ r ^^^ 9223372036854775808 = 9223372036854775808 + r := by
  have h2 : r ^^^ 9223372036854775808 = 9223372036854775808 + r := by
    have := Nat.two_pow_add_eq_or_of_lt (i := 63) (b := r) (by simpa using h) 1
    rw [show (9223372036854775808 : Nat) = 2 ^ 63 * 1 from by decide, this]
    apply Nat.eq_of_testBit_eq
    intro i
    rw [Nat.testBit_xor, Nat.testBit_or]
    by_cases hi : i = 63
    · subst hi
      have : r.testBit 63 = false := Nat.testBit_lt_two_pow (by simpa using h)
      simp [this]
    · have : (2 ^ 63 * 1).testBit i = false := by rw [Nat.mul_one, Nat.testBit_two_pow]; simp; omega
      simp [this]
  refine ⟨?_, h2⟩
  rw [← h2, Nat.xor_assoc, Nat.xor_self, Nat.xor_zero]
theorem Fl.neg {b : Nat} {z : Int} (h : Fl b z) : Fl (Op.negFloat .f64 b) (-z) := by
  obtain ⟨s, m, rfl, hm, rfl⟩ := h
  have hr := rung_lt m hm
  have hx := xor_top (rung m) (by omega)
  refine ⟨!s, m, ?_, hm, by unfold sgn; cases s <;> simp⟩
  unfold Op.negFloat
  rw [show 2 ^ (FloatKind.f64.format.exponentBits + FloatKind.f64.format.fractionBits) = 9223372036854775808 from by decide, FW_val, FW_val]
  cases s
  · simpa using hx.2
  · simpa using hx.1
end Go.Proofs.Ytmkjfpmailihjaa
