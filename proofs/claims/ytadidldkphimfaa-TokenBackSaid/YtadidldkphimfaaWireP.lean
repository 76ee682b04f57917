/- Plain facts on numbers as bytes: seven bits a byte, the last one below 128. -/
import Derived.Test.YtadidldkphimfaaWords
namespace Go.Proofs.Ytadidldkphimfaa
set_option linter.unusedVariables false

/-- the bytes of a number. -/
def uenc (n : Nat) : List Nat := if n < 128 then [n] else (n % 128 + 128) :: uenc (n / 128)
termination_by n
decreasing_by omega

/-- what is read as a number: error (0: none, 10: short, 11: form), number, how many bytes; i bytes were read ahead. -/
def uread (i : Nat) : List Nat → Nat × Nat × Nat
  | [] => if 10 ≤ i then (11, 0, 0) else (10, 0, 0)
  | x :: l => if 10 ≤ i then (11, 0, 0) else
    if 128 ≤ x then (if (uread (i + 1) l).1 = 0 then (0, x - 128 + 128 * (uread (i + 1) l).2.1, (uread (i + 1) l).2.2 + 1) else uread (i + 1) l)
    else if (i = 9 ∧ 1 < x) ∨ (0 < i ∧ x = 0) then (11, 0, 0) else (0, x, 1)

theorem uenc_small {n : Nat} (h : n < 128) : uenc n = [n] := by rw [uenc, if_pos h]
theorem uenc_big {n : Nat} (h : 128 ≤ n) : uenc n = (n % 128 + 128) :: uenc (n / 128) := by rw [uenc, if_neg (by omega)]
theorem uenc_lt (n : Nat) : ∀ x ∈ uenc n, x < 256 := by
  induction n using Nat.strongRecOn with
  | ind n ih =>
    intro x hx
    by_cases h : n < 128
    · rw [uenc_small h] at hx; simp at hx; omega
    · rw [uenc_big (by omega)] at hx
      rcases List.mem_cons.1 hx with rfl | hx
      · omega
      · exact ih _ (by omega) x hx
theorem uenc_pos (n : Nat) : 0 < (uenc n).length := by
  by_cases h : n < 128
  · rw [uenc_small h]; simp
  · rw [uenc_big (by omega)]; simp
/-- k bytes are enough below 128 ^ k. -/
theorem uenc_len (k : Nat) : ∀ n, n < 128 ^ (k + 1) → (uenc n).length ≤ k + 1 := by
  induction k with
  | zero => intro n h; rw [uenc_small (by simpa using h)]; simp
  | succ k ih =>
    intro n h
    by_cases h1 : n < 128
    · rw [uenc_small h1]; simp
    · rw [uenc_big (by omega)]
      have := ih (n / 128) (by rw [Nat.div_lt_iff_lt_mul (by omega)]; rw [Nat.pow_succ] at h; exact h)
      simp; exact this
theorem uenc_len10 (n : Nat) (h : n < 18446744073709551616) : (uenc n).length ≤ 10 := uenc_len 9 n (Nat.lt_of_lt_of_le h (by decide))

theorem uread_err (i : Nat) (l : List Nat) : (uread i l).1 = 0 ∨ (uread i l = (10, 0, 0)) ∨ (uread i l = (11, 0, 0)) := by
  induction l generalizing i with
  | nil => unfold uread; split <;> simp
  | cons x l ih =>
    unfold uread
    split
    · simp
    · split
      · split
        · simp
        · exact ih (i + 1)
      · split <;> simp

/-- what was put is read: n has at most 64 - 7 i bits. -/
theorem uread_uenc (rest : List Nat) : ∀ (n i : Nat), i ≤ 9 → n * 128 ^ i < 18446744073709551616 → (0 < i → 0 < n) → uread i (uenc n ++ rest) = (0, n, (uenc n).length) := by
  intro n
  induction n using Nat.strongRecOn with
  | ind n ih =>
    intro i hi hn h0
    by_cases h : n < 128
    · rw [uenc_small h]
      simp only [List.singleton_append, uread, List.length_singleton]
      rw [if_neg (by omega), if_neg (by omega), if_neg]
      rintro (⟨rfl, h1⟩ | ⟨h1, h2⟩)
      · have : (2 : Nat) * 128 ^ 9 ≤ n * 128 ^ 9 := Nat.mul_le_mul_right _ (by omega)
        omega
      · have := h0 h1; omega
    · have hi9 : i ≠ 9 := by
        rintro rfl
        have : (128 : Nat) * 128 ^ 9 ≤ n * 128 ^ 9 := Nat.mul_le_mul_right _ (by omega)
        omega
      have e := ih (n / 128) (by omega) (i + 1) (by omega) (by
        rw [Nat.pow_succ]
        have h1 : n / 128 * (128 ^ i * 128) = (n / 128 * 128) * 128 ^ i := by ac_rfl
        rw [h1]
        exact Nat.lt_of_le_of_lt (Nat.mul_le_mul_right _ (by omega)) hn) (by omega)
      rw [uenc_big (by omega)]
      simp only [List.cons_append, uread]
      rw [if_neg (by omega), if_pos (by omega), e]
      simp
      omega

/-- what is read has just its bytes. -/
theorem uread_back (l : List Nat) (hl : ∀ x ∈ l, x < 256) : ∀ (i n s : Nat), i ≤ 10 → uread i l = (0, n, s) → s ≤ l.length ∧ uenc n = l.take s ∧ n * 128 ^ i < 18446744073709551616 ∧ (0 < i → 0 < n) ∧ 0 < s := by
  induction l with
  | nil => intro i n s hi h; unfold uread at h; split at h <;> simp at h
  | cons x l ih =>
    intro i n s hi h
    unfold uread at h
    split at h
    · simp at h
    · rename_i hi10
      split at h
      · rename_i hx
        split at h
        · rename_i h1
          simp only [Prod.mk.injEq, true_and] at h
          obtain ⟨rfl, rfl⟩ := h
          obtain ⟨a1, a2, a3, a4, a5⟩ := ih (fun y hy => hl y (List.mem_cons_of_mem _ hy)) (i + 1) (uread (i + 1) l).2.1 (uread (i + 1) l).2.2 (by omega) (by rw [← h1])
          generalize (uread (i + 1) l).2.1 = m at *
          generalize (uread (i + 1) l).2.2 = k at *
          have hx256 := hl x (List.mem_cons_self ..)
          have hm := a4 (by omega)
          refine ⟨by simp; omega, ?_, ?_, fun _ => by omega, by omega⟩
          · rw [uenc_big (by omega), show (x - 128 + 128 * m) / 128 = m from by omega, show (x - 128 + 128 * m) % 128 + 128 = x from by omega, a2]; rfl
          · rw [Nat.pow_succ] at a3
            have h2 : m * (128 ^ i * 128) = (m * 128) * 128 ^ i := by ac_rfl
            rw [h2] at a3
            have hp : ∃ q, 18446744073709551616 = q * 128 ^ i ∧ q % 128 = 0 ∨ i = 9 := by
              rcases (by omega : i = 0 ∨ i = 1 ∨ i = 2 ∨ i = 3 ∨ i = 4 ∨ i = 5 ∨ i = 6 ∨ i = 7 ∨ i = 8 ∨ i = 9) with rfl | rfl | rfl | rfl | rfl | rfl | rfl | rfl | rfl | rfl
              · exact ⟨2 ^ 64, .inl (by decide)⟩
              · exact ⟨2 ^ 57, .inl (by decide)⟩
              · exact ⟨2 ^ 50, .inl (by decide)⟩
              · exact ⟨2 ^ 43, .inl (by decide)⟩
              · exact ⟨2 ^ 36, .inl (by decide)⟩
              · exact ⟨2 ^ 29, .inl (by decide)⟩
              · exact ⟨2 ^ 22, .inl (by decide)⟩
              · exact ⟨2 ^ 15, .inl (by decide)⟩
              · exact ⟨2 ^ 8, .inl (by decide)⟩
              · exact ⟨0, .inr rfl⟩
            obtain ⟨q, ⟨hq, hq2⟩ | h9⟩ := hp
            · have hpos : 0 < 128 ^ i := Nat.pow_pos (by omega)
              rw [hq] at a3 ⊢
              have := Nat.lt_of_mul_lt_mul_right a3
              exact Nat.mul_lt_mul_of_pos_right (by omega) hpos
            · subst h9
              exfalso
              have h5 : (128 : Nat) * 128 ^ 9 ≤ m * 128 * 128 ^ 9 := Nat.mul_le_mul_right _ (by omega)
              have h6 := Nat.lt_of_le_of_lt h5 a3
              exact absurd h6 (by decide)
        · rename_i h1
          rw [h] at h1
          exact absurd rfl h1
      · split at h
        · simp at h
        · rename_i h2
          simp only [Prod.mk.injEq, true_and] at h
          obtain ⟨rfl, rfl⟩ := h
          refine ⟨by simp, by rw [uenc_small (by omega)]; simp, ?_, fun h3 => by omega, by omega⟩
          have hx : x < 128 := by omega
          rcases (by omega : i = 0 ∨ i = 1 ∨ i = 2 ∨ i = 3 ∨ i = 4 ∨ i = 5 ∨ i = 6 ∨ i = 7 ∨ i = 8 ∨ i = 9) with rfl | rfl | rfl | rfl | rfl | rfl | rfl | rfl | rfl | rfl <;> omega

/-- cut off something is missing. -/
theorem uread_cut : ∀ (n i k : Nat), i ≤ 9 → n * 128 ^ i < 18446744073709551616 → k < (uenc n).length → uread i ((uenc n).take k) = (10, 0, 0) := by
  intro n
  induction n using Nat.strongRecOn with
  | ind n ih =>
    intro i k hi hn hk
    cases k with
    | zero => simp only [List.take_zero, uread]; rw [if_neg (by omega)]
    | succ k =>
      by_cases h : n < 128
      · rw [uenc_small h] at hk; simp at hk
      · have hi9 : i ≠ 9 := by
          rintro rfl
          have : (128 : Nat) * 128 ^ 9 ≤ n * 128 ^ 9 := Nat.mul_le_mul_right _ (by omega)
          omega
        rw [uenc_big (by omega)] at hk ⊢
        have e := ih (n / 128) (by omega) (i + 1) k (by omega) (by
          rw [Nat.pow_succ]
          have h1 : n / 128 * (128 ^ i * 128) = (n / 128 * 128) * 128 ^ i := by ac_rfl
          rw [h1]
          exact Nat.lt_of_le_of_lt (Nat.mul_le_mul_right _ (by omega)) hn) (by simpa using hk)
        simp only [List.take_succ_cons, uread]
        rw [if_neg (by omega), if_pos (by omega), e]
        simp

/-- the number of bytes, the first one lowest. -/
def valB : List Nat → Nat
  | [] => 0
  | x :: l => x % 128 + 128 * valB l
theorem valB_snoc (l : List Nat) (x : Nat) : valB (l ++ [x]) = valB l + 128 ^ l.length * (x % 128) := by
  induction l with
  | nil => simp [valB]
  | cons y l ih =>
    simp only [List.cons_append, valB, ih, List.length_cons, Nat.pow_succ]
    rw [Nat.mul_add]
    have : 128 ^ l.length * 128 * (x % 128) = 128 * (128 ^ l.length * (x % 128)) := by ac_rfl
    omega
theorem valB_lt (l : List Nat) : valB l < 128 ^ l.length := by
  induction l with
  | nil => simp [valB]
  | cons x l ih => simp only [valB, List.length_cons, Nat.pow_succ]; omega
theorem uread_hit (l : List Nat) (hl : ∀ x ∈ l, x < 256) : ∀ (i k x : Nat), i + k ≤ 9 → (∀ (j : Nat) y, j < k → l[j]? = some y → 128 ≤ y) → l[k]? = some x → x < 128 →
    uread i l = if (i + k = 9 ∧ 1 < x) ∨ (0 < i + k ∧ x = 0) then (11, 0, 0) else (0, valB (l.take (k + 1)), k + 1) := by
  induction l with
  | nil => intro i k x _ _ h; simp at h
  | cons y l ih =>
    intro i k x hik hall hk hx
    cases k with
    | zero =>
      simp at hk
      subst hk
      unfold uread
      rw [if_neg (by omega), if_neg (by omega)]
      simp [valB, Nat.mod_eq_of_lt hx]
    | succ k =>
      have hy := hall 0 y (by omega) rfl
      have hy2 := hl y (List.mem_cons_self ..)
      have e := ih (fun z hz => hl z (List.mem_cons_of_mem _ hz)) (i + 1) k x (by omega) (fun j z hj hz => hall (j + 1) z (by omega) (by simpa using hz)) (by simpa using hk) hx
      unfold uread
      rw [if_neg (by omega), if_pos hy, e]
      by_cases hc : (i + 1 + k = 9 ∧ 1 < x) ∨ (0 < i + 1 + k ∧ x = 0)
      · rw [if_pos hc, if_neg (by simp), if_pos (by omega)]
      · rw [if_neg hc, if_pos rfl, if_neg (by omega)]
        simp only [List.take_succ_cons, valB, Prod.mk.injEq, true_and, and_true]
        omega
theorem uread_short (l : List Nat) : ∀ i : Nat, (∀ x ∈ l, 128 ≤ x) → i + l.length ≤ 9 → uread i l = (10, 0, 0) := by
  induction l with
  | nil => intro i _ h; unfold uread; rw [if_neg (by simp at h; omega)]
  | cons x l ih =>
    intro i hall h
    simp at h
    unfold uread
    rw [if_neg (by omega), if_pos (hall x (List.mem_cons_self ..)), ih (i + 1) (fun y hy => hall y (List.mem_cons_of_mem _ hy)) (by omega)]
    simp
theorem uread_long (l : List Nat) : ∀ i : Nat, i ≤ 10 → (∀ (j : Nat) x, i + j < 10 → l[j]? = some x → 128 ≤ x) → 10 ≤ i + l.length → uread i l = (11, 0, 0) := by
  induction l with
  | nil => intro i _ _ h; unfold uread; rw [if_pos (by simpa using h)]
  | cons x l ih =>
    intro i hi hall h
    simp at h
    unfold uread
    by_cases h10 : 10 ≤ i
    · rw [if_pos h10]
    · rw [if_neg h10, if_pos (hall 0 x (by omega) rfl), ih (i + 1) (by omega) (fun j y hj hy => hall (j + 1) y (by omega) (by simpa using hy)) (by omega)]
      simp

/-- a signed number as one. -/
def zig (k : Int) : Nat := if 0 ≤ k then 2 * k.toNat else 2 * (-(k + 1)).toNat + 1
def unzig (n : Nat) : Int := if n % 2 = 0 then ((n / 2 : Nat) : Int) else -((n / 2 : Nat) : Int) - 1
theorem unzig_zig (k : Int) : unzig (zig k) = k := by unfold unzig zig; split <;> split <;> omega
theorem zig_unzig (n : Nat) : zig (unzig n) = n := by unfold unzig zig; split <;> split <;> omega
theorem zig_lt (k : Int) (h1 : -9223372036854775808 ≤ k) (h2 : k ≤ 9223372036854775807) : zig k < 18446744073709551616 := by unfold zig; split <;> omega
end Go.Proofs.Ytadidldkphimfaa
