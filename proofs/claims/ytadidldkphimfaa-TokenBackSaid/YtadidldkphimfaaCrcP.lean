/- Plain facts on the sum of bytes by a table: the register, its linearity, sealed bytes, bursts. -/
import Derived.Test.YtadidldkphimfaaWords
namespace Go.Proofs.Ytadidldkphimfaa
set_option linter.unusedVariables false

def maskN : Nat := 4294967295
def polyN : Nat := 3988292384
def stepN (n : Nat) : Nat := if n % 2 = 1 then n / 2 ^^^ polyN else n / 2
def step8 (n : Nat) : Nat := stepN (stepN (stepN (stepN (stepN (stepN (stepN (stepN n)))))))
def stepK : Nat → Nat → Nat
  | 0, n => n
  | k + 1, n => stepN (stepK k n)
def reg (n x : Nat) : Nat := step8 (n ^^^ x)
def regs (n : Nat) (b : List Nat) : Nat := b.foldl reg n
def goN (t : Nat → Nat) (n : Nat) (b : List Nat) : Nat := b.foldl (fun n x => t (n % 256 ^^^ x) ^^^ n / 256) n
def sumT (t : Nat → Nat) (s : Nat) (b : List Nat) : Nat := goN t (s ^^^ maskN) b ^^^ maskN
def le4 (n : Nat) : List Nat := [n % 256, n / 256 % 256, n / 65536 % 256, n / 16777216 % 256]
def sealT (t : Nat → Nat) (b : List Nat) : List Nat := b ++ le4 (sumT t 0 b)
def plainN (b : List Nat) : Nat := regs maskN b ^^^ maskN
def step32 (n : Nat) : Nat := step8 (step8 (step8 (step8 n)))
def val4 (c : List Nat) : Nat := match c with
  | [a, b, c, d] => a + 256 * (b + 256 * (c + 256 * d))
  | _ => 0

theorem stepK_8 (n : Nat) : stepK 8 n = step8 n := rfl
theorem xor_lt32 {a b : Nat} (ha : a < 4294967296) (hb : b < 4294967296) : a ^^^ b < 4294967296 := Nat.xor_lt_two_pow (n := 32) (by simpa using ha) (by simpa using hb)
theorem xor_lt8 {a b : Nat} (ha : a < 256) (hb : b < 256) : a ^^^ b < 256 := Nat.xor_lt_two_pow (n := 8) (by simpa using ha) (by simpa using hb)
theorem stepN_lt {n : Nat} (h : n < 4294967296) : stepN n < 4294967296 := by
  unfold stepN
  split
  · exact xor_lt32 (by omega) (by decide)
  · omega
theorem stepK_lt {n : Nat} (h : n < 4294967296) (k : Nat) : stepK k n < 4294967296 := by
  induction k with
  | zero => exact h
  | succ k ih => exact stepN_lt ih
theorem step8_lt {n : Nat} (h : n < 4294967296) : step8 n < 4294967296 := stepK_lt h 8
theorem xor_div2 (a b : Nat) : (a ^^^ b) / 2 = a / 2 ^^^ b / 2 := by
  have := Nat.shiftRight_xor_distrib (a := a) (b := b) (i := 1)
  simpa [Nat.shiftRight_eq_div_pow] using this
theorem xor_mod2 (a b : Nat) : (a ^^^ b) % 2 = (a + b) % 2 := by
  have h := @Nat.xor_mod_two_eq_one a b
  omega
theorem xor_same_left (a b : Nat) : a ^^^ (a ^^^ b) = b := by rw [← Nat.xor_assoc, Nat.xor_self, Nat.zero_xor]
theorem xor_same_right (a b : Nat) : (a ^^^ b) ^^^ b = a := by rw [Nat.xor_assoc, Nat.xor_self, Nat.xor_zero]
theorem stepN_xor (a b : Nat) : stepN (a ^^^ b) = stepN a ^^^ stepN b := by
  unfold stepN
  rw [xor_div2, xor_mod2]
  rcases (by omega : a % 2 = 0 ∨ a % 2 = 1) with ha | ha <;> rcases (by omega : b % 2 = 0 ∨ b % 2 = 1) with hb | hb
  · rw [if_neg (by omega), if_neg (by omega), if_neg (by omega)]
  · rw [if_pos (by omega), if_neg (by omega), if_pos hb, Nat.xor_assoc]
  · rw [if_pos (by omega), if_pos ha, if_neg (by omega)]; ac_rfl
  · rw [if_neg (by omega), if_pos ha, if_pos hb]
    have : (a / 2 ^^^ polyN) ^^^ (b / 2 ^^^ polyN) = (a / 2 ^^^ b / 2) ^^^ (polyN ^^^ polyN) := by ac_rfl
    rw [this, Nat.xor_self, Nat.xor_zero]
theorem step8_xor (a b : Nat) : step8 (a ^^^ b) = step8 a ^^^ step8 b := by
  unfold step8
  simp only [stepN_xor]
theorem stepN_even (m : Nat) : stepN (2 * m) = m := by unfold stepN; rw [if_neg (by omega)]; omega
theorem step8_shift (m : Nat) : step8 (256 * m) = m := by
  unfold step8
  rw [show 256 * m = 2 * (2 * (2 * (2 * (2 * (2 * (2 * (2 * m))))))) from by omega]
  simp only [stepN_even]
theorem stepN_zero {x : Nat} (hx : x < 4294967296) (h : stepN x = 0) : x = 0 := by
  unfold stepN at h
  split at h
  · have e : x / 2 = polyN := by
      have := congrArg (· ^^^ polyN) h
      simp only [xor_same_right, Nat.zero_xor] at this
      exact this
    have : polyN = 3988292384 := rfl
    omega
  · omega
theorem step8_zero {x : Nat} (hx : x < 4294967296) (h : step8 x = 0) : x = 0 := by
  unfold step8 at h
  have l1 := stepN_lt hx; have l2 := stepN_lt l1; have l3 := stepN_lt l2; have l4 := stepN_lt l3; have l5 := stepN_lt l4; have l6 := stepN_lt l5; have l7 := stepN_lt l6
  exact stepN_zero hx (stepN_zero l1 (stepN_zero l2 (stepN_zero l3 (stepN_zero l4 (stepN_zero l5 (stepN_zero l6 (stepN_zero l7 h)))))))
theorem xor_zero_eq {a b : Nat} (h : a ^^^ b = 0) : a = b := by
  have := congrArg (· ^^^ b) h
  simpa only [xor_same_right, Nat.zero_xor] using this
theorem step8_inj {a b : Nat} (ha : a < 4294967296) (hb : b < 4294967296) (h : step8 a = step8 b) : a = b := by
  refine xor_zero_eq (step8_zero (xor_lt32 ha hb) ?_)
  rw [step8_xor, h, Nat.xor_self]
theorem step32_inj {a b : Nat} (ha : a < 4294967296) (hb : b < 4294967296) (h : step32 a = step32 b) : a = b := by
  unfold step32 at h
  have a1 := step8_lt ha; have a2 := step8_lt a1; have a3 := step8_lt a2
  have b1 := step8_lt hb; have b2 := step8_lt b1; have b3 := step8_lt b2
  exact step8_inj ha hb (step8_inj a1 b1 (step8_inj a2 b2 (step8_inj a3 b3 h)))
/-- a byte below, the rest above: + is ^. -/
theorem add_eq_xor (c r : Nat) (hc : c < 256) : c + 256 * r = c ^^^ 256 * r := by
  refine Nat.eq_of_testBit_eq fun i => ?_
  rw [Nat.testBit_xor]
  have e1 : c + 256 * r = 2 ^ 8 * r + c := by omega
  have e2 : 256 * r = 2 ^ 8 * r := by omega
  rw [e1, Nat.testBit_two_pow_mul_add r (by omega : c < 2 ^ 8) i, e2, Nat.testBit_two_pow_mul]
  by_cases h : i < 8
  · have h8 : decide (8 ≤ i) = false := by simp; omega
    simp [h, h8]
  · rw [if_neg h]
    have : c.testBit i = false := Nat.testBit_lt_two_pow (Nat.lt_of_lt_of_le (by omega : c < 2 ^ 8) (Nat.pow_le_pow_right (by omega) (by omega)))
    have h8 : decide (8 ≤ i) = true := by simp; omega
    simp [this, h8]
theorem split256 (n : Nat) : n = n % 256 ^^^ 256 * (n / 256) := by
  rw [← add_eq_xor _ _ (by omega)]; omega
theorem reg_table (n x : Nat) : reg n x = step8 (n % 256 ^^^ x) ^^^ n / 256 := by
  unfold reg
  have e : n ^^^ x = (n % 256 ^^^ x) ^^^ 256 * (n / 256) := by
    conv => lhs; rw [split256 n]
    ac_rfl
  rw [e, step8_xor, step8_shift]
theorem goN_tab (n : Nat) (b : List Nat) : goN step8 n b = regs n b := by
  unfold goN regs
  congr 1
  funext n x
  exact (reg_table n x).symm
theorem goN_congr (t u : Nat → Nat) (h : ∀ i, i < 256 → t i = u i) (b : List Nat) (hb : ∀ x ∈ b, x < 256) : ∀ n, goN t n b = goN u n b := by
  induction b with
  | nil => intro n; rfl
  | cons x b ih =>
    intro n
    simp only [goN, List.foldl_cons]
    rw [h _ (xor_lt8 (by omega) (hb x (List.mem_cons_self ..)))]
    exact ih (fun y hy => hb y (List.mem_cons_of_mem _ hy)) _
theorem goN_lt (t : Nat → Nat) (ht : ∀ i, i < 256 → t i < 4294967296) (b : List Nat) (hb : ∀ x ∈ b, x < 256) : ∀ n, n < 4294967296 → goN t n b < 4294967296 := by
  induction b with
  | nil => intro n hn; exact hn
  | cons x b ih =>
    intro n hn
    simp only [goN, List.foldl_cons]
    exact ih (fun y hy => hb y (List.mem_cons_of_mem _ hy)) _ (xor_lt32 (ht _ (xor_lt8 (by omega) (hb x (List.mem_cons_self ..)))) (by omega))
theorem goN_append (t : Nat → Nat) (n : Nat) (a b : List Nat) : goN t n (a ++ b) = goN t (goN t n a) b := by simp [goN]
theorem regs_append (n : Nat) (a b : List Nat) : regs n (a ++ b) = regs (regs n a) b := by simp [regs]
theorem reg_lt {n x : Nat} (hn : n < 4294967296) (hx : x < 256) : reg n x < 4294967296 := step8_lt (xor_lt32 hn (by omega))
theorem regs_lt (b : List Nat) (hb : ∀ x ∈ b, x < 256) : ∀ n, n < 4294967296 → regs n b < 4294967296 := by
  induction b with
  | nil => intro n hn; exact hn
  | cons x b ih => intro n hn; exact ih (fun y hy => hb y (List.mem_cons_of_mem _ hy)) _ (reg_lt hn (hb x (List.mem_cons_self ..)))
theorem sumT_lt (t : Nat → Nat) (ht : ∀ i, i < 256 → t i < 4294967296) (s : Nat) (hs : s < 4294967296) (b : List Nat) (hb : ∀ x ∈ b, x < 256) : sumT t s b < 4294967296 :=
  xor_lt32 (goN_lt t ht b hb _ (xor_lt32 hs (by decide))) (by decide)
theorem sumT_append (t : Nat → Nat) (s : Nat) (a b : List Nat) : sumT t s (a ++ b) = sumT t (sumT t s a) b := by
  unfold sumT; rw [goN_append, xor_same_right]
theorem sumT_nil (t : Nat → Nat) (s : Nat) : sumT t s [] = s := by unfold sumT; exact xor_same_right _ _
theorem sumT_tab (b : List Nat) : sumT step8 0 b = plainN b := by
  unfold sumT plainN; rw [goN_tab, Nat.zero_xor]
theorem reg_inj {n m x : Nat} (hn : n < 4294967296) (hm : m < 4294967296) (hx : x < 256) (h : reg n x = reg m x) : n = m := by
  have := step8_inj (xor_lt32 hn (by omega)) (xor_lt32 hm (by omega)) h
  have h2 := congrArg (· ^^^ x) this
  simpa only [xor_same_right] using h2
theorem regs_inj (b : List Nat) (hb : ∀ x ∈ b, x < 256) : ∀ n m, n < 4294967296 → m < 4294967296 → regs n b = regs m b → n = m := by
  induction b with
  | nil => intro n m _ _ h; exact h
  | cons x b ih =>
    intro n m hn hm h
    have hx := hb x (List.mem_cons_self ..)
    exact reg_inj hn hm hx (ih (fun y hy => hb y (List.mem_cons_of_mem _ hy)) _ _ (reg_lt hn hx) (reg_lt hm hx) h)
theorem sumT_tab_inj (a b : Nat) (ha : a < 4294967296) (hb : b < 4294967296) (x : List Nat) (hx : ∀ y ∈ x, y < 256) : sumT step8 a x = sumT step8 b x ↔ a = b := by
  constructor
  · intro h
    unfold sumT at h
    rw [goN_tab, goN_tab] at h
    have h1 := congrArg (· ^^^ maskN) h
    simp only [xor_same_right] at h1
    have h2 := regs_inj x hx _ _ (xor_lt32 ha (by decide)) (xor_lt32 hb (by decide)) h1
    have h3 := congrArg (· ^^^ maskN) h2
    simpa only [xor_same_right] using h3
  · intro h; rw [h]
theorem regs4 (n a b c d : Nat) (ha : a < 256) (hb : b < 256) (hc : c < 256) : regs n [a, b, c, d] = step32 (n ^^^ val4 [a, b, c, d]) := by
  have e : n ^^^ val4 [a, b, c, d] = (n ^^^ a) ^^^ 256 * (b + 256 * (c + 256 * d)) := by
    unfold val4; simp only; rw [add_eq_xor _ _ ha]; ac_rfl
  have e1 : step8 (n ^^^ val4 [a, b, c, d]) = reg n a ^^^ (b + 256 * (c + 256 * d)) := by
    rw [e, step8_xor, step8_shift]; rfl
  have e2 : step8 (reg n a ^^^ (b + 256 * (c + 256 * d))) = reg (reg n a) b ^^^ (c + 256 * d) := by
    rw [add_eq_xor _ _ hb, ← Nat.xor_assoc, step8_xor, step8_shift]; rfl
  have e3 : step8 (reg (reg n a) b ^^^ (c + 256 * d)) = reg (reg (reg n a) b) c ^^^ d := by
    rw [add_eq_xor _ _ hc, ← Nat.xor_assoc, step8_xor, step8_shift]; rfl
  show reg (reg (reg (reg n a) b) c) d = _
  unfold step32
  rw [e1, e2, e3]; rfl
theorem val4_le4 (n : Nat) (h : n < 4294967296) : val4 (le4 n) = n := by unfold le4 val4; simp only; omega
theorem le4_val4 (a b c d : Nat) (ha : a < 256) (hb : b < 256) (hc : c < 256) (hd : d < 256) : le4 (val4 [a, b, c, d]) = [a, b, c, d] := by
  unfold le4 val4
  simp only
  congr 1
  · omega
  · congr 1
    · omega
    · congr 1
      · omega
      · congr 1; omega
theorem le4_lt (n : Nat) : ∀ x ∈ le4 n, x < 256 := by
  intro x hx
  simp [le4] at hx
  omega
theorem val4_lt (a b c d : Nat) (ha : a < 256) (hb : b < 256) (hc : c < 256) (hd : d < 256) : val4 [a, b, c, d] < 4294967296 := by unfold val4; simp only; omega
theorem four_of {c : List Nat} (h : c.length = 4) : ∃ x y z u, c = [x, y, z, u] := by
  match c, h with
  | [x, y, z, u], _ => exact ⟨x, y, z, u, rfl⟩
/-- bytes are sealed just if the register behind all of them is a fixed number. -/
theorem seal_iff (x c : List Nat) (hx : ∀ y ∈ x, y < 256) (hc : ∀ y ∈ c, y < 256) (h4 : c.length = 4) : sealT step8 x = x ++ c ↔ regs maskN (x ++ c) = step32 maskN := by
  obtain ⟨a, b, c', d, rfl⟩ := four_of h4
  have ha := hc a (by simp); have hb := hc b (by simp); have hc' := hc c' (by simp); have hd := hc d (by simp)
  have hr := regs_lt x hx maskN (by decide)
  have hs : plainN x < 4294967296 := xor_lt32 hr (by decide)
  unfold sealT
  rw [List.append_cancel_left_eq, sumT_tab, regs_append, regs4 _ _ _ _ _ ha hb hc']
  constructor
  · intro h
    rw [← h, val4_le4 _ hs]
    unfold plainN
    rw [xor_same_left]
  · intro h
    have h1 := step32_inj (xor_lt32 hr (val4_lt a b c' d ha hb hc' hd)) (by decide) h
    have h2 : val4 [a, b, c', d] = plainN x := by
      have := congrArg (regs maskN x ^^^ ·) h1
      simp only [xor_same_left] at this
      exact this
    rw [← h2, le4_val4 _ _ _ _ ha hb hc' hd]
/-- a change within four consecutive bytes changes the register behind all. -/
theorem burst (p c c' q : List Nat) (hp : ∀ y ∈ p, y < 256) (hc : ∀ y ∈ c, y < 256) (hc' : ∀ y ∈ c', y < 256) (hq : ∀ y ∈ q, y < 256) (h4 : c.length = 4) (h4' : c'.length = 4) (n : Nat) (hn : n < 4294967296)
    (h : regs n (p ++ c ++ q) = regs n (p ++ c' ++ q)) : c = c' := by
  have hr := regs_lt p hp n hn
  obtain ⟨a, b, d, e, rfl⟩ := four_of h4
  obtain ⟨a', b', d', e', rfl⟩ := four_of h4'
  have ha := hc a (by simp); have hb := hc b (by simp); have hd := hc d (by simp); have he := hc e (by simp)
  have ha' := hc' a' (by simp); have hb' := hc' b' (by simp); have hd' := hc' d' (by simp); have he' := hc' e' (by simp)
  rw [regs_append, regs_append, regs_append, regs_append] at h
  have h1 := regs_inj q hq _ _ (regs_lt _ hc _ hr) (regs_lt _ hc' _ hr) h
  rw [regs4 _ _ _ _ _ ha hb hd, regs4 _ _ _ _ _ ha' hb' hd'] at h1
  have h2 := step32_inj (xor_lt32 hr (val4_lt a b d e ha hb hd he)) (xor_lt32 hr (val4_lt a' b' d' e' ha' hb' hd' he')) h1
  have h3 := congrArg (regs n p ^^^ ·) h2
  simp only [xor_same_left] at h3
  rw [← le4_val4 a b d e ha hb hd he, ← le4_val4 a' b' d' e' ha' hb' hd' he', h3]
end Go.Proofs.Ytadidldkphimfaa
