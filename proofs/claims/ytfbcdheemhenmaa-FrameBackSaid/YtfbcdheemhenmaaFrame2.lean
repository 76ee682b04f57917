/- The contract of frame.Next, case by case. -/
import Derived.Test.YtfbcdheemhenmaaFrame
import Derived.BigQuiet
namespace Go.Proofs.Ytfbcdheemhenmaa
set_option linter.unusedVariables false
open Go.RowKit

theorem i64_or_nat (a b : Nat) (ha : a < 9223372036854775808) (hb : b < 9223372036854775808) : bits .or .i64 (a : Int) (b : Int) = ((a ||| b : Nat) : Int) := by
  have hx : a ||| b < 2 ^ 63 := Nat.or_lt_two_pow (by omega) (by omega)
  have hi : ∀ a : Nat, a < 9223372036854775808 → (BitVec.ofInt 64 (a : Int)).toNat = a := fun a ha => by
    rw [BitVec.ofInt_natCast, BitVec.toNat_ofNat]; exact Nat.mod_eq_of_lt (by omega)
  show IntKind.i64.wrap ((BitVec.ofInt 64 (a : Int) ||| BitVec.ofInt 64 (b : Int)).toNat : Int) = _
  rw [BitVec.toNat_or, hi a ha, hi b hb, IntKind.wrap_i64]
  omega
theorem or_low (a b : Nat) (hb : b < 256) : a * 256 ||| b = 256 * a + b := by
  have h := Nat.two_pow_add_eq_or_of_lt (i := 8) (b := b) (by omega) a
  rw [show a * 256 = 2 ^ 8 * a from by omega, ← h]
theorem two_bytes (x0 x1 : UInt8) : bits .or .i64 ((x0.toNat : Int) * 256) (x1.toNat : Int) = ((256 * x0.toNat + x1.toNat : Nat) : Int) := by
  have h0 := x0.toNat_lt
  have h1 := x1.toNat_lt
  rw [show (x0.toNat : Int) * 256 = ((x0.toNat * 256 : Nat) : Int) from by omega, i64_or_nat _ _ (by omega) (by omega), or_low _ _ h1]

theorem Next_out (A : Option Addr) (n c : Nat) (at_ : Int) (w : World) (h : at_ < 0 ∨ (n : Int) < at_) :
    Calls Try.prog 8 #[.slice A n c, .int .i64 at_] w fun e w' => e = .returned (.tuple #[.int .i64 3, .int .i64 0, .slice none 0 0, .int .i64 0]) ∧ w = w' := by
  by_cases h0 : at_ < 0
  · have hd : decide (at_ < 0) = true := by simpa using h0
    clear h
    go_enter Try.func8, Try.ntmps8
    go_wp2
    ((try simp only [Exit.inBlock, Exit.then]); refine bodyPost_ret (results_tmp4 rfl _ _ _) rfl ?_)
    exact ⟨rfl, rfl⟩
  · have hd : decide (at_ < 0) = false := by simpa using h0
    have hd2 : decide ((n : Int) < at_) = true := by simp; omega
    clear h
    go_enter Try.func8, Try.ntmps8
    go_wp2
    ((try simp only [Exit.inBlock, Exit.then]); refine bodyPost_ret (results_tmp4 rfl _ _ _) rfl ?_)
    exact ⟨rfl, rfl⟩
theorem Next_end (A : Option Addr) (n c : Nat) (w : World) (hnc : n ≤ c) :
    Calls Try.prog 8 #[.slice A n c, .int .i64 (n : Int)] w fun e w' => e = .returned (.tuple #[.int .i64 1, .int .i64 0, .slice none 0 0, .int .i64 0]) ∧ w = w' := by
  by_cases hc : c = n
  · subst hc
    go_enter Try.func8, Try.ntmps8
    go_wp2
    ((try simp only [Exit.inBlock, Exit.then]); refine bodyPost_ret (results_tmp4 rfl _ _ _) rfl ?_)
    exact ⟨rfl, rfl⟩
  · go_enter Try.func8, Try.ntmps8
    go_wp2
    ((try simp only [Exit.inBlock, Exit.then]); refine bodyPost_ret (results_tmp4 rfl _ _ _) rfl ?_)
    exact ⟨rfl, rfl⟩
theorem Next_few (A : Option Addr) (a m cm : Nat) (w : World) (h0 : 0 < m) (h7 : m < 7) (hnc : m ≤ cm) (hmc : a + cm ≤ 9223372036854775807) :
    Calls Try.prog 8 #[.slice A (a + m) (a + cm), .int .i64 (a : Int)] w fun e w' => e = .returned (.tuple #[.int .i64 2, .int .i64 0, .slice none 0 0, .int .i64 0]) ∧ w = w' := by
  have hcm : ¬ cm = 0 := by omega
  have hd : decide (((a + m : Nat) : Int) < (a : Int)) = false := by simp; omega
  have hm0 : ((m : Int) == 0) = false := by rw [beq_eq_false_iff_ne]; omega
  have hm7 : decide ((m : Int) < 7) = true := by simp; omega
  go_enter Try.func8, Try.ntmps8
  go_wp2
  ((try simp only [Exit.inBlock, Exit.then]); refine bodyPost_ret (results_tmp4 rfl _ _ _) rfl ?_)
  exact ⟨rfl, rfl⟩

set_option maxRecDepth 100000 in
theorem Next_big (ad : Addr) (a m cm : Nat) (bs : List UInt8) (x0 x1 x2 : UInt8) (B : Nat) (w : World) (h7 : 7 ≤ m) (hm : m ≤ 10000) (hnc : m ≤ cm) (hmc : a + cm ≤ 9223372036854775807)
    (hr : Reads w B 1 (some ad) (a + m) (byteCells bs)) (hB : B ≤ w.heap.size) (e0 : bs[a]? = some x0) (e1 : bs[a + 1]? = some x1) (e2 : bs[a + 2]? = some x2) (q : Nat) (hq : 256 * x0.toNat + x1.toNat = q) (hp : 200 < q) :
    Calls Try.prog 8 #[.slice (some ad) (a + m) (a + cm), .int .i64 (a : Int)] w fun e w' => e = .returned (.tuple #[.int .i64 3, .int .i64 0, .slice none 0 0, .int .i64 0]) ∧ Below w.heap.size w w' := by
  obtain ⟨ad', had⟩ : ∃ ad', ad.add a = ad' := ⟨_, rfl⟩
  obtain ⟨ad1, _, E1, _, hx0, c0⟩ := hr.byte_at (k := a) (by omega)
  cases E1
  rw [e0] at hx0; cases hx0
  obtain ⟨ad1, _, E1, _, hx1, c1⟩ := hr.byte_at (k := a + 1) (by omega)
  cases E1
  rw [e1] at hx1; cases hx1
  obtain ⟨ad1, _, E1, _, hx2, c2⟩ := hr.byte_at (k := a + 2) (by omega)
  cases E1
  rw [e2] at hx2; cases hx2
  rw [had] at c0
  rw [← add_of_add, had] at c1 c2
  have HR := Lib.hid hr
  clear hr e0 e1 e2
  have c1' : w.cell? ⟨ad'.block, ad'.off + 1, none⟩ = some (.int .u8 (x1.toNat : Int)) := c1
  have c2' : w.cell? ⟨ad'.block, ad'.off + 2, none⟩ = some (.int .u8 (x2.toNat : Int)) := c2
  clear c1 c2
  have hor := two_bytes x0 x1
  rw [hq] at hor
  have hx0 := x0.toNat_lt
  have hx1 := x1.toNat_lt
  have hx2 := x2.toNat_lt
  have hql : q < 65536 := by omega
  have HQ := Lib.hid hq
  clear hq
  have hcm : ¬ cm = 0 := by omega
  have hd : decide (((a + m : Nat) : Int) < (a : Int)) = false := by simp; omega
  have hm0 : ((m : Int) == 0) = false := by rw [beq_eq_false_iff_ne]; omega
  have hm7 : decide ((m : Int) < 7) = false := by simp; omega
  have h2 : decide ((200 : Int) < (q : Int)) = true := by simp; omega
  go_enter Try.func8, Try.ntmps8
  go_wp2
  go_quiet (fail)
  go_wp2
  ((try simp only [Exit.inBlock, Exit.then]); refine bodyPost_ret (results_tmp4 rfl _ _ _) rfl ?_)
  exact ⟨rfl, below_drewN (Below.refl _ _) _⟩

set_option maxRecDepth 100000 in
theorem Next_torn (ad : Addr) (a m cm : Nat) (bs : List UInt8) (x0 x1 x2 : UInt8) (B : Nat) (w : World) (h7 : 7 ≤ m) (hm : m ≤ 10000) (hnc : m ≤ cm) (hmc : a + cm ≤ 9223372036854775807)
    (hr : Reads w B 1 (some ad) (a + m) (byteCells bs)) (hB : B ≤ w.heap.size) (e0 : bs[a]? = some x0) (e1 : bs[a + 1]? = some x1) (e2 : bs[a + 2]? = some x2) (q : Nat) (hq : 256 * x0.toNat + x1.toNat = q) (hp : q ≤ 200) (hm' : m < q + 7) :
    Calls Try.prog 8 #[.slice (some ad) (a + m) (a + cm), .int .i64 (a : Int)] w fun e w' => e = .returned (.tuple #[.int .i64 2, .int .i64 0, .slice none 0 0, .int .i64 0]) ∧ Below w.heap.size w w' := by
  obtain ⟨ad', had⟩ : ∃ ad', ad.add a = ad' := ⟨_, rfl⟩
  obtain ⟨ad1, _, E1, _, hx0, c0⟩ := hr.byte_at (k := a) (by omega)
  cases E1
  rw [e0] at hx0; cases hx0
  obtain ⟨ad1, _, E1, _, hx1, c1⟩ := hr.byte_at (k := a + 1) (by omega)
  cases E1
  rw [e1] at hx1; cases hx1
  obtain ⟨ad1, _, E1, _, hx2, c2⟩ := hr.byte_at (k := a + 2) (by omega)
  cases E1
  rw [e2] at hx2; cases hx2
  rw [had] at c0
  rw [← add_of_add, had] at c1 c2
  have HR := Lib.hid hr
  clear hr e0 e1 e2
  have c1' : w.cell? ⟨ad'.block, ad'.off + 1, none⟩ = some (.int .u8 (x1.toNat : Int)) := c1
  have c2' : w.cell? ⟨ad'.block, ad'.off + 2, none⟩ = some (.int .u8 (x2.toNat : Int)) := c2
  clear c1 c2
  have hor := two_bytes x0 x1
  rw [hq] at hor
  have hx0 := x0.toNat_lt
  have hx1 := x1.toNat_lt
  have hx2 := x2.toNat_lt
  have hql : q < 65536 := by omega
  have HQ := Lib.hid hq
  clear hq
  have hcm : ¬ cm = 0 := by omega
  have hd : decide (((a + m : Nat) : Int) < (a : Int)) = false := by simp; omega
  have hm0 : ((m : Int) == 0) = false := by rw [beq_eq_false_iff_ne]; omega
  have hm7 : decide ((m : Int) < 7) = false := by simp; omega
  have h2 : decide ((200 : Int) < (q : Int)) = false := by simp; omega
  have h3 : decide ((m : Int) < (q : Int) + 7) = true := by simp; omega
  go_enter Try.func8, Try.ntmps8
  go_wp2
  go_quiet (fail)
  go_wp2
  ((try simp only [Exit.inBlock, Exit.then]); refine bodyPost_ret (results_tmp4 rfl _ _ _) rfl ?_)
  exact ⟨rfl, below_drewN (Below.refl _ _) _⟩

set_option maxRecDepth 100000 in
theorem Next_kind (ad : Addr) (a m cm : Nat) (bs : List UInt8) (x0 x1 x2 : UInt8) (B : Nat) (w : World) (h7 : 7 ≤ m) (hm : m ≤ 10000) (hnc : m ≤ cm) (hmc : a + cm ≤ 9223372036854775807)
    (hr : Reads w B 1 (some ad) (a + m) (byteCells bs)) (hB : B ≤ w.heap.size) (e0 : bs[a]? = some x0) (e1 : bs[a + 1]? = some x1) (e2 : bs[a + 2]? = some x2) (q : Nat) (hq : 256 * x0.toNat + x1.toNat = q) (hp : q ≤ 200) (hm' : q + 7 ≤ m) (hk : (x2.toNat : Int) < 1 ∨ 3 < (x2.toNat : Int)) :
    Calls Try.prog 8 #[.slice (some ad) (a + m) (a + cm), .int .i64 (a : Int)] w fun e w' => e = .returned (.tuple #[.int .i64 3, .int .i64 0, .slice none 0 0, .int .i64 0]) ∧ Below w.heap.size w w' := by
  obtain ⟨ad', had⟩ : ∃ ad', ad.add a = ad' := ⟨_, rfl⟩
  obtain ⟨ad1, _, E1, _, hx0, c0⟩ := hr.byte_at (k := a) (by omega)
  cases E1
  rw [e0] at hx0; cases hx0
  obtain ⟨ad1, _, E1, _, hx1, c1⟩ := hr.byte_at (k := a + 1) (by omega)
  cases E1
  rw [e1] at hx1; cases hx1
  obtain ⟨ad1, _, E1, _, hx2, c2⟩ := hr.byte_at (k := a + 2) (by omega)
  cases E1
  rw [e2] at hx2; cases hx2
  rw [had] at c0
  rw [← add_of_add, had] at c1 c2
  have HR := Lib.hid hr
  clear hr e0 e1 e2
  have c1' : w.cell? ⟨ad'.block, ad'.off + 1, none⟩ = some (.int .u8 (x1.toNat : Int)) := c1
  have c2' : w.cell? ⟨ad'.block, ad'.off + 2, none⟩ = some (.int .u8 (x2.toNat : Int)) := c2
  clear c1 c2
  have hor := two_bytes x0 x1
  rw [hq] at hor
  have hx0 := x0.toNat_lt
  have hx1 := x1.toNat_lt
  have hx2 := x2.toNat_lt
  have hql : q < 65536 := by omega
  have HQ := Lib.hid hq
  clear hq
  have hcm : ¬ cm = 0 := by omega
  have hd : decide (((a + m : Nat) : Int) < (a : Int)) = false := by simp; omega
  have hm0 : ((m : Int) == 0) = false := by rw [beq_eq_false_iff_ne]; omega
  have hm7 : decide ((m : Int) < 7) = false := by simp; omega
  have HK := Lib.hid hk; clear hk
  have h2 : decide ((200 : Int) < (q : Int)) = false := by simp; omega
  have h3 : decide ((m : Int) < (q : Int) + 7) = false := by simp; omega
  go_enter Try.func8, Try.ntmps8
  go_wp2
  go_quiet (fail)
  go_wp2_with fail
  refine (kindly_no _ _ HK.out).mono ?_
  rintro e w1 ⟨rfl, rfl⟩
  go_wp2
  ((try simp only [Exit.inBlock, Exit.then]); refine bodyPost_ret (results_tmp4 rfl _ _ _) rfl ?_)
  exact ⟨rfl, below_drewN (Below.refl _ _) _⟩

theorem Open_true (t : Nat → Nat) (ht : ∀ i, i < 256 → t i < 4294967296) (A : Option Addr) (n m c B : Nat) (bs : List UInt8) (w : World) (hnm : n = m + 4) (hr : Reads w B 1 A n (byteCells bs)) (hB : B ≤ w.heap.size) (hmc : n ≤ c) (hn : n ≤ 900000) (hcm : c ≤ 9223372036854775807) (hbb : (sealB t (bs.take m) == bs) = true) :
    Calls Try.prog 14 #[.agg (tabArr t), .slice A n c] w fun e w' => e = .returned (.tuple #[.slice A m m, .int .i64 0]) ∧ Below w.heap.size w w' := by
  subst hnm
  exact Open_yes t ht A m c B bs w hr hB hmc (by omega) hcm true hbb
theorem Open_false (t : Nat → Nat) (ht : ∀ i, i < 256 → t i < 4294967296) (A : Option Addr) (n m c B : Nat) (bs : List UInt8) (w : World) (hnm : n = m + 4) (hr : Reads w B 1 A n (byteCells bs)) (hB : B ≤ w.heap.size) (hmc : n ≤ c) (hn : n ≤ 900000) (hcm : c ≤ 9223372036854775807) (hbb : (sealB t (bs.take m) == bs) = false) :
    Calls Try.prog 14 #[.agg (tabArr t), .slice A n c] w fun e w' => e = .returned (.tuple #[.slice none 0 0, .int .i64 12]) ∧ Below w.heap.size w w' := by
  subst hnm
  exact Open_yes t ht A m c B bs w hr hB hmc (by omega) hcm false hbb

set_option maxRecDepth 100000 in
theorem Next_bad (ad : Addr) (a m cm : Nat) (bs : List UInt8) (x0 x1 x2 : UInt8) (B : Nat) (w : World) (h7 : 7 ≤ m) (hm : m ≤ 10000) (hnc : m ≤ cm) (hmc : a + cm ≤ 9223372036854775807)
    (hr : Reads w B 1 (some ad) (a + m) (byteCells bs)) (hB : B ≤ w.heap.size) (e0 : bs[a]? = some x0) (e1 : bs[a + 1]? = some x1) (e2 : bs[a + 2]? = some x2) (q : Nat) (hq : 256 * x0.toNat + x1.toNat = q) (hp : q ≤ 200) (hm' : q + 7 ≤ m) (hk1 : 1 ≤ (x2.toNat : Int)) (hk3 : (x2.toNat : Int) ≤ 3) (hs : (sealB step8 (((bs.drop a).take (q + 7)).take (q + 3)) == (bs.drop a).take (q + 7)) = false) :
    Calls Try.prog 8 #[.slice (some ad) (a + m) (a + cm), .int .i64 (a : Int)] w fun e w' => e = .returned (.tuple #[.int .i64 3, .int .i64 0, .slice none 0 0, .int .i64 0]) ∧ Below w.heap.size w w' := by
  obtain ⟨ad', had⟩ : ∃ ad', ad.add a = ad' := ⟨_, rfl⟩
  obtain ⟨ad1, _, E1, _, hx0, c0⟩ := hr.byte_at (k := a) (by omega)
  cases E1
  rw [e0] at hx0; cases hx0
  obtain ⟨ad1, _, E1, _, hx1, c1⟩ := hr.byte_at (k := a + 1) (by omega)
  cases E1
  rw [e1] at hx1; cases hx1
  obtain ⟨ad1, _, E1, _, hx2, c2⟩ := hr.byte_at (k := a + 2) (by omega)
  cases E1
  rw [e2] at hx2; cases hx2
  rw [had] at c0
  rw [← add_of_add, had] at c1 c2
  have HR := Lib.hid hr
  clear hr e0 e1 e2
  have c1' : w.cell? ⟨ad'.block, ad'.off + 1, none⟩ = some (.int .u8 (x1.toNat : Int)) := c1
  have c2' : w.cell? ⟨ad'.block, ad'.off + 2, none⟩ = some (.int .u8 (x2.toNat : Int)) := c2
  clear c1 c2
  have hor := two_bytes x0 x1
  rw [hq] at hor
  have hx0 := x0.toNat_lt
  have hx1 := x1.toNat_lt
  have hx2 := x2.toNat_lt
  have hql : q < 65536 := by omega
  have HQ := Lib.hid hq
  clear hq
  have hcm : ¬ cm = 0 := by omega
  have hd : decide (((a + m : Nat) : Int) < (a : Int)) = false := by simp; omega
  have hm0 : ((m : Int) == 0) = false := by rw [beq_eq_false_iff_ne]; omega
  have hm7 : decide ((m : Int) < 7) = false := by simp; omega
  have HS := Lib.hid hs; clear hs
  have h2 : decide ((200 : Int) < (q : Int)) = false := by simp; omega
  have h3 : decide ((m : Int) < (q : Int) + 7) = false := by simp; omega
  have HR2 := Lib.hid (show Reads w B 1 (some ad') (q + 7) (byteCells ((bs.drop a).take (q + 7))) from by
    have h := (HR.out.sufB (k := a) (cap := a + cm) (by omega) (by omega)).preB (k := q + 7) (by omega)
    rw [if_neg (by omega), Option.map_some, had] at h
    exact h)
  have hcq : q + 7 ≤ cm := by omega
  have hcq' : (q : Int) + 7 ≤ (cm : Int) := by omega
  have hq0 : (0 : Int) ≤ (q : Int) + 7 := by omega
  have hq1 : IntKind.i64.wrap ((q : Int) + 7) = (q : Int) + 7 := IntWalk.i64_in _ (by omega)
  have hq2 : ((q : Int) + 7).toNat = q + 7 := by omega
  go_enter Try.func8, Try.ntmps8
  go_wp2
  go_quiet (fail)
  go_wp2_with fail
  refine (kindly_yes _ _ hk1 hk3).mono ?_
  rintro e w1 ⟨rfl, rfl⟩
  go_wp2_with fail
  generalize hW : w.drewN _ = w0
  have HB0 := Lib.hid (show Below w.heap.size w w0 from by rw [← hW]; exact below_drewN (Below.refl _ _) _)
  clear hW
  refine wp_region_noPanic ?_
  refine wp_region_held_drew (S := fun W => Below w.heap.size w W) (by kernel_rfl) HB0.out.drew (fun hHeld => ?_)
  refine takeH 1 (v := ?v1u1) rfl (by kernel_rfl) (by kernel_rfl) (by kernel_rfl) rfl (fun _ _ _ h => h) (Or.inl ⟨by rfl, ?y1u1⟩) hHeld ?r1u1
  case y1u1 => (intro W hSW; (try dsimp only at hSW); go_simp; try with_reducible rfl)
  simp only [Act.put, List.setIfInBounds_toArray, List.set_cons_zero, List.set_cons_succ]
  refine takeH 2 (v := ?v2u2) rfl (by kernel_rfl) (by kernel_rfl) (by kernel_rfl) rfl (fun _ _ _ h => h) (Or.inl ⟨by rfl, ?y2u2⟩) hHeld ?r2u2
  case y2u2 => (intro W hSW; (try dsimp only at hSW); go_simp; try with_reducible rfl)
  simp only [Act.put, List.setIfInBounds_toArray, List.set_cons_zero, List.set_cons_succ]
  refine takeH 3 (v := ?v3u3) rfl (by kernel_rfl) (by kernel_rfl) (by kernel_rfl) rfl (fun _ _ _ h => h) (Or.inl ⟨by rfl, ?y3u3⟩) hHeld ?r3u3
  case y3u3 => (intro W hSW; (try dsimp only at hSW); go_simp; try with_reducible rfl)
  simp only [Act.put, List.setIfInBounds_toArray, List.set_cons_zero, List.set_cons_succ]
  refine wpAnyH_ready (rs := [0]) (by kernel_rfl) (by simp) ?_
  refine AllReadyH.cons rfl (fun K hK => ?_) AllReadyH.nil
  go_simp
  refine (Table_c _).mono ?_
  rintro e w2 ⟨rfl, hb2⟩
  refine hK.out _ _ (hHeld.trans (hb2.mono (Below.size hHeld))) (fun hHeld => ?_)
  clear hK K
  try simp only [Act.put, List.setIfInBounds_toArray, List.set_cons_zero, List.set_cons_succ]
  refine wpAnyH_ready (rs := [4]) (by kernel_rfl) (by simp) ?_
  refine AllReadyH.cons rfl (fun K hK => ?_) AllReadyH.nil
  go_simp
  refine (Open_false step8 tab8 (some ad') (q + 7) (q + 3) cm B ((bs.drop a).take (q + 7)) _ rfl (HR2.out.below (Below.mono hHeld hB)) (Nat.le_trans hB (Below.size hHeld)) hcq (by omega) (by omega) HS.out).mono ?_
  rintro e w3 ⟨rfl, hb3⟩
  refine hK.out _ _ (hHeld.trans (hb3.mono (Below.size hHeld))) (fun hHeld => ?_)
  clear hK K
  try simp only [Act.put, List.setIfInBounds_toArray, List.set_cons_zero, List.set_cons_succ]
  refine takeH 5 (v := ?v5u4) rfl (by kernel_rfl) (by kernel_rfl) (by kernel_rfl) rfl (fun _ _ _ h => h) (Or.inl ⟨by rfl, ?y5u4⟩) hHeld ?r5u4
  case y5u4 => (intro W hSW; (try dsimp only at hSW); go_simp; try with_reducible rfl)
  simp only [Act.put, List.setIfInBounds_toArray, List.set_cons_zero, List.set_cons_succ]
  refine takeH 6 (v := ?v6u5) rfl (by kernel_rfl) (by kernel_rfl) (by kernel_rfl) rfl (fun _ _ _ h => h) (Or.inl ⟨by rfl, ?y6u5⟩) hHeld ?r6u5
  case y6u5 => (intro W hSW; (try dsimp only at hSW); go_simp; try with_reducible rfl)
  simp only [Act.put, List.setIfInBounds_toArray, List.set_cons_zero, List.set_cons_succ]
  refine takeH 7 (v := ?v7u6) rfl (by kernel_rfl) (by kernel_rfl) (by kernel_rfl) rfl (fun _ _ _ h => h) (Or.inl ⟨by rfl, ?y7u6⟩) hHeld ?r7u6
  case y7u6 => (intro W hSW; (try dsimp only at hSW); go_simp; try with_reducible rfl)
  simp only [Act.put, List.setIfInBounds_toArray, List.set_cons_zero, List.set_cons_succ]
  refine takeH 8 (v := ?v8u7) rfl (by kernel_rfl) (by kernel_rfl) (by kernel_rfl) rfl (fun _ _ _ h => h) (Or.inl ⟨by rfl, ?y8u7⟩) hHeld ?r8u7
  case y8u7 => (intro W hSW; (try dsimp only at hSW); go_simp; try with_reducible rfl)
  simp only [Act.put, List.setIfInBounds_toArray, List.set_cons_zero, List.set_cons_succ]
  refine takeH 9 (v := ?v9u8) rfl (by kernel_rfl) (by kernel_rfl) (by kernel_rfl) rfl (fun _ _ _ h => h) (Or.inl ⟨by rfl, ?y9u8⟩) hHeld ?r9u8
  case y9u8 => (intro W hSW; (try dsimp only at hSW); go_simp; try with_reducible rfl)
  simp only [Act.put, List.setIfInBounds_toArray, List.set_cons_zero, List.set_cons_succ]
  refine wpAnyH_done (by kernel_rfl) ?_ _
  refine NoPanic.normal ?_
  have HB3 := Lib.hid (show Below w.heap.size w w3 from hHeld)
  clear hHeld hb2 hb3
  go_wp2
  ((try simp only [Exit.inBlock, Exit.then]); refine bodyPost_ret (results_tmp4 rfl _ _ _) rfl ?_)
  exact ⟨rfl, HB3.out⟩

set_option maxRecDepth 100000 in
theorem Next_yes (ad : Addr) (a m cm : Nat) (bs : List UInt8) (x0 x1 x2 : UInt8) (B : Nat) (w : World) (h7 : 7 ≤ m) (hm : m ≤ 10000) (hnc : m ≤ cm) (hmc : a + cm ≤ 9223372036854775807)
    (hr : Reads w B 1 (some ad) (a + m) (byteCells bs)) (hB : B ≤ w.heap.size) (e0 : bs[a]? = some x0) (e1 : bs[a + 1]? = some x1) (e2 : bs[a + 2]? = some x2) (q : Nat) (hq : 256 * x0.toNat + x1.toNat = q) (hp : q ≤ 200) (hm' : q + 7 ≤ m) (hk1 : 1 ≤ (x2.toNat : Int)) (hk3 : (x2.toNat : Int) ≤ 3) (hs : (sealB step8 (((bs.drop a).take (q + 7)).take (q + 3)) == (bs.drop a).take (q + 7)) = true) :
    Calls Try.prog 8 #[.slice (some ad) (a + m) (a + cm), .int .i64 (a : Int)] w fun e w' => ∃ A', e = .returned (.tuple #[.int .i64 0, .int .i64 (x2.toNat : Int), .slice A' q q, .int .i64 ((q : Int) + 7)]) ∧ Reads w' B 1 A' q (byteCells ((bs.drop (a + 3)).take q)) ∧ Below w.heap.size w w' := by
  obtain ⟨ad', had⟩ : ∃ ad', ad.add a = ad' := ⟨_, rfl⟩
  obtain ⟨ad1, _, E1, _, hx0, c0⟩ := hr.byte_at (k := a) (by omega)
  cases E1
  rw [e0] at hx0; cases hx0
  obtain ⟨ad1, _, E1, _, hx1, c1⟩ := hr.byte_at (k := a + 1) (by omega)
  cases E1
  rw [e1] at hx1; cases hx1
  obtain ⟨ad1, _, E1, _, hx2, c2⟩ := hr.byte_at (k := a + 2) (by omega)
  cases E1
  rw [e2] at hx2; cases hx2
  rw [had] at c0
  rw [← add_of_add, had] at c1 c2
  have HR := Lib.hid hr
  clear hr e0 e1 e2
  have c1' : w.cell? ⟨ad'.block, ad'.off + 1, none⟩ = some (.int .u8 (x1.toNat : Int)) := c1
  have c2' : w.cell? ⟨ad'.block, ad'.off + 2, none⟩ = some (.int .u8 (x2.toNat : Int)) := c2
  clear c1 c2
  have hor := two_bytes x0 x1
  rw [hq] at hor
  have hx0 := x0.toNat_lt
  have hx1 := x1.toNat_lt
  have hx2 := x2.toNat_lt
  have hql : q < 65536 := by omega
  have HQ := Lib.hid hq
  clear hq
  have hcm : ¬ cm = 0 := by omega
  have hd : decide (((a + m : Nat) : Int) < (a : Int)) = false := by simp; omega
  have hm0 : ((m : Int) == 0) = false := by rw [beq_eq_false_iff_ne]; omega
  have hm7 : decide ((m : Int) < 7) = false := by simp; omega
  have HS := Lib.hid hs; clear hs
  have h2 : decide ((200 : Int) < (q : Int)) = false := by simp; omega
  have h3 : decide ((m : Int) < (q : Int) + 7) = false := by simp; omega
  have HR2 := Lib.hid (show Reads w B 1 (some ad') (q + 7) (byteCells ((bs.drop a).take (q + 7))) from by
    have h := (HR.out.sufB (k := a) (cap := a + cm) (by omega) (by omega)).preB (k := q + 7) (by omega)
    rw [if_neg (by omega), Option.map_some, had] at h
    exact h)
  have hcq : q + 7 ≤ cm := by omega
  have hcq' : (q : Int) + 7 ≤ (cm : Int) := by omega
  have hq0 : (0 : Int) ≤ (q : Int) + 7 := by omega
  have hq1 : IntKind.i64.wrap ((q : Int) + 7) = (q : Int) + 7 := IntWalk.i64_in _ (by omega)
  have hq2 : ((q : Int) + 7).toNat = q + 7 := by omega
  go_enter Try.func8, Try.ntmps8
  go_wp2
  go_quiet (fail)
  go_wp2_with fail
  refine (kindly_yes _ _ hk1 hk3).mono ?_
  rintro e w1 ⟨rfl, rfl⟩
  go_wp2_with fail
  generalize hW : w.drewN _ = w0
  have HB0 := Lib.hid (show Below w.heap.size w w0 from by rw [← hW]; exact below_drewN (Below.refl _ _) _)
  clear hW
  refine wp_region_noPanic ?_
  refine wp_region_held_drew (S := fun W => Below w.heap.size w W) (by kernel_rfl) HB0.out.drew (fun hHeld => ?_)
  refine takeH 1 (v := ?v1u9) rfl (by kernel_rfl) (by kernel_rfl) (by kernel_rfl) rfl (fun _ _ _ h => h) (Or.inl ⟨by rfl, ?y1u9⟩) hHeld ?r1u9
  case y1u9 => (intro W hSW; (try dsimp only at hSW); go_simp; try with_reducible rfl)
  simp only [Act.put, List.setIfInBounds_toArray, List.set_cons_zero, List.set_cons_succ]
  refine takeH 2 (v := ?v2u10) rfl (by kernel_rfl) (by kernel_rfl) (by kernel_rfl) rfl (fun _ _ _ h => h) (Or.inl ⟨by rfl, ?y2u10⟩) hHeld ?r2u10
  case y2u10 => (intro W hSW; (try dsimp only at hSW); go_simp; try with_reducible rfl)
  simp only [Act.put, List.setIfInBounds_toArray, List.set_cons_zero, List.set_cons_succ]
  refine takeH 3 (v := ?v3u11) rfl (by kernel_rfl) (by kernel_rfl) (by kernel_rfl) rfl (fun _ _ _ h => h) (Or.inl ⟨by rfl, ?y3u11⟩) hHeld ?r3u11
  case y3u11 => (intro W hSW; (try dsimp only at hSW); go_simp; try with_reducible rfl)
  simp only [Act.put, List.setIfInBounds_toArray, List.set_cons_zero, List.set_cons_succ]
  refine wpAnyH_ready (rs := [0]) (by kernel_rfl) (by simp) ?_
  refine AllReadyH.cons rfl (fun K hK => ?_) AllReadyH.nil
  go_simp
  refine (Table_c _).mono ?_
  rintro e w2 ⟨rfl, hb2⟩
  refine hK.out _ _ (hHeld.trans (hb2.mono (Below.size hHeld))) (fun hHeld => ?_)
  clear hK K
  try simp only [Act.put, List.setIfInBounds_toArray, List.set_cons_zero, List.set_cons_succ]
  refine wpAnyH_ready (rs := [4]) (by kernel_rfl) (by simp) ?_
  refine AllReadyH.cons rfl (fun K hK => ?_) AllReadyH.nil
  go_simp
  refine (Open_true step8 tab8 (some ad') (q + 7) (q + 3) cm B ((bs.drop a).take (q + 7)) _ rfl (HR2.out.below (Below.mono hHeld hB)) (Nat.le_trans hB (Below.size hHeld)) hcq (by omega) (by omega) HS.out).mono ?_
  rintro e w3 ⟨rfl, hb3⟩
  refine hK.out _ _ (hHeld.trans (hb3.mono (Below.size hHeld))) (fun hHeld => ?_)
  clear hK K
  try simp only [Act.put, List.setIfInBounds_toArray, List.set_cons_zero, List.set_cons_succ]
  refine takeH 5 (v := ?v5u12) rfl (by kernel_rfl) (by kernel_rfl) (by kernel_rfl) rfl (fun _ _ _ h => h) (Or.inl ⟨by rfl, ?y5u12⟩) hHeld ?r5u12
  case y5u12 => (intro W hSW; (try dsimp only at hSW); go_simp; try with_reducible rfl)
  simp only [Act.put, List.setIfInBounds_toArray, List.set_cons_zero, List.set_cons_succ]
  refine takeH 6 (v := ?v6u13) rfl (by kernel_rfl) (by kernel_rfl) (by kernel_rfl) rfl (fun _ _ _ h => h) (Or.inl ⟨by rfl, ?y6u13⟩) hHeld ?r6u13
  case y6u13 => (intro W hSW; (try dsimp only at hSW); go_simp; try with_reducible rfl)
  simp only [Act.put, List.setIfInBounds_toArray, List.set_cons_zero, List.set_cons_succ]
  refine takeH 7 (v := ?v7u14) rfl (by kernel_rfl) (by kernel_rfl) (by kernel_rfl) rfl (fun _ _ _ h => h) (Or.inl ⟨by rfl, ?y7u14⟩) hHeld ?r7u14
  case y7u14 => (intro W hSW; (try dsimp only at hSW); go_simp; try with_reducible rfl)
  simp only [Act.put, List.setIfInBounds_toArray, List.set_cons_zero, List.set_cons_succ]
  refine takeH 8 (v := ?v8u15) rfl (by kernel_rfl) (by kernel_rfl) (by kernel_rfl) rfl (fun _ _ _ h => h) (Or.inl ⟨by rfl, ?y8u15⟩) hHeld ?r8u15
  case y8u15 => (intro W hSW; (try dsimp only at hSW); go_simp; try with_reducible rfl)
  simp only [Act.put, List.setIfInBounds_toArray, List.set_cons_zero, List.set_cons_succ]
  refine takeH 9 (v := ?v9u16) rfl (by kernel_rfl) (by kernel_rfl) (by kernel_rfl) rfl (fun _ _ _ h => h) (Or.inl ⟨by rfl, ?y9u16⟩) hHeld ?r9u16
  case y9u16 => (intro W hSW; (try dsimp only at hSW); go_simp; try with_reducible rfl)
  simp only [Act.put, List.setIfInBounds_toArray, List.set_cons_zero, List.set_cons_succ]
  refine wpAnyH_done (by kernel_rfl) ?_ _
  refine NoPanic.normal ?_
  have HB3 := Lib.hid (show Below w.heap.size w w3 from hHeld)
  clear hHeld hb2 hb3
  have HR3 := Lib.hid (show Reads w3 B 1 (if q = 0 then some ad' else some (ad'.add 3)) q (byteCells ((bs.drop (a + 3)).take q)) from by
    have h := ((HR2.out.below (HB3.out.mono hB)).preB (k := q + 3) (by omega)).sufB (k := 3) (cap := q + 3) (by omega) (by omega)
    rw [List.take_take, Nat.min_eq_left (by omega), ← List.drop_drop] at *
    rw [show q + 3 - 3 = q from by omega] at h
    rw [show (List.take q (List.drop 3 (List.drop a bs))) = List.drop 3 (List.take (q + 3) (List.drop a bs)) from by rw [List.drop_take]; congr 1]
    by_cases h0 : q = 0
    · rw [if_pos h0]; rw [if_pos (by omega)] at h; exact h
    · rw [if_neg h0]; rw [if_neg (by omega)] at h; exact h)
  by_cases h0 : q = 0
  · rw [if_pos h0] at HR3
    go_wp2
    go_quiet (fail)
    go_wp2
    ((try simp only [Exit.inBlock, Exit.then]); refine bodyPost_ret (results_tmp4 rfl _ _ _) rfl ?_)
    exact ⟨some ad', by rw [h0]; rfl, HR3.out, below_drewN HB3.out _⟩
  · rw [if_neg h0] at HR3
    go_wp2
    go_quiet (fail)
    go_wp2
    ((try simp only [Exit.inBlock, Exit.then]); refine bodyPost_ret (results_tmp4 rfl _ _ _) rfl ?_)
    exact ⟨_, rfl, HR3.out, below_drewN HB3.out _⟩
end Go.Proofs.Ytfbcdheemhenmaa
