/- The contract of the reference's Next, case by case. -/
import Derived.Test.YtfbcdheemhenmaaFrame2
namespace Go.Proofs.Ytfbcdheemhenmaa
set_option linter.unusedVariables false
open Go.RowKit

theorem rNext_out (A : Option Addr) (n c : Nat) (at_ : Int) (w : World) (h : at_ < 0 ∨ (n : Int) < at_) :
    Calls Try.prog 9 #[.slice A n c, .int .i64 at_] w fun e w' => e = .returned (.agg #[.int .i64 3, .int .i64 0, .slice none 0 0, .int .i64 0]) ∧ Below w.heap.size w w' := by
  by_cases h0 : at_ < 0
  · have hd : decide (at_ < 0) = true := by simpa using h0
    clear h
    go_enter Try.func9, Try.ntmps9
    go_wp2
    exact bodyPost_ret (v := .agg #[.int .i64 3, .int .i64 0, .slice none 0 0, .int .i64 0]) (by simp [results, Try.results9, go_sem]) rfl ⟨rfl, (Below.refl _ _).alloc (Nat.le_refl _) _⟩
  · have hd : decide (at_ < 0) = false := by simpa using h0
    have hd2 : decide ((n : Int) < at_) = true := by simp; omega
    clear h
    go_enter Try.func9, Try.ntmps9
    go_wp2
    exact bodyPost_ret (v := .agg #[.int .i64 3, .int .i64 0, .slice none 0 0, .int .i64 0]) (by simp [results, Try.results9, go_sem]) rfl ⟨rfl, (Below.refl _ _).alloc (Nat.le_refl _) _⟩
theorem rNext_end (A : Option Addr) (n c : Nat) (w : World) (hn : n ≤ 9223372036854775807) :
    Calls Try.prog 9 #[.slice A n c, .int .i64 (n : Int)] w fun e w' => e = .returned (.agg #[.int .i64 1, .int .i64 0, .slice none 0 0, .int .i64 0]) ∧ Below w.heap.size w w' := by
  have hs : (n : Int) - (n : Int) = 0 := by omega
  go_enter Try.func9, Try.ntmps9
  go_wp2
  exact bodyPost_ret (v := .agg #[.int .i64 1, .int .i64 0, .slice none 0 0, .int .i64 0]) (by simp [results, Try.results9, go_sem]) rfl ⟨rfl, (Below.refl _ _).alloc (Nat.le_refl _) _⟩
theorem rNext_few (A : Option Addr) (a m cm : Nat) (w : World) (h0 : 0 < m) (h7 : m < 7) (hnc : m ≤ cm) (hmc : a + cm ≤ 9223372036854775807) :
    Calls Try.prog 9 #[.slice A (a + m) (a + cm), .int .i64 (a : Int)] w fun e w' => e = .returned (.agg #[.int .i64 2, .int .i64 0, .slice none 0 0, .int .i64 0]) ∧ Below w.heap.size w w' := by
  have hsb : ((a : Int) + (m : Int)) - (a : Int) = (m : Int) := by omega
  have hd : decide (((a + m : Nat) : Int) < (a : Int)) = false := by simp; omega
  have hm0 : ((m : Int) == 0) = false := by rw [beq_eq_false_iff_ne]; omega
  have hm7 : decide ((m : Int) < 7) = true := by simp; omega
  go_enter Try.func9, Try.ntmps9
  go_wp2
  exact bodyPost_ret (v := .agg #[.int .i64 2, .int .i64 0, .slice none 0 0, .int .i64 0]) (by simp [results, Try.results9, go_sem]) rfl ⟨rfl, (Below.refl _ _).alloc (Nat.le_refl _) _⟩

set_option maxRecDepth 100000 in
set_option maxHeartbeats 1000000 in
theorem rNext_big (ad : Addr) (a m cm : Nat) (bs : List UInt8) (x0 x1 x2 : UInt8) (B : Nat) (w : World) (h7 : 7 ≤ m) (hm : m ≤ 10000) (hnc : m ≤ cm) (hmc : a + cm ≤ 9223372036854775807)
    (hr : Reads w B 1 (some ad) (a + m) (byteCells bs)) (hB : B ≤ w.heap.size) (e0 : bs[a]? = some x0) (e1 : bs[a + 1]? = some x1) (e2 : bs[a + 2]? = some x2) (q : Nat) (hq : 256 * x0.toNat + x1.toNat = q) (hp : 200 < q) :
    Calls Try.prog 9 #[.slice (some ad) (a + m) (a + cm), .int .i64 (a : Int)] w fun e w' => e = .returned (.agg #[.int .i64 3, .int .i64 0, .slice none 0 0, .int .i64 0]) ∧ Below w.heap.size w w' := by
  obtain ⟨ad1, _, E1, hblk, hx0, c0⟩ := hr.byte_at (k := a) (by omega)
  cases E1
  rw [e0] at hx0; cases hx0
  obtain ⟨ad1, _, E1, _, hx1, c1⟩ := hr.byte_at (k := a + 1) (by omega)
  cases E1
  rw [e1] at hx1; cases hx1
  obtain ⟨ad1, _, E1, _, hx2, c2⟩ := hr.byte_at (k := a + 2) (by omega)
  cases E1
  rw [e2] at hx2; cases hx2
  have HR := Lib.hid hr
  clear hr e0 e1 e2
  have hx0 := x0.toNat_lt
  have hx1 := x1.toNat_lt
  have hx2 := x2.toNat_lt
  have hql : q < 65536 := by omega
  have hqi : 256 * (x0.toNat : Int) + (x1.toNat : Int) = (q : Int) := by omega
  have hw1 : IntKind.i64.wrap (256 * (x0.toNat : Int)) = 256 * (x0.toNat : Int) := IntWalk.i64_in _ (by omega)
  have hw2 : IntKind.i64.wrap (q : Int) = (q : Int) := IntWalk.i64_in _ (by omega)
  have hw3 : IntKind.i64.wrap ((a : Int) + 1) = (a : Int) + 1 := IntWalk.i64_in _ (by omega)
  have HQ := Lib.hid hq
  clear hq
  have hsb : ((a : Int) + (m : Int)) - (a : Int) = (m : Int) := by omega
  have hd : decide (((a + m : Nat) : Int) < (a : Int)) = false := by simp; omega
  have hm0 : ((m : Int) == 0) = false := by rw [beq_eq_false_iff_ne]; omega
  have hm7 : decide ((m : Int) < 7) = false := by simp; omega
  have i1 : (0 : Int) ≤ (a : Int) := by omega
  have i2 : (a : Int) < (a : Int) + (m : Int) := by omega
  have i3 : (0 : Int) ≤ (a : Int) + 1 := by omega
  have i4 : (a : Int) + 1 < (a : Int) + (m : Int) := by omega
  have i5 : ((a : Int) + 1).toNat = a + 1 := by omega
  have d0 := (World.cell?_alloc_lt w (.cells #[.int .i64 0, .int .i64 0, .slice none 0 0, .int .i64 0] 31) (ad.add a) (by rw [block_of_add]; omega)).trans c0
  have d1 := (World.cell?_alloc_lt w (.cells #[.int .i64 0, .int .i64 0, .slice none 0 0, .int .i64 0] 31) (ad.add (a + 1)) (by rw [block_of_add]; omega)).trans c1
  have d2 := (World.cell?_alloc_lt w (.cells #[.int .i64 0, .int .i64 0, .slice none 0 0, .int .i64 0] 31) (ad.add (a + 2)) (by rw [block_of_add]; omega)).trans c2
  have d1' : (w.alloc (.cells #[.int .i64 0, .int .i64 0, .slice none 0 0, .int .i64 0] 31)).cell? ⟨ad.block, ad.off + (a + 1), none⟩ = some (.int .u8 (x1.toNat : Int)) := d1
  have d2' : (w.alloc (.cells #[.int .i64 0, .int .i64 0, .slice none 0 0, .int .i64 0] 31)).cell? ⟨ad.block, ad.off + (a + 2), none⟩ = some (.int .u8 (x2.toNat : Int)) := d2
  clear c0 c1 c2 d1 d2
  have h2 : decide ((200 : Int) < (q : Int)) = true := by simp; omega
  go_enter Try.func9, Try.ntmps9
  go_wp2
  go_quiet (fail)
  go_wp2
  exact bodyPost_ret (v := .agg #[.int .i64 3, .int .i64 0, .slice none 0 0, .int .i64 0]) (by simp [results, Try.results9, go_sem]) rfl ⟨rfl, (by repeat (first | exact (Below.refl _ _).alloc (Nat.le_refl _) _ | assumption | refine below_drewN ?_ _ | refine Below.setCell ?_ (by simp) _ | refine Below.drew ?_))⟩

set_option maxRecDepth 100000 in
set_option maxHeartbeats 1000000 in
theorem rNext_torn (ad : Addr) (a m cm : Nat) (bs : List UInt8) (x0 x1 x2 : UInt8) (B : Nat) (w : World) (h7 : 7 ≤ m) (hm : m ≤ 10000) (hnc : m ≤ cm) (hmc : a + cm ≤ 9223372036854775807)
    (hr : Reads w B 1 (some ad) (a + m) (byteCells bs)) (hB : B ≤ w.heap.size) (e0 : bs[a]? = some x0) (e1 : bs[a + 1]? = some x1) (e2 : bs[a + 2]? = some x2) (q : Nat) (hq : 256 * x0.toNat + x1.toNat = q) (hp : q ≤ 200) (hm' : m < q + 7) :
    Calls Try.prog 9 #[.slice (some ad) (a + m) (a + cm), .int .i64 (a : Int)] w fun e w' => e = .returned (.agg #[.int .i64 2, .int .i64 0, .slice none 0 0, .int .i64 0]) ∧ Below w.heap.size w w' := by
  obtain ⟨ad1, _, E1, hblk, hx0, c0⟩ := hr.byte_at (k := a) (by omega)
  cases E1
  rw [e0] at hx0; cases hx0
  obtain ⟨ad1, _, E1, _, hx1, c1⟩ := hr.byte_at (k := a + 1) (by omega)
  cases E1
  rw [e1] at hx1; cases hx1
  obtain ⟨ad1, _, E1, _, hx2, c2⟩ := hr.byte_at (k := a + 2) (by omega)
  cases E1
  rw [e2] at hx2; cases hx2
  have HR := Lib.hid hr
  clear hr e0 e1 e2
  have hx0 := x0.toNat_lt
  have hx1 := x1.toNat_lt
  have hx2 := x2.toNat_lt
  have hql : q < 65536 := by omega
  have hqi : 256 * (x0.toNat : Int) + (x1.toNat : Int) = (q : Int) := by omega
  have hw1 : IntKind.i64.wrap (256 * (x0.toNat : Int)) = 256 * (x0.toNat : Int) := IntWalk.i64_in _ (by omega)
  have hw2 : IntKind.i64.wrap (q : Int) = (q : Int) := IntWalk.i64_in _ (by omega)
  have hw3 : IntKind.i64.wrap ((a : Int) + 1) = (a : Int) + 1 := IntWalk.i64_in _ (by omega)
  have HQ := Lib.hid hq
  clear hq
  have hsb : ((a : Int) + (m : Int)) - (a : Int) = (m : Int) := by omega
  have hd : decide (((a + m : Nat) : Int) < (a : Int)) = false := by simp; omega
  have hm0 : ((m : Int) == 0) = false := by rw [beq_eq_false_iff_ne]; omega
  have hm7 : decide ((m : Int) < 7) = false := by simp; omega
  have i1 : (0 : Int) ≤ (a : Int) := by omega
  have i2 : (a : Int) < (a : Int) + (m : Int) := by omega
  have i3 : (0 : Int) ≤ (a : Int) + 1 := by omega
  have i4 : (a : Int) + 1 < (a : Int) + (m : Int) := by omega
  have i5 : ((a : Int) + 1).toNat = a + 1 := by omega
  have d0 := (World.cell?_alloc_lt w (.cells #[.int .i64 0, .int .i64 0, .slice none 0 0, .int .i64 0] 31) (ad.add a) (by rw [block_of_add]; omega)).trans c0
  have d1 := (World.cell?_alloc_lt w (.cells #[.int .i64 0, .int .i64 0, .slice none 0 0, .int .i64 0] 31) (ad.add (a + 1)) (by rw [block_of_add]; omega)).trans c1
  have d2 := (World.cell?_alloc_lt w (.cells #[.int .i64 0, .int .i64 0, .slice none 0 0, .int .i64 0] 31) (ad.add (a + 2)) (by rw [block_of_add]; omega)).trans c2
  have d1' : (w.alloc (.cells #[.int .i64 0, .int .i64 0, .slice none 0 0, .int .i64 0] 31)).cell? ⟨ad.block, ad.off + (a + 1), none⟩ = some (.int .u8 (x1.toNat : Int)) := d1
  have d2' : (w.alloc (.cells #[.int .i64 0, .int .i64 0, .slice none 0 0, .int .i64 0] 31)).cell? ⟨ad.block, ad.off + (a + 2), none⟩ = some (.int .u8 (x2.toNat : Int)) := d2
  clear c0 c1 c2 d1 d2
  have h2 : decide ((200 : Int) < (q : Int)) = false := by simp; omega
  have h3 : decide ((m : Int) < 7 + (q : Int)) = true := by simp; omega
  go_enter Try.func9, Try.ntmps9
  go_wp2
  go_quiet (fail)
  go_wp2
  exact bodyPost_ret (v := .agg #[.int .i64 2, .int .i64 0, .slice none 0 0, .int .i64 0]) (by simp [results, Try.results9, go_sem]) rfl ⟨rfl, (by repeat (first | exact (Below.refl _ _).alloc (Nat.le_refl _) _ | assumption | refine below_drewN ?_ _ | refine Below.setCell ?_ (by simp) _ | refine Below.drew ?_))⟩

set_option maxRecDepth 100000 in
set_option maxHeartbeats 1000000 in
theorem rNext_kind (ad : Addr) (a m cm : Nat) (bs : List UInt8) (x0 x1 x2 : UInt8) (B : Nat) (w : World) (h7 : 7 ≤ m) (hm : m ≤ 10000) (hnc : m ≤ cm) (hmc : a + cm ≤ 9223372036854775807)
    (hr : Reads w B 1 (some ad) (a + m) (byteCells bs)) (hB : B ≤ w.heap.size) (e0 : bs[a]? = some x0) (e1 : bs[a + 1]? = some x1) (e2 : bs[a + 2]? = some x2) (q : Nat) (hq : 256 * x0.toNat + x1.toNat = q) (hp : q ≤ 200) (hm' : q + 7 ≤ m) (hk : (x2.toNat : Int) < 1 ∨ 3 < (x2.toNat : Int)) :
    Calls Try.prog 9 #[.slice (some ad) (a + m) (a + cm), .int .i64 (a : Int)] w fun e w' => e = .returned (.agg #[.int .i64 3, .int .i64 0, .slice none 0 0, .int .i64 0]) ∧ Below w.heap.size w w' := by
  obtain ⟨ad1, _, E1, hblk, hx0, c0⟩ := hr.byte_at (k := a) (by omega)
  cases E1
  rw [e0] at hx0; cases hx0
  obtain ⟨ad1, _, E1, _, hx1, c1⟩ := hr.byte_at (k := a + 1) (by omega)
  cases E1
  rw [e1] at hx1; cases hx1
  obtain ⟨ad1, _, E1, _, hx2, c2⟩ := hr.byte_at (k := a + 2) (by omega)
  cases E1
  rw [e2] at hx2; cases hx2
  have HR := Lib.hid hr
  clear hr e0 e1 e2
  have hx0 := x0.toNat_lt
  have hx1 := x1.toNat_lt
  have hx2 := x2.toNat_lt
  have hql : q < 65536 := by omega
  have hqi : 256 * (x0.toNat : Int) + (x1.toNat : Int) = (q : Int) := by omega
  have hw1 : IntKind.i64.wrap (256 * (x0.toNat : Int)) = 256 * (x0.toNat : Int) := IntWalk.i64_in _ (by omega)
  have hw2 : IntKind.i64.wrap (q : Int) = (q : Int) := IntWalk.i64_in _ (by omega)
  have hw3 : IntKind.i64.wrap ((a : Int) + 1) = (a : Int) + 1 := IntWalk.i64_in _ (by omega)
  have HQ := Lib.hid hq
  clear hq
  have hsb : ((a : Int) + (m : Int)) - (a : Int) = (m : Int) := by omega
  have hd : decide (((a + m : Nat) : Int) < (a : Int)) = false := by simp; omega
  have hm0 : ((m : Int) == 0) = false := by rw [beq_eq_false_iff_ne]; omega
  have hm7 : decide ((m : Int) < 7) = false := by simp; omega
  have i1 : (0 : Int) ≤ (a : Int) := by omega
  have i2 : (a : Int) < (a : Int) + (m : Int) := by omega
  have i3 : (0 : Int) ≤ (a : Int) + 1 := by omega
  have i4 : (a : Int) + 1 < (a : Int) + (m : Int) := by omega
  have i5 : ((a : Int) + 1).toNat = a + 1 := by omega
  have d0 := (World.cell?_alloc_lt w (.cells #[.int .i64 0, .int .i64 0, .slice none 0 0, .int .i64 0] 31) (ad.add a) (by rw [block_of_add]; omega)).trans c0
  have d1 := (World.cell?_alloc_lt w (.cells #[.int .i64 0, .int .i64 0, .slice none 0 0, .int .i64 0] 31) (ad.add (a + 1)) (by rw [block_of_add]; omega)).trans c1
  have d2 := (World.cell?_alloc_lt w (.cells #[.int .i64 0, .int .i64 0, .slice none 0 0, .int .i64 0] 31) (ad.add (a + 2)) (by rw [block_of_add]; omega)).trans c2
  have d1' : (w.alloc (.cells #[.int .i64 0, .int .i64 0, .slice none 0 0, .int .i64 0] 31)).cell? ⟨ad.block, ad.off + (a + 1), none⟩ = some (.int .u8 (x1.toNat : Int)) := d1
  have d2' : (w.alloc (.cells #[.int .i64 0, .int .i64 0, .slice none 0 0, .int .i64 0] 31)).cell? ⟨ad.block, ad.off + (a + 2), none⟩ = some (.int .u8 (x2.toNat : Int)) := d2
  clear c0 c1 c2 d1 d2
  have h2 : decide ((200 : Int) < (q : Int)) = false := by simp; omega
  have h3 : decide ((m : Int) < 7 + (q : Int)) = false := by simp; omega
  have hc3 : ¬ a + cm = a + 3 := by omega
  have hc3' : ¬ cm = 3 := by omega
  go_enter Try.func9, Try.ntmps9
  go_wp2
  go_quiet (fail)
  go_wp2
  rcases hk with hk | hk
  · have hk1 : decide ((x2.toNat : Int) < 1) = true := by simpa using hk
    go_quiet (fail)
    go_wp2
    exact bodyPost_ret (v := .agg #[.int .i64 3, .int .i64 0, .slice none 0 0, .int .i64 0]) (by simp [results, Try.results9, go_sem]) rfl ⟨rfl, (by repeat (first | exact (Below.refl _ _).alloc (Nat.le_refl _) _ | assumption | refine below_drewN ?_ _ | refine Below.setCell ?_ (by simp) _ | refine Below.drew ?_))⟩
  · have hk1 : decide ((x2.toNat : Int) < 1) = false := by simp; omega
    have hk2 : decide ((3 : Int) < (x2.toNat : Int)) = true := by simpa using hk
    go_quiet (fail)
    go_wp2
    exact bodyPost_ret (v := .agg #[.int .i64 3, .int .i64 0, .slice none 0 0, .int .i64 0]) (by simp [results, Try.results9, go_sem]) rfl ⟨rfl, (by repeat (first | exact (Below.refl _ _).alloc (Nat.le_refl _) _ | assumption | refine below_drewN ?_ _ | refine Below.setCell ?_ (by simp) _ | refine Below.drew ?_))⟩

set_option maxRecDepth 100000 in
set_option maxHeartbeats 1000000 in
theorem rNext_bad (ad : Addr) (a m cm : Nat) (bs : List UInt8) (x0 x1 x2 : UInt8) (B : Nat) (w : World) (h7 : 7 ≤ m) (hm : m ≤ 10000) (hnc : m ≤ cm) (hmc : a + cm ≤ 9223372036854775807)
    (hr : Reads w B 1 (some ad) (a + m) (byteCells bs)) (hB : B ≤ w.heap.size) (e0 : bs[a]? = some x0) (e1 : bs[a + 1]? = some x1) (e2 : bs[a + 2]? = some x2) (q : Nat) (hq : 256 * x0.toNat + x1.toNat = q) (hp : q ≤ 200) (hm' : q + 7 ≤ m) (hk1' : 1 ≤ (x2.toNat : Int)) (hk3' : (x2.toNat : Int) ≤ 3) (hs : (frameB (x2.toNat : Int) ((bs.drop (a + 3)).take q) == (bs.drop a).take (q + 7)) = false) :
    Calls Try.prog 9 #[.slice (some ad) (a + m) (a + cm), .int .i64 (a : Int)] w fun e w' => e = .returned (.agg #[.int .i64 3, .int .i64 0, .slice none 0 0, .int .i64 0]) ∧ Below w.heap.size w w' := by
  obtain ⟨ad1, _, E1, hblk, hx0, c0⟩ := hr.byte_at (k := a) (by omega)
  cases E1
  rw [e0] at hx0; cases hx0
  obtain ⟨ad1, _, E1, _, hx1, c1⟩ := hr.byte_at (k := a + 1) (by omega)
  cases E1
  rw [e1] at hx1; cases hx1
  obtain ⟨ad1, _, E1, _, hx2, c2⟩ := hr.byte_at (k := a + 2) (by omega)
  cases E1
  rw [e2] at hx2; cases hx2
  have HR := Lib.hid hr
  clear hr e0 e1 e2
  have hx0 := x0.toNat_lt
  have hx1 := x1.toNat_lt
  have hx2 := x2.toNat_lt
  have hql : q < 65536 := by omega
  have hqi : 256 * (x0.toNat : Int) + (x1.toNat : Int) = (q : Int) := by omega
  have hw1 : IntKind.i64.wrap (256 * (x0.toNat : Int)) = 256 * (x0.toNat : Int) := IntWalk.i64_in _ (by omega)
  have hw2 : IntKind.i64.wrap (q : Int) = (q : Int) := IntWalk.i64_in _ (by omega)
  have hw3 : IntKind.i64.wrap ((a : Int) + 1) = (a : Int) + 1 := IntWalk.i64_in _ (by omega)
  have HQ := Lib.hid hq
  clear hq
  have hsb : ((a : Int) + (m : Int)) - (a : Int) = (m : Int) := by omega
  have hd : decide (((a + m : Nat) : Int) < (a : Int)) = false := by simp; omega
  have hm0 : ((m : Int) == 0) = false := by rw [beq_eq_false_iff_ne]; omega
  have hm7 : decide ((m : Int) < 7) = false := by simp; omega
  have i1 : (0 : Int) ≤ (a : Int) := by omega
  have i2 : (a : Int) < (a : Int) + (m : Int) := by omega
  have i3 : (0 : Int) ≤ (a : Int) + 1 := by omega
  have i4 : (a : Int) + 1 < (a : Int) + (m : Int) := by omega
  have i5 : ((a : Int) + 1).toNat = a + 1 := by omega
  have d0 := (World.cell?_alloc_lt w (.cells #[.int .i64 0, .int .i64 0, .slice none 0 0, .int .i64 0] 31) (ad.add a) (by rw [block_of_add]; omega)).trans c0
  have d1 := (World.cell?_alloc_lt w (.cells #[.int .i64 0, .int .i64 0, .slice none 0 0, .int .i64 0] 31) (ad.add (a + 1)) (by rw [block_of_add]; omega)).trans c1
  have d2 := (World.cell?_alloc_lt w (.cells #[.int .i64 0, .int .i64 0, .slice none 0 0, .int .i64 0] 31) (ad.add (a + 2)) (by rw [block_of_add]; omega)).trans c2
  have d1' : (w.alloc (.cells #[.int .i64 0, .int .i64 0, .slice none 0 0, .int .i64 0] 31)).cell? ⟨ad.block, ad.off + (a + 1), none⟩ = some (.int .u8 (x1.toNat : Int)) := d1
  have d2' : (w.alloc (.cells #[.int .i64 0, .int .i64 0, .slice none 0 0, .int .i64 0] 31)).cell? ⟨ad.block, ad.off + (a + 2), none⟩ = some (.int .u8 (x2.toNat : Int)) := d2
  clear c0 c1 c2 d1 d2
  have HS := Lib.hid hs; clear hs
  have h2 : decide ((200 : Int) < (q : Int)) = false := by simp; omega
  have h3 : decide ((m : Int) < 7 + (q : Int)) = false := by simp; omega
  have hc3 : ¬ a + cm = a + 3 := by omega
  have hc3' : ¬ cm = 3 := by omega
  have HR2 := Lib.hid (show Reads w B 1 (some (ad.add a)) (q + 7) (byteCells ((bs.drop a).take (q + 7))) from by
    have h := (HR.out.sufB (k := a) (cap := a + cm) (by omega) (by omega)).preB (k := q + 7) (by omega)
    rw [if_neg (by omega), Option.map_some] at h
    exact h)
  have HR3 := Lib.hid (show Reads w B 1 (some (ad.add (a + 3))) q (byteCells ((bs.drop (a + 3)).take q)) from by
    have h := (HR.out.sufB (k := a + 3) (cap := a + cm) (by omega) (by omega)).preB (k := q) (by omega)
    rw [if_neg (by omega), Option.map_some] at h
    exact h)
  have hk1 : decide ((x2.toNat : Int) < 1) = false := by simp; omega
  have hk2 : decide ((3 : Int) < (x2.toNat : Int)) = false := by simp; omega
  have hsub : a + 3 + q - (a + 3) = q := by omega
  have hsub2 : a + cm - (a + 3) = cm - 3 := by omega
  have hsub3 : a + 7 + q - a = q + 7 := by omega
  have hcm0 : ¬ cm = 0 := by omega
  have j1 : IntKind.i64.wrap ((a : Int) + 7) = (a : Int) + 7 := IntWalk.i64_in _ (by omega)
  have j2 : IntKind.i64.wrap ((a : Int) + 7 + (q : Int)) = (a : Int) + 7 + (q : Int) := IntWalk.i64_in _ (by omega)
  have j3 : (0 : Int) ≤ (a : Int) + 7 + (q : Int) := by omega
  have j4 : (a : Int) ≤ (a : Int) + 7 + (q : Int) := by omega
  have j5 : (a : Int) + 7 + (q : Int) ≤ (a : Int) + (cm : Int) := by omega
  have j6 : ((a : Int) + 7 + (q : Int)).toNat = a + 7 + q := by omega
  go_enter Try.func9, Try.ntmps9
  go_wp2
  go_quiet (fail)
  go_wp2
  generalize hW : (w.alloc (.cells #[.int .i64 0, .int .i64 0, .slice none 0 0, .int .i64 0] 31)).drewN _ = w0
  have HB0 := Lib.hid (show Below w.heap.size w w0 from by rw [← hW]; exact below_drewN ((Below.refl _ _).alloc (Nat.le_refl _) _) _)
  have HF0 := Lib.hid (show Blk w0 w.heap.size 31 #[.int .i64 0, .int .i64 0, .slice none 0 0, .int .i64 0] from by rw [← hW]; exact (Blk.new w 31 _).drewN _)
  clear hW d0 d1' d2'
  refine wp_region_noPanic ?_
  refine wp_region_held_drew (S := fun W => Below w0.heap.size w0 W) (by kernel_rfl) ((Below.refl _ _).drew) (fun hHeld => ?_)
  refine takeH 0 (v := ?v0u17) rfl (by kernel_rfl) (by kernel_rfl) (by kernel_rfl) rfl (fun _ _ _ h => h) (Or.inl ⟨by rfl, ?y0u17⟩) hHeld ?r0u17
  case y0u17 => (intro W hSW; (try dsimp only at hSW); go_simp; try with_reducible rfl)
  simp only [Act.put, List.setIfInBounds_toArray, List.set_cons_zero, List.set_cons_succ]
  refine takeH 1 (v := ?v1u18) rfl (by kernel_rfl) (by kernel_rfl) (by kernel_rfl) rfl (fun _ _ _ h => h) (Or.inl ⟨by rfl, ?y1u18⟩) hHeld ?r1u18
  case y1u18 => (intro W hSW; (try dsimp only at hSW); go_simp; try with_reducible rfl)
  simp only [Act.put, List.setIfInBounds_toArray, List.set_cons_zero, List.set_cons_succ]
  refine takeH 2 (v := ?v2u19) rfl (by kernel_rfl) (by kernel_rfl) (by kernel_rfl) rfl (fun _ _ _ h => h) (Or.inl ⟨by rfl, ?y2u19⟩) hHeld ?r2u19
  case y2u19 => (intro W hSW; (try dsimp only at hSW); go_simp; try with_reducible rfl)
  simp only [Act.put, List.setIfInBounds_toArray, List.set_cons_zero, List.set_cons_succ]
  refine takeH 3 (v := ?v3u20) rfl (by kernel_rfl) (by kernel_rfl) (by kernel_rfl) rfl (fun _ _ _ h => h) (Or.inl ⟨by rfl, ?y3u20⟩) hHeld ?r3u20
  case y3u20 => (intro W hSW; (try dsimp only at hSW); go_simp; try with_reducible rfl)
  simp only [Act.put, List.setIfInBounds_toArray, List.set_cons_zero, List.set_cons_succ]
  refine takeH 4 (v := ?v4u21) rfl (by kernel_rfl) (by kernel_rfl) (by kernel_rfl) rfl (fun _ _ _ h => h) (Or.inl ⟨by rfl, ?y4u21⟩) hHeld ?r4u21
  case y4u21 => (intro W hSW; (try dsimp only at hSW); go_simp; try with_reducible rfl)
  simp only [Act.put, List.setIfInBounds_toArray, List.set_cons_zero, List.set_cons_succ]
  refine takeH 5 (v := ?v5u22) rfl (by kernel_rfl) (by kernel_rfl) (by kernel_rfl) rfl (fun _ _ _ h => h) (Or.inl ⟨by rfl, ?y5u22⟩) hHeld ?r5u22
  case y5u22 => (intro W hSW; (try dsimp only at hSW); go_simp; try with_reducible rfl)
  simp only [Act.put, List.setIfInBounds_toArray, List.set_cons_zero, List.set_cons_succ]
  refine takeH 6 (v := ?v6u23) rfl (by kernel_rfl) (by kernel_rfl) (by kernel_rfl) rfl (fun _ _ _ h => h) (Or.inl ⟨by rfl, ?y6u23⟩) hHeld ?r6u23
  case y6u23 => (intro W hSW; (try dsimp only at hSW); go_simp; try with_reducible rfl)
  simp only [Act.put, List.setIfInBounds_toArray, List.set_cons_zero, List.set_cons_succ]
  refine takeH 7 (v := ?v7u24) rfl (by kernel_rfl) (by kernel_rfl) (by kernel_rfl) rfl (fun _ _ _ h => h) (Or.inl ⟨by rfl, ?y7u24⟩) hHeld ?r7u24
  case y7u24 => (intro W hSW; (try dsimp only at hSW); go_simp; try with_reducible rfl)
  simp only [Act.put, List.setIfInBounds_toArray, List.set_cons_zero, List.set_cons_succ]
  refine takeH 8 (v := ?v8u25) rfl (by kernel_rfl) (by kernel_rfl) (by kernel_rfl) rfl (fun _ _ _ h => h) (Or.inl ⟨by rfl, ?y8u25⟩) hHeld ?r8u25
  case y8u25 => (intro W hSW; (try dsimp only at hSW); go_simp; try with_reducible rfl)
  simp only [Act.put, List.setIfInBounds_toArray, List.set_cons_zero, List.set_cons_succ]
  refine takeH 11 (v := ?v11u26) rfl (by kernel_rfl) (by kernel_rfl) (by kernel_rfl) rfl (fun _ _ _ h => h) (Or.inl ⟨by rfl, ?y11u26⟩) hHeld ?r11u26
  case y11u26 => (intro W hSW; (try dsimp only at hSW); go_simp; try with_reducible rfl)
  simp only [Act.put, List.setIfInBounds_toArray, List.set_cons_zero, List.set_cons_succ]
  refine takeH 12 (v := ?v12u27) rfl (by kernel_rfl) (by kernel_rfl) (by kernel_rfl) rfl (fun _ _ _ h => h) (Or.inl ⟨by rfl, ?y12u27⟩) hHeld ?r12u27
  case y12u27 => (intro W hSW; (try dsimp only at hSW); go_simp; try with_reducible rfl)
  simp only [Act.put, List.setIfInBounds_toArray, List.set_cons_zero, List.set_cons_succ]
  refine takeH 13 (v := ?v13u28) rfl (by kernel_rfl) (by kernel_rfl) (by kernel_rfl) rfl (fun _ _ _ h => h) (Or.inl ⟨by rfl, ?y13u28⟩) hHeld ?r13u28
  case y13u28 => (intro W hSW; (try dsimp only at hSW); go_simp; try with_reducible rfl)
  simp only [Act.put, List.setIfInBounds_toArray, List.set_cons_zero, List.set_cons_succ]
  refine takeH 14 (v := ?v14u29) rfl (by kernel_rfl) (by kernel_rfl) (by kernel_rfl) rfl (fun _ _ _ h => h) (Or.inl ⟨by rfl, ?y14u29⟩) hHeld ?r14u29
  case y14u29 => (intro W hSW; (try dsimp only at hSW); go_simp; try with_reducible rfl)
  simp only [Act.put, List.setIfInBounds_toArray, List.set_cons_zero, List.set_cons_succ]
  refine takeH 15 (v := ?v15u30) rfl (by kernel_rfl) (by kernel_rfl) (by kernel_rfl) rfl (fun _ _ _ h => h) (Or.inl ⟨by rfl, ?y15u30⟩) hHeld ?r15u30
  case y15u30 => (intro W hSW; (try dsimp only at hSW); go_simp; try with_reducible rfl)
  simp only [Act.put, List.setIfInBounds_toArray, List.set_cons_zero, List.set_cons_succ]
  refine takeH 16 (v := ?v16u31) rfl (by kernel_rfl) (by kernel_rfl) (by kernel_rfl) rfl (fun _ _ _ h => h) (Or.inl ⟨by rfl, ?y16u31⟩) hHeld ?r16u31
  case y16u31 => (intro W hSW; (try dsimp only at hSW); go_simp; try with_reducible rfl)
  simp only [Act.put, List.setIfInBounds_toArray, List.set_cons_zero, List.set_cons_succ]
  refine takeH 17 (v := ?v17u32) rfl (by kernel_rfl) (by kernel_rfl) (by kernel_rfl) rfl (fun _ _ _ h => h) (Or.inl ⟨by rfl, ?y17u32⟩) hHeld ?r17u32
  case y17u32 => (intro W hSW; (try dsimp only at hSW); go_simp; try with_reducible rfl)
  simp only [Act.put, List.setIfInBounds_toArray, List.set_cons_zero, List.set_cons_succ]
  refine takeH 18 (v := ?v18u33) rfl (by kernel_rfl) (by kernel_rfl) (by kernel_rfl) rfl (fun _ _ _ h => h) (Or.inl ⟨by rfl, ?y18u33⟩) hHeld ?r18u33
  case y18u33 => (intro W hSW; (try dsimp only at hSW); have hcv := fun c => conv_reads (HR2.out.below ((HB0.out.trans (Below.mono hSW HB0.out.size)).mono hB)) c; go_simp; try with_reducible rfl)
  simp only [Act.put, List.setIfInBounds_toArray, List.set_cons_zero, List.set_cons_succ]
  refine wpAnyH_ready (rs := [9]) (by kernel_rfl) (by simp) ?_
  refine AllReadyH.cons rfl (fun K hK => ?_) AllReadyH.nil
  go_simp
  refine (rPut_c (x2.toNat : Int) (some (ad.add (a + 3))) q (cm - 3) B ((bs.drop (a + 3)).take q) _ hk1' hk3' hp (HR3.out.below ((HB0.out.trans (Below.mono hHeld HB0.out.size)).mono hB)) (Nat.le_trans hB (Nat.le_trans HB0.out.size (Below.size hHeld)))).mono ?_
  rintro e w2 ⟨v, rfl, hown, hb2⟩
  obtain ⟨A1, c1, rfl, _, _, _, hR1⟩ := own_reads hown
  have hcv := conv_reads hR1 c1
  refine hK.out _ _ (Below.trans hHeld (hb2.mono (Below.size hHeld))) (fun hHeld => ?_)
  clear hK K
  try simp only [Act.put, List.setIfInBounds_toArray, List.set_cons_zero, List.set_cons_succ]
  refine wpAnyH_ready (rs := [10]) (by kernel_rfl) (by simp) ?_
  refine AllReadyH.cons rfl (fun K hK => ?_) AllReadyH.nil
  go_simp
  refine hK.out _ _ hHeld (fun hHeld => ?_)
  clear hK K
  try simp only [Act.put, List.setIfInBounds_toArray, List.set_cons_zero, List.set_cons_succ]
  have hs1 := HS.out
  have hs2 : (frameB (x2.toNat : Int) ((bs.drop (a + 3)).take q) != (bs.drop a).take (q + 7)) = true := by rw [bne, HS.out]; rfl
  refine takeH 19 (v := ?v19u34) rfl (by kernel_rfl) (by kernel_rfl) (by kernel_rfl) rfl (fun _ _ _ h => h) (Or.inl ⟨by rfl, ?y19u34⟩) hHeld ?r19u34
  case y19u34 => (intro W hSW; (try dsimp only at hSW); go_simp; try with_reducible rfl)
  simp only [Act.put, List.setIfInBounds_toArray, List.set_cons_zero, List.set_cons_succ]
  refine takeH 20 (v := ?v20u35) rfl (by kernel_rfl) (by kernel_rfl) (by kernel_rfl) rfl (fun _ _ _ h => h) (Or.inl ⟨by rfl, ?y20u35⟩) hHeld ?r20u35
  case y20u35 => (intro W hSW; (try dsimp only at hSW); go_simp; try with_reducible rfl)
  simp only [Act.put, List.setIfInBounds_toArray, List.set_cons_zero, List.set_cons_succ]
  refine wpAnyH_done (by kernel_rfl) ?_ _
  refine NoPanic.normal ?_
  have HB2 := Lib.hid (show Below w0.heap.size w0 w2 from hHeld)
  have HBE := Lib.hid (HB0.out.trans (HB2.out.mono HB0.out.size))
  have HF2 := Lib.hid (HF0.out.below HB2.out HF0.out.lt)
  have k0 := HF2.out.cell 0
  have k1 := HF2.out.cell 1
  have k2 := HF2.out.cell 2
  have k3 := HF2.out.cell 3
  have f0 := HF2.out.frozen 0
  have f1 := HF2.out.frozen 1
  have f2 := HF2.out.frozen 2
  have f3 := HF2.out.frozen 3
  simp only [List.getElem?_toArray, List.getElem?_cons_zero, List.getElem?_cons_succ] at k0 k1 k2 k3
  clear hHeld hb2 hcv hR1 hown HF0 HF2 HB2 hs1 hs2
  go_wp2
  exact bodyPost_ret (v := .agg #[.int .i64 3, .int .i64 0, .slice none 0 0, .int .i64 0]) (by simp [results, Try.results9, go_sem, k0, k1, k2, k3]) rfl ⟨rfl, by have hbe := HBE.out; exact (by repeat (first | exact (Below.refl _ _).alloc (Nat.le_refl _) _ | assumption | refine below_drewN ?_ _ | refine Below.setCell ?_ (by simp) _ | refine Below.drew ?_))⟩

set_option maxRecDepth 100000 in
set_option maxHeartbeats 1000000 in
theorem rNext_yes (ad : Addr) (a m cm : Nat) (bs : List UInt8) (x0 x1 x2 : UInt8) (B : Nat) (w : World) (h7 : 7 ≤ m) (hm : m ≤ 10000) (hnc : m ≤ cm) (hmc : a + cm ≤ 9223372036854775807)
    (hr : Reads w B 1 (some ad) (a + m) (byteCells bs)) (hB : B ≤ w.heap.size) (e0 : bs[a]? = some x0) (e1 : bs[a + 1]? = some x1) (e2 : bs[a + 2]? = some x2) (q : Nat) (hq : 256 * x0.toNat + x1.toNat = q) (hp : q ≤ 200) (hm' : q + 7 ≤ m) (hk1' : 1 ≤ (x2.toNat : Int)) (hk3' : (x2.toNat : Int) ≤ 3) (hs : (frameB (x2.toNat : Int) ((bs.drop (a + 3)).take q) == (bs.drop a).take (q + 7)) = true) :
    Calls Try.prog 9 #[.slice (some ad) (a + m) (a + cm), .int .i64 (a : Int)] w fun e w' => e = .returned (.agg #[.int .i64 0, .int .i64 (x2.toNat : Int), .slice (some (ad.add (a + 3))) q (cm - 3), .int .i64 (7 + (q : Int))]) ∧ Below w.heap.size w w' := by
  obtain ⟨ad1, _, E1, hblk, hx0, c0⟩ := hr.byte_at (k := a) (by omega)
  cases E1
  rw [e0] at hx0; cases hx0
  obtain ⟨ad1, _, E1, _, hx1, c1⟩ := hr.byte_at (k := a + 1) (by omega)
  cases E1
  rw [e1] at hx1; cases hx1
  obtain ⟨ad1, _, E1, _, hx2, c2⟩ := hr.byte_at (k := a + 2) (by omega)
  cases E1
  rw [e2] at hx2; cases hx2
  have HR := Lib.hid hr
  clear hr e0 e1 e2
  have hx0 := x0.toNat_lt
  have hx1 := x1.toNat_lt
  have hx2 := x2.toNat_lt
  have hql : q < 65536 := by omega
  have hqi : 256 * (x0.toNat : Int) + (x1.toNat : Int) = (q : Int) := by omega
  have hw1 : IntKind.i64.wrap (256 * (x0.toNat : Int)) = 256 * (x0.toNat : Int) := IntWalk.i64_in _ (by omega)
  have hw2 : IntKind.i64.wrap (q : Int) = (q : Int) := IntWalk.i64_in _ (by omega)
  have hw3 : IntKind.i64.wrap ((a : Int) + 1) = (a : Int) + 1 := IntWalk.i64_in _ (by omega)
  have HQ := Lib.hid hq
  clear hq
  have hsb : ((a : Int) + (m : Int)) - (a : Int) = (m : Int) := by omega
  have hd : decide (((a + m : Nat) : Int) < (a : Int)) = false := by simp; omega
  have hm0 : ((m : Int) == 0) = false := by rw [beq_eq_false_iff_ne]; omega
  have hm7 : decide ((m : Int) < 7) = false := by simp; omega
  have i1 : (0 : Int) ≤ (a : Int) := by omega
  have i2 : (a : Int) < (a : Int) + (m : Int) := by omega
  have i3 : (0 : Int) ≤ (a : Int) + 1 := by omega
  have i4 : (a : Int) + 1 < (a : Int) + (m : Int) := by omega
  have i5 : ((a : Int) + 1).toNat = a + 1 := by omega
  have d0 := (World.cell?_alloc_lt w (.cells #[.int .i64 0, .int .i64 0, .slice none 0 0, .int .i64 0] 31) (ad.add a) (by rw [block_of_add]; omega)).trans c0
  have d1 := (World.cell?_alloc_lt w (.cells #[.int .i64 0, .int .i64 0, .slice none 0 0, .int .i64 0] 31) (ad.add (a + 1)) (by rw [block_of_add]; omega)).trans c1
  have d2 := (World.cell?_alloc_lt w (.cells #[.int .i64 0, .int .i64 0, .slice none 0 0, .int .i64 0] 31) (ad.add (a + 2)) (by rw [block_of_add]; omega)).trans c2
  have d1' : (w.alloc (.cells #[.int .i64 0, .int .i64 0, .slice none 0 0, .int .i64 0] 31)).cell? ⟨ad.block, ad.off + (a + 1), none⟩ = some (.int .u8 (x1.toNat : Int)) := d1
  have d2' : (w.alloc (.cells #[.int .i64 0, .int .i64 0, .slice none 0 0, .int .i64 0] 31)).cell? ⟨ad.block, ad.off + (a + 2), none⟩ = some (.int .u8 (x2.toNat : Int)) := d2
  clear c0 c1 c2 d1 d2
  have HS := Lib.hid hs; clear hs
  have h2 : decide ((200 : Int) < (q : Int)) = false := by simp; omega
  have h3 : decide ((m : Int) < 7 + (q : Int)) = false := by simp; omega
  have hc3 : ¬ a + cm = a + 3 := by omega
  have hc3' : ¬ cm = 3 := by omega
  have HR2 := Lib.hid (show Reads w B 1 (some (ad.add a)) (q + 7) (byteCells ((bs.drop a).take (q + 7))) from by
    have h := (HR.out.sufB (k := a) (cap := a + cm) (by omega) (by omega)).preB (k := q + 7) (by omega)
    rw [if_neg (by omega), Option.map_some] at h
    exact h)
  have HR3 := Lib.hid (show Reads w B 1 (some (ad.add (a + 3))) q (byteCells ((bs.drop (a + 3)).take q)) from by
    have h := (HR.out.sufB (k := a + 3) (cap := a + cm) (by omega) (by omega)).preB (k := q) (by omega)
    rw [if_neg (by omega), Option.map_some] at h
    exact h)
  have hk1 : decide ((x2.toNat : Int) < 1) = false := by simp; omega
  have hk2 : decide ((3 : Int) < (x2.toNat : Int)) = false := by simp; omega
  have hsub : a + 3 + q - (a + 3) = q := by omega
  have hsub2 : a + cm - (a + 3) = cm - 3 := by omega
  have hsub3 : a + 7 + q - a = q + 7 := by omega
  have hcm0 : ¬ cm = 0 := by omega
  have j1 : IntKind.i64.wrap ((a : Int) + 7) = (a : Int) + 7 := IntWalk.i64_in _ (by omega)
  have j2 : IntKind.i64.wrap ((a : Int) + 7 + (q : Int)) = (a : Int) + 7 + (q : Int) := IntWalk.i64_in _ (by omega)
  have j3 : (0 : Int) ≤ (a : Int) + 7 + (q : Int) := by omega
  have j4 : (a : Int) ≤ (a : Int) + 7 + (q : Int) := by omega
  have j5 : (a : Int) + 7 + (q : Int) ≤ (a : Int) + (cm : Int) := by omega
  have j6 : ((a : Int) + 7 + (q : Int)).toNat = a + 7 + q := by omega
  go_enter Try.func9, Try.ntmps9
  go_wp2
  go_quiet (fail)
  go_wp2
  generalize hW : (w.alloc (.cells #[.int .i64 0, .int .i64 0, .slice none 0 0, .int .i64 0] 31)).drewN _ = w0
  have HB0 := Lib.hid (show Below w.heap.size w w0 from by rw [← hW]; exact below_drewN ((Below.refl _ _).alloc (Nat.le_refl _) _) _)
  have HF0 := Lib.hid (show Blk w0 w.heap.size 31 #[.int .i64 0, .int .i64 0, .slice none 0 0, .int .i64 0] from by rw [← hW]; exact (Blk.new w 31 _).drewN _)
  clear hW d0 d1' d2'
  refine wp_region_noPanic ?_
  refine wp_region_held_drew (S := fun W => Below w0.heap.size w0 W) (by kernel_rfl) ((Below.refl _ _).drew) (fun hHeld => ?_)
  refine takeH 0 (v := ?v0u36) rfl (by kernel_rfl) (by kernel_rfl) (by kernel_rfl) rfl (fun _ _ _ h => h) (Or.inl ⟨by rfl, ?y0u36⟩) hHeld ?r0u36
  case y0u36 => (intro W hSW; (try dsimp only at hSW); go_simp; try with_reducible rfl)
  simp only [Act.put, List.setIfInBounds_toArray, List.set_cons_zero, List.set_cons_succ]
  refine takeH 1 (v := ?v1u37) rfl (by kernel_rfl) (by kernel_rfl) (by kernel_rfl) rfl (fun _ _ _ h => h) (Or.inl ⟨by rfl, ?y1u37⟩) hHeld ?r1u37
  case y1u37 => (intro W hSW; (try dsimp only at hSW); go_simp; try with_reducible rfl)
  simp only [Act.put, List.setIfInBounds_toArray, List.set_cons_zero, List.set_cons_succ]
  refine takeH 2 (v := ?v2u38) rfl (by kernel_rfl) (by kernel_rfl) (by kernel_rfl) rfl (fun _ _ _ h => h) (Or.inl ⟨by rfl, ?y2u38⟩) hHeld ?r2u38
  case y2u38 => (intro W hSW; (try dsimp only at hSW); go_simp; try with_reducible rfl)
  simp only [Act.put, List.setIfInBounds_toArray, List.set_cons_zero, List.set_cons_succ]
  refine takeH 3 (v := ?v3u39) rfl (by kernel_rfl) (by kernel_rfl) (by kernel_rfl) rfl (fun _ _ _ h => h) (Or.inl ⟨by rfl, ?y3u39⟩) hHeld ?r3u39
  case y3u39 => (intro W hSW; (try dsimp only at hSW); go_simp; try with_reducible rfl)
  simp only [Act.put, List.setIfInBounds_toArray, List.set_cons_zero, List.set_cons_succ]
  refine takeH 4 (v := ?v4u40) rfl (by kernel_rfl) (by kernel_rfl) (by kernel_rfl) rfl (fun _ _ _ h => h) (Or.inl ⟨by rfl, ?y4u40⟩) hHeld ?r4u40
  case y4u40 => (intro W hSW; (try dsimp only at hSW); go_simp; try with_reducible rfl)
  simp only [Act.put, List.setIfInBounds_toArray, List.set_cons_zero, List.set_cons_succ]
  refine takeH 5 (v := ?v5u41) rfl (by kernel_rfl) (by kernel_rfl) (by kernel_rfl) rfl (fun _ _ _ h => h) (Or.inl ⟨by rfl, ?y5u41⟩) hHeld ?r5u41
  case y5u41 => (intro W hSW; (try dsimp only at hSW); go_simp; try with_reducible rfl)
  simp only [Act.put, List.setIfInBounds_toArray, List.set_cons_zero, List.set_cons_succ]
  refine takeH 6 (v := ?v6u42) rfl (by kernel_rfl) (by kernel_rfl) (by kernel_rfl) rfl (fun _ _ _ h => h) (Or.inl ⟨by rfl, ?y6u42⟩) hHeld ?r6u42
  case y6u42 => (intro W hSW; (try dsimp only at hSW); go_simp; try with_reducible rfl)
  simp only [Act.put, List.setIfInBounds_toArray, List.set_cons_zero, List.set_cons_succ]
  refine takeH 7 (v := ?v7u43) rfl (by kernel_rfl) (by kernel_rfl) (by kernel_rfl) rfl (fun _ _ _ h => h) (Or.inl ⟨by rfl, ?y7u43⟩) hHeld ?r7u43
  case y7u43 => (intro W hSW; (try dsimp only at hSW); go_simp; try with_reducible rfl)
  simp only [Act.put, List.setIfInBounds_toArray, List.set_cons_zero, List.set_cons_succ]
  refine takeH 8 (v := ?v8u44) rfl (by kernel_rfl) (by kernel_rfl) (by kernel_rfl) rfl (fun _ _ _ h => h) (Or.inl ⟨by rfl, ?y8u44⟩) hHeld ?r8u44
  case y8u44 => (intro W hSW; (try dsimp only at hSW); go_simp; try with_reducible rfl)
  simp only [Act.put, List.setIfInBounds_toArray, List.set_cons_zero, List.set_cons_succ]
  refine takeH 11 (v := ?v11u45) rfl (by kernel_rfl) (by kernel_rfl) (by kernel_rfl) rfl (fun _ _ _ h => h) (Or.inl ⟨by rfl, ?y11u45⟩) hHeld ?r11u45
  case y11u45 => (intro W hSW; (try dsimp only at hSW); go_simp; try with_reducible rfl)
  simp only [Act.put, List.setIfInBounds_toArray, List.set_cons_zero, List.set_cons_succ]
  refine takeH 12 (v := ?v12u46) rfl (by kernel_rfl) (by kernel_rfl) (by kernel_rfl) rfl (fun _ _ _ h => h) (Or.inl ⟨by rfl, ?y12u46⟩) hHeld ?r12u46
  case y12u46 => (intro W hSW; (try dsimp only at hSW); go_simp; try with_reducible rfl)
  simp only [Act.put, List.setIfInBounds_toArray, List.set_cons_zero, List.set_cons_succ]
  refine takeH 13 (v := ?v13u47) rfl (by kernel_rfl) (by kernel_rfl) (by kernel_rfl) rfl (fun _ _ _ h => h) (Or.inl ⟨by rfl, ?y13u47⟩) hHeld ?r13u47
  case y13u47 => (intro W hSW; (try dsimp only at hSW); go_simp; try with_reducible rfl)
  simp only [Act.put, List.setIfInBounds_toArray, List.set_cons_zero, List.set_cons_succ]
  refine takeH 14 (v := ?v14u48) rfl (by kernel_rfl) (by kernel_rfl) (by kernel_rfl) rfl (fun _ _ _ h => h) (Or.inl ⟨by rfl, ?y14u48⟩) hHeld ?r14u48
  case y14u48 => (intro W hSW; (try dsimp only at hSW); go_simp; try with_reducible rfl)
  simp only [Act.put, List.setIfInBounds_toArray, List.set_cons_zero, List.set_cons_succ]
  refine takeH 15 (v := ?v15u49) rfl (by kernel_rfl) (by kernel_rfl) (by kernel_rfl) rfl (fun _ _ _ h => h) (Or.inl ⟨by rfl, ?y15u49⟩) hHeld ?r15u49
  case y15u49 => (intro W hSW; (try dsimp only at hSW); go_simp; try with_reducible rfl)
  simp only [Act.put, List.setIfInBounds_toArray, List.set_cons_zero, List.set_cons_succ]
  refine takeH 16 (v := ?v16u50) rfl (by kernel_rfl) (by kernel_rfl) (by kernel_rfl) rfl (fun _ _ _ h => h) (Or.inl ⟨by rfl, ?y16u50⟩) hHeld ?r16u50
  case y16u50 => (intro W hSW; (try dsimp only at hSW); go_simp; try with_reducible rfl)
  simp only [Act.put, List.setIfInBounds_toArray, List.set_cons_zero, List.set_cons_succ]
  refine takeH 17 (v := ?v17u51) rfl (by kernel_rfl) (by kernel_rfl) (by kernel_rfl) rfl (fun _ _ _ h => h) (Or.inl ⟨by rfl, ?y17u51⟩) hHeld ?r17u51
  case y17u51 => (intro W hSW; (try dsimp only at hSW); go_simp; try with_reducible rfl)
  simp only [Act.put, List.setIfInBounds_toArray, List.set_cons_zero, List.set_cons_succ]
  refine takeH 18 (v := ?v18u52) rfl (by kernel_rfl) (by kernel_rfl) (by kernel_rfl) rfl (fun _ _ _ h => h) (Or.inl ⟨by rfl, ?y18u52⟩) hHeld ?r18u52
  case y18u52 => (intro W hSW; (try dsimp only at hSW); have hcv := fun c => conv_reads (HR2.out.below ((HB0.out.trans (Below.mono hSW HB0.out.size)).mono hB)) c; go_simp; try with_reducible rfl)
  simp only [Act.put, List.setIfInBounds_toArray, List.set_cons_zero, List.set_cons_succ]
  refine wpAnyH_ready (rs := [9]) (by kernel_rfl) (by simp) ?_
  refine AllReadyH.cons rfl (fun K hK => ?_) AllReadyH.nil
  go_simp
  refine (rPut_c (x2.toNat : Int) (some (ad.add (a + 3))) q (cm - 3) B ((bs.drop (a + 3)).take q) _ hk1' hk3' hp (HR3.out.below ((HB0.out.trans (Below.mono hHeld HB0.out.size)).mono hB)) (Nat.le_trans hB (Nat.le_trans HB0.out.size (Below.size hHeld)))).mono ?_
  rintro e w2 ⟨v, rfl, hown, hb2⟩
  obtain ⟨A1, c1, rfl, _, _, _, hR1⟩ := own_reads hown
  have hcv := conv_reads hR1 c1
  refine hK.out _ _ (Below.trans hHeld (hb2.mono (Below.size hHeld))) (fun hHeld => ?_)
  clear hK K
  try simp only [Act.put, List.setIfInBounds_toArray, List.set_cons_zero, List.set_cons_succ]
  refine wpAnyH_ready (rs := [10]) (by kernel_rfl) (by simp) ?_
  refine AllReadyH.cons rfl (fun K hK => ?_) AllReadyH.nil
  go_simp
  refine hK.out _ _ hHeld (fun hHeld => ?_)
  clear hK K
  try simp only [Act.put, List.setIfInBounds_toArray, List.set_cons_zero, List.set_cons_succ]
  have hs1 := HS.out
  have hs2 : (frameB (x2.toNat : Int) ((bs.drop (a + 3)).take q) != (bs.drop a).take (q + 7)) = false := by rw [bne, HS.out]; rfl
  refine takeH 19 (v := ?v19u53) rfl (by kernel_rfl) (by kernel_rfl) (by kernel_rfl) rfl (fun _ _ _ h => h) (Or.inl ⟨by rfl, ?y19u53⟩) hHeld ?r19u53
  case y19u53 => (intro W hSW; (try dsimp only at hSW); go_simp; try with_reducible rfl)
  simp only [Act.put, List.setIfInBounds_toArray, List.set_cons_zero, List.set_cons_succ]
  refine takeH 20 (v := ?v20u54) rfl (by kernel_rfl) (by kernel_rfl) (by kernel_rfl) rfl (fun _ _ _ h => h) (Or.inl ⟨by rfl, ?y20u54⟩) hHeld ?r20u54
  case y20u54 => (intro W hSW; (try dsimp only at hSW); go_simp; try with_reducible rfl)
  simp only [Act.put, List.setIfInBounds_toArray, List.set_cons_zero, List.set_cons_succ]
  refine wpAnyH_done (by kernel_rfl) ?_ _
  refine NoPanic.normal ?_
  have HB2 := Lib.hid (show Below w0.heap.size w0 w2 from hHeld)
  have HBE := Lib.hid (HB0.out.trans (HB2.out.mono HB0.out.size))
  have HF2 := Lib.hid (HF0.out.below HB2.out HF0.out.lt)
  have k0 := HF2.out.cell 0
  have k1 := HF2.out.cell 1
  have k2 := HF2.out.cell 2
  have k3 := HF2.out.cell 3
  have f0 := HF2.out.frozen 0
  have f1 := HF2.out.frozen 1
  have f2 := HF2.out.frozen 2
  have f3 := HF2.out.frozen 3
  simp only [List.getElem?_toArray, List.getElem?_cons_zero, List.getElem?_cons_succ] at k0 k1 k2 k3
  clear hHeld hb2 hcv hR1 hown HF0 HF2 HB2 hs1 hs2
  go_wp2
  exact bodyPost_ret (v := .agg #[.int .i64 0, .int .i64 (x2.toNat : Int), .slice (some (ad.add (a + 3))) q (cm - 3), .int .i64 (7 + (q : Int))]) (by simp [results, Try.results9, go_sem, k0, k1, k2, k3]) rfl ⟨rfl, by have hbe := HBE.out; exact (by repeat (first | exact (Below.refl _ _).alloc (Nat.le_refl _) _ | assumption | refine below_drewN ?_ _ | refine Below.setCell ?_ (by simp) _ | refine Below.drew ?_))⟩
end Go.Proofs.Ytfbcdheemhenmaa
