/- Contracts of Take and its reference where bytes are taken. -/
import Derived.Test.YtgpefnlmlicopaaWire9
import Derived.Deep.RegionHeld3
namespace Go.Proofs.Ytgpefnlmlicopaa
set_option linter.unusedVariables false
open Go.RowKit

theorem own_far {w : World} {base : Nat} {e : TypeId} {size n : Nat} {v : Value} {xs : List Value} (h : w.ownsRow base e size v n xs) {p : Addr} (hp : p.block < base) {u : Value} : (w.setCell p u).ownsRow base e size v n xs := by
  rcases h with ⟨h1, h2 | ⟨g, cap, cur, h2, h3, h4, h5⟩⟩
  · exact ⟨h1, .inl h2⟩
  · exact ⟨h1, .inr ⟨g, cap, cur, h2, h3, (Blk.far (t := e) (cs := cur) h4 (by omega) u), h5⟩⟩

set_option maxRecDepth 100000 in
theorem Take_some (ad : Addr) (a m cm k : Nat) (bs : List UInt8) (B : Nat) (w : World) (hr : Reads w B 1 (some ad) (a + m) (byteCells bs)) (hB : B ≤ w.heap.size) (hmc : m ≤ cm) (hcx : a + cm ≤ 9223372036854775807) (hk : 0 < k) (hkm : k ≤ m) : Calls Try.prog 21 #[.agg #[.slice (some ad) (a + m) (a + cm), .int .i64 (a : Int), .int .i64 0], .int .i64 k] w fun e w' => e = .returned (.tuple #[.agg #[.slice (some ad) (a + m) (a + cm), .int .i64 ((a : Int) + (k : Int)), .int .i64 0], .slice (some (ad.add a)) k k]) ∧ Below w.heap.size w w' := by
  have j1 : (a : Int) + (k : Int) ≤ (a : Int) + (cm : Int) := by omega
  have j2 : (0 : Int) ≤ (a : Int) + (k : Int) := by omega
  have j3 : ((a : Int) + (k : Int)).toNat = a + k := by omega
  have j4 : a + k - a = k := by omega
  have j5 : ¬ k = 0 := by omega
  have j6 : (a : Int) ≤ (a : Int) + (k : Int) := by omega
  go_enter Try.func21, Try.ntmps21
  go_wp2_with fail
  refine (right_yes (some ad) _ (a + cm) a _ (by omega) (by omega)).mono ?_
  rintro e w1 ⟨rfl, hb⟩
  have C1 := Lib.hid ((Cu.start w #[.slice (some ad) _ (a + cm), .int .i64 a, .int .i64 0] #[.slice none 0 0, .int .i64 0, .int .i64 0]).next hb)
  clear hb
  obtain ⟨k0, k1, k2, r0, r1, r2, f0, f1, f2, g0, g1, g2⟩ := C1.out.cells
  go_wp2_with fail
  clear k0 k1 k2 r0 r1 r2 f0 f1 f2 g0 g1 g2
  refine (Left_yes (some ad) _ (a + cm) a _ (by omega) (by omega) (by omega)).mono ?_
  rintro e w2 ⟨rfl, hb⟩
  have C2 := Lib.hid (C1.out.next hb)
  clear hb
  obtain ⟨k0, k1, k2, r0, r1, r2, f0, f1, f2, g0, g1, g2⟩ := C2.out.cells
  have hk1 : (((a + m : Nat) : Int)) - (a : Int) = (m : Int) := by omega
  have hk2 : decide ((m : Int) < (k : Int)) = false := by simp; omega
  have hk3 : decide ((k : Int) < 0) = false := by simp
  go_wp2
  clear k0 k1 k2 r0 r1 r2 f0 f1 f2 g0 g1 g2
  have C3 := Lib.hid (show Cu w (w2.setCell ⟨w.heap.size, 1, none⟩ (.int .i64 ((a : Int) + (k : Int)))) #[.slice (some ad) (a + m) (a + cm), .int .i64 ((a : Int) + (k : Int)), .int .i64 0] #[.slice none 0 0, .int .i64 0, .int .i64 0] from ⟨C2.out.1.set_ 1 _, C2.out.2.1.far (by simp) _, C2.out.2.2.setCell (by simp) _⟩)
  generalize w2.setCell ⟨w.heap.size, 1, none⟩ (.int .i64 ((a : Int) + (k : Int))) = w3 at *
  obtain ⟨k0, k1, k2, r0, r1, r2, f0, f1, f2, g0, g1, g2⟩ := C3.out.cells
  go_region_held3 (fun w' => w'.cell? ⟨w.heap.size, 0, none⟩ = some (.slice (some ad) (a + m) (a + cm)) ∧ w'.cell? ⟨w.heap.size, 1, none⟩ = some (.int .i64 ((a : Int) + (k : Int))) ∧ w'.cell? ⟨w.heap.size, 2, none⟩ = some (.int .i64 0)) (go_keep) (fail)
  go_wp2
  have hbe := C3.out.2.2
  exact bodyPost_ret (v := .tuple #[.agg #[.slice (some ad) (a + m) (a + cm), .int .i64 ((a : Int) + (k : Int)), .int .i64 0], .slice (some (ad.add a)) k k]) (by simp [results, Try.results21, go_sem, r0, r1, r2]) rfl ⟨rfl, (by repeat (first | refine Below.setCell ?_ (by simp) _ | refine Below.drew ?_ | refine below_drewN ?_ _ | exact hbe))⟩

set_option maxRecDepth 100000 in
theorem Take_zero (A : Option Addr) (a m cm : Nat) (bs : List UInt8) (B : Nat) (w : World) (hr : Reads w B 1 A (a + m) (byteCells bs)) (hB : B ≤ w.heap.size) (hmc : m ≤ cm) (hcx : a + cm ≤ 9223372036854775807) : Calls Try.prog 21 #[.agg #[.slice A (a + m) (a + cm), .int .i64 (a : Int), .int .i64 0], .int .i64 0] w fun e w' => e = .returned (.tuple #[.agg #[.slice A (a + m) (a + cm), .int .i64 (a : Int), .int .i64 0], .slice A 0 0]) ∧ Below w.heap.size w w' := by
  have j1 : (a : Int) ≤ (a : Int) + (cm : Int) := by omega
  rcases A with _ | ad
  · go_enter Try.func21, Try.ntmps21
    go_wp2_with fail
    refine (right_yes none _ (a + cm) a _ (by omega) (by omega)).mono ?_
    rintro e w1 ⟨rfl, hb⟩
    have C1 := Lib.hid ((Cu.start w #[.slice none _ (a + cm), .int .i64 a, .int .i64 0] #[.slice none 0 0, .int .i64 0, .int .i64 0]).next hb)
    clear hb
    obtain ⟨k0, k1, k2, r0, r1, r2, f0, f1, f2, g0, g1, g2⟩ := C1.out.cells
    go_wp2_with fail
    clear k0 k1 k2 r0 r1 r2 f0 f1 f2 g0 g1 g2
    refine (Left_yes none _ (a + cm) a _ (by omega) (by omega) (by omega)).mono ?_
    rintro e w2 ⟨rfl, hb⟩
    have C2 := Lib.hid (C1.out.next hb)
    clear hb
    obtain ⟨k0, k1, k2, r0, r1, r2, f0, f1, f2, g0, g1, g2⟩ := C2.out.cells
    have hk1 : (((a + m : Nat) : Int)) - (a : Int) = (m : Int) := by omega
    have hk2 : decide ((m : Int) < 0) = false := by simp
    go_wp2
    clear k0 k1 k2 r0 r1 r2 f0 f1 f2 g0 g1 g2
    have C3 := Lib.hid (show Cu w (w2.setCell ⟨w.heap.size, 1, none⟩ (.int .i64 (a : Int))) #[.slice none (a + m) (a + cm), .int .i64 (a : Int), .int .i64 0] #[.slice none 0 0, .int .i64 0, .int .i64 0] from ⟨C2.out.1.set_ 1 _, C2.out.2.1.far (by simp) _, C2.out.2.2.setCell (by simp) _⟩)
    generalize w2.setCell ⟨w.heap.size, 1, none⟩ (.int .i64 (a : Int)) = w3 at *
    obtain ⟨k0, k1, k2, r0, r1, r2, f0, f1, f2, g0, g1, g2⟩ := C3.out.cells
    go_region_held3 (fun w' => w'.cell? ⟨w.heap.size, 0, none⟩ = some (.slice none (a + m) (a + cm)) ∧ w'.cell? ⟨w.heap.size, 1, none⟩ = some (.int .i64 (a : Int)) ∧ w'.cell? ⟨w.heap.size, 2, none⟩ = some (.int .i64 0)) (go_keep) (fail)
    go_wp2
    have hbe := C3.out.2.2
    exact bodyPost_ret (v := .tuple #[.agg #[.slice none (a + m) (a + cm), .int .i64 (a : Int), .int .i64 0], .slice none 0 0]) (by simp [results, Try.results21, go_sem, r0, r1, r2]) rfl ⟨rfl, (by repeat (first | refine Below.setCell ?_ (by simp) _ | refine Below.drew ?_ | refine below_drewN ?_ _ | exact hbe))⟩
  · go_enter Try.func21, Try.ntmps21
    go_wp2_with fail
    refine (right_yes (some ad) _ (a + cm) a _ (by omega) (by omega)).mono ?_
    rintro e w1 ⟨rfl, hb⟩
    have C1 := Lib.hid ((Cu.start w #[.slice (some ad) _ (a + cm), .int .i64 a, .int .i64 0] #[.slice none 0 0, .int .i64 0, .int .i64 0]).next hb)
    clear hb
    obtain ⟨k0, k1, k2, r0, r1, r2, f0, f1, f2, g0, g1, g2⟩ := C1.out.cells
    go_wp2_with fail
    clear k0 k1 k2 r0 r1 r2 f0 f1 f2 g0 g1 g2
    refine (Left_yes (some ad) _ (a + cm) a _ (by omega) (by omega) (by omega)).mono ?_
    rintro e w2 ⟨rfl, hb⟩
    have C2 := Lib.hid (C1.out.next hb)
    clear hb
    obtain ⟨k0, k1, k2, r0, r1, r2, f0, f1, f2, g0, g1, g2⟩ := C2.out.cells
    have hk1 : (((a + m : Nat) : Int)) - (a : Int) = (m : Int) := by omega
    have hk2 : decide ((m : Int) < 0) = false := by simp
    go_wp2
    clear k0 k1 k2 r0 r1 r2 f0 f1 f2 g0 g1 g2
    have C3 := Lib.hid (show Cu w (w2.setCell ⟨w.heap.size, 1, none⟩ (.int .i64 (a : Int))) #[.slice (some ad) (a + m) (a + cm), .int .i64 (a : Int), .int .i64 0] #[.slice none 0 0, .int .i64 0, .int .i64 0] from ⟨C2.out.1.set_ 1 _, C2.out.2.1.far (by simp) _, C2.out.2.2.setCell (by simp) _⟩)
    generalize w2.setCell ⟨w.heap.size, 1, none⟩ (.int .i64 (a : Int)) = w3 at *
    obtain ⟨k0, k1, k2, r0, r1, r2, f0, f1, f2, g0, g1, g2⟩ := C3.out.cells
    go_region_held3 (fun w' => w'.cell? ⟨w.heap.size, 0, none⟩ = some (.slice (some ad) (a + m) (a + cm)) ∧ w'.cell? ⟨w.heap.size, 1, none⟩ = some (.int .i64 (a : Int)) ∧ w'.cell? ⟨w.heap.size, 2, none⟩ = some (.int .i64 0)) (go_keep) (fail)
    go_wp2
    have hbe := C3.out.2.2
    exact bodyPost_ret (v := .tuple #[.agg #[.slice (some ad) (a + m) (a + cm), .int .i64 (a : Int), .int .i64 0], .slice (some ad) 0 0]) (by simp [results, Try.results21, go_sem, r0, r1, r2]) rfl ⟨rfl, (by repeat (first | refine Below.setCell ?_ (by simp) _ | refine Below.drew ?_ | refine below_drewN ?_ _ | exact hbe))⟩

set_option maxRecDepth 100000 in
set_option maxHeartbeats 1000000 in
theorem rTake_some (ad : Addr) (a m cm k : Nat) (bs : List UInt8) (B : Nat) (w : World) (hr : Reads w B 1 (some ad) (a + m) (byteCells bs)) (hB : B ≤ w.heap.size) (hmc : m ≤ cm) (hcx : a + cm ≤ 9223372036854775807) (hk : 0 < k) (hkm : k ≤ m) (hk6 : k ≤ 100000) : Calls Try.prog 22 #[.agg #[.slice (some ad) (a + m) (a + cm), .int .i64 (a : Int), .int .i64 0], .int .i64 k] w fun e w' => ∃ A' c', e = .returned (.tuple #[.agg #[.slice (some ad) (a + m) (a + cm), .int .i64 ((a : Int) + (k : Int)), .int .i64 0], .slice A' k c']) ∧ w'.ownsRow w.heap.size 5 1 (.slice A' k c') k (byteCells ((bs.drop a).take k)) ∧ Below w.heap.size w w' := by
  have j1 : (a : Int) + (k : Int) ≤ (a : Int) + (cm : Int) := by omega
  have j2 : (0 : Int) ≤ (a : Int) + (k : Int) := by omega
  have j3 : ((a : Int) + (k : Int)).toNat = a + k := by omega
  have j4 : a + k - a = k := by omega
  have j5 : ¬ cm = 0 := by omega
  have j6 : (a : Int) ≤ (a : Int) + (k : Int) := by omega
  have HS := Lib.hid (show Reads w B 1 (some (ad.add a)) k (byteCells ((bs.drop a).take k)) from by
    have h := (hr.sufB (k := a) (cap := a + cm) (by omega) (by omega)).preB (k := k) (by omega)
    rw [if_neg (by omega), Option.map_some] at h
    exact h)
  obtain ⟨i0, hi0, hz0, hz1, hz2⟩ := info_parts Try.infoU8
  go_enter Try.func22, Try.ntmps22
  go_wp2_with fail
  refine (rRight_yes (some ad) _ (a + cm) a _ (by omega) (by omega)).mono ?_
  rintro e w1 ⟨rfl, hb⟩
  have C1 := Lib.hid ((Cu.start w #[.slice (some ad) _ (a + cm), .int .i64 a, .int .i64 0] #[.slice none 0 0, .int .i64 0, .int .i64 0]).next hb)
  clear hb
  obtain ⟨k0, k1, k2, r0, r1, r2, f0, f1, f2, g0, g1, g2⟩ := C1.out.cells
  have hg1 := C1.out.1.lt
  have hg2 := C1.out.2.1.lt
  have hsz := C1.out.size
  have hk1 : (((a + m : Nat) : Int)) - (a : Int) = (m : Int) := by omega
  have hk2 : decide ((m : Int) < (k : Int)) = false := by simp; omega
  have hk3 : decide ((k : Int) < 0) = false := by simp
  go_wp2_with (at_builtin; go_must (refine wpList_append_any _ rfl _ _ 22 rfl w1.heap.size 5 i0 _ 1 1 Try.underlying22 hi0 hz0 hz1 hz2 rfl (by omega) _ 0 [] rfl (own_empty w1 5 w1.heap.size (Nat.le_refl _) 1) B _ _ _ (byteCells ((bs.drop a).take k)) rfl (by exact ((C1.out.reads HS.out hB).alloc (Nat.le_trans hB hsz) _)) (byteCells_one _) (by unfold maxLen; omega) (by omega) (by simp) ?_); intro v3 w3 hown3 hg3 hat3; simp only [Nat.zero_add, List.nil_append] at hown3; have hb3 := below_own ((Below.refl w1.heap.size w1).alloc (Nat.le_refl _) _) hg3 (own_empty w1 5 w1.heap.size (Nat.le_refl _) 1) (Nat.le_refl _) (by simp); have C3 := Lib.hid (C1.out.next hb3); clear k0 k1 k2 r0 r1 r2 f0 f1 f2 g0 g1 g2; obtain ⟨k0, k1, k2, r0, r1, r2, f0, f1, f2, g0, g1, g2⟩ := C3.out.cells)
  obtain ⟨A3, c3, rfl, _, _, _, hR3⟩ := own_reads hown3
  have hbe := C3.out.2.2
  exact bodyPost_ret (v := .tuple #[.agg #[.slice (some ad) (a + m) (a + cm), .int .i64 ((a : Int) + (k : Int)), .int .i64 0], .slice A3 k c3]) (by simp [results, Try.results22, go_sem, r0, r1, r2]) rfl ⟨A3, c3, rfl, ownsRow_base (own_far (own_far (own_far (own_far hown3 (by simpa using hg1)) (by simpa using hg2)) (by simpa using hg2)) (by simpa using hg2)) hsz, (by repeat (first | refine Below.setCell ?_ (by simp) _ | refine Below.drew ?_ | refine below_drewN ?_ _ | exact hbe))⟩

set_option maxRecDepth 100000 in
set_option maxHeartbeats 1000000 in
theorem rTake_zero (A : Option Addr) (a m cm : Nat) (bs : List UInt8) (B : Nat) (w : World) (hr : Reads w B 1 A (a + m) (byteCells bs)) (hB : B ≤ w.heap.size) (hmc : m ≤ cm) (hcx : a + cm ≤ 9223372036854775807) : Calls Try.prog 22 #[.agg #[.slice A (a + m) (a + cm), .int .i64 (a : Int), .int .i64 0], .int .i64 0] w fun e w' => ∃ A' c', e = .returned (.tuple #[.agg #[.slice A (a + m) (a + cm), .int .i64 (a : Int), .int .i64 0], .slice A' 0 c']) ∧ w'.ownsRow w.heap.size 5 1 (.slice A' 0 c') 0 [] ∧ Below w.heap.size w w' := by
  by_cases hcm : cm = 0
  · subst hcm
    obtain rfl : m = 0 := by omega
    rcases A with _ | ad
    · have j1 : (a : Int) ≤ (a : Int) + ((0 : Nat) : Int) := by omega
      obtain ⟨i0, hi0, hz0, hz1, hz2⟩ := info_parts Try.infoU8
      go_enter Try.func22, Try.ntmps22
      go_wp2_with fail
      refine (rRight_yes none _ (a + 0) a _ (by omega) (by omega)).mono ?_
      rintro e w1 ⟨rfl, hb⟩
      have C1 := Lib.hid ((Cu.start w #[.slice none _ (a + 0), .int .i64 a, .int .i64 0] #[.slice none 0 0, .int .i64 0, .int .i64 0]).next hb)
      clear hb
      obtain ⟨k0, k1, k2, r0, r1, r2, f0, f1, f2, g0, g1, g2⟩ := C1.out.cells
      have hg1 := C1.out.1.lt
      have hg2 := C1.out.2.1.lt
      have hsz := C1.out.size
      have hk1 : (((a + 0 : Nat) : Int)) - (a : Int) = ((0 : Nat) : Int) := by omega
      go_wp2_with (at_builtin; go_must (refine wpList_append_any _ rfl _ _ 22 rfl w1.heap.size 5 i0 _ 1 1 Try.underlying22 hi0 hz0 hz1 hz2 rfl (by omega) _ 0 [] rfl (own_empty w1 5 w1.heap.size (Nat.le_refl _) 1) B _ _ _ [] rfl (by exact Reads.none_) (by simp) (by unfold maxLen; omega) (by omega) (by simp) ?_); intro v3 w3 hown3 hg3 hat3; simp only [Nat.zero_add, List.nil_append] at hown3; have hb3 := below_own ((Below.refl w1.heap.size w1).alloc (Nat.le_refl _) _) hg3 (own_empty w1 5 w1.heap.size (Nat.le_refl _) 1) (Nat.le_refl _) (by simp); have C3 := Lib.hid (C1.out.next hb3); clear k0 k1 k2 r0 r1 r2 f0 f1 f2 g0 g1 g2; obtain ⟨k0, k1, k2, r0, r1, r2, f0, f1, f2, g0, g1, g2⟩ := C3.out.cells)
      obtain ⟨A3, c3, rfl, _, _, _, hR3⟩ := own_reads hown3
      have hbe := C3.out.2.2
      exact bodyPost_ret (v := .tuple #[.agg #[.slice none (a + 0) (a + 0), .int .i64 (a : Int), .int .i64 0], .slice A3 0 c3]) (by simp [results, Try.results22, go_sem, r0, r1, r2]) rfl ⟨A3, c3, rfl, ownsRow_base (own_far (own_far (own_far (own_far hown3 (by simpa using hg1)) (by simpa using hg2)) (by simpa using hg2)) (by simpa using hg2)) hsz, (by repeat (first | refine Below.setCell ?_ (by simp) _ | refine Below.drew ?_ | refine below_drewN ?_ _ | exact hbe))⟩
    · have j1 : (a : Int) ≤ (a : Int) + ((0 : Nat) : Int) := by omega
      obtain ⟨i0, hi0, hz0, hz1, hz2⟩ := info_parts Try.infoU8
      go_enter Try.func22, Try.ntmps22
      go_wp2_with fail
      refine (rRight_yes (some ad) _ (a + 0) a _ (by omega) (by omega)).mono ?_
      rintro e w1 ⟨rfl, hb⟩
      have C1 := Lib.hid ((Cu.start w #[.slice (some ad) _ (a + 0), .int .i64 a, .int .i64 0] #[.slice none 0 0, .int .i64 0, .int .i64 0]).next hb)
      clear hb
      obtain ⟨k0, k1, k2, r0, r1, r2, f0, f1, f2, g0, g1, g2⟩ := C1.out.cells
      have hg1 := C1.out.1.lt
      have hg2 := C1.out.2.1.lt
      have hsz := C1.out.size
      have hk1 : (((a + 0 : Nat) : Int)) - (a : Int) = ((0 : Nat) : Int) := by omega
      go_wp2_with (at_builtin; go_must (refine wpList_append_any _ rfl _ _ 22 rfl w1.heap.size 5 i0 _ 1 1 Try.underlying22 hi0 hz0 hz1 hz2 rfl (by omega) _ 0 [] rfl (own_empty w1 5 w1.heap.size (Nat.le_refl _) 1) B _ _ _ [] rfl (by exact Reads.none_) (by simp) (by unfold maxLen; omega) (by omega) (by simp) ?_); intro v3 w3 hown3 hg3 hat3; simp only [Nat.zero_add, List.nil_append] at hown3; have hb3 := below_own ((Below.refl w1.heap.size w1).alloc (Nat.le_refl _) _) hg3 (own_empty w1 5 w1.heap.size (Nat.le_refl _) 1) (Nat.le_refl _) (by simp); have C3 := Lib.hid (C1.out.next hb3); clear k0 k1 k2 r0 r1 r2 f0 f1 f2 g0 g1 g2; obtain ⟨k0, k1, k2, r0, r1, r2, f0, f1, f2, g0, g1, g2⟩ := C3.out.cells)
      obtain ⟨A3, c3, rfl, _, _, _, hR3⟩ := own_reads hown3
      have hbe := C3.out.2.2
      exact bodyPost_ret (v := .tuple #[.agg #[.slice (some ad) (a + 0) (a + 0), .int .i64 (a : Int), .int .i64 0], .slice A3 0 c3]) (by simp [results, Try.results22, go_sem, r0, r1, r2]) rfl ⟨A3, c3, rfl, ownsRow_base (own_far (own_far (own_far (own_far hown3 (by simpa using hg1)) (by simpa using hg2)) (by simpa using hg2)) (by simpa using hg2)) hsz, (by repeat (first | refine Below.setCell ?_ (by simp) _ | refine Below.drew ?_ | refine below_drewN ?_ _ | exact hbe))⟩
  · rcases A with _ | ad
    · have j1 : (a : Int) ≤ (a : Int) + (cm : Int) := by omega
      obtain ⟨i0, hi0, hz0, hz1, hz2⟩ := info_parts Try.infoU8
      go_enter Try.func22, Try.ntmps22
      go_wp2_with fail
      refine (rRight_yes none _ (a + cm) a _ (by omega) (by omega)).mono ?_
      rintro e w1 ⟨rfl, hb⟩
      have C1 := Lib.hid ((Cu.start w #[.slice none _ (a + cm), .int .i64 a, .int .i64 0] #[.slice none 0 0, .int .i64 0, .int .i64 0]).next hb)
      clear hb
      obtain ⟨k0, k1, k2, r0, r1, r2, f0, f1, f2, g0, g1, g2⟩ := C1.out.cells
      have hg1 := C1.out.1.lt
      have hg2 := C1.out.2.1.lt
      have hsz := C1.out.size
      have hk1 : (((a + m : Nat) : Int)) - (a : Int) = (m : Int) := by omega
      have hk2 : decide ((m : Int) < 0) = false := by simp
      go_wp2_with (at_builtin; go_must (refine wpList_append_any _ rfl _ _ 22 rfl w1.heap.size 5 i0 _ 1 1 Try.underlying22 hi0 hz0 hz1 hz2 rfl (by omega) _ 0 [] rfl (own_empty w1 5 w1.heap.size (Nat.le_refl _) 1) B _ _ _ [] rfl (by exact Reads.none_) (by simp) (by unfold maxLen; omega) (by omega) (by simp) ?_); intro v3 w3 hown3 hg3 hat3; simp only [Nat.zero_add, List.nil_append] at hown3; have hb3 := below_own ((Below.refl w1.heap.size w1).alloc (Nat.le_refl _) _) hg3 (own_empty w1 5 w1.heap.size (Nat.le_refl _) 1) (Nat.le_refl _) (by simp); have C3 := Lib.hid (C1.out.next hb3); clear k0 k1 k2 r0 r1 r2 f0 f1 f2 g0 g1 g2; obtain ⟨k0, k1, k2, r0, r1, r2, f0, f1, f2, g0, g1, g2⟩ := C3.out.cells)
      obtain ⟨A3, c3, rfl, _, _, _, hR3⟩ := own_reads hown3
      have hbe := C3.out.2.2
      exact bodyPost_ret (v := .tuple #[.agg #[.slice none (a + m) (a + cm), .int .i64 (a : Int), .int .i64 0], .slice A3 0 c3]) (by simp [results, Try.results22, go_sem, r0, r1, r2]) rfl ⟨A3, c3, rfl, ownsRow_base (own_far (own_far (own_far (own_far hown3 (by simpa using hg1)) (by simpa using hg2)) (by simpa using hg2)) (by simpa using hg2)) hsz, (by repeat (first | refine Below.setCell ?_ (by simp) _ | refine Below.drew ?_ | refine below_drewN ?_ _ | exact hbe))⟩
    · have j1 : (a : Int) ≤ (a : Int) + (cm : Int) := by omega
      obtain ⟨i0, hi0, hz0, hz1, hz2⟩ := info_parts Try.infoU8
      go_enter Try.func22, Try.ntmps22
      go_wp2_with fail
      refine (rRight_yes (some ad) _ (a + cm) a _ (by omega) (by omega)).mono ?_
      rintro e w1 ⟨rfl, hb⟩
      have C1 := Lib.hid ((Cu.start w #[.slice (some ad) _ (a + cm), .int .i64 a, .int .i64 0] #[.slice none 0 0, .int .i64 0, .int .i64 0]).next hb)
      clear hb
      obtain ⟨k0, k1, k2, r0, r1, r2, f0, f1, f2, g0, g1, g2⟩ := C1.out.cells
      have hg1 := C1.out.1.lt
      have hg2 := C1.out.2.1.lt
      have hsz := C1.out.size
      have hk1 : (((a + m : Nat) : Int)) - (a : Int) = (m : Int) := by omega
      have hk2 : decide ((m : Int) < 0) = false := by simp
      go_wp2_with (at_builtin; go_must (refine wpList_append_any _ rfl _ _ 22 rfl w1.heap.size 5 i0 _ 1 1 Try.underlying22 hi0 hz0 hz1 hz2 rfl (by omega) _ 0 [] rfl (own_empty w1 5 w1.heap.size (Nat.le_refl _) 1) B _ _ _ [] rfl (by exact Reads.none_) (by simp) (by unfold maxLen; omega) (by omega) (by simp) ?_); intro v3 w3 hown3 hg3 hat3; simp only [Nat.zero_add, List.nil_append] at hown3; have hb3 := below_own ((Below.refl w1.heap.size w1).alloc (Nat.le_refl _) _) hg3 (own_empty w1 5 w1.heap.size (Nat.le_refl _) 1) (Nat.le_refl _) (by simp); have C3 := Lib.hid (C1.out.next hb3); clear k0 k1 k2 r0 r1 r2 f0 f1 f2 g0 g1 g2; obtain ⟨k0, k1, k2, r0, r1, r2, f0, f1, f2, g0, g1, g2⟩ := C3.out.cells)
      obtain ⟨A3, c3, rfl, _, _, _, hR3⟩ := own_reads hown3
      have hbe := C3.out.2.2
      exact bodyPost_ret (v := .tuple #[.agg #[.slice (some ad) (a + m) (a + cm), .int .i64 (a : Int), .int .i64 0], .slice A3 0 c3]) (by simp [results, Try.results22, go_sem, r0, r1, r2]) rfl ⟨A3, c3, rfl, ownsRow_base (own_far (own_far (own_far (own_far hown3 (by simpa using hg1)) (by simpa using hg2)) (by simpa using hg2)) (by simpa using hg2)) hsz, (by repeat (first | refine Below.setCell ?_ (by simp) _ | refine Below.drew ?_ | refine below_drewN ?_ _ | exact hbe))⟩
end Go.Proofs.Ytgpefnlmlicopaa
