/- Contracts of the reference's Int; of Take and its reference. -/
import Derived.Test.YtgpefnlmlicopaaWire8
import Derived.StillTailTactics
import Derived.RegionTactic
namespace Go.Proofs.Ytgpefnlmlicopaa
set_option linter.unusedVariables false
open Go.RowKit

set_option maxRecDepth 100000 in
theorem rInt_c (A : Option Addr) (n c : Nat) (at_ err : Int) (bs : List UInt8) (B : Nat) (w : World) (hr : Reads w B 1 A n (byteCells bs)) (hB : B ≤ w.heap.size) (hnc : n ≤ c) (hcm : c ≤ 9223372036854775807) (hn : n ≤ 10000) :
    Calls Try.prog 20 #[.agg #[.slice A n c, .int .i64 at_, .int .i64 err]] w fun e w' => e = .returned (.tuple #[.agg #[.slice A n c, .int .i64 (uRes bs at_ err).1, .int .i64 (uRes bs at_ err).2.1], .int .i64 (unzig (uRes bs at_ err).2.2)]) ∧ Below w.heap.size w w' := by
  have hv := uRes_lt bs at_ err
  have HU := Lib.hid (fun W (h : Reads W B 1 A n (byteCells bs)) (h' : B ≤ W.heap.size) => rUint_c A n c at_ err bs B W h h' hnc hcm hn)
  have HR := Lib.hid hr
  clear hr
  generalize uRes bs at_ err = r at *
  obtain ⟨x, y, v⟩ := r
  simp only at *
  go_enter Try.func20, Try.ntmps20
  go_wp2_with fail
  have C0 := Lib.hid (Cu.start w #[.slice A n c, .int .i64 at_, .int .i64 err] #[.slice none 0 0, .int .i64 0, .int .i64 0])
  refine (HU.out _ (C0.out.reads HR.out hB) (by simp; omega)).mono ?_
  rintro e w1 ⟨rfl, hb⟩
  have C1 := Lib.hid (C0.out.next hb)
  clear hb C0
  obtain ⟨k0, k1, k2, r0, r1, r2, f0, f1, f2, g0, g1, g2⟩ := C1.out.cells
  have hg2 := C1.out.2.1.lt
  have hsz := C1.out.size
  rcases (by omega : v % 2 = 0 ∨ v % 2 = 1) with hp | hp
  · have HZ := Lib.hid (show unzig v = (v : Int) / 2 from by unfold unzig; rw [if_pos hp]; rfl)
    have hm : ((v : Int) % 2 == 0) = true := by rw [beq_iff_eq]; omega
    clear hp
    go_wp2
    have hbe := C1.out.2.2
    exact bodyPost_ret (v := .tuple #[.agg #[.slice A n c, .int .i64 x, .int .i64 y], .int .i64 ((v : Int) / 2)]) (by simp [results, Try.results20, go_sem, r0, r1, r2, hg2]) rfl ⟨by rw [HZ.out], (by repeat (first | refine Below.setCell ?_ (by simp) _ | refine Below.drew ?_ | refine below_drewN ?_ _ | refine Below.alloc ?_ (by simp; omega) _ | exact hbe))⟩
  · have HZ := Lib.hid (show unzig v = -((v : Int) / 2) - 1 from by unfold unzig; rw [if_neg (by omega)]; rfl)
    have hm : ((v : Int) % 2 == 0) = false := by rw [beq_eq_false_iff_ne]; omega
    clear hp
    go_wp2
    have hbe := C1.out.2.2
    exact bodyPost_ret (v := .tuple #[.agg #[.slice A n c, .int .i64 x, .int .i64 y], .int .i64 (-((v : Int) / 2) - 1)]) (by simp [results, Try.results20, go_sem, r0, r1, r2, hg2]) rfl ⟨by rw [HZ.out], (by repeat (first | refine Below.setCell ?_ (by simp) _ | refine Below.drew ?_ | refine below_drewN ?_ _ | refine Below.alloc ?_ (by simp; omega) _ | exact hbe))⟩

theorem Take_arg0 (A : Option Addr) (n c : Nat) (at_ : Int)  (k : Int) (w : World) (h : at_ < 0 ∨ (n : Int) < at_) : Calls Try.prog 21 #[.agg #[.slice A n c, .int .i64 at_, .int .i64 0], .int .i64 k] w fun e w' => e = .returned (.tuple #[.agg #[.slice A n c, .int .i64 at_, .int .i64 1], .slice none 0 0]) ∧ Below w.heap.size w w' := by
  go_enter Try.func21, Try.ntmps21
  go_wp2_with fail
  refine (right_no A n c at_ 0 _ (by omega)).mono ?_
  rintro e w1 ⟨rfl, hb⟩
  have C1 := Lib.hid ((Cu.start w #[.slice A n c, .int .i64 at_, .int .i64 0] #[.slice none 0 0, .int .i64 0, .int .i64 0]).next hb)
  clear hb
  obtain ⟨k0, k1, k2, r0, r1, r2, f0, f1, f2, g0, g1, g2⟩ := C1.out.cells
  go_wp2_with fail
  clear k0 k1 k2 r0 r1 r2 f0 f1 f2 g0 g1 g2
  refine (stay_ok A n c at_ 1 _).mono ?_
  rintro e w2 ⟨rfl, hb2⟩
  have C2 := Lib.hid (C1.out.next hb2)
  clear hb2
  obtain ⟨k0, k1, k2, r0, r1, r2, f0, f1, f2, g0, g1, g2⟩ := C2.out.cells
  go_wp2
  have hbe := C2.out.2.2
  exact bodyPost_ret (v := .tuple #[.agg #[.slice A n c, .int .i64 at_, .int .i64 1], .slice none 0 0]) (by simp [results, Try.results21, go_sem, r0, r1, r2]) rfl ⟨rfl, (by repeat (first | refine Below.setCell ?_ (by simp) _ | refine Below.drew ?_ | refine below_drewN ?_ _ | exact hbe))⟩

theorem Take_err (A : Option Addr) (n c : Nat) (at_ : Int) (err : Int) (k : Int) (w : World) (h : err ≠ 0) : Calls Try.prog 21 #[.agg #[.slice A n c, .int .i64 at_, .int .i64 err], .int .i64 k] w fun e w' => e = .returned (.tuple #[.agg #[.slice A n c, .int .i64 at_, .int .i64 err], .slice none 0 0]) ∧ Below w.heap.size w w' := by
  go_enter Try.func21, Try.ntmps21
  go_wp2_with fail
  refine (right_no A n c at_ err _ (.inr (.inr h))).mono ?_
  rintro e w1 ⟨rfl, hb⟩
  have C1 := Lib.hid ((Cu.start w #[.slice A n c, .int .i64 at_, .int .i64 err] #[.slice none 0 0, .int .i64 0, .int .i64 0]).next hb)
  clear hb
  obtain ⟨k0, k1, k2, r0, r1, r2, f0, f1, f2, g0, g1, g2⟩ := C1.out.cells
  go_wp2_with fail
  clear k0 k1 k2 r0 r1 r2 f0 f1 f2 g0 g1 g2
  refine (stay_err A n c at_ err 1 _ h).mono ?_
  rintro e w2 ⟨rfl, hb2⟩
  have C2 := Lib.hid (C1.out.next hb2)
  clear hb2
  obtain ⟨k0, k1, k2, r0, r1, r2, f0, f1, f2, g0, g1, g2⟩ := C2.out.cells
  go_wp2
  have hbe := C2.out.2.2
  exact bodyPost_ret (v := .tuple #[.agg #[.slice A n c, .int .i64 at_, .int .i64 err], .slice none 0 0]) (by simp [results, Try.results21, go_sem, r0, r1, r2]) rfl ⟨rfl, (by repeat (first | refine Below.setCell ?_ (by simp) _ | refine Below.drew ?_ | refine below_drewN ?_ _ | exact hbe))⟩

theorem Take_neg (A : Option Addr) (n c : Nat) (at_ : Int)  (k : Int) (w : World) (h0 : 0 ≤ at_) (h1 : at_ ≤ (n : Int)) (h : k < 0) : Calls Try.prog 21 #[.agg #[.slice A n c, .int .i64 at_, .int .i64 0], .int .i64 k] w fun e w' => e = .returned (.tuple #[.agg #[.slice A n c, .int .i64 at_, .int .i64 1], .slice none 0 0]) ∧ Below w.heap.size w w' := by
  have dk : decide (k < 0) = true := by simpa using h
  go_enter Try.func21, Try.ntmps21
  go_wp2_with fail
  refine (right_yes A n c at_ _ h0 h1).mono ?_
  rintro e w1 ⟨rfl, hb⟩
  have C1 := Lib.hid ((Cu.start w #[.slice A n c, .int .i64 at_, .int .i64 0] #[.slice none 0 0, .int .i64 0, .int .i64 0]).next hb)
  clear hb
  obtain ⟨k0, k1, k2, r0, r1, r2, f0, f1, f2, g0, g1, g2⟩ := C1.out.cells
  go_wp2_with fail
  clear k0 k1 k2 r0 r1 r2 f0 f1 f2 g0 g1 g2
  refine (stay_ok A n c at_ 1 _).mono ?_
  rintro e w2 ⟨rfl, hb2⟩
  have C2 := Lib.hid (C1.out.next hb2)
  clear hb2
  obtain ⟨k0, k1, k2, r0, r1, r2, f0, f1, f2, g0, g1, g2⟩ := C2.out.cells
  go_wp2
  have hbe := C2.out.2.2
  exact bodyPost_ret (v := .tuple #[.agg #[.slice A n c, .int .i64 at_, .int .i64 1], .slice none 0 0]) (by simp [results, Try.results21, go_sem, r0, r1, r2]) rfl ⟨rfl, (by repeat (first | refine Below.setCell ?_ (by simp) _ | refine Below.drew ?_ | refine below_drewN ?_ _ | exact hbe))⟩

theorem Take_short (A : Option Addr) (n c : Nat) (at_ : Int)  (k : Int) (w : World) (h0 : 0 ≤ at_) (h1 : at_ ≤ (n : Int)) (hn : n ≤ 9223372036854775807) (hk : 0 ≤ k) (h : (n : Int) - at_ < k) : Calls Try.prog 21 #[.agg #[.slice A n c, .int .i64 at_, .int .i64 0], .int .i64 k] w fun e w' => e = .returned (.tuple #[.agg #[.slice A n c, .int .i64 at_, .int .i64 10], .slice none 0 0]) ∧ Below w.heap.size w w' := by
  have dk : decide (k < 0) = false := by simpa using hk
  have ds : decide ((n : Int) - at_ < k) = true := by simpa using h
  go_enter Try.func21, Try.ntmps21
  go_wp2_with fail
  refine (right_yes A n c at_ _ h0 h1).mono ?_
  rintro e w1 ⟨rfl, hb⟩
  have C1 := Lib.hid ((Cu.start w #[.slice A n c, .int .i64 at_, .int .i64 0] #[.slice none 0 0, .int .i64 0, .int .i64 0]).next hb)
  clear hb
  obtain ⟨k0, k1, k2, r0, r1, r2, f0, f1, f2, g0, g1, g2⟩ := C1.out.cells
  go_wp2_with fail
  clear k0 k1 k2 r0 r1 r2 f0 f1 f2 g0 g1 g2
  refine (Left_yes A n c at_ _ h0 h1 hn).mono ?_
  rintro e w1' ⟨rfl, hb'⟩
  have C1' := Lib.hid (C1.out.next hb')
  clear hb'
  obtain ⟨k0, k1, k2, r0, r1, r2, f0, f1, f2, g0, g1, g2⟩ := C1'.out.cells
  go_wp2_with fail
  clear k0 k1 k2 r0 r1 r2 f0 f1 f2 g0 g1 g2
  refine (stay_ok A n c at_ 10 _).mono ?_
  rintro e w2 ⟨rfl, hb2⟩
  have C2 := Lib.hid (C1'.out.next hb2)
  clear hb2
  obtain ⟨k0, k1, k2, r0, r1, r2, f0, f1, f2, g0, g1, g2⟩ := C2.out.cells
  go_wp2
  have hbe := C2.out.2.2
  exact bodyPost_ret (v := .tuple #[.agg #[.slice A n c, .int .i64 at_, .int .i64 10], .slice none 0 0]) (by simp [results, Try.results21, go_sem, r0, r1, r2]) rfl ⟨rfl, (by repeat (first | refine Below.setCell ?_ (by simp) _ | refine Below.drew ?_ | refine below_drewN ?_ _ | exact hbe))⟩

theorem rTake_arg0 (A : Option Addr) (n c : Nat) (at_ : Int)  (k : Int) (w : World) (h : at_ < 0 ∨ (n : Int) < at_) : Calls Try.prog 22 #[.agg #[.slice A n c, .int .i64 at_, .int .i64 0], .int .i64 k] w fun e w' => e = .returned (.tuple #[.agg #[.slice A n c, .int .i64 at_, .int .i64 1], .slice none 0 0]) ∧ Below w.heap.size w w' := by
  go_enter Try.func22, Try.ntmps22
  go_wp2_with fail
  refine (rRight_no A n c at_ 0 _ (by omega)).mono ?_
  rintro e w1 ⟨rfl, hb⟩
  have C1 := Lib.hid ((Cu.start w #[.slice A n c, .int .i64 at_, .int .i64 0] #[.slice none 0 0, .int .i64 0, .int .i64 0]).next hb)
  clear hb
  obtain ⟨k0, k1, k2, r0, r1, r2, f0, f1, f2, g0, g1, g2⟩ := C1.out.cells
  go_wp2_with fail
  clear k0 k1 k2 r0 r1 r2 f0 f1 f2 g0 g1 g2
  refine (rStays_ok A n c at_ 1 _).mono ?_
  rintro e w2 ⟨rfl, hb2⟩
  have C2 := Lib.hid (C1.out.next hb2)
  clear hb2
  obtain ⟨k0, k1, k2, r0, r1, r2, f0, f1, f2, g0, g1, g2⟩ := C2.out.cells
  go_wp2
  have hbe := C2.out.2.2
  exact bodyPost_ret (v := .tuple #[.agg #[.slice A n c, .int .i64 at_, .int .i64 1], .slice none 0 0]) (by simp [results, Try.results22, go_sem, r0, r1, r2]) rfl ⟨rfl, (by repeat (first | refine Below.setCell ?_ (by simp) _ | refine Below.drew ?_ | refine below_drewN ?_ _ | exact hbe))⟩

theorem rTake_err (A : Option Addr) (n c : Nat) (at_ : Int) (err : Int) (k : Int) (w : World) (h : err ≠ 0) : Calls Try.prog 22 #[.agg #[.slice A n c, .int .i64 at_, .int .i64 err], .int .i64 k] w fun e w' => e = .returned (.tuple #[.agg #[.slice A n c, .int .i64 at_, .int .i64 err], .slice none 0 0]) ∧ Below w.heap.size w w' := by
  go_enter Try.func22, Try.ntmps22
  go_wp2_with fail
  refine (rRight_no A n c at_ err _ (.inr (.inr h))).mono ?_
  rintro e w1 ⟨rfl, hb⟩
  have C1 := Lib.hid ((Cu.start w #[.slice A n c, .int .i64 at_, .int .i64 err] #[.slice none 0 0, .int .i64 0, .int .i64 0]).next hb)
  clear hb
  obtain ⟨k0, k1, k2, r0, r1, r2, f0, f1, f2, g0, g1, g2⟩ := C1.out.cells
  go_wp2_with fail
  clear k0 k1 k2 r0 r1 r2 f0 f1 f2 g0 g1 g2
  refine (rStays_err A n c at_ err 1 _ h).mono ?_
  rintro e w2 ⟨rfl, hb2⟩
  have C2 := Lib.hid (C1.out.next hb2)
  clear hb2
  obtain ⟨k0, k1, k2, r0, r1, r2, f0, f1, f2, g0, g1, g2⟩ := C2.out.cells
  go_wp2
  have hbe := C2.out.2.2
  exact bodyPost_ret (v := .tuple #[.agg #[.slice A n c, .int .i64 at_, .int .i64 err], .slice none 0 0]) (by simp [results, Try.results22, go_sem, r0, r1, r2]) rfl ⟨rfl, (by repeat (first | refine Below.setCell ?_ (by simp) _ | refine Below.drew ?_ | refine below_drewN ?_ _ | exact hbe))⟩

theorem rTake_neg (A : Option Addr) (n c : Nat) (at_ : Int)  (k : Int) (w : World) (h0 : 0 ≤ at_) (h1 : at_ ≤ (n : Int)) (h : k < 0) : Calls Try.prog 22 #[.agg #[.slice A n c, .int .i64 at_, .int .i64 0], .int .i64 k] w fun e w' => e = .returned (.tuple #[.agg #[.slice A n c, .int .i64 at_, .int .i64 1], .slice none 0 0]) ∧ Below w.heap.size w w' := by
  have dk : decide (k < 0) = true := by simpa using h
  go_enter Try.func22, Try.ntmps22
  go_wp2_with fail
  refine (rRight_yes A n c at_ _ h0 h1).mono ?_
  rintro e w1 ⟨rfl, hb⟩
  have C1 := Lib.hid ((Cu.start w #[.slice A n c, .int .i64 at_, .int .i64 0] #[.slice none 0 0, .int .i64 0, .int .i64 0]).next hb)
  clear hb
  obtain ⟨k0, k1, k2, r0, r1, r2, f0, f1, f2, g0, g1, g2⟩ := C1.out.cells
  go_wp2_with fail
  clear k0 k1 k2 r0 r1 r2 f0 f1 f2 g0 g1 g2
  refine (rStays_ok A n c at_ 1 _).mono ?_
  rintro e w2 ⟨rfl, hb2⟩
  have C2 := Lib.hid (C1.out.next hb2)
  clear hb2
  obtain ⟨k0, k1, k2, r0, r1, r2, f0, f1, f2, g0, g1, g2⟩ := C2.out.cells
  go_wp2
  have hbe := C2.out.2.2
  exact bodyPost_ret (v := .tuple #[.agg #[.slice A n c, .int .i64 at_, .int .i64 1], .slice none 0 0]) (by simp [results, Try.results22, go_sem, r0, r1, r2]) rfl ⟨rfl, (by repeat (first | refine Below.setCell ?_ (by simp) _ | refine Below.drew ?_ | refine below_drewN ?_ _ | exact hbe))⟩

theorem rTake_short (A : Option Addr) (n c : Nat) (at_ : Int)  (k : Int) (w : World) (h0 : 0 ≤ at_) (h1 : at_ ≤ (n : Int)) (hn : n ≤ 9223372036854775807) (hk : 0 ≤ k) (h : (n : Int) - at_ < k) : Calls Try.prog 22 #[.agg #[.slice A n c, .int .i64 at_, .int .i64 0], .int .i64 k] w fun e w' => e = .returned (.tuple #[.agg #[.slice A n c, .int .i64 at_, .int .i64 10], .slice none 0 0]) ∧ Below w.heap.size w w' := by
  have dk : decide (k < 0) = false := by simpa using hk
  have ds : decide ((n : Int) - at_ < k) = true := by simpa using h
  go_enter Try.func22, Try.ntmps22
  go_wp2_with fail
  refine (rRight_yes A n c at_ _ h0 h1).mono ?_
  rintro e w1 ⟨rfl, hb⟩
  have C1 := Lib.hid ((Cu.start w #[.slice A n c, .int .i64 at_, .int .i64 0] #[.slice none 0 0, .int .i64 0, .int .i64 0]).next hb)
  clear hb
  obtain ⟨k0, k1, k2, r0, r1, r2, f0, f1, f2, g0, g1, g2⟩ := C1.out.cells
  go_wp2_with fail
  clear k0 k1 k2 r0 r1 r2 f0 f1 f2 g0 g1 g2
  refine (rStays_ok A n c at_ 10 _).mono ?_
  rintro e w2 ⟨rfl, hb2⟩
  have C2 := Lib.hid (C1.out.next hb2)
  clear hb2
  obtain ⟨k0, k1, k2, r0, r1, r2, f0, f1, f2, g0, g1, g2⟩ := C2.out.cells
  go_wp2
  have hbe := C2.out.2.2
  exact bodyPost_ret (v := .tuple #[.agg #[.slice A n c, .int .i64 at_, .int .i64 10], .slice none 0 0]) (by simp [results, Try.results22, go_sem, r0, r1, r2]) rfl ⟨rfl, (by repeat (first | refine Below.setCell ?_ (by simp) _ | refine Below.drew ?_ | refine below_drewN ?_ _ | exact hbe))⟩
end Go.Proofs.Ytgpefnlmlicopaa
