/- Contracts of Text and its reference. -/
import Derived.Test.YtgpefnlmlicopaaWire10
import Derived.Test.YtgpefnlmlicopaaHeld
namespace Go.Proofs.Ytgpefnlmlicopaa
set_option linter.unusedVariables false
open Go.RowKit

theorem Take_c (A : Option Addr) (n c a k : Nat) (bs : List UInt8) (B : Nat) (w : World) (hr : Reads w B 1 A n (byteCells bs)) (hB : B ≤ w.heap.size) (hnc : n ≤ c) (hcm : c ≤ 9223372036854775807) (hak : a + k ≤ n) :
    Calls Try.prog 21 #[.agg #[.slice A n c, .int .i64 (a : Int), .int .i64 0], .int .i64 k] w fun e w' => ∃ A', e = .returned (.tuple #[.agg #[.slice A n c, .int .i64 ((a : Int) + (k : Int)), .int .i64 0], .slice A' k k]) ∧ Reads w' B 1 A' k (byteCells ((bs.drop a).take k)) ∧ Below w.heap.size w w' := by
  obtain ⟨m, rfl⟩ : ∃ m, n = a + m := ⟨n - a, by omega⟩
  obtain ⟨cm, rfl⟩ : ∃ cm, c = a + cm := ⟨c - a, by omega⟩
  rcases Nat.eq_zero_or_pos k with rfl | hk
  · refine (Take_zero A a m cm bs B w hr hB (by omega) hcm).mono ?_
    rintro e w' ⟨rfl, hb⟩
    exact ⟨A, by simp, by simpa [byteCells] using Reads.none_, hb⟩
  · obtain ⟨ad, rfl, _⟩ := hr.2 (by omega)
    refine (Take_some ad a m cm k bs B w hr hB (by omega) hcm hk (by omega)).mono ?_
    rintro e w' ⟨rfl, hb⟩
    refine ⟨_, rfl, ?_, hb⟩
    have h := ((hr.below (hb.mono hB)).sufB (k := a) (cap := a + cm) (by omega) (by omega)).preB (k := k) (by omega)
    rw [if_neg (by omega), Option.map_some] at h
    exact h
theorem rTake_c (A : Option Addr) (n c a k : Nat) (bs : List UInt8) (B : Nat) (w : World) (hr : Reads w B 1 A n (byteCells bs)) (hB : B ≤ w.heap.size) (hnc : n ≤ c) (hcm : c ≤ 9223372036854775807) (hak : a + k ≤ n) (hn : n ≤ 10000) :
    Calls Try.prog 22 #[.agg #[.slice A n c, .int .i64 (a : Int), .int .i64 0], .int .i64 k] w fun e w' => ∃ A' c', e = .returned (.tuple #[.agg #[.slice A n c, .int .i64 ((a : Int) + (k : Int)), .int .i64 0], .slice A' k c']) ∧ w'.ownsRow w.heap.size 5 1 (.slice A' k c') k (byteCells ((bs.drop a).take k)) ∧ Below w.heap.size w w' := by
  obtain ⟨m, rfl⟩ : ∃ m, n = a + m := ⟨n - a, by omega⟩
  obtain ⟨cm, rfl⟩ : ∃ cm, c = a + cm := ⟨c - a, by omega⟩
  rcases Nat.eq_zero_or_pos k with rfl | hk
  · refine (rTake_zero A a m cm bs B w hr hB (by omega) hcm).mono ?_
    rintro e w' ⟨A', c', rfl, hown, hb⟩
    exact ⟨A', c', by simp, by simpa [byteCells] using hown, hb⟩
  · obtain ⟨ad, rfl, _⟩ := hr.2 (by omega)
    exact rTake_some ad a m cm k bs B w hr hB (by omega) hcm hk (by omega) (by omega)

/-- what a cursor reads as a text of at most so many bytes. -/
def xRes (bs : List UInt8) (at_ err most : Int) : Int × Int × List UInt8 :=
  if (uRes bs at_ err).2.1 ≠ 0 then ((uRes bs at_ err).1, (uRes bs at_ err).2.1, [])
  else if most < 0 ∨ most < ((uRes bs at_ err).2.2 : Int) then (at_, 9, [])
  else if (bs.length : Int) - (uRes bs at_ err).1 < ((uRes bs at_ err).2.2 : Int) then (at_, 10, [])
  else ((uRes bs at_ err).1 + ((uRes bs at_ err).2.2 : Nat), 0, (bs.drop (uRes bs at_ err).1.toNat).take (uRes bs at_ err).2.2)
theorem uRes_ok (bs : List UInt8) (at_ err x : Int) (v : Nat) (h : uRes bs at_ err = (x, 0, v)) : err = 0 ∧ 0 ≤ x ∧ x ≤ (bs.length : Int) ∧ 0 ≤ at_ ∧ at_ ≤ x := by
  unfold uRes at h
  split at h
  · rename_i hr
    split at h
    · rename_i h0
      have hb := uread_back (natB (bs.drop at_.toNat)) (natB_lt _) 0 (uread 0 (natB (bs.drop at_.toNat))).2.1 (uread 0 (natB (bs.drop at_.toNat))).2.2 (by omega) (Prod.ext h0 rfl)
      have hl := hb.1
      rw [natB_length, List.length_drop] at hl
      simp only [Prod.mk.injEq] at h
      omega
    · rename_i h0
      simp only [Prod.mk.injEq] at h
      omega
  · simp only [Prod.mk.injEq] at h
    split at h <;> omega

set_option maxRecDepth 100000 in
set_option maxHeartbeats 1000000 in
theorem Text_bad (A : Option Addr) (n c : Nat) (at_ err : Int) (bs : List UInt8) (B : Nat) (w : World) (hr : Reads w B 1 A n (byteCells bs)) (hB : B ≤ w.heap.size) (hnc : n ≤ c) (hcm : c ≤ 9223372036854775807) (hn : n ≤ 10000) (most : Int) (x y : Int) (v : Nat) (hu : uRes bs at_ err = (x, y, v)) (hy : y ≠ 0) :
    Calls Try.prog 23 #[.agg #[.slice A n c, .int .i64 at_, .int .i64 err], .int .i64 most] w fun e w' => e = .returned (.tuple #[.agg #[.slice A n c, .int .i64 x, .int .i64 y], .string ⟨#[]⟩]) ∧ Below w.heap.size w w' := by
  have hv := uRes_lt bs at_ err
  have hll := hr.lenB
  have HU := Lib.hid (fun W (h : Reads W B 1 A n (byteCells bs)) (h' : B ≤ W.heap.size) => Uint_c A n c at_ err bs B W h h' hnc hcm hn)
  have HR := Lib.hid hr
  rw [hu] at HU hv
  simp only at HU hv
  have dy : (y != 0) = true := by rw [bne_iff_ne]; exact hy
  have HUU := Lib.hid hu
  clear hr hu
  go_enter Try.func23, Try.ntmps23
  go_wp2_with fail
  have C0 := Lib.hid (Cu.start w #[.slice A n c, .int .i64 at_, .int .i64 err] #[.slice none 0 0, .int .i64 0, .int .i64 0])
  refine (HU.out _ (C0.out.reads HR.out hB) (by simp; omega)).mono ?_
  rintro e w1 ⟨rfl, hb⟩
  have C1 := Lib.hid (C0.out.next hb)
  clear hb C0
  obtain ⟨k0, k1, k2, r0, r1, r2, f0, f1, f2, g0, g1, g2⟩ := C1.out.cells
  have hg1 := C1.out.1.lt
  have hg2 := C1.out.2.1.lt
  have hsz := C1.out.size
  go_wp2
  have hbe := C1.out.2.2
  exact bodyPost_ret (v := .tuple #[.agg #[.slice A n c, .int .i64 x, .int .i64 y], .string ⟨#[]⟩]) (by simp [results, Try.results23, go_sem, r0, r1, r2, hg2]) rfl ⟨rfl, (by repeat (first | refine Below.setCell ?_ (by simp; try omega) _ | refine Below.drew ?_ | refine below_drewN ?_ _ | refine Below.alloc ?_ (by simp; try omega) _ | exact hbe))⟩

set_option maxRecDepth 100000 in
set_option maxHeartbeats 1000000 in
theorem rText_bad (A : Option Addr) (n c : Nat) (at_ err : Int) (bs : List UInt8) (B : Nat) (w : World) (hr : Reads w B 1 A n (byteCells bs)) (hB : B ≤ w.heap.size) (hnc : n ≤ c) (hcm : c ≤ 9223372036854775807) (hn : n ≤ 10000) (most : Int) (x y : Int) (v : Nat) (hu : uRes bs at_ err = (x, y, v)) (hy : y ≠ 0) :
    Calls Try.prog 24 #[.agg #[.slice A n c, .int .i64 at_, .int .i64 err], .int .i64 most] w fun e w' => e = .returned (.tuple #[.agg #[.slice A n c, .int .i64 x, .int .i64 y], .string ⟨#[]⟩]) ∧ Below w.heap.size w w' := by
  have hv := uRes_lt bs at_ err
  have hll := hr.lenB
  have HU := Lib.hid (fun W (h : Reads W B 1 A n (byteCells bs)) (h' : B ≤ W.heap.size) => rUint_c A n c at_ err bs B W h h' hnc hcm hn)
  have HR := Lib.hid hr
  rw [hu] at HU hv
  simp only at HU hv
  have dy : (y != 0) = true := by rw [bne_iff_ne]; exact hy
  have HUU := Lib.hid hu
  clear hr hu
  go_enter Try.func24, Try.ntmps24
  go_wp2_with fail
  have C0 := Lib.hid (Cu.start w #[.slice A n c, .int .i64 at_, .int .i64 err] #[.slice none 0 0, .int .i64 0, .int .i64 0])
  refine (HU.out _ (C0.out.reads HR.out hB) (by simp; omega)).mono ?_
  rintro e w1 ⟨rfl, hb⟩
  have C1 := Lib.hid (C0.out.next hb)
  clear hb C0
  obtain ⟨k0, k1, k2, r0, r1, r2, f0, f1, f2, g0, g1, g2⟩ := C1.out.cells
  have hg1 := C1.out.1.lt
  have hg2 := C1.out.2.1.lt
  have hsz := C1.out.size
  go_wp2
  have hbe := C1.out.2.2
  exact bodyPost_ret (v := .tuple #[.agg #[.slice A n c, .int .i64 x, .int .i64 y], .string ⟨#[]⟩]) (by simp [results, Try.results24, go_sem, r0, r1, r2, hg2]) rfl ⟨rfl, (by repeat (first | refine Below.setCell ?_ (by simp; try omega) _ | refine Below.drew ?_ | refine below_drewN ?_ _ | refine Below.alloc ?_ (by simp; try omega) _ | exact hbe))⟩

set_option maxRecDepth 100000 in
set_option maxHeartbeats 1000000 in
theorem Text_neg (A : Option Addr) (n c : Nat) (at_ : Int) (bs : List UInt8) (B : Nat) (w : World) (hr : Reads w B 1 A n (byteCells bs)) (hB : B ≤ w.heap.size) (hnc : n ≤ c) (hcm : c ≤ 9223372036854775807) (hn : n ≤ 10000) (most : Int) (hmm : most ≤ 9223372036854775807) (x : Int) (v : Nat) (hu : uRes bs at_ 0 = (x, 0, v)) (hm : most < 0) :
    Calls Try.prog 23 #[.agg #[.slice A n c, .int .i64 at_, .int .i64 0], .int .i64 most] w fun e w' => e = .returned (.tuple #[.agg #[.slice A n c, .int .i64 at_, .int .i64 9], .string ⟨#[]⟩]) ∧ Below w.heap.size w w' := by
  have hv := uRes_lt bs at_ 0
  have hll := hr.lenB
  obtain ⟨_, hx0, hxn, _, _⟩ := uRes_ok bs at_ 0 x v hu
  rw [hll] at hxn
  have HU := Lib.hid (fun W (h : Reads W B 1 A n (byteCells bs)) (h' : B ≤ W.heap.size) => Uint_c A n c at_ 0 bs B W h h' hnc hcm hn)
  have HR := Lib.hid hr
  rw [hu] at HU hv
  simp only at HU hv
  have dm : decide (most < 0) = true := by simpa using hm
  have HUU := Lib.hid hu
  have HLL := Lib.hid hll
  clear hr hu hll
  go_enter Try.func23, Try.ntmps23
  go_wp2_with fail
  have C0 := Lib.hid (Cu.start w #[.slice A n c, .int .i64 at_, .int .i64 0] #[.slice none 0 0, .int .i64 0, .int .i64 0])
  refine (HU.out _ (C0.out.reads HR.out hB) (by simp; omega)).mono ?_
  rintro e w1 ⟨rfl, hb⟩
  have C1 := Lib.hid (C0.out.next hb)
  clear hb C0
  obtain ⟨k0, k1, k2, r0, r1, r2, f0, f1, f2, g0, g1, g2⟩ := C1.out.cells
  have hg1 := C1.out.1.lt
  have hg2 := C1.out.2.1.lt
  have hsz := C1.out.size
  have C2 := Lib.hid (C1.out.next ((Below.refl _ w1).alloc (Nat.le_refl _) (.cells #[.slice A n c, .int .i64 x, .int .i64 0] 26)))
  go_wp2_with fail
  clear k0 k1 k2 r0 r1 r2 f0 f1 f2 g0 g1 g2
  refine (stay_ok A n c at_ 9 _).mono ?_
  rintro e w2 ⟨rfl, hb2⟩
  have C3 := Lib.hid (C2.out.next hb2)
  clear hb2
  obtain ⟨k0, k1, k2, r0, r1, r2, f0, f1, f2, g0, g1, g2⟩ := C3.out.cells
  go_wp2
  have hbe := C3.out.2.2
  exact bodyPost_ret (v := .tuple #[.agg #[.slice A n c, .int .i64 at_, .int .i64 9], .string ⟨#[]⟩]) (by simp [results, Try.results23, go_sem, r0, r1, r2]) rfl ⟨rfl, (by repeat (first | refine Below.setCell ?_ (by simp; try omega) _ | refine Below.drew ?_ | refine below_drewN ?_ _ | refine Below.alloc ?_ (by simp; try omega) _ | exact hbe))⟩

set_option maxRecDepth 100000 in
set_option maxHeartbeats 1000000 in
theorem Text_many (A : Option Addr) (n c : Nat) (at_ : Int) (bs : List UInt8) (B : Nat) (w : World) (hr : Reads w B 1 A n (byteCells bs)) (hB : B ≤ w.heap.size) (hnc : n ≤ c) (hcm : c ≤ 9223372036854775807) (hn : n ≤ 10000) (most : Int) (hmm : most ≤ 9223372036854775807) (x : Int) (v : Nat) (hu : uRes bs at_ 0 = (x, 0, v)) (hm : 0 ≤ most) (hmv : most < (v : Int)) :
    Calls Try.prog 23 #[.agg #[.slice A n c, .int .i64 at_, .int .i64 0], .int .i64 most] w fun e w' => e = .returned (.tuple #[.agg #[.slice A n c, .int .i64 at_, .int .i64 9], .string ⟨#[]⟩]) ∧ Below w.heap.size w w' := by
  have hv := uRes_lt bs at_ 0
  have hll := hr.lenB
  obtain ⟨_, hx0, hxn, _, _⟩ := uRes_ok bs at_ 0 x v hu
  rw [hll] at hxn
  have HU := Lib.hid (fun W (h : Reads W B 1 A n (byteCells bs)) (h' : B ≤ W.heap.size) => Uint_c A n c at_ 0 bs B W h h' hnc hcm hn)
  have HR := Lib.hid hr
  rw [hu] at HU hv
  simp only at HU hv
  have dm : decide (most < 0) = false := by simpa using hm
  have dv : decide (most < (v : Int)) = true := by simpa using hmv
  have HUU := Lib.hid hu
  have HLL := Lib.hid hll
  clear hr hu hll
  go_enter Try.func23, Try.ntmps23
  go_wp2_with fail
  have C0 := Lib.hid (Cu.start w #[.slice A n c, .int .i64 at_, .int .i64 0] #[.slice none 0 0, .int .i64 0, .int .i64 0])
  refine (HU.out _ (C0.out.reads HR.out hB) (by simp; omega)).mono ?_
  rintro e w1 ⟨rfl, hb⟩
  have C1 := Lib.hid (C0.out.next hb)
  clear hb C0
  obtain ⟨k0, k1, k2, r0, r1, r2, f0, f1, f2, g0, g1, g2⟩ := C1.out.cells
  have hg1 := C1.out.1.lt
  have hg2 := C1.out.2.1.lt
  have hsz := C1.out.size
  have C2 := Lib.hid (C1.out.next ((Below.refl _ w1).alloc (Nat.le_refl _) (.cells #[.slice A n c, .int .i64 x, .int .i64 0] 26)))
  go_wp2_with fail
  clear k0 k1 k2 r0 r1 r2 f0 f1 f2 g0 g1 g2
  refine (stay_ok A n c at_ 9 _).mono ?_
  rintro e w2 ⟨rfl, hb2⟩
  have C3 := Lib.hid (C2.out.next hb2)
  clear hb2
  obtain ⟨k0, k1, k2, r0, r1, r2, f0, f1, f2, g0, g1, g2⟩ := C3.out.cells
  go_wp2
  have hbe := C3.out.2.2
  exact bodyPost_ret (v := .tuple #[.agg #[.slice A n c, .int .i64 at_, .int .i64 9], .string ⟨#[]⟩]) (by simp [results, Try.results23, go_sem, r0, r1, r2]) rfl ⟨rfl, (by repeat (first | refine Below.setCell ?_ (by simp; try omega) _ | refine Below.drew ?_ | refine below_drewN ?_ _ | refine Below.alloc ?_ (by simp; try omega) _ | exact hbe))⟩

set_option maxRecDepth 100000 in
set_option maxHeartbeats 1000000 in
theorem Text_short (A : Option Addr) (n c : Nat) (at_ : Int) (bs : List UInt8) (B : Nat) (w : World) (hr : Reads w B 1 A n (byteCells bs)) (hB : B ≤ w.heap.size) (hnc : n ≤ c) (hcm : c ≤ 9223372036854775807) (hn : n ≤ 10000) (most : Int) (hmm : most ≤ 9223372036854775807) (x : Int) (v : Nat) (hu : uRes bs at_ 0 = (x, 0, v)) (hm : 0 ≤ most) (hmv : (v : Int) ≤ most) (hvn : (n : Int) - x < (v : Int)) :
    Calls Try.prog 23 #[.agg #[.slice A n c, .int .i64 at_, .int .i64 0], .int .i64 most] w fun e w' => e = .returned (.tuple #[.agg #[.slice A n c, .int .i64 at_, .int .i64 10], .string ⟨#[]⟩]) ∧ Below w.heap.size w w' := by
  have hv := uRes_lt bs at_ 0
  have hll := hr.lenB
  obtain ⟨_, hx0, hxn, _, _⟩ := uRes_ok bs at_ 0 x v hu
  rw [hll] at hxn
  have HU := Lib.hid (fun W (h : Reads W B 1 A n (byteCells bs)) (h' : B ≤ W.heap.size) => Uint_c A n c at_ 0 bs B W h h' hnc hcm hn)
  have HR := Lib.hid hr
  rw [hu] at HU hv
  simp only at HU hv
  have dm : decide (most < 0) = false := by simpa using hm
  have dv : decide (most < (v : Int)) = false := by simpa using hmv
  have dl : decide ((n : Int) - x < (v : Int)) = true := by simp; omega
  have HUU := Lib.hid hu
  have HLL := Lib.hid hll
  clear hr hu hll
  go_enter Try.func23, Try.ntmps23
  go_wp2_with fail
  have C0 := Lib.hid (Cu.start w #[.slice A n c, .int .i64 at_, .int .i64 0] #[.slice none 0 0, .int .i64 0, .int .i64 0])
  refine (HU.out _ (C0.out.reads HR.out hB) (by simp; omega)).mono ?_
  rintro e w1 ⟨rfl, hb⟩
  have C1 := Lib.hid (C0.out.next hb)
  clear hb C0
  obtain ⟨k0, k1, k2, r0, r1, r2, f0, f1, f2, g0, g1, g2⟩ := C1.out.cells
  have hg1 := C1.out.1.lt
  have hg2 := C1.out.2.1.lt
  have hsz := C1.out.size
  have C2 := Lib.hid (C1.out.next ((Below.refl _ w1).alloc (Nat.le_refl _) (.cells #[.slice A n c, .int .i64 x, .int .i64 0] 26)))
  go_wp2_with fail
  clear k0 k1 k2 r0 r1 r2 f0 f1 f2 g0 g1 g2
  refine (Left_yes A n c x _ hx0 hxn (by omega)).mono ?_
  rintro e w1' ⟨rfl, hb'⟩
  have C2' := Lib.hid (C2.out.next hb')
  clear hb'
  obtain ⟨k0, k1, k2, r0, r1, r2, f0, f1, f2, g0, g1, g2⟩ := C2'.out.cells
  go_wp2_with fail
  clear k0 k1 k2 r0 r1 r2 f0 f1 f2 g0 g1 g2
  refine (stay_ok A n c at_ 10 _).mono ?_
  rintro e w2 ⟨rfl, hb2⟩
  have C3 := Lib.hid (C2'.out.next hb2)
  clear hb2
  obtain ⟨k0, k1, k2, r0, r1, r2, f0, f1, f2, g0, g1, g2⟩ := C3.out.cells
  go_wp2
  have hbe := C3.out.2.2
  exact bodyPost_ret (v := .tuple #[.agg #[.slice A n c, .int .i64 at_, .int .i64 10], .string ⟨#[]⟩]) (by simp [results, Try.results23, go_sem, r0, r1, r2]) rfl ⟨rfl, (by repeat (first | refine Below.setCell ?_ (by simp; try omega) _ | refine Below.drew ?_ | refine below_drewN ?_ _ | refine Below.alloc ?_ (by simp; try omega) _ | exact hbe))⟩

set_option maxRecDepth 100000 in
set_option maxHeartbeats 1000000 in
theorem rText_neg (A : Option Addr) (n c : Nat) (at_ : Int) (bs : List UInt8) (B : Nat) (w : World) (hr : Reads w B 1 A n (byteCells bs)) (hB : B ≤ w.heap.size) (hnc : n ≤ c) (hcm : c ≤ 9223372036854775807) (hn : n ≤ 10000) (most : Int) (hmm : most ≤ 9223372036854775807) (x : Int) (v : Nat) (hu : uRes bs at_ 0 = (x, 0, v)) (hm : most < 0) :
    Calls Try.prog 24 #[.agg #[.slice A n c, .int .i64 at_, .int .i64 0], .int .i64 most] w fun e w' => e = .returned (.tuple #[.agg #[.slice A n c, .int .i64 at_, .int .i64 9], .string ⟨#[]⟩]) ∧ Below w.heap.size w w' := by
  have hv := uRes_lt bs at_ 0
  have hll := hr.lenB
  obtain ⟨_, hx0, hxn, _, _⟩ := uRes_ok bs at_ 0 x v hu
  rw [hll] at hxn
  have HU := Lib.hid (fun W (h : Reads W B 1 A n (byteCells bs)) (h' : B ≤ W.heap.size) => rUint_c A n c at_ 0 bs B W h h' hnc hcm hn)
  have HR := Lib.hid hr
  rw [hu] at HU hv
  simp only at HU hv
  have dm : decide (most < 0) = true := by simpa using hm
  have HUU := Lib.hid hu
  have HLL := Lib.hid hll
  clear hr hu hll
  go_enter Try.func24, Try.ntmps24
  go_wp2_with fail
  have C0 := Lib.hid (Cu.start w #[.slice A n c, .int .i64 at_, .int .i64 0] #[.slice none 0 0, .int .i64 0, .int .i64 0])
  refine (HU.out _ (C0.out.reads HR.out hB) (by simp; omega)).mono ?_
  rintro e w1 ⟨rfl, hb⟩
  have C1 := Lib.hid (C0.out.next hb)
  clear hb C0
  obtain ⟨k0, k1, k2, r0, r1, r2, f0, f1, f2, g0, g1, g2⟩ := C1.out.cells
  have hg1 := C1.out.1.lt
  have hg2 := C1.out.2.1.lt
  have hsz := C1.out.size
  have C2 := Lib.hid (C1.out.next ((Below.refl _ w1).alloc (Nat.le_refl _) (.cells #[.slice A n c, .int .i64 x, .int .i64 0] 26)))
  go_wp2_with fail
  clear k0 k1 k2 r0 r1 r2 f0 f1 f2 g0 g1 g2
  refine (rStays_ok A n c at_ 9 _).mono ?_
  rintro e w2 ⟨rfl, hb2⟩
  have C3 := Lib.hid (C2.out.next hb2)
  clear hb2
  obtain ⟨k0, k1, k2, r0, r1, r2, f0, f1, f2, g0, g1, g2⟩ := C3.out.cells
  go_wp2
  have hbe := C3.out.2.2
  exact bodyPost_ret (v := .tuple #[.agg #[.slice A n c, .int .i64 at_, .int .i64 9], .string ⟨#[]⟩]) (by simp [results, Try.results24, go_sem, r0, r1, r2]) rfl ⟨rfl, (by repeat (first | refine Below.setCell ?_ (by simp; try omega) _ | refine Below.drew ?_ | refine below_drewN ?_ _ | refine Below.alloc ?_ (by simp; try omega) _ | exact hbe))⟩

set_option maxRecDepth 100000 in
set_option maxHeartbeats 1000000 in
theorem rText_many (A : Option Addr) (n c : Nat) (at_ : Int) (bs : List UInt8) (B : Nat) (w : World) (hr : Reads w B 1 A n (byteCells bs)) (hB : B ≤ w.heap.size) (hnc : n ≤ c) (hcm : c ≤ 9223372036854775807) (hn : n ≤ 10000) (most : Int) (hmm : most ≤ 9223372036854775807) (x : Int) (v : Nat) (hu : uRes bs at_ 0 = (x, 0, v)) (hm : 0 ≤ most) (hmv : most < (v : Int)) :
    Calls Try.prog 24 #[.agg #[.slice A n c, .int .i64 at_, .int .i64 0], .int .i64 most] w fun e w' => e = .returned (.tuple #[.agg #[.slice A n c, .int .i64 at_, .int .i64 9], .string ⟨#[]⟩]) ∧ Below w.heap.size w w' := by
  have hv := uRes_lt bs at_ 0
  have hll := hr.lenB
  obtain ⟨_, hx0, hxn, _, _⟩ := uRes_ok bs at_ 0 x v hu
  rw [hll] at hxn
  have HU := Lib.hid (fun W (h : Reads W B 1 A n (byteCells bs)) (h' : B ≤ W.heap.size) => rUint_c A n c at_ 0 bs B W h h' hnc hcm hn)
  have HR := Lib.hid hr
  rw [hu] at HU hv
  simp only at HU hv
  have dm : decide (most < 0) = false := by simpa using hm
  have dv : decide (most < (v : Int)) = true := by simpa using hmv
  have HUU := Lib.hid hu
  have HLL := Lib.hid hll
  clear hr hu hll
  go_enter Try.func24, Try.ntmps24
  go_wp2_with fail
  have C0 := Lib.hid (Cu.start w #[.slice A n c, .int .i64 at_, .int .i64 0] #[.slice none 0 0, .int .i64 0, .int .i64 0])
  refine (HU.out _ (C0.out.reads HR.out hB) (by simp; omega)).mono ?_
  rintro e w1 ⟨rfl, hb⟩
  have C1 := Lib.hid (C0.out.next hb)
  clear hb C0
  obtain ⟨k0, k1, k2, r0, r1, r2, f0, f1, f2, g0, g1, g2⟩ := C1.out.cells
  have hg1 := C1.out.1.lt
  have hg2 := C1.out.2.1.lt
  have hsz := C1.out.size
  have C2 := Lib.hid (C1.out.next ((Below.refl _ w1).alloc (Nat.le_refl _) (.cells #[.slice A n c, .int .i64 x, .int .i64 0] 26)))
  go_wp2_with fail
  clear k0 k1 k2 r0 r1 r2 f0 f1 f2 g0 g1 g2
  refine (rStays_ok A n c at_ 9 _).mono ?_
  rintro e w2 ⟨rfl, hb2⟩
  have C3 := Lib.hid (C2.out.next hb2)
  clear hb2
  obtain ⟨k0, k1, k2, r0, r1, r2, f0, f1, f2, g0, g1, g2⟩ := C3.out.cells
  go_wp2
  have hbe := C3.out.2.2
  exact bodyPost_ret (v := .tuple #[.agg #[.slice A n c, .int .i64 at_, .int .i64 9], .string ⟨#[]⟩]) (by simp [results, Try.results24, go_sem, r0, r1, r2]) rfl ⟨rfl, (by repeat (first | refine Below.setCell ?_ (by simp; try omega) _ | refine Below.drew ?_ | refine below_drewN ?_ _ | refine Below.alloc ?_ (by simp; try omega) _ | exact hbe))⟩

set_option maxRecDepth 100000 in
set_option maxHeartbeats 1000000 in
theorem rText_short (A : Option Addr) (n c : Nat) (at_ : Int) (bs : List UInt8) (B : Nat) (w : World) (hr : Reads w B 1 A n (byteCells bs)) (hB : B ≤ w.heap.size) (hnc : n ≤ c) (hcm : c ≤ 9223372036854775807) (hn : n ≤ 10000) (most : Int) (hmm : most ≤ 9223372036854775807) (x : Int) (v : Nat) (hu : uRes bs at_ 0 = (x, 0, v)) (hm : 0 ≤ most) (hmv : (v : Int) ≤ most) (hvn : (n : Int) - x < (v : Int)) :
    Calls Try.prog 24 #[.agg #[.slice A n c, .int .i64 at_, .int .i64 0], .int .i64 most] w fun e w' => e = .returned (.tuple #[.agg #[.slice A n c, .int .i64 at_, .int .i64 10], .string ⟨#[]⟩]) ∧ Below w.heap.size w w' := by
  have hv := uRes_lt bs at_ 0
  have hll := hr.lenB
  obtain ⟨_, hx0, hxn, _, _⟩ := uRes_ok bs at_ 0 x v hu
  rw [hll] at hxn
  have HU := Lib.hid (fun W (h : Reads W B 1 A n (byteCells bs)) (h' : B ≤ W.heap.size) => rUint_c A n c at_ 0 bs B W h h' hnc hcm hn)
  have HR := Lib.hid hr
  rw [hu] at HU hv
  simp only at HU hv
  have dm : decide (most < 0) = false := by simpa using hm
  have dv : decide (most < (v : Int)) = false := by simpa using hmv
  have dl : decide ((n : Int) - x < (v : Int)) = true := by simp; omega
  have HUU := Lib.hid hu
  have HLL := Lib.hid hll
  clear hr hu hll
  go_enter Try.func24, Try.ntmps24
  go_wp2_with fail
  have C0 := Lib.hid (Cu.start w #[.slice A n c, .int .i64 at_, .int .i64 0] #[.slice none 0 0, .int .i64 0, .int .i64 0])
  refine (HU.out _ (C0.out.reads HR.out hB) (by simp; omega)).mono ?_
  rintro e w1 ⟨rfl, hb⟩
  have C1 := Lib.hid (C0.out.next hb)
  clear hb C0
  obtain ⟨k0, k1, k2, r0, r1, r2, f0, f1, f2, g0, g1, g2⟩ := C1.out.cells
  have hg1 := C1.out.1.lt
  have hg2 := C1.out.2.1.lt
  have hsz := C1.out.size
  have C2 := Lib.hid (C1.out.next ((Below.refl _ w1).alloc (Nat.le_refl _) (.cells #[.slice A n c, .int .i64 x, .int .i64 0] 26)))
  go_wp2_with fail
  clear k0 k1 k2 r0 r1 r2 f0 f1 f2 g0 g1 g2
  refine (rStays_ok A n c at_ 10 _).mono ?_
  rintro e w2 ⟨rfl, hb2⟩
  have C3 := Lib.hid (C2.out.next hb2)
  clear hb2
  obtain ⟨k0, k1, k2, r0, r1, r2, f0, f1, f2, g0, g1, g2⟩ := C3.out.cells
  go_wp2
  have hbe := C3.out.2.2
  exact bodyPost_ret (v := .tuple #[.agg #[.slice A n c, .int .i64 at_, .int .i64 10], .string ⟨#[]⟩]) (by simp [results, Try.results24, go_sem, r0, r1, r2]) rfl ⟨rfl, (by repeat (first | refine Below.setCell ?_ (by simp; try omega) _ | refine Below.drew ?_ | refine below_drewN ?_ _ | refine Below.alloc ?_ (by simp; try omega) _ | exact hbe))⟩
end Go.Proofs.Ytgpefnlmlicopaa
