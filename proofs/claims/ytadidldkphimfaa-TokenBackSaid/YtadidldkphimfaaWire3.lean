/- The contract of wire.Uint where nothing is read. -/
import Derived.Test.YtadidldkphimfaaWire2
import Derived.Test.YtadidldkphimfaaList
namespace Go.Proofs.Ytadidldkphimfaa
set_option linter.unusedVariables false
open Go.RowKit

def lowB (x : UInt8) : Bool := decide (x.toNat < 128)
theorem ret_i {k : IntKind} {a b : Int} (h : a = b) : Ending.returned (.int k a) = .returned (.int k b) := by rw [h]
theorem Uint1_c (x : UInt8) (w : World) : Calls Try.prog 46 #[.int .u8 (x.toNat : Int)] w fun e w' => e = .returned (.bool (lowB x)) ∧ w = w' := by
  have h : decide ((x.toNat : Int) < 128) = lowB x := by unfold lowB; rw [decide_eq_decide]; omega
  have H := Lib.hid h; clear h
  go_enter Try.func46, Try.ntmps46
  go_wp2
  go_ret
  refine ⟨?_, rfl⟩
  rw [← H.out]; rfl

theorem IndexFuncB_c (A : Option Addr) (n c B : Nat) (bs : List UInt8) (w : World) (hr : Reads w B 1 A n (byteCells bs)) (hn : n ≤ 1000000) :
    Calls Try.prog 45 #[.slice A n c, .func (.func 46) #[] #[]] w fun e w' => e = .returned (.int .i64 (firstIdx lowB bs)) ∧ w = w' := by
  have hl := hr.lenB
  have HL := Lib.hid hl; clear hl
  go_enter Try.func45, Try.ntmps45
  go_wp2
  go_loop [8] (fun i => ∃ k : Nat, k ≤ n ∧ i = .int .i64 k ∧ Hid (∀ (j : Nat) y, j < k → bs[j]? = some y → lowB y = false)) (fun i => n - (intOf i).toNat)
  case atStart => exact ⟨0, Nat.zero_le _, rfl, fun j y hj => by omega⟩
  case round =>
    obtain ⟨k, hk, rfl, H0⟩ := hrel
    by_cases hlt : k < n
    · obtain ⟨ad, x, rfl, hb, hx, hc⟩ := hr.byte_at hlt
      have HX := Lib.hid hx
      clear hx hr
      by_cases he : lowB x = false
      · go_wp2_with (go_at_call 46; refine (Uint1_c _ _).mono ?_; rintro e w' ⟨rfl, rfl⟩)
        go_round
        case rel =>
          refine ⟨k + 1, by omega, by go_num, fun j y hj hy => ?_⟩
          rcases Nat.lt_or_ge j k with h | h
          · exact H0.out j y h hy
          · obtain rfl : j = k := by omega
            rw [HX.out] at hy
            cases hy
            exact he
        case measure => simp [intOf]; omega
      · have he' : lowB x = true := by simpa using he
        go_wp2_with (go_at_call 46; refine (Uint1_c _ _).mono ?_; rintro e w' ⟨rfl, rfl⟩)
        go_ret
        exact ⟨ret_i (firstIdx_hit _ _ k _ H0.out HX.out he').symm, rfl⟩
    · go_wp2
      go_ret
      refine ⟨ret_i (firstIdx_none _ _ (fun j y hy => H0.out j y ?_ hy)).symm, rfl⟩
      have : j < bs.length := (List.getElem?_eq_some_iff.1 hy).1
      rw [HL.out] at this
      omega


/-- a cursor in a box, the result's variable behind it. -/
def Cu (w W : World) (cs rs : Array Value) : Prop := Blk W w.heap.size 70 cs ∧ Blk W (w.heap.size + 1) 70 rs ∧ Below w.heap.size w W
theorem Cu.start (w : World) (cs rs : Array Value) : Cu w ((w.alloc (.cells cs 70)).alloc (.cells rs 70)) cs rs := ⟨blk2_0 w _ _ cs rs, blk2_1 w _ _ cs rs, ((Below.refl _ _).alloc (Nat.le_refl _) _).alloc (by simp) _⟩
theorem Cu.next {w W W' : World} {cs rs : Array Value} (h : Cu w W cs rs) (hb : Below W.heap.size W W') : Cu w W' cs rs := ⟨h.1.below hb h.1.lt, h.2.1.below hb h.2.1.lt, h.2.2.trans (hb.mono h.2.2.size)⟩
theorem Cu.size {w W : World} {cs rs : Array Value} (h : Cu w W cs rs) : w.heap.size ≤ W.heap.size := h.2.2.size
theorem Cu.cells {w W : World} {a b c x y z : Value} (h : Cu w W #[a, b, c] #[x, y, z]) : W.cell? ⟨w.heap.size, 0, none⟩ = some a ∧ W.cell? ⟨w.heap.size, 1, none⟩ = some b ∧ W.cell? ⟨w.heap.size, 2, none⟩ = some c ∧ W.cell? ⟨w.heap.size + 1, 0, none⟩ = some x ∧ W.cell? ⟨w.heap.size + 1, 1, none⟩ = some y ∧ W.cell? ⟨w.heap.size + 1, 2, none⟩ = some z ∧
    W.frozen? ⟨w.heap.size, 0, none⟩ = false ∧ W.frozen? ⟨w.heap.size, 1, none⟩ = false ∧ W.frozen? ⟨w.heap.size, 2, none⟩ = false ∧ W.frozen? ⟨w.heap.size + 1, 0, none⟩ = false ∧ W.frozen? ⟨w.heap.size + 1, 1, none⟩ = false ∧ W.frozen? ⟨w.heap.size + 1, 2, none⟩ = false :=
  ⟨h.1.cell 0, h.1.cell 1, h.1.cell 2, h.2.1.cell 0, h.2.1.cell 1, h.2.1.cell 2, h.1.frozen 0, h.1.frozen 1, h.1.frozen 2, h.2.1.frozen 0, h.2.1.frozen 1, h.2.1.frozen 2⟩
theorem Cu.reads {w W : World} {cs rs : Array Value} (h : Cu w W cs rs) {A : Option Addr} {n B : Nat} {xs : List Value} (hr : Reads w B 1 A n xs) (hB : B ≤ w.heap.size) : Reads W B 1 A n xs := hr.below (h.2.2.mono hB)

theorem Uint_arg0 (A : Option Addr) (n c : Nat) (at_ : Int)  (w : World) (h : at_ < 0 ∨ (n : Int) < at_) : Calls Try.prog 37 #[.agg #[.slice A n c, .int .i64 at_, .int .i64 0]] w fun e w' => e = .returned (.tuple #[.agg #[.slice A n c, .int .i64 at_, .int .i64 1], .int .u64 0]) ∧ Below w.heap.size w w' := by
  go_enter Try.func37, Try.ntmps37
  go_wp2_with fail
  refine (right_no A n c at_ 0 _ (by omega)).mono ?_
  rintro e w1 ⟨rfl, hb⟩
  have C1 := Lib.hid ((Cu.start w #[.slice A n c, .int .i64 at_, .int .i64 0] #[.slice none 0 0, .int .i64 0, .int .i64 0]).next hb)
  clear hb
  obtain ⟨k0, k1, k2, r0, r1, r2, f0, f1, f2, g0, g1, g2⟩ := C1.out.cells
  go_wp2_with fail
  clear k0 k1 k2 r0 r1 r2 f0 f1 f2 g0 g1 g2
  refine (stay_ok A n c at_ 1 _).mono ?_
  rintro e w2 ⟨rfl, hb2⟩
  have C2 := Lib.hid (C1.out.next hb2)
  clear hb2
  obtain ⟨k0, k1, k2, r0, r1, r2, f0, f1, f2, g0, g1, g2⟩ := C2.out.cells
  go_wp2
  have hbe := C2.out.2.2
  exact bodyPost_ret (v := .tuple #[.agg #[.slice A n c, .int .i64 at_, .int .i64 1], .int .u64 0]) (by simp [results, Try.results37, go_sem, r0, r1, r2]) rfl ⟨rfl, (by repeat (first | exact ((Below.refl _ _).alloc (Nat.le_refl _) _).alloc (by simp) _ | assumption | refine below_drewN ?_ _ | refine Below.setCell ?_ (by simp) _ | refine Below.drew ?_))⟩

theorem Uint_err (A : Option Addr) (n c : Nat) (at_ : Int) (err : Int) (w : World) (h : err ≠ 0) : Calls Try.prog 37 #[.agg #[.slice A n c, .int .i64 at_, .int .i64 err]] w fun e w' => e = .returned (.tuple #[.agg #[.slice A n c, .int .i64 at_, .int .i64 err], .int .u64 0]) ∧ Below w.heap.size w w' := by
  go_enter Try.func37, Try.ntmps37
  go_wp2_with fail
  refine (right_no A n c at_ err _ (.inr (.inr h))).mono ?_
  rintro e w1 ⟨rfl, hb⟩
  have C1 := Lib.hid ((Cu.start w #[.slice A n c, .int .i64 at_, .int .i64 err] #[.slice none 0 0, .int .i64 0, .int .i64 0]).next hb)
  clear hb
  obtain ⟨k0, k1, k2, r0, r1, r2, f0, f1, f2, g0, g1, g2⟩ := C1.out.cells
  go_wp2_with fail
  clear k0 k1 k2 r0 r1 r2 f0 f1 f2 g0 g1 g2
  refine (stay_err A n c at_ err 1 _ h).mono ?_
  rintro e w2 ⟨rfl, hb2⟩
  have C2 := Lib.hid (C1.out.next hb2)
  clear hb2
  obtain ⟨k0, k1, k2, r0, r1, r2, f0, f1, f2, g0, g1, g2⟩ := C2.out.cells
  go_wp2
  have hbe := C2.out.2.2
  exact bodyPost_ret (v := .tuple #[.agg #[.slice A n c, .int .i64 at_, .int .i64 err], .int .u64 0]) (by simp [results, Try.results37, go_sem, r0, r1, r2]) rfl ⟨rfl, (by repeat (first | exact ((Below.refl _ _).alloc (Nat.le_refl _) _).alloc (by simp) _ | assumption | refine below_drewN ?_ _ | refine Below.setCell ?_ (by simp) _ | refine Below.drew ?_))⟩

theorem IndexFuncB_at (A : Option Addr) (n c B : Nat) (bs : List UInt8) (w : World) (l : Int) (hl : firstIdx lowB bs = l) (hr : Reads w B 1 A n (byteCells bs)) (hn : n ≤ 1000000) :
    Calls Try.prog 45 #[.slice A n c, .func (.func 46) #[] #[]] w fun e w' => e = .returned (.int .i64 l) ∧ w = w' := by
  subst hl
  exact IndexFuncB_c A n c B bs w hr hn

set_option maxRecDepth 100000 in
set_option maxHeartbeats 1000000 in
theorem Uint_short (ad : Addr) (a m cm : Nat) (bs : List UInt8) (B : Nat) (w : World) (hr : Reads w B 1 (some ad) (a + m) (byteCells bs)) (hB : B ≤ w.heap.size) (hmc : m ≤ cm) (h0 : 0 < m) (hm : m ≤ 10000) (hcx : a + cm ≤ 9223372036854775807) (q : Nat) (hq : q = if m < 10 then m else 10) (hm9 : m < 10) (hnone : firstIdx lowB ((bs.drop a).take q) = -1) : Calls Try.prog 37 #[.agg #[.slice (some ad) (a + m) (a + cm), .int .i64 (a : Int), .int .i64 0]] w fun e w' => e = .returned (.tuple #[.agg #[.slice (some ad) (a + m) (a + cm), .int .i64 (a : Int), .int .i64 10], .int .u64 0]) ∧ Below w.heap.size w w' := by
  have HF := Lib.hid hnone; clear hnone
  have hcm : ¬ cm = 0 := by omega
  have hqm : q ≤ m := by rw [hq]; split <;> omega
  have HQR := Lib.hid (show Reads w B 1 (some (ad.add a)) q (byteCells ((bs.drop a).take q)) from by
    have h := (hr.sufB (k := a) (cap := a + cm) (by omega) (by omega)).preB (k := q) (by omega)
    rw [if_neg (by omega), Option.map_some] at h
    exact h)
  clear hr
  obtain ⟨ad', had⟩ : ∃ ad', ad.add a = ad' := ⟨_, rfl⟩
  rw [had] at HQR
  obtain rfl : m = q := by rw [hq, if_pos hm9]
  clear hq
  go_enter Try.func37, Try.ntmps37
  go_wp2_with fail
  refine (right_yes (some ad) _ (a + cm) a _ (by omega) (by omega)).mono ?_
  rintro e w1 ⟨rfl, hb⟩
  have C1 := Lib.hid ((Cu.start w #[.slice (some ad) _ (a + cm), .int .i64 a, .int .i64 0] #[.slice none 0 0, .int .i64 0, .int .i64 0]).next hb)
  clear hb
  obtain ⟨k0, k1, k2, r0, r1, r2, f0, f1, f2, g0, g1, g2⟩ := C1.out.cells
  go_wp2_with fail
  refine (IndexFuncB_at (some ad') _ cm B _ _ (-1) HF.out (C1.out.reads HQR.out hB) (by omega)).mono ?_
  rintro e w2 ⟨rfl, rfl⟩
  go_wp2_with fail
  clear k0 k1 k2 r0 r1 r2 f0 f1 f2 g0 g1 g2
  refine (stay_ok (some ad) _ (a + cm) a 10 _).mono ?_
  rintro e w2 ⟨rfl, hb2⟩
  have C2 := Lib.hid (C1.out.next hb2)
  clear hb2
  obtain ⟨k0, k1, k2, r0, r1, r2, f0, f1, f2, g0, g1, g2⟩ := C2.out.cells
  go_wp2
  have hbe := C2.out.2.2
  exact bodyPost_ret (v := .tuple #[.agg #[.slice (some ad) (a + m) (a + cm), .int .i64 (a : Int), .int .i64 10], .int .u64 0]) (by simp [results, Try.results37, go_sem, r0, r1, r2]) rfl ⟨rfl, (by repeat (first | exact ((Below.refl _ _).alloc (Nat.le_refl _) _).alloc (by simp) _ | assumption | refine below_drewN ?_ _ | refine Below.setCell ?_ (by simp) _ | refine Below.drew ?_))⟩

set_option maxRecDepth 100000 in
set_option maxHeartbeats 1000000 in
theorem Uint_long (ad : Addr) (a m cm : Nat) (bs : List UInt8) (B : Nat) (w : World) (hr : Reads w B 1 (some ad) (a + m) (byteCells bs)) (hB : B ≤ w.heap.size) (hmc : m ≤ cm) (h0 : 0 < m) (hm : m ≤ 10000) (hcx : a + cm ≤ 9223372036854775807) (q : Nat) (hq : q = if m < 10 then m else 10) (hm9 : 10 ≤ m) (hnone : firstIdx lowB ((bs.drop a).take q) = -1) : Calls Try.prog 37 #[.agg #[.slice (some ad) (a + m) (a + cm), .int .i64 (a : Int), .int .i64 0]] w fun e w' => e = .returned (.tuple #[.agg #[.slice (some ad) (a + m) (a + cm), .int .i64 (a : Int), .int .i64 11], .int .u64 0]) ∧ Below w.heap.size w w' := by
  have HF := Lib.hid hnone; clear hnone
  have hcm : ¬ cm = 0 := by omega
  have hqm : q ≤ m := by rw [hq]; split <;> omega
  have HQR := Lib.hid (show Reads w B 1 (some (ad.add a)) q (byteCells ((bs.drop a).take q)) from by
    have h := (hr.sufB (k := a) (cap := a + cm) (by omega) (by omega)).preB (k := q) (by omega)
    rw [if_neg (by omega), Option.map_some] at h
    exact h)
  clear hr
  obtain ⟨ad', had⟩ : ∃ ad', ad.add a = ad' := ⟨_, rfl⟩
  rw [had] at HQR
  rcases (by omega : m = 10 ∨ 10 < m) with rfl | h10
  · obtain rfl : q = 10 := by rw [hq]; rfl
    clear hq
    go_enter Try.func37, Try.ntmps37
    go_wp2_with fail
    refine (right_yes (some ad) _ (a + cm) a _ (by omega) (by omega)).mono ?_
    rintro e w1 ⟨rfl, hb⟩
    have C1 := Lib.hid ((Cu.start w #[.slice (some ad) _ (a + cm), .int .i64 a, .int .i64 0] #[.slice none 0 0, .int .i64 0, .int .i64 0]).next hb)
    clear hb
    obtain ⟨k0, k1, k2, r0, r1, r2, f0, f1, f2, g0, g1, g2⟩ := C1.out.cells
    go_wp2_with fail
    refine (IndexFuncB_at (some ad') _ cm B _ _ (-1) HF.out (C1.out.reads HQR.out hB) (by omega)).mono ?_
    rintro e w2 ⟨rfl, rfl⟩
    go_wp2_with fail
    clear k0 k1 k2 r0 r1 r2 f0 f1 f2 g0 g1 g2
    refine (stay_ok (some ad) _ (a + cm) a 11 _).mono ?_
    rintro e w2 ⟨rfl, hb2⟩
    have C2 := Lib.hid (C1.out.next hb2)
    clear hb2
    obtain ⟨k0, k1, k2, r0, r1, r2, f0, f1, f2, g0, g1, g2⟩ := C2.out.cells
    go_wp2
    have hbe := C2.out.2.2
    exact bodyPost_ret (v := .tuple #[.agg #[.slice (some ad) (a + 10) (a + cm), .int .i64 (a : Int), .int .i64 11], .int .u64 0]) (by simp [results, Try.results37, go_sem, r0, r1, r2]) rfl ⟨rfl, (by repeat (first | exact ((Below.refl _ _).alloc (Nat.le_refl _) _).alloc (by simp) _ | assumption | refine below_drewN ?_ _ | refine Below.setCell ?_ (by simp) _ | refine Below.drew ?_))⟩
  · obtain rfl : q = 10 := by rw [hq, if_neg (by omega)]
    clear hq
    go_enter Try.func37, Try.ntmps37
    go_wp2_with fail
    refine (right_yes (some ad) _ (a + cm) a _ (by omega) (by omega)).mono ?_
    rintro e w1 ⟨rfl, hb⟩
    have C1 := Lib.hid ((Cu.start w #[.slice (some ad) _ (a + cm), .int .i64 a, .int .i64 0] #[.slice none 0 0, .int .i64 0, .int .i64 0]).next hb)
    clear hb
    obtain ⟨k0, k1, k2, r0, r1, r2, f0, f1, f2, g0, g1, g2⟩ := C1.out.cells
    go_wp2_with fail
    refine (IndexFuncB_at (some ad') _ cm B _ _ (-1) HF.out (C1.out.reads HQR.out hB) (by omega)).mono ?_
    rintro e w2 ⟨rfl, rfl⟩
    go_wp2_with fail
    clear k0 k1 k2 r0 r1 r2 f0 f1 f2 g0 g1 g2
    refine (stay_ok (some ad) _ (a + cm) a 11 _).mono ?_
    rintro e w2 ⟨rfl, hb2⟩
    have C2 := Lib.hid (C1.out.next hb2)
    clear hb2
    obtain ⟨k0, k1, k2, r0, r1, r2, f0, f1, f2, g0, g1, g2⟩ := C2.out.cells
    go_wp2
    have hbe := C2.out.2.2
    exact bodyPost_ret (v := .tuple #[.agg #[.slice (some ad) (a + m) (a + cm), .int .i64 (a : Int), .int .i64 11], .int .u64 0]) (by simp [results, Try.results37, go_sem, r0, r1, r2]) rfl ⟨rfl, (by repeat (first | exact ((Below.refl _ _).alloc (Nat.le_refl _) _).alloc (by simp) _ | assumption | refine below_drewN ?_ _ | refine Below.setCell ?_ (by simp) _ | refine Below.drew ?_))⟩

set_option maxRecDepth 100000 in
set_option maxHeartbeats 1000000 in
theorem Uint_form (ad : Addr) (a m cm : Nat) (bs : List UInt8) (B : Nat) (w : World) (hr : Reads w B 1 (some ad) (a + m) (byteCells bs)) (hB : B ≤ w.heap.size) (hmc : m ≤ cm) (h0 : 0 < m) (hm : m ≤ 10000) (hcx : a + cm ≤ 9223372036854775807) (q : Nat) (hq : q = if m < 10 then m else 10) (k : Nat) (x : UInt8) (hkq : k < q) (hx : bs[a + k]? = some x) (hhit : firstIdx lowB ((bs.drop a).take q) = (k : Int)) (hf : (k = 9 ∧ 1 < x.toNat) ∨ (0 < k ∧ x.toNat = 0)) : Calls Try.prog 37 #[.agg #[.slice (some ad) (a + m) (a + cm), .int .i64 (a : Int), .int .i64 0]] w fun e w' => e = .returned (.tuple #[.agg #[.slice (some ad) (a + m) (a + cm), .int .i64 (a : Int), .int .i64 11], .int .u64 0]) ∧ Below w.heap.size w w' := by
  have HF := Lib.hid hhit; clear hhit
  have hcm : ¬ cm = 0 := by omega
  have hqm : q ≤ m := by rw [hq]; split <;> omega
  have HQR := Lib.hid (show Reads w B 1 (some (ad.add a)) q (byteCells ((bs.drop a).take q)) from by
    have h := (hr.sufB (k := a) (cap := a + cm) (by omega) (by omega)).preB (k := q) (by omega)
    rw [if_neg (by omega), Option.map_some] at h
    exact h)
  clear hr
  obtain ⟨ad', had⟩ : ∃ ad', ad.add a = ad' := ⟨_, rfl⟩
  rw [had] at HQR
  have hx' : ((bs.drop a).take q)[k]? = some x := by rw [List.getElem?_take, if_pos hkq, List.getElem?_drop]; exact hx
  have HX := Lib.hid hx'
  clear hx hx'
  have hxl := x.toNat_lt
  have b9 : ((k : Int) == 9) = decide (k = 9) := by rw [Bool.eq_iff_iff, beq_iff_eq, decide_eq_true_iff]; omega
  have bx : decide ((1 : Int) < (x.toNat : Int)) = decide (1 < x.toNat) := by rw [decide_eq_decide]; omega
  have bz : ((x.toNat : Int) == 0) = decide (x.toNat = 0) := by rw [Bool.eq_iff_iff, beq_iff_eq, decide_eq_true_iff]; omega
  have bk : decide ((0 : Int) < (k : Int)) = decide (0 < k) := by rw [decide_eq_decide]; omega
  have i1 : (0 : Int) ≤ (k : Int) := by omega
  rcases (by omega : m < 10 ∨ m = 10 ∨ 10 < m) with h10 | rfl | h10
  · obtain rfl : m = q := by rw [hq, if_pos h10]
    clear hq
    go_enter Try.func37, Try.ntmps37
    go_wp2_with fail
    refine (right_yes (some ad) _ (a + cm) a _ (by omega) (by omega)).mono ?_
    rintro e w1 ⟨rfl, hb⟩
    have C1 := Lib.hid ((Cu.start w #[.slice (some ad) _ (a + cm), .int .i64 a, .int .i64 0] #[.slice none 0 0, .int .i64 0, .int .i64 0]).next hb)
    clear hb
    obtain ⟨k0, k1, k2, r0, r1, r2, f0, f1, f2, g0, g1, g2⟩ := C1.out.cells
    go_wp2_with fail
    refine (IndexFuncB_at (some ad') _ cm B _ _ (k : Int) HF.out (C1.out.reads HQR.out hB) (by omega)).mono ?_
    rintro e w2 ⟨rfl, rfl⟩
    obtain ⟨_, _, E, _, hy, hck⟩ := (C1.out.reads HQR.out hB).byte_at hkq
    cases E
    rw [HX.out] at hy
    cases hy
    by_cases c9 : k = 9 ∧ 1 < x.toNat
    · rw [decide_eq_true c9.1] at b9
      rw [decide_eq_true c9.2] at bx
      clear bz bk hf c9
      go_wp2_with fail
      clear k0 k1 k2 r0 r1 r2 f0 f1 f2 g0 g1 g2
      refine (stay_ok (some ad) _ (a + cm) a 11 _).mono ?_
      rintro e w2 ⟨rfl, hb2⟩
      have C2 := Lib.hid (C1.out.next hb2)
      clear hb2
      obtain ⟨k0, k1, k2, r0, r1, r2, f0, f1, f2, g0, g1, g2⟩ := C2.out.cells
      go_wp2
      have hbe := C2.out.2.2
      exact bodyPost_ret (v := .tuple #[.agg #[.slice (some ad) (a + m) (a + cm), .int .i64 (a : Int), .int .i64 11], .int .u64 0]) (by simp [results, Try.results37, go_sem, r0, r1, r2]) rfl ⟨rfl, (by repeat (first | exact ((Below.refl _ _).alloc (Nat.le_refl _) _).alloc (by simp) _ | assumption | refine below_drewN ?_ _ | refine Below.setCell ?_ (by simp) _ | refine Below.drew ?_))⟩
    · have cz : 0 < k ∧ x.toNat = 0 := by omega
      have hk0 : 0 < k := cz.1
      rw [decide_eq_true cz.2] at bz
      have bx' : decide ((1 : Int) < (x.toNat : Int)) = false := by simp; omega
      clear bx bk hf c9 cz
      by_cases c9 : k = 9
      · rw [decide_eq_true c9] at b9
        clear c9
        go_wp2_with fail
        clear k0 k1 k2 r0 r1 r2 f0 f1 f2 g0 g1 g2
        refine (stay_ok (some ad) _ (a + cm) a 11 _).mono ?_
        rintro e w2 ⟨rfl, hb2⟩
        have C2 := Lib.hid (C1.out.next hb2)
        clear hb2
        obtain ⟨k0, k1, k2, r0, r1, r2, f0, f1, f2, g0, g1, g2⟩ := C2.out.cells
        go_wp2
        have hbe := C2.out.2.2
        exact bodyPost_ret (v := .tuple #[.agg #[.slice (some ad) (a + m) (a + cm), .int .i64 (a : Int), .int .i64 11], .int .u64 0]) (by simp [results, Try.results37, go_sem, r0, r1, r2]) rfl ⟨rfl, (by repeat (first | exact ((Below.refl _ _).alloc (Nat.le_refl _) _).alloc (by simp) _ | assumption | refine below_drewN ?_ _ | refine Below.setCell ?_ (by simp) _ | refine Below.drew ?_))⟩
      · rw [decide_eq_false c9] at b9
        clear c9
        go_wp2_with fail
        clear k0 k1 k2 r0 r1 r2 f0 f1 f2 g0 g1 g2
        refine (stay_ok (some ad) _ (a + cm) a 11 _).mono ?_
        rintro e w2 ⟨rfl, hb2⟩
        have C2 := Lib.hid (C1.out.next hb2)
        clear hb2
        obtain ⟨k0, k1, k2, r0, r1, r2, f0, f1, f2, g0, g1, g2⟩ := C2.out.cells
        go_wp2
        have hbe := C2.out.2.2
        exact bodyPost_ret (v := .tuple #[.agg #[.slice (some ad) (a + m) (a + cm), .int .i64 (a : Int), .int .i64 11], .int .u64 0]) (by simp [results, Try.results37, go_sem, r0, r1, r2]) rfl ⟨rfl, (by repeat (first | exact ((Below.refl _ _).alloc (Nat.le_refl _) _).alloc (by simp) _ | assumption | refine below_drewN ?_ _ | refine Below.setCell ?_ (by simp) _ | refine Below.drew ?_))⟩
  · obtain rfl : q = 10 := by rw [hq]; rfl
    clear hq
    go_enter Try.func37, Try.ntmps37
    go_wp2_with fail
    refine (right_yes (some ad) _ (a + cm) a _ (by omega) (by omega)).mono ?_
    rintro e w1 ⟨rfl, hb⟩
    have C1 := Lib.hid ((Cu.start w #[.slice (some ad) _ (a + cm), .int .i64 a, .int .i64 0] #[.slice none 0 0, .int .i64 0, .int .i64 0]).next hb)
    clear hb
    obtain ⟨k0, k1, k2, r0, r1, r2, f0, f1, f2, g0, g1, g2⟩ := C1.out.cells
    go_wp2_with fail
    refine (IndexFuncB_at (some ad') _ cm B _ _ (k : Int) HF.out (C1.out.reads HQR.out hB) (by omega)).mono ?_
    rintro e w2 ⟨rfl, rfl⟩
    obtain ⟨_, _, E, _, hy, hck⟩ := (C1.out.reads HQR.out hB).byte_at hkq
    cases E
    rw [HX.out] at hy
    cases hy
    by_cases c9 : k = 9 ∧ 1 < x.toNat
    · rw [decide_eq_true c9.1] at b9
      rw [decide_eq_true c9.2] at bx
      clear bz bk hf c9
      go_wp2_with fail
      clear k0 k1 k2 r0 r1 r2 f0 f1 f2 g0 g1 g2
      refine (stay_ok (some ad) _ (a + cm) a 11 _).mono ?_
      rintro e w2 ⟨rfl, hb2⟩
      have C2 := Lib.hid (C1.out.next hb2)
      clear hb2
      obtain ⟨k0, k1, k2, r0, r1, r2, f0, f1, f2, g0, g1, g2⟩ := C2.out.cells
      go_wp2
      have hbe := C2.out.2.2
      exact bodyPost_ret (v := .tuple #[.agg #[.slice (some ad) (a + 10) (a + cm), .int .i64 (a : Int), .int .i64 11], .int .u64 0]) (by simp [results, Try.results37, go_sem, r0, r1, r2]) rfl ⟨rfl, (by repeat (first | exact ((Below.refl _ _).alloc (Nat.le_refl _) _).alloc (by simp) _ | assumption | refine below_drewN ?_ _ | refine Below.setCell ?_ (by simp) _ | refine Below.drew ?_))⟩
    · have cz : 0 < k ∧ x.toNat = 0 := by omega
      have hk0 : 0 < k := cz.1
      rw [decide_eq_true cz.2] at bz
      have bx' : decide ((1 : Int) < (x.toNat : Int)) = false := by simp; omega
      clear bx bk hf c9 cz
      by_cases c9 : k = 9
      · rw [decide_eq_true c9] at b9
        clear c9
        go_wp2_with fail
        clear k0 k1 k2 r0 r1 r2 f0 f1 f2 g0 g1 g2
        refine (stay_ok (some ad) _ (a + cm) a 11 _).mono ?_
        rintro e w2 ⟨rfl, hb2⟩
        have C2 := Lib.hid (C1.out.next hb2)
        clear hb2
        obtain ⟨k0, k1, k2, r0, r1, r2, f0, f1, f2, g0, g1, g2⟩ := C2.out.cells
        go_wp2
        have hbe := C2.out.2.2
        exact bodyPost_ret (v := .tuple #[.agg #[.slice (some ad) (a + 10) (a + cm), .int .i64 (a : Int), .int .i64 11], .int .u64 0]) (by simp [results, Try.results37, go_sem, r0, r1, r2]) rfl ⟨rfl, (by repeat (first | exact ((Below.refl _ _).alloc (Nat.le_refl _) _).alloc (by simp) _ | assumption | refine below_drewN ?_ _ | refine Below.setCell ?_ (by simp) _ | refine Below.drew ?_))⟩
      · rw [decide_eq_false c9] at b9
        clear c9
        go_wp2_with fail
        clear k0 k1 k2 r0 r1 r2 f0 f1 f2 g0 g1 g2
        refine (stay_ok (some ad) _ (a + cm) a 11 _).mono ?_
        rintro e w2 ⟨rfl, hb2⟩
        have C2 := Lib.hid (C1.out.next hb2)
        clear hb2
        obtain ⟨k0, k1, k2, r0, r1, r2, f0, f1, f2, g0, g1, g2⟩ := C2.out.cells
        go_wp2
        have hbe := C2.out.2.2
        exact bodyPost_ret (v := .tuple #[.agg #[.slice (some ad) (a + 10) (a + cm), .int .i64 (a : Int), .int .i64 11], .int .u64 0]) (by simp [results, Try.results37, go_sem, r0, r1, r2]) rfl ⟨rfl, (by repeat (first | exact ((Below.refl _ _).alloc (Nat.le_refl _) _).alloc (by simp) _ | assumption | refine below_drewN ?_ _ | refine Below.setCell ?_ (by simp) _ | refine Below.drew ?_))⟩
  · obtain rfl : q = 10 := by rw [hq, if_neg (by omega)]
    clear hq
    go_enter Try.func37, Try.ntmps37
    go_wp2_with fail
    refine (right_yes (some ad) _ (a + cm) a _ (by omega) (by omega)).mono ?_
    rintro e w1 ⟨rfl, hb⟩
    have C1 := Lib.hid ((Cu.start w #[.slice (some ad) _ (a + cm), .int .i64 a, .int .i64 0] #[.slice none 0 0, .int .i64 0, .int .i64 0]).next hb)
    clear hb
    obtain ⟨k0, k1, k2, r0, r1, r2, f0, f1, f2, g0, g1, g2⟩ := C1.out.cells
    go_wp2_with fail
    refine (IndexFuncB_at (some ad') _ cm B _ _ (k : Int) HF.out (C1.out.reads HQR.out hB) (by omega)).mono ?_
    rintro e w2 ⟨rfl, rfl⟩
    obtain ⟨_, _, E, _, hy, hck⟩ := (C1.out.reads HQR.out hB).byte_at hkq
    cases E
    rw [HX.out] at hy
    cases hy
    by_cases c9 : k = 9 ∧ 1 < x.toNat
    · rw [decide_eq_true c9.1] at b9
      rw [decide_eq_true c9.2] at bx
      clear bz bk hf c9
      go_wp2_with fail
      clear k0 k1 k2 r0 r1 r2 f0 f1 f2 g0 g1 g2
      refine (stay_ok (some ad) _ (a + cm) a 11 _).mono ?_
      rintro e w2 ⟨rfl, hb2⟩
      have C2 := Lib.hid (C1.out.next hb2)
      clear hb2
      obtain ⟨k0, k1, k2, r0, r1, r2, f0, f1, f2, g0, g1, g2⟩ := C2.out.cells
      go_wp2
      have hbe := C2.out.2.2
      exact bodyPost_ret (v := .tuple #[.agg #[.slice (some ad) (a + m) (a + cm), .int .i64 (a : Int), .int .i64 11], .int .u64 0]) (by simp [results, Try.results37, go_sem, r0, r1, r2]) rfl ⟨rfl, (by repeat (first | exact ((Below.refl _ _).alloc (Nat.le_refl _) _).alloc (by simp) _ | assumption | refine below_drewN ?_ _ | refine Below.setCell ?_ (by simp) _ | refine Below.drew ?_))⟩
    · have cz : 0 < k ∧ x.toNat = 0 := by omega
      have hk0 : 0 < k := cz.1
      rw [decide_eq_true cz.2] at bz
      have bx' : decide ((1 : Int) < (x.toNat : Int)) = false := by simp; omega
      clear bx bk hf c9 cz
      by_cases c9 : k = 9
      · rw [decide_eq_true c9] at b9
        clear c9
        go_wp2_with fail
        clear k0 k1 k2 r0 r1 r2 f0 f1 f2 g0 g1 g2
        refine (stay_ok (some ad) _ (a + cm) a 11 _).mono ?_
        rintro e w2 ⟨rfl, hb2⟩
        have C2 := Lib.hid (C1.out.next hb2)
        clear hb2
        obtain ⟨k0, k1, k2, r0, r1, r2, f0, f1, f2, g0, g1, g2⟩ := C2.out.cells
        go_wp2
        have hbe := C2.out.2.2
        exact bodyPost_ret (v := .tuple #[.agg #[.slice (some ad) (a + m) (a + cm), .int .i64 (a : Int), .int .i64 11], .int .u64 0]) (by simp [results, Try.results37, go_sem, r0, r1, r2]) rfl ⟨rfl, (by repeat (first | exact ((Below.refl _ _).alloc (Nat.le_refl _) _).alloc (by simp) _ | assumption | refine below_drewN ?_ _ | refine Below.setCell ?_ (by simp) _ | refine Below.drew ?_))⟩
      · rw [decide_eq_false c9] at b9
        clear c9
        go_wp2_with fail
        clear k0 k1 k2 r0 r1 r2 f0 f1 f2 g0 g1 g2
        refine (stay_ok (some ad) _ (a + cm) a 11 _).mono ?_
        rintro e w2 ⟨rfl, hb2⟩
        have C2 := Lib.hid (C1.out.next hb2)
        clear hb2
        obtain ⟨k0, k1, k2, r0, r1, r2, f0, f1, f2, g0, g1, g2⟩ := C2.out.cells
        go_wp2
        have hbe := C2.out.2.2
        exact bodyPost_ret (v := .tuple #[.agg #[.slice (some ad) (a + m) (a + cm), .int .i64 (a : Int), .int .i64 11], .int .u64 0]) (by simp [results, Try.results37, go_sem, r0, r1, r2]) rfl ⟨rfl, (by repeat (first | exact ((Below.refl _ _).alloc (Nat.le_refl _) _).alloc (by simp) _ | assumption | refine below_drewN ?_ _ | refine Below.setCell ?_ (by simp) _ | refine Below.drew ?_))⟩
end Go.Proofs.Ytadidldkphimfaa
