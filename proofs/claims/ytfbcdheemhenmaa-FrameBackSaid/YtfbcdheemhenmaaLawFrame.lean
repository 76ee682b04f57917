/- The walks of awake and FrameRight of the laws of frame. -/
import Derived.Test.YtfbcdheemhenmaaFrame4
namespace Go.Proofs.Ytfbcdheemhenmaa
set_option linter.unusedVariables false
open Go.RowKit

theorem Next_not (A : Option Addr) (n c : Nat) (at_ : Int) (bs : List UInt8) (B : Nat) (w : World) (k : Nat) (hk : nextF bs at_ = .inl k) (hr : Reads w B 1 A n (byteCells bs)) (hB : B ≤ w.heap.size) (hnc : n ≤ c) (hcm : c ≤ 9223372036854775807) (hn : n ≤ 10000) :
    Calls Try.prog 8 #[.slice A n c, .int .i64 at_] w fun e w' => e = .returned (.tuple #[.int .i64 (k : Int), .int .i64 0, .slice none 0 0, .int .i64 0]) ∧ Below w.heap.size w w' := by
  refine (Next_c A n c at_ bs B w hr hB hnc hcm hn).mono ?_
  rw [hk]
  rintro e w' ⟨h1, h2⟩
  exact ⟨h2, h1⟩
theorem Next_is (A : Option Addr) (n c : Nat) (at_ : Int) (bs : List UInt8) (B : Nat) (w : World) (x : UInt8) (p : List UInt8) (hk : nextF bs at_ = .inr (x, p)) (hr : Reads w B 1 A n (byteCells bs)) (hB : B ≤ w.heap.size) (hnc : n ≤ c) (hcm : c ≤ 9223372036854775807) (hn : n ≤ 10000) :
    Calls Try.prog 8 #[.slice A n c, .int .i64 at_] w fun e w' => ∃ A', e = .returned (.tuple #[.int .i64 0, .int .i64 (x.toNat : Int), .slice A' p.length p.length, .int .i64 ((p.length : Int) + 7)]) ∧ Reads w' B 1 A' p.length (byteCells p) ∧ Below w.heap.size w w' := by
  refine (Next_c A n c at_ bs B w hr hB hnc hcm hn).mono ?_
  rw [hk]
  rintro e w' ⟨h1, A', h2, h3⟩
  exact ⟨A', h2, h3, h1⟩
theorem rNext_not (A : Option Addr) (n c : Nat) (at_ : Int) (bs : List UInt8) (B : Nat) (w : World) (k : Nat) (hk : nextF bs at_ = .inl k) (hr : Reads w B 1 A n (byteCells bs)) (hB : B ≤ w.heap.size) (hnc : n ≤ c) (hcm : c ≤ 9223372036854775807) (hn : n ≤ 10000) :
    Calls Try.prog 9 #[.slice A n c, .int .i64 at_] w fun e w' => e = .returned (.agg #[.int .i64 (k : Int), .int .i64 0, .slice none 0 0, .int .i64 0]) ∧ Below w.heap.size w w' := by
  refine (rNext_c A n c at_ bs B w hr hB hnc hcm hn).mono ?_
  rw [hk]
  rintro e w' ⟨h1, h2⟩
  exact ⟨h2, h1⟩
theorem rNext_is (A : Option Addr) (n c : Nat) (at_ : Int) (bs : List UInt8) (B : Nat) (w : World) (x : UInt8) (p : List UInt8) (hk : nextF bs at_ = .inr (x, p)) (hr : Reads w B 1 A n (byteCells bs)) (hB : B ≤ w.heap.size) (hnc : n ≤ c) (hcm : c ≤ 9223372036854775807) (hn : n ≤ 10000) :
    Calls Try.prog 9 #[.slice A n c, .int .i64 at_] w fun e w' => ∃ A' c', e = .returned (.agg #[.int .i64 0, .int .i64 (x.toNat : Int), .slice A' p.length c', .int .i64 (7 + (p.length : Int))]) ∧ Reads w' B 1 A' p.length (byteCells p) ∧ Below w.heap.size w w' := by
  refine (rNext_c A n c at_ bs B w hr hB hnc hcm hn).mono ?_
  rw [hk]
  rintro e w' ⟨h1, A', c', h2, h3⟩
  exact ⟨A', c', h2, h3, h1⟩

def frame99 : List UInt8 := frameB 2 [9, 9]
theorem f99_0 : nextF frame99 0 = .inr (2, [9, 9]) := by decide +kernel
theorem f99_8 : nextF (frame99.take 8) 0 = .inl 2 := by decide +kernel
theorem f99_9 : nextF frame99 9 = .inl 1 := by decide +kernel
theorem f99_h : frame99.take 3 = [0, 2, 2] := by decide +kernel

set_option maxRecDepth 100000 in
set_option maxHeartbeats 1000000 in
theorem Frame_awake (w : World) : Calls Try.prog 5 #[] w fun e w' => e = .returned (.bool true) ∧ Below w.heap.size w w' := by
  have hr0 : Reads (w.alloc (.cells #[.int .u8 9, .int .u8 9] 5)) (w.heap.size + 1) 1 (some ⟨w.heap.size, 0, none⟩) 2 (byteCells [9, 9]) := Reads.of_blk (Blk.new w 5 #[.int .u8 9, .int .u8 9]) 2 _ rfl rfl
  have HR0 := Lib.hid hr0; clear hr0
  go_enter Try.func5, Try.ntmps5
  go_wp2_with fail
  refine (Put_c 2 _ 2 2 (w.heap.size + 1) [9, 9] _ (by omega) (by omega) (by omega) HR0.out (by simp)).mono ?_
  rintro e w1 ⟨v, rfl, hown, hb1⟩
  have HB1 := Lib.hid (show Below w.heap.size w w1 from ((Below.refl _ _).alloc (Nat.le_refl _) _).trans (hb1.mono (by simp)))
  obtain ⟨A1, c1, rfl, hc1, hc2, hc3, hR1⟩ := own_reads hown
  replace hR1 : Reads w1 w1.heap.size 1 A1 9 (byteCells frame99) := hR1
  have HR1 := Lib.hid hR1
  obtain ⟨ad, rfl, _⟩ := hR1.2 (by omega)
  have k1 := (hR1.byte_at (k := 1) (by omega))
  have k2 := (hR1.byte_at (k := 2) (by omega))
  have hm1 : c1 ≤ 9223372036854775807 := by unfold maxLen at hc2; omega
  have hc9 : 9 ≤ c1 := hc1
  clear hown hb1 hR1 hc1 hc2 hc3 HR0 k1 k2
  have h27 : (2 : Nat) + 7 = 9 := rfl
  go_wp2_with fail
  refine (Next_is _ 9 c1 0 frame99 w1.heap.size _ 2 [9, 9] f99_0 HR1.out (Nat.le_refl _) hc9 hm1 (by omega)).mono ?_
  rintro e w2 ⟨A2, rfl, hR2, hb2⟩
  have HR2 := Lib.hid hR2
  have HB2 := Lib.hid (HB1.out.trans (hb2.mono HB1.out.size))
  have hs2 := hb2.size
  have HR12 := Lib.hid (HR1.out.below hb2)
  clear hR2 hb2
  go_wp2_with fail
  refine (Next_not _ 8 c1 0 (frame99.take 8) w1.heap.size _ 2 f99_8 (HR12.out.preB (by omega)) hs2 (by omega) hm1 (by omega)).mono ?_
  rintro e w3 ⟨rfl, hb3⟩
  have HR3 := Lib.hid (HR2.out.below (hb3.mono hs2))
  have HB3 := Lib.hid (HB2.out.trans (hb3.mono HB2.out.size))
  have hs3 := Nat.le_trans hs2 hb3.size
  have HR13 := Lib.hid (HR12.out.below (hb3.mono hs2))
  clear hb3 HR12 HR2 HB2
  go_wp2_with fail
  refine (Next_not _ 9 c1 9 frame99 w1.heap.size _ 1 f99_9 HR13.out hs3 hc9 hm1 (by omega)).mono ?_
  rintro e w4 ⟨rfl, hb4⟩
  have HR14 := Lib.hid (HR13.out.below (hb4.mono hs3))
  have hcv := conv_reads (n := 2) (bs := [9, 9]) (HR3.out.below (hb4.mono hs3)) 2
  have HB4 := Lib.hid (HB3.out.trans (hb4.mono HB3.out.size))
  obtain ⟨ad', x1, E, _, hx1, k1⟩ := HR14.out.byte_at (k := 1) (by omega)
  cases E
  obtain ⟨ad', x2, E, _, hx2, k2⟩ := HR14.out.byte_at (k := 2) (by omega)
  cases E
  have g1 : frame99[1]? = some 2 := by decide +kernel
  have g2 : frame99[2]? = some 2 := by decide +kernel
  rw [g1] at hx1; cases hx1
  rw [g2] at hx2; cases hx2
  have k1' : w4.cell? ⟨ad.block, ad.off + 1, none⟩ = some (.int .u8 2) := k1
  have k2' : w4.cell? ⟨ad.block, ad.off + 2, none⟩ = some (.int .u8 2) := k2
  clear k1 k2 hb4 g1 g2 HR14 HR13 HB3 HR3 h27
  go_wp2
  go_ret
  exact ⟨rfl, HB4.out⟩

theorem FrameRight_long (kind : Int) (A : Option Addr) (n c : Nat) (bs : List UInt8) (A2 : Option Addr) (n2 c2 : Nat) (bs2 : List UInt8) (at_ : Int) (w : World) (hr : Reads w w.heap.size 1 A n (byteCells bs)) (hnc : n ≤ c) (hcm : c ≤ 9223372036854775807) (hr2 : Reads w w.heap.size 1 A2 n2 (byteCells bs2)) (hnc2 : n2 ≤ c2) (hcm2 : c2 ≤ 9223372036854775807) (h : 3000 < n ∨ 3000 < n2) : Calls Try.prog 3 #[.int .i64 kind, .slice A n c, .slice A2 n2 c2, .int .i64 at_] w fun e w' => e = .returned (.bool true) ∧ Below w.heap.size w w' := by
  by_cases h1 : 3000 < n
  · have hd : decide ((3000 : Int) < (n : Int)) = true := by simp; omega
    clear h
    go_enter Try.func3, Try.ntmps3
    go_wp2_with fail
    refine (Frame_awake _).mono ?_
    rintro e w1 ⟨rfl, hb1⟩
    go_wp2
    go_ret
    exact ⟨rfl, hb1⟩
  · have hd : decide ((3000 : Int) < (n : Int)) = false := by simp; omega
    have hd2 : decide ((3000 : Int) < (n2 : Int)) = true := by simp; omega
    clear h
    go_enter Try.func3, Try.ntmps3
    go_wp2_with fail
    refine (Frame_awake _).mono ?_
    rintro e w1 ⟨rfl, hb1⟩
    go_wp2
    go_ret
    exact ⟨rfl, hb1⟩

set_option maxRecDepth 100000 in
set_option maxHeartbeats 1000000 in
theorem FrameRight_kind (kind : Int) (A : Option Addr) (n c : Nat) (bs : List UInt8) (A2 : Option Addr) (n2 c2 : Nat) (bs2 : List UInt8) (at_ : Int) (w : World) (hr : Reads w w.heap.size 1 A n (byteCells bs)) (hnc : n ≤ c) (hcm : c ≤ 9223372036854775807) (hr2 : Reads w w.heap.size 1 A2 n2 (byteCells bs2)) (hnc2 : n2 ≤ c2) (hcm2 : c2 ≤ 9223372036854775807) (hn : n ≤ 3000) (hn2 : n2 ≤ 3000) (hk : kind < 1 ∨ 3 < kind) : Calls Try.prog 3 #[.int .i64 kind, .slice A n c, .slice A2 n2 c2, .int .i64 at_] w fun e w' => e = .returned (.bool true) ∧ Below w.heap.size w w' := by
  have HR := Lib.hid hr
  have HR2 := Lib.hid hr2
  clear hr hr2
  have hd : decide ((3000 : Int) < (n : Int)) = false := by simp; omega
  have hd2 : decide ((3000 : Int) < (n2 : Int)) = false := by simp; omega
  have HK := Lib.hid hk
  go_enter Try.func3, Try.ntmps3
  go_wp2_with fail
  refine (Frame_awake _).mono ?_
  rintro e w1 ⟨rfl, hb1⟩
  have hs1 := hb1.size
  go_wp2_with fail
  refine (Put_kind kind A n c _ HK.out).mono ?_
  rintro e w2 ⟨rfl, rfl⟩
  have HBX := Lib.hid hb1
  clear hb1
  by_cases hk1 : kind < 1
  all_goals
    go_wp2_with fail
    have hsx := HBX.out.size
    cases hN : nextF bs2 at_ with
    | inl k =>
      have HN := Lib.hid hN; clear hN
      refine (Next_not A2 n2 c2 at_ bs2 w.heap.size _ k HN.out (HR2.out.below HBX.out) hsx hnc2 hcm2 (by omega)).mono ?_
      rintro e w7 ⟨rfl, hb7⟩
      have HB7 := Lib.hid (HBX.out.trans (hb7.mono hsx))
      clear hb7
      go_wp2_with fail
      refine (rNext_not A2 n2 c2 at_ bs2 w.heap.size _ k HN.out (HR2.out.below HB7.out) HB7.out.size hnc2 hcm2 (by omega)).mono ?_
      rintro e w8 ⟨rfl, hb8⟩
      have HB8 := Lib.hid (HB7.out.trans (hb8.mono HB7.out.size))
      clear hb8
      have hcv := fun (W : World) (c : Nat) => conv_reads (w := W) (B := 0) (A := none) (n := 0) (bs := []) Reads.none_ c
      go_wp2
      go_ret
      exact ⟨rfl, HB8.out.alloc HB8.out.size _⟩
    | inr xp =>
      obtain ⟨x, p⟩ := xp
      have HN := Lib.hid hN; clear hN
      refine (Next_is A2 n2 c2 at_ bs2 w.heap.size _ x p HN.out (HR2.out.below HBX.out) hsx hnc2 hcm2 (by omega)).mono ?_
      rintro e w7 ⟨A7, rfl, hR7, hb7⟩
      have HB7 := Lib.hid (HBX.out.trans (hb7.mono hsx))
      have HR7 := Lib.hid hR7
      clear hb7 hR7
      go_wp2_with fail
      refine (rNext_is A2 n2 c2 at_ bs2 w.heap.size _ x p HN.out (HR2.out.below HB7.out) HB7.out.size hnc2 hcm2 (by omega)).mono ?_
      rintro e w8 ⟨A8, c8, rfl, hR8, hb8⟩
      have HB8 := Lib.hid (HB7.out.trans (hb8.mono HB7.out.size))
      have hs7 := HB7.out.size
      have hs8 := HB8.out.size
      have v1 := fun o => conv_reads (((HR7.out.below (hb8.mono hs7))).alloc hs8 o) p.length
      have v2 := fun o => conv_reads (hR8.alloc hs8 o) c8
      have hsz : ((p.length : Int) + 7 == 7 + (p.length : Int)) = true := by rw [beq_iff_eq]; omega
      have hpl := (nextF_whole _ _ _ _ HN.out).2.2.2.2.1
      clear hb8 hR8
      go_wp2
      go_ret
      exact ⟨rfl, HB8.out.alloc HB8.out.size _⟩

set_option maxRecDepth 100000 in
set_option maxHeartbeats 1000000 in
theorem FrameRight_many (kind : Int) (A : Option Addr) (n c : Nat) (bs : List UInt8) (A2 : Option Addr) (n2 c2 : Nat) (bs2 : List UInt8) (at_ : Int) (w : World) (hr : Reads w w.heap.size 1 A n (byteCells bs)) (hnc : n ≤ c) (hcm : c ≤ 9223372036854775807) (hr2 : Reads w w.heap.size 1 A2 n2 (byteCells bs2)) (hnc2 : n2 ≤ c2) (hcm2 : c2 ≤ 9223372036854775807) (hn : n ≤ 3000) (hn2 : n2 ≤ 3000) (h1 : 1 ≤ kind) (h3 : kind ≤ 3) (hn' : 200 < n) : Calls Try.prog 3 #[.int .i64 kind, .slice A n c, .slice A2 n2 c2, .int .i64 at_] w fun e w' => e = .returned (.bool true) ∧ Below w.heap.size w w' := by
  have HR := Lib.hid hr
  have HR2 := Lib.hid hr2
  clear hr hr2
  have hd : decide ((3000 : Int) < (n : Int)) = false := by simp; omega
  have hd2 : decide ((3000 : Int) < (n2 : Int)) = false := by simp; omega
  have d1 : decide (kind < 1) = false := by simp; omega
  have d3 : decide (3 < kind) = false := by simp; omega
  have d2 : decide ((200 : Int) < (n : Int)) = true := by simp; omega
  go_enter Try.func3, Try.ntmps3
  go_wp2_with fail
  refine (Frame_awake _).mono ?_
  rintro e w1 ⟨rfl, hb1⟩
  have hs1 := hb1.size
  go_wp2_with fail
  refine (Put_many kind A n c _ h1 h3 hn').mono ?_
  rintro e w2 ⟨rfl, rfl⟩
  have HBX := Lib.hid hb1
  clear hb1
  go_wp2_with fail
  have hsx := HBX.out.size
  cases hN : nextF bs2 at_ with
  | inl k =>
    have HN := Lib.hid hN; clear hN
    refine (Next_not A2 n2 c2 at_ bs2 w.heap.size _ k HN.out (HR2.out.below HBX.out) hsx hnc2 hcm2 (by omega)).mono ?_
    rintro e w7 ⟨rfl, hb7⟩
    have HB7 := Lib.hid (HBX.out.trans (hb7.mono hsx))
    clear hb7
    go_wp2_with fail
    refine (rNext_not A2 n2 c2 at_ bs2 w.heap.size _ k HN.out (HR2.out.below HB7.out) HB7.out.size hnc2 hcm2 (by omega)).mono ?_
    rintro e w8 ⟨rfl, hb8⟩
    have HB8 := Lib.hid (HB7.out.trans (hb8.mono HB7.out.size))
    clear hb8
    have hcv := fun (W : World) (c : Nat) => conv_reads (w := W) (B := 0) (A := none) (n := 0) (bs := []) Reads.none_ c
    go_wp2
    go_ret
    exact ⟨rfl, HB8.out.alloc HB8.out.size _⟩
  | inr xp =>
    obtain ⟨x, p⟩ := xp
    have HN := Lib.hid hN; clear hN
    refine (Next_is A2 n2 c2 at_ bs2 w.heap.size _ x p HN.out (HR2.out.below HBX.out) hsx hnc2 hcm2 (by omega)).mono ?_
    rintro e w7 ⟨A7, rfl, hR7, hb7⟩
    have HB7 := Lib.hid (HBX.out.trans (hb7.mono hsx))
    have HR7 := Lib.hid hR7
    clear hb7 hR7
    go_wp2_with fail
    refine (rNext_is A2 n2 c2 at_ bs2 w.heap.size _ x p HN.out (HR2.out.below HB7.out) HB7.out.size hnc2 hcm2 (by omega)).mono ?_
    rintro e w8 ⟨A8, c8, rfl, hR8, hb8⟩
    have HB8 := Lib.hid (HB7.out.trans (hb8.mono HB7.out.size))
    have hs7 := HB7.out.size
    have hs8 := HB8.out.size
    have v1 := fun o => conv_reads (((HR7.out.below (hb8.mono hs7))).alloc hs8 o) p.length
    have v2 := fun o => conv_reads (hR8.alloc hs8 o) c8
    have hsz : ((p.length : Int) + 7 == 7 + (p.length : Int)) = true := by rw [beq_iff_eq]; omega
    have hpl := (nextF_whole _ _ _ _ HN.out).2.2.2.2.1
    clear hb8 hR8
    go_wp2
    go_ret
    exact ⟨rfl, HB8.out.alloc HB8.out.size _⟩

set_option maxRecDepth 100000 in
set_option maxHeartbeats 1000000 in
theorem FrameRight_ok (kind : Int) (A : Option Addr) (n c : Nat) (bs : List UInt8) (A2 : Option Addr) (n2 c2 : Nat) (bs2 : List UInt8) (at_ : Int) (w : World) (hr : Reads w w.heap.size 1 A n (byteCells bs)) (hnc : n ≤ c) (hcm : c ≤ 9223372036854775807) (hr2 : Reads w w.heap.size 1 A2 n2 (byteCells bs2)) (hnc2 : n2 ≤ c2) (hcm2 : c2 ≤ 9223372036854775807) (hn2 : n2 ≤ 3000) (h1 : 1 ≤ kind) (h3 : kind ≤ 3) (hn : n ≤ 200) : Calls Try.prog 3 #[.int .i64 kind, .slice A n c, .slice A2 n2 c2, .int .i64 at_] w fun e w' => e = .returned (.bool true) ∧ Below w.heap.size w w' := by
  have HR := Lib.hid hr
  have HR2 := Lib.hid hr2
  clear hr hr2
  have hd : decide ((3000 : Int) < (n : Int)) = false := by simp; omega
  have hd2 : decide ((3000 : Int) < (n2 : Int)) = false := by simp; omega
  have d1 : decide (kind < 1) = false := by simp; omega
  have d3 : decide (3 < kind) = false := by simp; omega
  have d2 : decide ((200 : Int) < (n : Int)) = false := by simp; omega
  go_enter Try.func3, Try.ntmps3
  go_wp2_with fail
  refine (Frame_awake _).mono ?_
  rintro e w1 ⟨rfl, hb1⟩
  have hs1 := hb1.size
  go_wp2_with fail
  refine (Put_c kind A n c w.heap.size bs _ h1 h3 hn (HR.out.below hb1) hs1).mono ?_
  rintro e w2 ⟨v, rfl, hown, hb2⟩
  obtain ⟨A1, c1, rfl, _, _, _, hR1⟩ := own_reads hown
  have HB2 := Lib.hid (hb1.trans (hb2.mono hs1))
  have HR1 := Lib.hid hR1
  clear hb1 hb2 hown hR1
  go_wp2
  refine wp_region_noPanic ?_
  refine wp_region_held_drew (S := fun W => Below w2.heap.size w2 W) (by kernel_rfl) ((Below.refl _ _).drew) (fun hHeld => ?_)
  refine takeH 0 (v := ?v0u1) rfl (by kernel_rfl) (by kernel_rfl) (by kernel_rfl) rfl (fun _ _ _ h => h) (Or.inl ⟨by rfl, ?y0u1⟩) hHeld ?r0u1
  case y0u1 => (intro W hSW; (try dsimp only at hSW); go_simp; try with_reducible rfl)
  simp only [Act.put, List.setIfInBounds_toArray, List.set_cons_zero, List.set_cons_succ]
  refine takeH 1 (v := ?v1u2) rfl (by kernel_rfl) (by kernel_rfl) (by kernel_rfl) rfl (fun _ _ _ h => h) (Or.inl ⟨by rfl, ?y1u2⟩) hHeld ?r1u2
  case y1u2 => (intro W hSW; (try dsimp only at hSW); go_simp; try with_reducible rfl)
  simp only [Act.put, List.setIfInBounds_toArray, List.set_cons_zero, List.set_cons_succ]
  refine takeH 2 (v := ?v2u3) rfl (by kernel_rfl) (by kernel_rfl) (by kernel_rfl) rfl (fun _ _ _ h => h) (Or.inl ⟨by rfl, ?y2u3⟩) hHeld ?r2u3
  case y2u3 => (intro W hSW; (try dsimp only at hSW); go_simp; try with_reducible rfl)
  simp only [Act.put, List.setIfInBounds_toArray, List.set_cons_zero, List.set_cons_succ]
  refine takeH 3 (v := ?v3u4) rfl (by kernel_rfl) (by kernel_rfl) (by kernel_rfl) rfl (fun _ _ _ h => h) (Or.inl ⟨by rfl, ?y3u4⟩) hHeld ?r3u4
  case y3u4 => (intro W hSW; (try dsimp only at hSW); go_simp; try with_reducible rfl)
  simp only [Act.put, List.setIfInBounds_toArray, List.set_cons_zero, List.set_cons_succ]
  refine takeH 4 (v := ?v4u5) rfl (by kernel_rfl) (by kernel_rfl) (by kernel_rfl) rfl (fun _ _ _ h => h) (Or.inl ⟨by rfl, ?y4u5⟩) hHeld ?r4u5
  case y4u5 => (intro W hSW; (try dsimp only at hSW); have hcv := conv_reads (HR1.out.below hSW) c1; go_simp; try with_reducible rfl)
  simp only [Act.put, List.setIfInBounds_toArray, List.set_cons_zero, List.set_cons_succ]
  refine takeH 5 (v := ?v5u6) rfl (by kernel_rfl) (by kernel_rfl) (by kernel_rfl) rfl (fun _ _ _ h => h) (Or.inl ⟨by rfl, ?y5u6⟩) hHeld ?r5u6
  case y5u6 => (intro W hSW; (try dsimp only at hSW); go_simp; try with_reducible rfl)
  simp only [Act.put, List.setIfInBounds_toArray, List.set_cons_zero, List.set_cons_succ]
  refine takeH 6 (v := ?v6u7) rfl (by kernel_rfl) (by kernel_rfl) (by kernel_rfl) rfl (fun _ _ _ h => h) (Or.inl ⟨by rfl, ?y6u7⟩) hHeld ?r6u7
  case y6u7 => (intro W hSW; (try dsimp only at hSW); go_simp; try with_reducible rfl)
  simp only [Act.put, List.setIfInBounds_toArray, List.set_cons_zero, List.set_cons_succ]
  refine wpAnyH_ready (rs := [7]) (by kernel_rfl) (by simp) ?_
  refine AllReadyH.cons rfl (fun K hK => ?_) AllReadyH.nil
  go_simp
  refine (rPut_c kind A n c w.heap.size bs _ h1 h3 hn (HR.out.below (HB2.out.trans (Below.mono hHeld HB2.out.size))) (Nat.le_trans HB2.out.size (Below.size hHeld))).mono ?_
  rintro e w3 ⟨v3, rfl, hown3, hb3⟩
  obtain ⟨A3, c3, rfl, _, _, _, hR3⟩ := own_reads hown3
  have hcv3 := conv_reads hR3 c3
  refine hK.out _ _ (Below.trans hHeld (hb3.mono (Below.size hHeld))) (fun hHeld => ?_)
  clear hK K
  try simp only [Act.put, List.setIfInBounds_toArray, List.set_cons_zero, List.set_cons_succ]
  refine wpAnyH_ready (rs := [8]) (by kernel_rfl) (by simp) ?_
  refine AllReadyH.cons rfl (fun K hK => ?_) AllReadyH.nil
  go_simp
  refine hK.out _ _ hHeld (fun hHeld => ?_)
  clear hK K
  try simp only [Act.put, List.setIfInBounds_toArray, List.set_cons_zero, List.set_cons_succ]
  refine takeH 9 (v := ?v9u8) rfl (by kernel_rfl) (by kernel_rfl) (by kernel_rfl) rfl (fun _ _ _ h => h) (Or.inl ⟨by rfl, ?y9u8⟩) hHeld ?r9u8
  case y9u8 => (intro W hSW; (try dsimp only at hSW); go_simp; try with_reducible rfl)
  simp only [Act.put, List.setIfInBounds_toArray, List.set_cons_zero, List.set_cons_succ]
  refine takeH 10 (v := ?v10u9) rfl (by kernel_rfl) (by kernel_rfl) (by kernel_rfl) rfl (fun _ _ _ h => h) (Or.inl ⟨by rfl, ?y10u9⟩) hHeld ?r10u9
  case y10u9 => (intro W hSW; (try dsimp only at hSW); go_simp; try with_reducible rfl)
  simp only [Act.put, List.setIfInBounds_toArray, List.set_cons_zero, List.set_cons_succ]
  refine wpAnyH_done (by kernel_rfl) ?_ _
  refine NoPanic.normal ?_
  have HBX := Lib.hid (HB2.out.trans (Below.mono hHeld HB2.out.size))
  clear hHeld hb3 hown3 hR3 hcv3
  go_wp2_with fail
  have hsx := HBX.out.size
  cases hN : nextF bs2 at_ with
  | inl k =>
    have HN := Lib.hid hN; clear hN
    refine (Next_not A2 n2 c2 at_ bs2 w.heap.size _ k HN.out (HR2.out.below HBX.out) hsx hnc2 hcm2 (by omega)).mono ?_
    rintro e w7 ⟨rfl, hb7⟩
    have HB7 := Lib.hid (HBX.out.trans (hb7.mono hsx))
    clear hb7
    go_wp2_with fail
    refine (rNext_not A2 n2 c2 at_ bs2 w.heap.size _ k HN.out (HR2.out.below HB7.out) HB7.out.size hnc2 hcm2 (by omega)).mono ?_
    rintro e w8 ⟨rfl, hb8⟩
    have HB8 := Lib.hid (HB7.out.trans (hb8.mono HB7.out.size))
    clear hb8
    have hcv := fun (W : World) (c : Nat) => conv_reads (w := W) (B := 0) (A := none) (n := 0) (bs := []) Reads.none_ c
    go_wp2
    go_ret
    exact ⟨rfl, HB8.out.alloc HB8.out.size _⟩
  | inr xp =>
    obtain ⟨x, p⟩ := xp
    have HN := Lib.hid hN; clear hN
    refine (Next_is A2 n2 c2 at_ bs2 w.heap.size _ x p HN.out (HR2.out.below HBX.out) hsx hnc2 hcm2 (by omega)).mono ?_
    rintro e w7 ⟨A7, rfl, hR7, hb7⟩
    have HB7 := Lib.hid (HBX.out.trans (hb7.mono hsx))
    have HR7 := Lib.hid hR7
    clear hb7 hR7
    go_wp2_with fail
    refine (rNext_is A2 n2 c2 at_ bs2 w.heap.size _ x p HN.out (HR2.out.below HB7.out) HB7.out.size hnc2 hcm2 (by omega)).mono ?_
    rintro e w8 ⟨A8, c8, rfl, hR8, hb8⟩
    have HB8 := Lib.hid (HB7.out.trans (hb8.mono HB7.out.size))
    have hs7 := HB7.out.size
    have hs8 := HB8.out.size
    have v1 := fun o => conv_reads (((HR7.out.below (hb8.mono hs7))).alloc hs8 o) p.length
    have v2 := fun o => conv_reads (hR8.alloc hs8 o) c8
    have hsz : ((p.length : Int) + 7 == 7 + (p.length : Int)) = true := by rw [beq_iff_eq]; omega
    have hpl := (nextF_whole _ _ _ _ HN.out).2.2.2.2.1
    clear hb8 hR8
    go_wp2
    go_ret
    exact ⟨rfl, HB8.out.alloc HB8.out.size _⟩

theorem FrameRight_walk (kind : Int) (A : Option Addr) (n c : Nat) (zs : List Int) (A2 : Option Addr) (n2 c2 : Nat) (zs2 : List Int) (at_ : Int) (w : World) (hz : IntArg .u8 w A n c zs) (hz2 : IntArg .u8 w A2 n2 c2 zs2) : Calls Try.prog 3 #[.int .i64 kind, .slice A n c, .slice A2 n2 c2, .int .i64 at_] w fun e w' => e = .returned (.bool true) ∧ Below w.heap.size w w' := by
  obtain ⟨bs, hr, hnc, hcm, _⟩ := bytesArg hz
  obtain ⟨bs2, hr2, hnc2, hcm2, _⟩ := bytesArg hz2
  unfold maxLen at hcm hcm2
  by_cases hn : 3000 < n ∨ 3000 < n2
  · exact FrameRight_long kind A n c bs A2 n2 c2 bs2 at_ w hr hnc (by omega) hr2 hnc2 (by omega) hn
  · by_cases hk : kind < 1 ∨ 3 < kind
    · exact FrameRight_kind kind A n c bs A2 n2 c2 bs2 at_ w hr hnc (by omega) hr2 hnc2 (by omega) (by omega) (by omega) hk
    · by_cases h2 : 200 < n
      · exact FrameRight_many kind A n c bs A2 n2 c2 bs2 at_ w hr hnc (by omega) hr2 hnc2 (by omega) (by omega) (by omega) (by omega) (by omega) h2
      · exact FrameRight_ok kind A n c bs A2 n2 c2 bs2 at_ w hr hnc (by omega) hr2 hnc2 (by omega) (by omega) (by omega) (by omega) (by omega)
end Go.Proofs.Ytfbcdheemhenmaa
