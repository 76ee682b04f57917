/- The walk of FrameBack. -/
import Derived.Test.YtfbcdheemhenmaaLawFrame
namespace Go.Proofs.Ytfbcdheemhenmaa
set_option linter.unusedVariables false
open Go.RowKit

theorem FrameBack_long (kind : Int) (A1 : Option Addr) (n1 c1 : Nat) (bs1 : List UInt8) (A2 : Option Addr) (n2 c2 : Nat) (bs2 : List UInt8) (A3 : Option Addr) (n3 c3 : Nat) (bs3 : List UInt8) (A4 : Option Addr) (n4 c4 : Nat) (bs4 : List UInt8) (at_ : Int) (w : World) (hr1 : Reads w w.heap.size 1 A1 n1 (byteCells bs1)) (hnc1 : n1 ≤ c1) (hcm1 : c1 ≤ 9223372036854775807) (hr2 : Reads w w.heap.size 1 A2 n2 (byteCells bs2)) (hnc2 : n2 ≤ c2) (hcm2 : c2 ≤ 9223372036854775807) (hr3 : Reads w w.heap.size 1 A3 n3 (byteCells bs3)) (hnc3 : n3 ≤ c3) (hcm3 : c3 ≤ 9223372036854775807) (hr4 : Reads w w.heap.size 1 A4 n4 (byteCells bs4)) (hnc4 : n4 ≤ c4) (hcm4 : c4 ≤ 9223372036854775807) (h : 3000 < n1 ∨ 3000 < n2 ∨ 3000 < n3 ∨ 3000 < n4) : Calls Try.prog 4 #[.int .i64 kind, .slice A1 n1 c1, .slice A2 n2 c2, .slice A3 n3 c3, .slice A4 n4 c4, .int .i64 at_] w fun e w' => e = .returned (.bool true) ∧ Below w.heap.size w w' := by
  by_cases h1 : 3000 < n1
  · have d1 : decide ((3000 : Int) < (n1 : Int)) = true := by simp; omega
    clear h
    go_enter Try.func4, Try.ntmps4
    go_wp2_with fail
    refine (Frame_awake _).mono ?_
    rintro e w1 ⟨rfl, hb1⟩
    go_wp2
    go_ret
    exact ⟨rfl, hb1⟩
  · skip
    by_cases h2 : 3000 < n2
    · have d1 : decide ((3000 : Int) < (n1 : Int)) = false := by simp; omega
      have d2 : decide ((3000 : Int) < (n2 : Int)) = true := by simp; omega
      clear h
      go_enter Try.func4, Try.ntmps4
      go_wp2_with fail
      refine (Frame_awake _).mono ?_
      rintro e w1 ⟨rfl, hb1⟩
      go_wp2
      go_ret
      exact ⟨rfl, hb1⟩
    · skip
      by_cases h3 : 3000 < n3
      · have d1 : decide ((3000 : Int) < (n1 : Int)) = false := by simp; omega
        have d2 : decide ((3000 : Int) < (n2 : Int)) = false := by simp; omega
        have d3 : decide ((3000 : Int) < (n3 : Int)) = true := by simp; omega
        clear h
        go_enter Try.func4, Try.ntmps4
        go_wp2_with fail
        refine (Frame_awake _).mono ?_
        rintro e w1 ⟨rfl, hb1⟩
        go_wp2
        go_ret
        exact ⟨rfl, hb1⟩
      · skip
        have d1 : decide ((3000 : Int) < (n1 : Int)) = false := by simp; omega
        have d2 : decide ((3000 : Int) < (n2 : Int)) = false := by simp; omega
        have d3 : decide ((3000 : Int) < (n3 : Int)) = false := by simp; omega
        have d4 : decide ((3000 : Int) < (n4 : Int)) = true := by simp; omega
        clear h
        go_enter Try.func4, Try.ntmps4
        go_wp2_with fail
        refine (Frame_awake _).mono ?_
        rintro e w1 ⟨rfl, hb1⟩
        go_wp2
        go_ret
        exact ⟨rfl, hb1⟩

set_option maxRecDepth 100000 in
set_option maxHeartbeats 1000000 in
theorem FrameBack_err (kind : Int) (A1 : Option Addr) (n1 c1 : Nat) (bs1 : List UInt8) (A2 : Option Addr) (n2 c2 : Nat) (bs2 : List UInt8) (A3 : Option Addr) (n3 c3 : Nat) (bs3 : List UInt8) (A4 : Option Addr) (n4 c4 : Nat) (bs4 : List UInt8) (at_ : Int) (w : World) (hr1 : Reads w w.heap.size 1 A1 n1 (byteCells bs1)) (hnc1 : n1 ≤ c1) (hcm1 : c1 ≤ 9223372036854775807) (hr2 : Reads w w.heap.size 1 A2 n2 (byteCells bs2)) (hnc2 : n2 ≤ c2) (hcm2 : c2 ≤ 9223372036854775807) (hr3 : Reads w w.heap.size 1 A3 n3 (byteCells bs3)) (hnc3 : n3 ≤ c3) (hcm3 : c3 ≤ 9223372036854775807) (hr4 : Reads w w.heap.size 1 A4 n4 (byteCells bs4)) (hnc4 : n4 ≤ c4) (hcm4 : c4 ≤ 9223372036854775807) (hn1 : n1 ≤ 3000) (hn2 : n2 ≤ 3000) (hn3 : n3 ≤ 3000) (hn4 : n4 ≤ 3000) (ek : Int) (hek : (ek == 0) = false)
    (hput : Hid (∀ W, Calls Try.prog 6 #[.int .i64 kind, .slice A1 n1 c1] W fun e w' => e = .returned (.tuple #[.slice none 0 0, .int .i64 ek]) ∧ W = w')) : Calls Try.prog 4 #[.int .i64 kind, .slice A1 n1 c1, .slice A2 n2 c2, .slice A3 n3 c3, .slice A4 n4 c4, .int .i64 at_] w fun e w' => e = .returned (.bool true) ∧ Below w.heap.size w w' := by
  have HR1 := Lib.hid hr1
  have HR2 := Lib.hid hr2
  have HR3 := Lib.hid hr3
  have HR4 := Lib.hid hr4
  clear hr1 hr2 hr3 hr4
  have d1 : decide ((3000 : Int) < (n1 : Int)) = false := by simp; omega
  have d2 : decide ((3000 : Int) < (n2 : Int)) = false := by simp; omega
  have d3 : decide ((3000 : Int) < (n3 : Int)) = false := by simp; omega
  have d4 : decide ((3000 : Int) < (n4 : Int)) = false := by simp; omega
  have HL4 := Lib.hid HR4.out.lenB
  go_enter Try.func4, Try.ntmps4
  go_wp2_with fail
  refine (Frame_awake _).mono ?_
  rintro e w1 ⟨rfl, hb1⟩
  have hs1 := hb1.size
  go_wp2_with fail
  refine (hput.out _).mono ?_
  rintro e w2 ⟨rfl, rfl⟩
  have HBX := Lib.hid hb1
  clear hb1
  go_wp2_with fail
  have hsx := HBX.out.size
  cases hN : nextF bs4 at_ with
  | inl k =>
    have HK := Lib.hid (nextF_not _ _ _ hN)
    have hk0 : ((k : Int) != 0) = true := by rw [bne_iff_ne]; have := HK.out.1; omega
    have hkz : ((k : Int) == 0) = false := by rw [beq_eq_false_iff_ne]; have := HK.out.1; omega
    have HN := Lib.hid hN; clear hN
    refine (Next_not A4 n4 c4 at_ bs4 w.heap.size _ k HN.out (HR4.out.below HBX.out) hsx hnc4 hcm4 (by omega)).mono ?_
    rintro e w7 ⟨rfl, hb7⟩
    have HB7 := Lib.hid (HBX.out.trans (hb7.mono hsx))
    clear hb7
    go_wp2
    go_ret
    refine ⟨?_, HB7.out⟩
    show Ending.returned (Value.bool (((k : Int) == 1) == (at_ == (n4 : Int)))) = _
    have hq : ((k : Int) == 1) = (at_ == (n4 : Int)) := by
      have h := HK.out.2.2
      rw [HL4.out] at h
      rw [Bool.eq_iff_iff, beq_iff_eq, beq_iff_eq, ← h]
      omega
    rw [hq, beq_self_eq_true]
  | inr xp =>
    obtain ⟨x, p⟩ := xp
    obtain ⟨ha0, hal, hx1, hx3, hp2, hpe⟩ := nextF_whole _ _ _ _ hN
    rw [HL4.out] at hal
    obtain ⟨a, rfl⟩ : ∃ a : Nat, at_ = (a : Int) := ⟨at_.toNat, by omega⟩
    rw [Int.toNat_natCast] at hpe
    have HPE := Lib.hid hpe
    have HN := Lib.hid hN
    clear hN hpe
    refine (Next_is A4 n4 c4 a bs4 w.heap.size _ x p HN.out (HR4.out.below HBX.out) hsx hnc4 hcm4 (by omega)).mono ?_
    rintro e w7 ⟨A7, rfl, hR7, hb7⟩
    have HB7 := Lib.hid (HBX.out.trans (hb7.mono hsx))
    have HR7 := Lib.hid hR7
    clear hb7 hR7
    obtain ⟨q, hq⟩ : ∃ q, p.length = q := ⟨_, rfl⟩
    rw [hq] at HPE HR7 hal hp2 ⊢
    clear hq
    go_wp2_with fail
    refine (Put_c (x.toNat : Int) A7 q q w.heap.size p _ hx1 hx3 hp2 HR7.out HB7.out.size).mono ?_
    rintro e w8 ⟨v, rfl, hown, hb8⟩
    obtain ⟨A8, c8, rfl, _, _, _, hR8⟩ := own_reads hown
    have HB8 := Lib.hid (HB7.out.trans (hb8.mono HB7.out.size))
    have v2 := fun k => conv_reads (hR8.drewN k) c8
    have hs8 := HB8.out.size
    obtain ⟨m, rfl⟩ : ∃ m, n4 = a + m := ⟨n4 - a, by omega⟩
    obtain ⟨cm, rfl⟩ : ∃ cm, c4 = a + cm := ⟨c4 - a, by omega⟩
    have hr9 : Reads w8 w.heap.size 1 (A4.map (·.add a)) (q + 7) (byteCells (frameB (x.toNat : Int) p)) := by
      have h := ((HR4.out.below HB8.out).sufB (k := a) (cap := a + cm) (by omega) (by omega)).preB (k := q + 7) (by omega)
      rw [if_neg (by omega), HPE.out] at h
      exact h
    have v1 := fun k => conv_reads (hr9.drewN k) cm
    have hcm0 : ¬ cm = 0 := by omega
    have j1 : IntKind.i64.wrap ((a : Int) + ((q : Int) + 7)) = (a : Int) + ((q : Int) + 7) := IntWalk.i64_in _ (by omega)
    have j2 : (0 : Int) ≤ (a : Int) + ((q : Int) + 7) := by omega
    have j3 : (a : Int) ≤ (a : Int) + ((q : Int) + 7) := by omega
    have j4 : (a : Int) + ((q : Int) + 7) ≤ (a : Int) + (cm : Int) := by omega
    have j5 : ((a : Int) + ((q : Int) + 7)).toNat = a + (q + 7) := by omega
    have j6 : IntKind.i64.wrap ((a : Int) + (m : Int) - ((q : Int) + 7)) = (a : Int) + (m : Int) - ((q : Int) + 7) := IntWalk.i64_in _ (by omega)
    have j7 : decide ((q : Int) + 7 ≤ (a : Int) + (m : Int)) = true := by simp; omega
    have j8 : decide ((a : Int) ≤ (a : Int) + (m : Int) - ((q : Int) + 7)) = true := by simp; omega
    have j9 : decide ((0 : Int) ≤ (a : Int)) = true := by simp
    have j10 : a + (q + 7) - a = q + 7 := by omega
    clear hb8 hown hR8 hr9
    go_wp2
    go_quiet (fail)
    go_wp2
    go_ret
    exact ⟨rfl, below_drewN HB8.out _⟩

set_option maxRecDepth 100000 in
set_option maxHeartbeats 2000000 in
theorem FrameBack_ok (kind : Int) (A1 : Option Addr) (n1 c1 : Nat) (bs1 : List UInt8) (A2 : Option Addr) (n2 c2 : Nat) (bs2 : List UInt8) (A3 : Option Addr) (n3 c3 : Nat) (bs3 : List UInt8) (A4 : Option Addr) (n4 c4 : Nat) (bs4 : List UInt8) (at_ : Int) (w : World) (hr1 : Reads w w.heap.size 1 A1 n1 (byteCells bs1)) (hnc1 : n1 ≤ c1) (hcm1 : c1 ≤ 9223372036854775807) (hr2 : Reads w w.heap.size 1 A2 n2 (byteCells bs2)) (hnc2 : n2 ≤ c2) (hcm2 : c2 ≤ 9223372036854775807) (hr3 : Reads w w.heap.size 1 A3 n3 (byteCells bs3)) (hnc3 : n3 ≤ c3) (hcm3 : c3 ≤ 9223372036854775807) (hr4 : Reads w w.heap.size 1 A4 n4 (byteCells bs4)) (hnc4 : n4 ≤ c4) (hcm4 : c4 ≤ 9223372036854775807) (hn1 : n1 ≤ 200) (hn2 : n2 ≤ 3000) (hn3 : n3 ≤ 3000) (hn4 : n4 ≤ 3000) (h1 : 1 ≤ kind) (h3 : kind ≤ 3) : Calls Try.prog 4 #[.int .i64 kind, .slice A1 n1 c1, .slice A2 n2 c2, .slice A3 n3 c3, .slice A4 n4 c4, .int .i64 at_] w fun e w' => e = .returned (.bool true) ∧ Below w.heap.size w w' := by
  have HR1 := Lib.hid hr1
  have HR2 := Lib.hid hr2
  have HR3 := Lib.hid hr3
  have HR4 := Lib.hid hr4
  clear hr1 hr2 hr3 hr4
  have d1 : decide ((3000 : Int) < (n1 : Int)) = false := by simp; omega
  have d2 : decide ((3000 : Int) < (n2 : Int)) = false := by simp; omega
  have d3 : decide ((3000 : Int) < (n3 : Int)) = false := by simp; omega
  have d4 : decide ((3000 : Int) < (n4 : Int)) = false := by simp; omega
  have HL4 := Lib.hid HR4.out.lenB
  have HL1 := Lib.hid HR1.out.lenB
  have HL2 := Lib.hid HR2.out.lenB
  obtain ⟨i0, hi0, hz0, hz1, hz2⟩ := info_parts Try.infoU8
  go_enter Try.func4, Try.ntmps4
  go_wp2_with fail
  refine (Frame_awake _).mono ?_
  rintro e w1 ⟨rfl, hb1⟩
  have hs1 := hb1.size
  go_wp2_with fail
  refine (Put_c kind A1 n1 c1 w.heap.size bs1 _ h1 h3 hn1 (HR1.out.below hb1) hs1).mono ?_
  rintro e w2 ⟨v, rfl, hown, hb2⟩
  have HB2 := Lib.hid (hb1.trans (hb2.mono hs1))
  have hs2 := HB2.out.size
  obtain ⟨AX, cX, rfl, _, _, _, hRX⟩ := own_reads hown
  have HRX := Lib.hid hRX
  clear hb1 hb2 hown hRX
  go_wp2_with (first
    | (at_builtin; refine wpList_append_any _ rfl _ _ 22 rfl w2.heap.size 5 i0 _ 1 1 Try.underlying22 hi0 hz0 hz1 hz2 rfl (by omega) _ 0 [] rfl (own_empty w2 5 w2.heap.size (Nat.le_refl _) 1) w.heap.size A2 n2 c2 _ rfl ((HR2.out.below HB2.out).alloc hs2 _) (byteCells_one bs2) (by unfold maxLen; omega) (by omega) (by simp) ?_; intro v3 w3 hown3 hg3 hat3)
    | (at_builtin; refine wpList_append_any _ rfl _ _ 22 rfl w2.heap.size 5 i0 _ 1 1 Try.underlying22 hi0 hz0 hz1 hz2 rfl (by omega) _ _ _ rfl hown3 w2.heap.size AX (n1 + 7) cX _ rfl (HRX.out.below (below_own ((Below.refl w2.heap.size w2).alloc (Nat.le_refl _) _) hg3 (own_empty w2 5 w2.heap.size (Nat.le_refl _) 1) (Nat.le_refl _) (by simp))) (byteCells_one _) (by unfold maxLen; omega) (by omega) (below_own ((Below.refl w2.heap.size w2).alloc (Nat.le_refl _) _) hg3 (own_empty w2 5 w2.heap.size (Nat.le_refl _) 1) (Nat.le_refl _) (by simp)).size ?_; intro v4 w4 hown4 hg4 hat4; have hb4 := below_own (below_own ((Below.refl w2.heap.size w2).alloc (Nat.le_refl _) _) hg3 (own_empty w2 5 w2.heap.size (Nat.le_refl _) 1) (Nat.le_refl _) (by simp)) hg4 hown3 (Nat.le_refl _) (below_own ((Below.refl w2.heap.size w2).alloc (Nat.le_refl _) _) hg3 (own_empty w2 5 w2.heap.size (Nat.le_refl _) 1) (Nat.le_refl _) (by simp)).size)
    | (at_builtin; refine wpList_append_any _ rfl _ _ 22 rfl w2.heap.size 5 i0 _ 1 1 Try.underlying22 hi0 hz0 hz1 hz2 rfl (by omega) _ _ _ rfl hown4 w.heap.size A3 n3 c3 _ rfl (HR3.out.below (HB2.out.trans (hb4.mono hs2))) (byteCells_one bs3) (by unfold maxLen; omega) (by omega) hb4.size ?_; intro v5 w5 hown5 hg5 hat5))
  have hb5 := below_own hb4 hg5 hown4 (Nat.le_refl _) hb4.size
  have HB5 := Lib.hid (HB2.out.trans (hb5.mono hs2))
  have HRX5 := Lib.hid (HRX.out.below hb5)
  obtain ⟨A5, c5, rfl, hc5, hc5', _, hR5⟩ := own_reads hown5
  have hcm5 : c5 ≤ 9223372036854775807 := by unfold maxLen at hc5'; omega
  rw [List.nil_append, ← byteCells_append, ← byteCells_append] at hR5
  have HR5 := Lib.hid hR5
  have HN5 := Lib.hid (show nextF ((bs2 ++ frameB kind bs1) ++ bs3) (n2 : Int) = .inr (UInt8.ofNat kind.toNat, bs1) from by
    have hl2 := HL2.out
    rw [nextF_at _ n2 (by simp; omega), List.append_assoc, List.drop_append_of_le_length (by omega), List.drop_of_length_le (by omega), List.nil_append]
    exact nextR_frame kind bs1 bs3 h1 h3 (by rw [HL1.out]; exact hn1))
  have hkk : ((UInt8.ofNat kind.toNat).toNat : Int) = kind := by rw [byte_ofNat _ (by omega)]; omega
  have HKK := Lib.hid hkk
  have hsw5 := hb5.size
  clear hown3 hg3 hat3 hown4 hg4 hat4 hb4 hown5 hg5 hat5 hb5 hR5 hc5' hkk HRX
  go_wp2_with fail
  refine (Next_is A5 _ c5 n2 _ w5.heap.size _ _ bs1 HN5.out HR5.out (Nat.le_refl _) hc5 hcm5 (by omega)).mono ?_
  rintro e w6 ⟨A6, rfl, hR6, hb6⟩
  rw [HKK.out]
  rw [HL1.out] at hR6 ⊢
  have HBX := Lib.hid (HB5.out.trans (hb6.mono HB5.out.size))
  have v1 := conv_reads hR6 n1
  have v2 := conv_reads (HR1.out.below HBX.out) c1
  have HR4' := HR4
  clear hR6 hb6 HR5 HRX5 HN5
  go_wp2_with fail
  clear v1 v2
  have hsx := HBX.out.size
  cases hN : nextF bs4 at_ with
  | inl k =>
    have HK := Lib.hid (nextF_not _ _ _ hN)
    have hk0 : ((k : Int) != 0) = true := by rw [bne_iff_ne]; have := HK.out.1; omega
    have hkz : ((k : Int) == 0) = false := by rw [beq_eq_false_iff_ne]; have := HK.out.1; omega
    have HN := Lib.hid hN; clear hN
    refine (Next_not A4 n4 c4 at_ bs4 w.heap.size _ k HN.out (HR4.out.below HBX.out) hsx hnc4 hcm4 (by omega)).mono ?_
    rintro e w7 ⟨rfl, hb7⟩
    have HB7 := Lib.hid (HBX.out.trans (hb7.mono hsx))
    clear hb7
    go_wp2
    go_ret
    refine ⟨?_, HB7.out⟩
    show Ending.returned (Value.bool (((k : Int) == 1) == (at_ == (n4 : Int)))) = _
    have hq : ((k : Int) == 1) = (at_ == (n4 : Int)) := by
      have h := HK.out.2.2
      rw [HL4.out] at h
      rw [Bool.eq_iff_iff, beq_iff_eq, beq_iff_eq, ← h]
      omega
    rw [hq, beq_self_eq_true]
  | inr xp =>
    obtain ⟨x, p⟩ := xp
    obtain ⟨ha0, hal, hx1, hx3, hp2, hpe⟩ := nextF_whole _ _ _ _ hN
    rw [HL4.out] at hal
    obtain ⟨a, rfl⟩ : ∃ a : Nat, at_ = (a : Int) := ⟨at_.toNat, by omega⟩
    rw [Int.toNat_natCast] at hpe
    have HPE := Lib.hid hpe
    have HN := Lib.hid hN
    clear hN hpe
    refine (Next_is A4 n4 c4 a bs4 w.heap.size _ x p HN.out (HR4.out.below HBX.out) hsx hnc4 hcm4 (by omega)).mono ?_
    rintro e w7 ⟨A7, rfl, hR7, hb7⟩
    have HB7 := Lib.hid (HBX.out.trans (hb7.mono hsx))
    have HR7 := Lib.hid hR7
    clear hb7 hR7
    obtain ⟨q, hq⟩ : ∃ q, p.length = q := ⟨_, rfl⟩
    rw [hq] at HPE HR7 hal hp2 ⊢
    clear hq
    go_wp2_with fail
    refine (Put_c (x.toNat : Int) A7 q q w.heap.size p _ hx1 hx3 hp2 HR7.out HB7.out.size).mono ?_
    rintro e w8 ⟨v, rfl, hown, hb8⟩
    obtain ⟨A8, c8, rfl, _, _, _, hR8⟩ := own_reads hown
    have HB8 := Lib.hid (HB7.out.trans (hb8.mono HB7.out.size))
    have v2 := fun k => conv_reads (hR8.drewN k) c8
    have hs8 := HB8.out.size
    obtain ⟨m, rfl⟩ : ∃ m, n4 = a + m := ⟨n4 - a, by omega⟩
    obtain ⟨cm, rfl⟩ : ∃ cm, c4 = a + cm := ⟨c4 - a, by omega⟩
    have hr9 : Reads w8 w.heap.size 1 (A4.map (·.add a)) (q + 7) (byteCells (frameB (x.toNat : Int) p)) := by
      have h := ((HR4.out.below HB8.out).sufB (k := a) (cap := a + cm) (by omega) (by omega)).preB (k := q + 7) (by omega)
      rw [if_neg (by omega), HPE.out] at h
      exact h
    have v1 := fun k => conv_reads (hr9.drewN k) cm
    have hcm0 : ¬ cm = 0 := by omega
    have j1 : IntKind.i64.wrap ((a : Int) + ((q : Int) + 7)) = (a : Int) + ((q : Int) + 7) := IntWalk.i64_in _ (by omega)
    have j2 : (0 : Int) ≤ (a : Int) + ((q : Int) + 7) := by omega
    have j3 : (a : Int) ≤ (a : Int) + ((q : Int) + 7) := by omega
    have j4 : (a : Int) + ((q : Int) + 7) ≤ (a : Int) + (cm : Int) := by omega
    have j5 : ((a : Int) + ((q : Int) + 7)).toNat = a + (q + 7) := by omega
    have j6 : IntKind.i64.wrap ((a : Int) + (m : Int) - ((q : Int) + 7)) = (a : Int) + (m : Int) - ((q : Int) + 7) := IntWalk.i64_in _ (by omega)
    have j7 : decide ((q : Int) + 7 ≤ (a : Int) + (m : Int)) = true := by simp; omega
    have j8 : decide ((a : Int) ≤ (a : Int) + (m : Int) - ((q : Int) + 7)) = true := by simp; omega
    have j9 : decide ((0 : Int) ≤ (a : Int)) = true := by simp
    have j10 : a + (q + 7) - a = q + 7 := by omega
    clear hb8 hown hR8 hr9
    go_wp2
    go_quiet (fail)
    go_wp2
    go_ret
    exact ⟨rfl, below_drewN HB8.out _⟩

theorem FrameBack_walk (kind : Int) (A1 : Option Addr) (n1 c1 : Nat) (zs1 : List Int) (A2 : Option Addr) (n2 c2 : Nat) (zs2 : List Int) (A3 : Option Addr) (n3 c3 : Nat) (zs3 : List Int) (A4 : Option Addr) (n4 c4 : Nat) (zs4 : List Int) (at_ : Int) (w : World)
    (hz1 : IntArg .u8 w A1 n1 c1 zs1) (hz2 : IntArg .u8 w A2 n2 c2 zs2) (hz3 : IntArg .u8 w A3 n3 c3 zs3) (hz4 : IntArg .u8 w A4 n4 c4 zs4) : Calls Try.prog 4 #[.int .i64 kind, .slice A1 n1 c1, .slice A2 n2 c2, .slice A3 n3 c3, .slice A4 n4 c4, .int .i64 at_] w fun e w' => e = .returned (.bool true) ∧ Below w.heap.size w w' := by
  obtain ⟨bs1, hr1, hnc1, hcm1, _⟩ := bytesArg hz1
  obtain ⟨bs2, hr2, hnc2, hcm2, _⟩ := bytesArg hz2
  obtain ⟨bs3, hr3, hnc3, hcm3, _⟩ := bytesArg hz3
  obtain ⟨bs4, hr4, hnc4, hcm4, _⟩ := bytesArg hz4
  unfold maxLen at hcm1 hcm2 hcm3 hcm4
  by_cases hn : 3000 < n1 ∨ 3000 < n2 ∨ 3000 < n3 ∨ 3000 < n4
  · exact FrameBack_long kind A1 n1 c1 bs1 A2 n2 c2 bs2 A3 n3 c3 bs3 A4 n4 c4 bs4 at_ w hr1 hnc1 (by omega) hr2 hnc2 (by omega) hr3 hnc3 (by omega) hr4 hnc4 (by omega) hn
  · by_cases hk : kind < 1 ∨ 3 < kind
    · exact FrameBack_err kind A1 n1 c1 bs1 A2 n2 c2 bs2 A3 n3 c3 bs3 A4 n4 c4 bs4 at_ w hr1 hnc1 (by omega) hr2 hnc2 (by omega) hr3 hnc3 (by omega) hr4 hnc4 (by omega) (by omega) (by omega) (by omega) (by omega) 2 rfl (Lib.hid fun W => Put_kind kind A1 n1 c1 W hk)
    · by_cases h2 : 200 < n1
      · exact FrameBack_err kind A1 n1 c1 bs1 A2 n2 c2 bs2 A3 n3 c3 bs3 A4 n4 c4 bs4 at_ w hr1 hnc1 (by omega) hr2 hnc2 (by omega) hr3 hnc3 (by omega) hr4 hnc4 (by omega) (by omega) (by omega) (by omega) (by omega) 9 rfl (Lib.hid fun W => Put_many kind A1 n1 c1 W (by omega) (by omega) h2)
      · exact FrameBack_ok kind A1 n1 c1 bs1 A2 n2 c2 bs2 A3 n3 c3 bs3 A4 n4 c4 bs4 at_ w hr1 hnc1 (by omega) hr2 hnc2 (by omega) hr3 hnc3 (by omega) hr4 hnc4 (by omega) (by omega) (by omega) (by omega) (by omega) (by omega) (by omega)
end Go.Proofs.Ytfbcdheemhenmaa
