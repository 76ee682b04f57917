/- Contracts of Text and its reference, whole; contracts with their results named. -/
import Derived.Test.YtgpefnlmlicopaaWire12
namespace Go.Proofs.Ytgpefnlmlicopaa
set_option linter.unusedVariables false
open Go.RowKit

theorem Text_c (A : Option Addr) (n c : Nat) (at_ err : Int) (bs : List UInt8) (B : Nat) (w : World) (hr : Reads w B 1 A n (byteCells bs)) (hB : B ≤ w.heap.size) (hnc : n ≤ c) (hcm : c ≤ 9223372036854775807) (hn : n ≤ 10000) (most : Int) (hmm : most ≤ 9223372036854775807) :
    Calls Try.prog 23 #[.agg #[.slice A n c, .int .i64 at_, .int .i64 err], .int .i64 most] w fun e w' => e = .returned (.tuple #[.agg #[.slice A n c, .int .i64 (xRes bs at_ err most).1, .int .i64 (xRes bs at_ err most).2.1], .string ⟨(xRes bs at_ err most).2.2.toArray⟩]) ∧ Below w.heap.size w w' := by
  have hll := hr.lenB
  obtain ⟨⟨x, y, v⟩, hu⟩ : ∃ r, uRes bs at_ err = r := ⟨_, rfl⟩
  have hx : xRes bs at_ err most = if y ≠ 0 then (x, y, []) else if most < 0 ∨ most < (v : Int) then (at_, 9, []) else if (bs.length : Int) - x < (v : Int) then (at_, 10, []) else (x + (v : Nat), 0, (bs.drop x.toNat).take v) := by unfold xRes; rw [hu]
  rw [hx]
  by_cases hy : y = 0
  · subst hy
    obtain ⟨rfl, hx0, hxn, _, _⟩ := uRes_ok bs at_ err x v hu
    rw [if_neg (by simp)]
    by_cases h1 : most < 0 ∨ most < (v : Int)
    · rw [if_pos h1]
      by_cases h2 : most < 0
      · exact Text_neg A n c at_ bs B w hr hB hnc hcm hn most hmm x v hu h2
      · exact Text_many A n c at_ bs B w hr hB hnc hcm hn most hmm x v hu (by omega) (by omega)
    · rw [if_neg h1]
      by_cases h2 : (bs.length : Int) - x < (v : Int)
      · rw [if_pos h2]
        exact Text_short A n c at_ bs B w hr hB hnc hcm hn most hmm x v hu (by omega) (by omega) (by omega)
      · rw [if_neg h2]
        obtain ⟨a, rfl⟩ : ∃ a : Nat, x = (a : Int) := ⟨x.toNat, by omega⟩
        rw [Int.toNat_natCast]
        exact Text_ok A n c at_ bs B w hr hB hnc hcm hn most hmm a v hu (by omega) (by omega) (by omega)
  · rw [if_pos hy]
    exact Text_bad A n c at_ err bs B w hr hB hnc hcm hn most x y v hu hy
theorem Text_v (A : Option Addr) (n c : Nat) (at_ err : Int) (bs : List UInt8) (B : Nat) (w : World) (hr : Reads w B 1 A n (byteCells bs)) (hB : B ≤ w.heap.size) (hnc : n ≤ c) (hcm : c ≤ 9223372036854775807) (hn : n ≤ 10000) (most : Int) (hmm : most ≤ 9223372036854775807) (x y : Int) (l : List UInt8) (hx : xRes bs at_ err most = (x, y, l)) :
    Calls Try.prog 23 #[.agg #[.slice A n c, .int .i64 at_, .int .i64 err], .int .i64 most] w fun e w' => e = .returned (.tuple #[.agg #[.slice A n c, .int .i64 x, .int .i64 y], .string ⟨l.toArray⟩]) ∧ Below w.heap.size w w' := by
  have h := Text_c A n c at_ err bs B w hr hB hnc hcm hn most hmm
  rw [hx] at h
  exact h

theorem rText_c (A : Option Addr) (n c : Nat) (at_ err : Int) (bs : List UInt8) (B : Nat) (w : World) (hr : Reads w B 1 A n (byteCells bs)) (hB : B ≤ w.heap.size) (hnc : n ≤ c) (hcm : c ≤ 9223372036854775807) (hn : n ≤ 10000) (most : Int) (hmm : most ≤ 9223372036854775807) :
    Calls Try.prog 24 #[.agg #[.slice A n c, .int .i64 at_, .int .i64 err], .int .i64 most] w fun e w' => e = .returned (.tuple #[.agg #[.slice A n c, .int .i64 (xRes bs at_ err most).1, .int .i64 (xRes bs at_ err most).2.1], .string ⟨(xRes bs at_ err most).2.2.toArray⟩]) ∧ Below w.heap.size w w' := by
  have hll := hr.lenB
  obtain ⟨⟨x, y, v⟩, hu⟩ : ∃ r, uRes bs at_ err = r := ⟨_, rfl⟩
  have hx : xRes bs at_ err most = if y ≠ 0 then (x, y, []) else if most < 0 ∨ most < (v : Int) then (at_, 9, []) else if (bs.length : Int) - x < (v : Int) then (at_, 10, []) else (x + (v : Nat), 0, (bs.drop x.toNat).take v) := by unfold xRes; rw [hu]
  rw [hx]
  by_cases hy : y = 0
  · subst hy
    obtain ⟨rfl, hx0, hxn, _, _⟩ := uRes_ok bs at_ err x v hu
    rw [if_neg (by simp)]
    by_cases h1 : most < 0 ∨ most < (v : Int)
    · rw [if_pos h1]
      by_cases h2 : most < 0
      · exact rText_neg A n c at_ bs B w hr hB hnc hcm hn most hmm x v hu h2
      · exact rText_many A n c at_ bs B w hr hB hnc hcm hn most hmm x v hu (by omega) (by omega)
    · rw [if_neg h1]
      by_cases h2 : (bs.length : Int) - x < (v : Int)
      · rw [if_pos h2]
        exact rText_short A n c at_ bs B w hr hB hnc hcm hn most hmm x v hu (by omega) (by omega) (by omega)
      · rw [if_neg h2]
        obtain ⟨a, rfl⟩ : ∃ a : Nat, x = (a : Int) := ⟨x.toNat, by omega⟩
        rw [Int.toNat_natCast]
        exact rText_ok A n c at_ bs B w hr hB hnc hcm hn most hmm a v hu (by omega) (by omega) (by omega)
  · rw [if_pos hy]
    exact rText_bad A n c at_ err bs B w hr hB hnc hcm hn most x y v hu hy
theorem rText_v (A : Option Addr) (n c : Nat) (at_ err : Int) (bs : List UInt8) (B : Nat) (w : World) (hr : Reads w B 1 A n (byteCells bs)) (hB : B ≤ w.heap.size) (hnc : n ≤ c) (hcm : c ≤ 9223372036854775807) (hn : n ≤ 10000) (most : Int) (hmm : most ≤ 9223372036854775807) (x y : Int) (l : List UInt8) (hx : xRes bs at_ err most = (x, y, l)) :
    Calls Try.prog 24 #[.agg #[.slice A n c, .int .i64 at_, .int .i64 err], .int .i64 most] w fun e w' => e = .returned (.tuple #[.agg #[.slice A n c, .int .i64 x, .int .i64 y], .string ⟨l.toArray⟩]) ∧ Below w.heap.size w w' := by
  have h := rText_c A n c at_ err bs B w hr hB hnc hcm hn most hmm
  rw [hx] at h
  exact h
theorem Uint_v (A : Option Addr) (n c : Nat) (at_ err : Int) (bs : List UInt8) (B : Nat) (w : World) (hr : Reads w B 1 A n (byteCells bs)) (hB : B ≤ w.heap.size) (hnc : n ≤ c) (hcm : c ≤ 9223372036854775807) (hn : n ≤ 10000) (x y : Int) (v : Nat) (hx : uRes bs at_ err = (x, y, v)) :
    Calls Try.prog 17 #[.agg #[.slice A n c, .int .i64 at_, .int .i64 err]] w fun e w' => e = .returned (.tuple #[.agg #[.slice A n c, .int .i64 x, .int .i64 y], .int .u64 (v : Int)]) ∧ Below w.heap.size w w' := by
  have h := Uint_c A n c at_ err bs B w hr hB hnc hcm hn
  rw [hx] at h
  exact h
theorem rUint_v (A : Option Addr) (n c : Nat) (at_ err : Int) (bs : List UInt8) (B : Nat) (w : World) (hr : Reads w B 1 A n (byteCells bs)) (hB : B ≤ w.heap.size) (hnc : n ≤ c) (hcm : c ≤ 9223372036854775807) (hn : n ≤ 10000) (x y : Int) (v : Nat) (hx : uRes bs at_ err = (x, y, v)) :
    Calls Try.prog 18 #[.agg #[.slice A n c, .int .i64 at_, .int .i64 err]] w fun e w' => e = .returned (.tuple #[.agg #[.slice A n c, .int .i64 x, .int .i64 y], .int .u64 (v : Int)]) ∧ Below w.heap.size w w' := by
  have h := rUint_c A n c at_ err bs B w hr hB hnc hcm hn
  rw [hx] at h
  exact h
theorem Int_v (A : Option Addr) (n c : Nat) (at_ err : Int) (bs : List UInt8) (B : Nat) (w : World) (hr : Reads w B 1 A n (byteCells bs)) (hB : B ≤ w.heap.size) (hnc : n ≤ c) (hcm : c ≤ 9223372036854775807) (hn : n ≤ 10000) (x y : Int) (v : Nat) (hx : uRes bs at_ err = (x, y, v)) :
    Calls Try.prog 19 #[.agg #[.slice A n c, .int .i64 at_, .int .i64 err]] w fun e w' => e = .returned (.tuple #[.agg #[.slice A n c, .int .i64 x, .int .i64 y], .int .i64 (unzig v)]) ∧ Below w.heap.size w w' := by
  have h := Int_c A n c at_ err bs B w hr hB hnc hcm hn
  rw [hx] at h
  exact h
theorem rInt_v (A : Option Addr) (n c : Nat) (at_ err : Int) (bs : List UInt8) (B : Nat) (w : World) (hr : Reads w B 1 A n (byteCells bs)) (hB : B ≤ w.heap.size) (hnc : n ≤ c) (hcm : c ≤ 9223372036854775807) (hn : n ≤ 10000) (x y : Int) (v : Nat) (hx : uRes bs at_ err = (x, y, v)) :
    Calls Try.prog 20 #[.agg #[.slice A n c, .int .i64 at_, .int .i64 err]] w fun e w' => e = .returned (.tuple #[.agg #[.slice A n c, .int .i64 x, .int .i64 y], .int .i64 (unzig v)]) ∧ Below w.heap.size w w' := by
  have h := rInt_c A n c at_ err bs B w hr hB hnc hcm hn
  rw [hx] at h
  exact h

def b6 : List UInt8 := [172, 2, 1, 2, 97, 98]
theorem aw_300 : uencB 300 = [172, 2] := by rw [uencB_big (by omega), uencB_small (by omega)]; rfl
theorem aw_m1 : uencB (zig (-1)) = [1] := by rw [show zig (-1) = 1 from rfl, uencB_small (by omega)]; rfl
theorem aw_t : textB [97, 98] = [2, 97, 98] := by unfold textB; rw [show ([97, 98] : List UInt8).length = 2 from rfl, uencB_small (by omega)]; rfl
theorem aw_len1 : 0 + (uencB 300).length = 2 := by rw [aw_300]; rfl
theorem aw_b1 : [] ++ uencB 300 = [172, 2] := by rw [aw_300]; rfl
theorem aw_len2 : 2 + (uencB (zig (-1))).length = 3 := by rw [aw_m1]; rfl
theorem aw_b2 : [172, 2] ++ uencB (zig (-1)) = [172, 2, 1] := by rw [aw_m1]; rfl
theorem aw_len3 : 3 + (textB [97, 98]).length = 6 := by rw [aw_t]; rfl
theorem aw_b6 : [172, 2, 1] ++ textB [97, 98] = b6 := by rw [aw_t]; rfl
theorem aw_u0 : uRes b6 0 0 = (2, 0, 300) := by decide +kernel
theorem aw_u2 : uRes b6 2 0 = (3, 0, 1) := by decide +kernel
theorem aw_u6 : uRes b6 6 0 = (6, 10, 0) := by decide +kernel
theorem aw_x3 : xRes b6 3 0 9 = (6, 0, [97, 98]) := by decide +kernel

set_option maxRecDepth 100000 in
set_option maxHeartbeats 2000000 in
theorem Wire_awake (w : World) : Calls Try.prog 6 #[] w fun e w' => e = .returned (.bool true) ∧ Below w.heap.size w w' := by
  go_enter Try.func6, Try.ntmps6
  go_wp2_with fail
  refine (PutUint_c none 0 0 0 [] 300 (by omega) _ (by simpa [byteCells] using Reads.none_) (Nat.zero_le _) (by omega)).mono ?_
  rintro e w1 ⟨v1, rfl, hown1, hb1⟩
  rw [aw_len1, aw_b1] at hown1
  obtain ⟨A1, c1, rfl, _, _, _, hR1⟩ := own_reads hown1
  clear hown1
  go_wp2_with fail
  refine (PutInt_c A1 2 c1 w1.heap.size [172, 2] (-1) (by omega) (by omega) _ hR1 (Nat.le_refl _) (by omega)).mono ?_
  rintro e w2 ⟨v2, rfl, hown2, hb2⟩
  rw [aw_len2, aw_b2] at hown2
  obtain ⟨A2, c2, rfl, _, _, _, hR2⟩ := own_reads hown2
  clear hown2
  go_wp2_with fail
  refine (PutText_c A2 3 c2 w2.heap.size [172, 2, 1] [97, 98] _ hR2 (Nat.le_refl _) (by omega) (by simp)).mono ?_
  rintro e w3 ⟨v3, rfl, hown3, hb3⟩
  rw [aw_len3, aw_b6] at hown3
  obtain ⟨A3, c3, rfl, hc3, hc3', _, hR3⟩ := own_reads hown3
  have HB := Lib.hid (show Below w.heap.size w w3 from hb1.trans ((hb2.trans (hb3.mono hb2.size)).mono hb1.size))
  have HY0 := Lib.hid hR3
  have hs0 : w.heap.size ≤ w3.heap.size := HB.out.size
  clear hown3 hb1 hb2 hb3 hR1 hR2 hR3 hc3'
  go_wp2_with fail
  refine (Start_c A3 6 c3 _ hc3).mono ?_
  rintro e w4 ⟨rfl, hb⟩
  have hs1 : w3.heap.size ≤ w4.heap.size := hb.size
  have HY2 := Lib.hid (show Reads w4 w3.heap.size 1 A3 6 (byteCells b6) from HY0.out.below (hb.mono (by omega)))
  have HB' := Lib.hid (show Below w.heap.size w w4 from HB.out.trans (hb.mono HB.out.size))
  clear HY0 HB
  have HB := HB'
  clear HB'
  clear hb
  go_wp2_with fail
  refine (Uint_v A3 6 6 0 0 b6 w3.heap.size _ HY2.out (by omega) (by omega) (by omega) (by omega) 2 0 300 aw_u0).mono ?_
  rintro e w5 ⟨rfl, hb⟩
  have hs3 : w4.heap.size ≤ w5.heap.size := hb.size
  have HY4 := Lib.hid (show Reads w5 w3.heap.size 1 A3 6 (byteCells b6) from HY2.out.below (hb.mono (by omega)))
  have HB' := Lib.hid (show Below w.heap.size w w5 from HB.out.trans (hb.mono HB.out.size))
  clear HY2 HB
  have HB := HB'
  clear HB'
  clear hb
  have HX6 := Lib.hid (Blk.new w5 26 #[.slice A3 6 6, .int .i64 2, .int .i64 0])
  have HY4a := Lib.hid (HY4.out.alloc (by omega) (.cells #[.slice A3 6 6, .int .i64 2, .int .i64 0] 26))
  have HBa := Lib.hid (HB.out.alloc HB.out.size (.cells #[.slice A3 6 6, .int .i64 2, .int .i64 0] 26))
  have hs7 : w5.heap.size < (w5.alloc (.cells #[.slice A3 6 6, .int .i64 2, .int .i64 0] 26)).heap.size := by simp
  go_wp2_with fail
  generalize w5.alloc (.cells #[.slice A3 6 6, .int .i64 2, .int .i64 0] 26) = wa5 at HY4a HX6 HBa hs7 ⊢
  clear HY4 HB
  have HB := HBa
  clear HBa
  refine (Int_v A3 6 6 2 0 b6 w3.heap.size _ HY4a.out (by omega) (by omega) (by omega) (by omega) 3 0 1 aw_u2).mono ?_
  rintro e w6 ⟨rfl, hb⟩
  have hs8 : wa5.heap.size ≤ w6.heap.size := hb.size
  have HX9 := Lib.hid (show Blk w6 w5.heap.size 26 #[.slice A3 6 6, .int .i64 2, .int .i64 0] from HX6.out.below hb HX6.out.lt)
  have HY10 := Lib.hid (show Reads w6 w3.heap.size 1 A3 6 (byteCells b6) from HY4a.out.below (hb.mono (by omega)))
  have HB' := Lib.hid (show Below w.heap.size w w6 from HB.out.trans (hb.mono HB.out.size))
  clear HX6 HY4a HB
  have HB := HB'
  clear HB'
  clear hb
  have c_c_0 : w6.cell? ⟨w5.heap.size, 0, none⟩ = some (.slice A3 6 6) := HX9.out.cell 0
  have z_c_0 : w6.frozen? ⟨w5.heap.size, 0, none⟩ = false := HX9.out.frozen 0
  have c_c_1 : w6.cell? ⟨w5.heap.size, 1, none⟩ = some (.int .i64 2) := HX9.out.cell 1
  have z_c_1 : w6.frozen? ⟨w5.heap.size, 1, none⟩ = false := HX9.out.frozen 1
  have c_c_2 : w6.cell? ⟨w5.heap.size, 2, none⟩ = some (.int .i64 0) := HX9.out.cell 2
  have z_c_2 : w6.frozen? ⟨w5.heap.size, 2, none⟩ = false := HX9.out.frozen 2
  go_wp2_with fail
  have HX9s := Lib.hid (show Blk (((w6.setCell ⟨w5.heap.size, 0, none⟩ (.slice A3 6 6)).setCell ⟨w5.heap.size, 1, none⟩ (.int .i64 3)).setCell ⟨w5.heap.size, 2, none⟩ (.int .i64 0)) w5.heap.size 26 #[.slice A3 6 6, .int .i64 3, .int .i64 0] from (((HX9.out.set_ 0 _).set_ 1 _).set_ 2 _))
  have HY10s := Lib.hid (show Reads (((w6.setCell ⟨w5.heap.size, 0, none⟩ (.slice A3 6 6)).setCell ⟨w5.heap.size, 1, none⟩ (.int .i64 3)).setCell ⟨w5.heap.size, 2, none⟩ (.int .i64 0)) w3.heap.size 1 A3 6 (byteCells b6) from (((HY10.out.setCell (by simp; omega) _).setCell (by simp; omega) _).setCell (by simp; omega) _))
  have HBs := Lib.hid (show Below w.heap.size w (((w6.setCell ⟨w5.heap.size, 0, none⟩ (.slice A3 6 6)).setCell ⟨w5.heap.size, 1, none⟩ (.int .i64 3)).setCell ⟨w5.heap.size, 2, none⟩ (.int .i64 0)) from (((HB.out.setCell (by simp; omega) _).setCell (by simp; omega) _).setCell (by simp; omega) _))
  have hs12 : w6.heap.size ≤ (((w6.setCell ⟨w5.heap.size, 0, none⟩ (.slice A3 6 6)).setCell ⟨w5.heap.size, 1, none⟩ (.int .i64 3)).setCell ⟨w5.heap.size, 2, none⟩ (.int .i64 0)).heap.size := by simp [World.setCell]
  clear c_c_0 z_c_0 c_c_1 z_c_1 c_c_2 z_c_2
  generalize ((w6.setCell ⟨w5.heap.size, 0, none⟩ (.slice A3 6 6)).setCell ⟨w5.heap.size, 1, none⟩ (.int .i64 3)).setCell ⟨w5.heap.size, 2, none⟩ (.int .i64 0) = wt11 at HX9s HY10s HBs hs12 ⊢
  clear HX9 HY10 HB
  have HB := HBs
  clear HBs
  refine (Text_v A3 6 6 3 0 b6 w3.heap.size _ HY10s.out (by omega) (by omega) (by omega) (by omega) 9 (by omega) 6 0 [97, 98] aw_x3).mono ?_
  rintro e w7 ⟨rfl, hb⟩
  have hs13 : wt11.heap.size ≤ w7.heap.size := hb.size
  have HX14 := Lib.hid (show Blk w7 w5.heap.size 26 #[.slice A3 6 6, .int .i64 3, .int .i64 0] from HX9s.out.below hb HX9s.out.lt)
  have HY15 := Lib.hid (show Reads w7 w3.heap.size 1 A3 6 (byteCells b6) from HY10s.out.below (hb.mono (by omega)))
  have HB' := Lib.hid (show Below w.heap.size w w7 from HB.out.trans (hb.mono HB.out.size))
  clear HX9s HY10s HB
  have HB := HB'
  clear HB'
  clear hb
  have c_c_0 : w7.cell? ⟨w5.heap.size, 0, none⟩ = some (.slice A3 6 6) := HX14.out.cell 0
  have z_c_0 : w7.frozen? ⟨w5.heap.size, 0, none⟩ = false := HX14.out.frozen 0
  have c_c_1 : w7.cell? ⟨w5.heap.size, 1, none⟩ = some (.int .i64 3) := HX14.out.cell 1
  have z_c_1 : w7.frozen? ⟨w5.heap.size, 1, none⟩ = false := HX14.out.frozen 1
  have c_c_2 : w7.cell? ⟨w5.heap.size, 2, none⟩ = some (.int .i64 0) := HX14.out.cell 2
  have z_c_2 : w7.frozen? ⟨w5.heap.size, 2, none⟩ = false := HX14.out.frozen 2
  go_wp2_with fail
  have HX14s := Lib.hid (show Blk (((w7.setCell ⟨w5.heap.size, 0, none⟩ (.slice A3 6 6)).setCell ⟨w5.heap.size, 1, none⟩ (.int .i64 6)).setCell ⟨w5.heap.size, 2, none⟩ (.int .i64 0)) w5.heap.size 26 #[.slice A3 6 6, .int .i64 6, .int .i64 0] from (((HX14.out.set_ 0 _).set_ 1 _).set_ 2 _))
  have HY15s := Lib.hid (show Reads (((w7.setCell ⟨w5.heap.size, 0, none⟩ (.slice A3 6 6)).setCell ⟨w5.heap.size, 1, none⟩ (.int .i64 6)).setCell ⟨w5.heap.size, 2, none⟩ (.int .i64 0)) w3.heap.size 1 A3 6 (byteCells b6) from (((HY15.out.setCell (by simp; omega) _).setCell (by simp; omega) _).setCell (by simp; omega) _))
  have HBs := Lib.hid (show Below w.heap.size w (((w7.setCell ⟨w5.heap.size, 0, none⟩ (.slice A3 6 6)).setCell ⟨w5.heap.size, 1, none⟩ (.int .i64 6)).setCell ⟨w5.heap.size, 2, none⟩ (.int .i64 0)) from (((HB.out.setCell (by simp; omega) _).setCell (by simp; omega) _).setCell (by simp; omega) _))
  have hs17 : w7.heap.size ≤ (((w7.setCell ⟨w5.heap.size, 0, none⟩ (.slice A3 6 6)).setCell ⟨w5.heap.size, 1, none⟩ (.int .i64 6)).setCell ⟨w5.heap.size, 2, none⟩ (.int .i64 0)).heap.size := by simp [World.setCell]
  clear c_c_0 z_c_0 c_c_1 z_c_1 c_c_2 z_c_2
  generalize ((w7.setCell ⟨w5.heap.size, 0, none⟩ (.slice A3 6 6)).setCell ⟨w5.heap.size, 1, none⟩ (.int .i64 6)).setCell ⟨w5.heap.size, 2, none⟩ (.int .i64 0) = wt16 at HX14s HY15s HBs hs17 ⊢
  clear HX14 HY15 HB
  have HB := HBs
  clear HBs
  refine (Uint_v A3 6 6 6 0 b6 w3.heap.size _ HY15s.out (by omega) (by omega) (by omega) (by omega) 6 10 0 aw_u6).mono ?_
  rintro e w8 ⟨rfl, hb⟩
  have hs18 : wt16.heap.size ≤ w8.heap.size := hb.size
  have HX19 := Lib.hid (show Blk w8 w5.heap.size 26 #[.slice A3 6 6, .int .i64 6, .int .i64 0] from HX14s.out.below hb HX14s.out.lt)
  have HY20 := Lib.hid (show Reads w8 w3.heap.size 1 A3 6 (byteCells b6) from HY15s.out.below (hb.mono (by omega)))
  have HB' := Lib.hid (show Below w.heap.size w w8 from HB.out.trans (hb.mono HB.out.size))
  clear HX14s HY15s HB
  have HB := HB'
  clear HB'
  clear hb
  have HX22 := Lib.hid (Blk.new w8 26 #[.slice A3 6 6, .int .i64 6, .int .i64 10])
  have HX19a := Lib.hid (HX19.out.alloc (.cells #[.slice A3 6 6, .int .i64 6, .int .i64 10] 26))
  have HY20a := Lib.hid (HY20.out.alloc (by omega) (.cells #[.slice A3 6 6, .int .i64 6, .int .i64 10] 26))
  have HBa := Lib.hid (HB.out.alloc HB.out.size (.cells #[.slice A3 6 6, .int .i64 6, .int .i64 10] 26))
  have hs23 : w8.heap.size < (w8.alloc (.cells #[.slice A3 6 6, .int .i64 6, .int .i64 10] 26)).heap.size := by simp
  have c_c_0 : w8.cell? ⟨w5.heap.size, 0, none⟩ = some (.slice A3 6 6) := HX19.out.cell 0
  have z_c_0 : w8.frozen? ⟨w5.heap.size, 0, none⟩ = false := HX19.out.frozen 0
  have c_c_1 : w8.cell? ⟨w5.heap.size, 1, none⟩ = some (.int .i64 6) := HX19.out.cell 1
  have z_c_1 : w8.frozen? ⟨w5.heap.size, 1, none⟩ = false := HX19.out.frozen 1
  have c_c_2 : w8.cell? ⟨w5.heap.size, 2, none⟩ = some (.int .i64 0) := HX19.out.cell 2
  have z_c_2 : w8.frozen? ⟨w5.heap.size, 2, none⟩ = false := HX19.out.frozen 2
  have ca0 : (w8.alloc (.cells #[.slice A3 6 6, .int .i64 6, .int .i64 10] 26)).cell? ⟨w5.heap.size, 0, none⟩ = some (.slice A3 6 6) := HX19a.out.cell 0
  have ca1 : (w8.alloc (.cells #[.slice A3 6 6, .int .i64 6, .int .i64 10] 26)).cell? ⟨w5.heap.size, 1, none⟩ = some (.int .i64 6) := HX19a.out.cell 1
  have ca2 : (w8.alloc (.cells #[.slice A3 6 6, .int .i64 6, .int .i64 10] 26)).cell? ⟨w5.heap.size, 2, none⟩ = some (.int .i64 0) := HX19a.out.cell 2
  have hcv := conv_reads HY20a.out c3
  have hb6 : b6.toArray = #[172, 2, 1, 2, 97, 98] := rfl
  rw [hb6] at hcv
  go_wp2_with fail
  clear ca0 ca1 ca2 hcv hb6
  clear c_c_0 z_c_0 c_c_1 z_c_1 c_c_2 z_c_2
  generalize w8.alloc (.cells #[.slice A3 6 6, .int .i64 6, .int .i64 10] 26) = wa21 at HX19a HY20a HX22 HBa hs23 ⊢
  clear HX19 HY20 HB
  have HB := HBa
  clear HBa
  refine (Left_yes A3 6 6 6 _ (by omega) (by omega) (by omega)).mono ?_
  rintro e w9 ⟨rfl, hb⟩
  have hs24 : wa21.heap.size ≤ w9.heap.size := hb.size
  have HX25 := Lib.hid (show Blk w9 w5.heap.size 26 #[.slice A3 6 6, .int .i64 6, .int .i64 0] from HX19a.out.below hb HX19a.out.lt)
  have HX26 := Lib.hid (show Blk w9 w8.heap.size 26 #[.slice A3 6 6, .int .i64 6, .int .i64 10] from HX22.out.below hb HX22.out.lt)
  have HY27 := Lib.hid (show Reads w9 w3.heap.size 1 A3 6 (byteCells b6) from HY20a.out.below (hb.mono (by omega)))
  have HB' := Lib.hid (show Below w.heap.size w w9 from HB.out.trans (hb.mono HB.out.size))
  clear HX19a HX22 HY20a HB
  have HB := HB'
  clear HB'
  clear hb
  have c_c_0 : w9.cell? ⟨w5.heap.size, 0, none⟩ = some (.slice A3 6 6) := HX25.out.cell 0
  have z_c_0 : w9.frozen? ⟨w5.heap.size, 0, none⟩ = false := HX25.out.frozen 0
  have c_c_1 : w9.cell? ⟨w5.heap.size, 1, none⟩ = some (.int .i64 6) := HX25.out.cell 1
  have z_c_1 : w9.frozen? ⟨w5.heap.size, 1, none⟩ = false := HX25.out.frozen 1
  have c_c_2 : w9.cell? ⟨w5.heap.size, 2, none⟩ = some (.int .i64 0) := HX25.out.cell 2
  have z_c_2 : w9.frozen? ⟨w5.heap.size, 2, none⟩ = false := HX25.out.frozen 2
  have c_d_0 : w9.cell? ⟨w8.heap.size, 0, none⟩ = some (.slice A3 6 6) := HX26.out.cell 0
  have z_d_0 : w9.frozen? ⟨w8.heap.size, 0, none⟩ = false := HX26.out.frozen 0
  have c_d_1 : w9.cell? ⟨w8.heap.size, 1, none⟩ = some (.int .i64 6) := HX26.out.cell 1
  have z_d_1 : w9.frozen? ⟨w8.heap.size, 1, none⟩ = false := HX26.out.frozen 1
  have c_d_2 : w9.cell? ⟨w8.heap.size, 2, none⟩ = some (.int .i64 10) := HX26.out.cell 2
  have z_d_2 : w9.frozen? ⟨w8.heap.size, 2, none⟩ = false := HX26.out.frozen 2
  go_wp2
  go_ret
  exact ⟨rfl, HB.out⟩
end Go.Proofs.Ytgpefnlmlicopaa
