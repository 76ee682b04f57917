/- The walk of WireOne. -/
import Derived.Test.YtgpefnlmlicopaaWire14
namespace Go.Proofs.Ytgpefnlmlicopaa
set_option linter.unusedVariables false
open Go.RowKit

theorem one_u (bs : List UInt8) (k : Nat) (x : Int) (v : Nat) (hk : k ≤ bs.length) (hu : uRes bs (k : Int) 0 = (x, 0, v)) : ∃ a : Nat, x = (a : Int) ∧ k ≤ a ∧ a ≤ bs.length ∧ bs.take k ++ uencB v = bs.take a := by
  rw [uRes_at bs k hk] at hu
  split at hu
  · rename_i h0
    obtain ⟨b1, b2, b3, _, _⟩ := uread_back (natB (bs.drop k)) (natB_lt _) 0 (uread 0 (natB (bs.drop k))).2.1 (uread 0 (natB (bs.drop k))).2.2 (by omega) (Prod.ext h0 rfl)
    simp only [Prod.mk.injEq] at hu
    obtain ⟨rfl, _, rfl⟩ := hu
    rw [natB_length, List.length_drop] at b1
    refine ⟨k + (uread 0 (natB (bs.drop k))).2.2, by omega, by omega, by omega, ?_⟩
    rw [List.take_add]
    congr 1
    apply natB_inj
    rw [natB_uencB, b2, natB_take]
  · rename_i h0
    simp only [Prod.mk.injEq] at hu
    omega
theorem one_ubad (bs : List UInt8) (k : Nat) (x y : Int) (v : Nat) (hk : k ≤ bs.length) (hu : uRes bs (k : Int) 0 = (x, y, v)) (hy : y ≠ 0) : x = (k : Int) ∧ v = 0 := by
  rw [uRes_at bs k hk] at hu
  split at hu
  · simp only [Prod.mk.injEq] at hu; omega
  · simp only [Prod.mk.injEq] at hu; omega
theorem one_x (bs : List UInt8) (k : Nat) (most x : Int) (l : List UInt8) (hk : k ≤ bs.length) (hx : xRes bs (k : Int) 0 most = (x, 0, l)) : ∃ a : Nat, x = (a : Int) ∧ k ≤ a ∧ a ≤ bs.length ∧ (l.length : Int) ≤ most ∧ bs.take k ++ textB l = bs.take a := by
  obtain ⟨⟨x1, y1, v1⟩, hu⟩ : ∃ r, uRes bs (k : Int) 0 = r := ⟨_, rfl⟩
  unfold xRes at hx
  rw [hu] at hx
  simp only at hx
  split at hx
  · simp only [Prod.mk.injEq] at hx; omega
  · rename_i hy
    have hy0 : y1 = 0 := by omega
    subst hy0
    split at hx
    · simp only [Prod.mk.injEq] at hx; omega
    · split at hx
      · simp only [Prod.mk.injEq] at hx; omega
      · obtain ⟨a, rfl, h1, h2, h3⟩ := one_u bs k x1 v1 hk hu
        simp only [Prod.mk.injEq, Int.toNat_natCast] at hx
        obtain ⟨rfl, _, rfl⟩ := hx
        have hll : ((bs.drop a).take v1).length = v1 := by rw [List.length_take, List.length_drop]; omega
        refine ⟨a + v1, by omega, by omega, by omega, by rw [hll]; omega, ?_⟩
        unfold textB
        rw [hll, ← List.append_assoc, h3, ← List.take_add]
theorem one_xbad (bs : List UInt8) (k : Nat) (most x y : Int) (l : List UInt8) (hk : k ≤ bs.length) (hx : xRes bs (k : Int) 0 most = (x, y, l)) (hy : y ≠ 0) : x = (k : Int) ∧ l = [] := by
  obtain ⟨⟨x1, y1, v1⟩, hu⟩ : ∃ r, uRes bs (k : Int) 0 = r := ⟨_, rfl⟩
  unfold xRes at hx
  rw [hu] at hx
  simp only at hx
  split at hx
  · rename_i hy1
    have := one_ubad bs k x1 y1 v1 hk hu hy1
    simp only [Prod.mk.injEq] at hx
    obtain ⟨rfl, _, rfl⟩ := hx
    exact ⟨this.1, rfl⟩
  · split at hx
    · simp only [Prod.mk.injEq] at hx; exact ⟨hx.1.symm, hx.2.2.symm⟩
    · split at hx
      · simp only [Prod.mk.injEq] at hx; exact ⟨hx.1.symm, hx.2.2.symm⟩
      · simp only [Prod.mk.injEq] at hx; omega
theorem one_xy (bs : List UInt8) (at_ most x y x1 y1 : Int) (v1 : Nat) (l : List UInt8) (hu : uRes bs at_ 0 = (x1, y1, v1)) (hy : y1 ≠ 0) (hx : xRes bs at_ 0 most = (x, y, l)) : y ≠ 0 := by
  unfold xRes at hx
  rw [hu] at hx
  simp only at hx
  rw [if_pos hy] at hx
  simp only [Prod.mk.injEq] at hx
  omega

set_option maxRecDepth 100000 in
theorem WireOne_long (A : Option Addr) (n c : Nat) (bs : List UInt8) (cut most : Nat) (w : World) (hcut : cut < 65536) (hmost : most < 256) (hr : Reads w w.heap.size 1 A n (byteCells bs)) (hnc : n ≤ c) (hcm : c ≤ 9223372036854775807) (h : 2000 < n) : Calls Try.prog 5 #[.slice A n c, .int .u16 cut, .int .u8 most] w fun e w' => e = .returned (.bool true) ∧ Below w.heap.size w w' := by
  have d0 : decide ((2000 : Int) < (n : Int)) = true := by simp; omega
  go_enter Try.func5, Try.ntmps5
  go_wp2_with fail
  refine (Wire_awake _).mono ?_
  rintro e w1 ⟨rfl, hb⟩
  go_wp2
  go_ret
  exact ⟨rfl, hb⟩

theorem unzig_bounds (v : Nat) (h : v < 18446744073709551616) : -9223372036854775808 ≤ unzig v ∧ unzig v ≤ 9223372036854775807 := by unfold unzig; split <;> omega

set_option maxRecDepth 100000 in
set_option maxHeartbeats 8000000 in
theorem WireOne_bad (A : Option Addr) (n c : Nat) (bs : List UInt8) (cut most : Nat) (w : World) (hcut : cut < 65536) (hmost : most < 256) (hr : Reads w w.heap.size 1 A n (byteCells bs)) (hnc : n ≤ c) (hcm : c ≤ 9223372036854775807) (hn : n ≤ 2000) (k : Nat) (hk : cut % (n + 1) = k) (x1 y1 x3 y3 : Int) (v1 : Nat) (l3 : List UInt8) (hu : uRes bs (k : Int) 0 = (x1, y1, v1)) (hx : xRes bs (k : Int) 0 (most : Int) = (x3, y3, l3)) (hy1 : y1 ≠ 0) : Calls Try.prog 5 #[.slice A n c, .int .u16 cut, .int .u8 most] w fun e w' => e = .returned (.bool true) ∧ Below w.heap.size w w' := by
  have hll := hr.lenB
  have hkn : k ≤ n := by have := Nat.mod_lt cut (show 0 < n + 1 by omega); omega
  have hkc : (cut : Int) % ((n : Int) + 1) = (k : Int) := by rw [← hk]; simp [Int.natCast_emod]
  have hk0 : (0 : Int) ≤ (k : Int) := by omega
  have hk1 : (k : Int) ≤ (c : Int) := by omega
  have hk2 : k ≤ c := by omega
  have HR := Lib.hid hr
  have HLL := Lib.hid hll
  have d0 : decide ((2000 : Int) < (n : Int)) = false := by simp; omega
  have HU := Lib.hid hu
  have HX := Lib.hid hx
  obtain ⟨rfl, rfl⟩ := one_ubad bs k x1 y1 v1 (by omega) hu hy1
  have hy3 := one_xy bs k most x3 y3 _ y1 0 l3 hu hy1 hx
  obtain ⟨rfl, rfl⟩ := one_xbad bs k most x3 y3 l3 (by omega) hx hy3
  have e1 : (y1 == 0) = false := by rw [beq_eq_false_iff_ne]; exact hy1
  have e3 : (y3 != 0) = true := by rw [bne_iff_ne]; exact hy3
  clear hu hx
  clear hr hll hk
  go_enter Try.func5, Try.ntmps5
  go_wp2_with fail
  refine (Wire_awake _).mono ?_
  rintro e w1 ⟨rfl, hb⟩
  have hs1 : w.heap.size ≤ w1.heap.size := hb.size
  have HB' := Lib.hid (show Below w.heap.size w w1 from hb)
  have HB := HB'
  clear HB'
  clear hb
  have HX3 := Lib.hid (Blk.new w1 26 #[.slice A n c, .int .i64 (k : Int), .int .i64 0])
  have HBa := Lib.hid (HB.out.alloc HB.out.size (.cells #[.slice A n c, .int .i64 (k : Int), .int .i64 0] 26))
  have hs4 : w1.heap.size < (w1.alloc (.cells #[.slice A n c, .int .i64 (k : Int), .int .i64 0] 26)).heap.size := by simp
  go_wp2_with fail
  simp only [hkc]
  generalize w1.alloc (.cells #[.slice A n c, .int .i64 (k : Int), .int .i64 0] 26) = wa2 at HX3 HBa hs4 ⊢
  clear HB
  have HB := HBa
  clear HBa
  refine (Uint_v A n c (k : Int) 0 bs w.heap.size _ (HR.out.below HB.out) HB.out.size hnc hcm (by omega) (k : Int) y1 0 HU.out).mono ?_
  rintro e w2 ⟨rfl, hb⟩
  have hs5 : wa2.heap.size ≤ w2.heap.size := hb.size
  have HX6 := Lib.hid (show Blk w2 w1.heap.size 26 #[.slice A n c, .int .i64 (k : Int), .int .i64 0] from HX3.out.below hb HX3.out.lt)
  have HB' := Lib.hid (show Below w.heap.size w w2 from HB.out.trans (hb.mono HB.out.size))
  clear HX3 HB
  have HB := HB'
  clear HB'
  clear hb
  have HX8 := Lib.hid (Blk.new w2 26 #[.slice A n c, .int .i64 (k : Int), .int .i64 y1])
  have HX6a := Lib.hid (HX6.out.alloc (.cells #[.slice A n c, .int .i64 (k : Int), .int .i64 y1] 26))
  have HBa := Lib.hid (HB.out.alloc HB.out.size (.cells #[.slice A n c, .int .i64 (k : Int), .int .i64 y1] 26))
  have hs9 : w2.heap.size < (w2.alloc (.cells #[.slice A n c, .int .i64 (k : Int), .int .i64 y1] 26)).heap.size := by simp
  have af0 : (w2.alloc (.cells #[.slice A n c, .int .i64 (k : Int), .int .i64 y1] 26)).cell? ⟨w1.heap.size, 0, none⟩ = some (.slice A n c) := HX6a.out.cell 0
  have af1 : (w2.alloc (.cells #[.slice A n c, .int .i64 (k : Int), .int .i64 y1] 26)).cell? ⟨w1.heap.size, 1, none⟩ = some (.int .i64 (k : Int)) := HX6a.out.cell 1
  have af2 : (w2.alloc (.cells #[.slice A n c, .int .i64 (k : Int), .int .i64 y1] 26)).cell? ⟨w1.heap.size, 2, none⟩ = some (.int .i64 0) := HX6a.out.cell 2
  go_wp2_with fail
  clear af0 af1 af2
  generalize w2.alloc (.cells #[.slice A n c, .int .i64 (k : Int), .int .i64 y1] 26) = wa7 at HX6a HX8 HBa hs9 ⊢
  clear HX6 HB
  have HB := HBa
  clear HBa
  refine (Int_v A n c (k : Int) 0 bs w.heap.size _ (HR.out.below HB.out) HB.out.size hnc hcm (by omega) (k : Int) y1 0 HU.out).mono ?_
  rintro e w4 ⟨rfl, hb⟩
  have hs10 : wa7.heap.size ≤ w4.heap.size := hb.size
  have HX11 := Lib.hid (show Blk w4 w1.heap.size 26 #[.slice A n c, .int .i64 (k : Int), .int .i64 0] from HX6a.out.below hb HX6a.out.lt)
  have HX12 := Lib.hid (show Blk w4 w2.heap.size 26 #[.slice A n c, .int .i64 (k : Int), .int .i64 y1] from HX8.out.below hb HX8.out.lt)
  have HB' := Lib.hid (show Below w.heap.size w w4 from HB.out.trans (hb.mono HB.out.size))
  clear HX6a HX8 HB
  have HB := HB'
  clear HB'
  clear hb
  have HX14 := Lib.hid (Blk.new w4 26 #[.slice A n c, .int .i64 (k : Int), .int .i64 y1])
  have HX11a := Lib.hid (HX11.out.alloc (.cells #[.slice A n c, .int .i64 (k : Int), .int .i64 y1] 26))
  have HX12a := Lib.hid (HX12.out.alloc (.cells #[.slice A n c, .int .i64 (k : Int), .int .i64 y1] 26))
  have HBa := Lib.hid (HB.out.alloc HB.out.size (.cells #[.slice A n c, .int .i64 (k : Int), .int .i64 y1] 26))
  have hs15 : w4.heap.size < (w4.alloc (.cells #[.slice A n c, .int .i64 (k : Int), .int .i64 y1] 26)).heap.size := by simp
  go_wp2_with fail
  generalize w4.alloc (.cells #[.slice A n c, .int .i64 (k : Int), .int .i64 y1] 26) = wa13 at HX11a HX12a HX14 HBa hs15 ⊢
  clear HX11 HX12 HB
  have HB := HBa
  clear HBa
  refine wp_region_noPanic ?_
  refine wp_region_held_drew (S := fun W => Below wa13.heap.size wa13 W) (by kernel_rfl) (Below.refl _ _).drew (fun hHeld => ?_)
  refine takeH 0 (v := ?v0u1) rfl (by kernel_rfl) (by kernel_rfl) (by kernel_rfl) rfl (fun _ _ _ h => h) (Or.inl ⟨by rfl, ?y0u1⟩) hHeld ?r0u1
  case y0u1 => (intro W hSW; (try dsimp only at hSW); go_simp; try with_reducible rfl)
  simp only [Act.put, List.setIfInBounds_toArray, List.set_cons_zero, List.set_cons_succ]
  refine takeH 1 (v := ?v1u2) rfl (by kernel_rfl) (by kernel_rfl) (by kernel_rfl) rfl (fun _ _ _ h => h) (Or.inl ⟨by rfl, ?y1u2⟩) hHeld ?r1u2
  case y1u2 => (intro W hSW; (try dsimp only at hSW); have qq := (HX14.out.below hSW HX14.out.lt).cell 2; simp only [List.getElem?_toArray, List.getElem?_cons_zero, List.getElem?_cons_succ] at qq; go_simp; try with_reducible rfl)
  simp only [Act.put, List.setIfInBounds_toArray, List.set_cons_zero, List.set_cons_succ]
  refine takeH 2 (v := ?v2u3) rfl (by kernel_rfl) (by kernel_rfl) (by kernel_rfl) rfl (fun _ _ _ h => h) (Or.inl ⟨by rfl, ?y2u3⟩) hHeld ?r2u3
  case y2u3 => (intro W hSW; (try dsimp only at hSW); go_simp; try with_reducible rfl)
  simp only [Act.put, List.setIfInBounds_toArray, List.set_cons_zero, List.set_cons_succ]
  refine takeH 3 (v := ?v3u4) rfl (by kernel_rfl) (by kernel_rfl) (by kernel_rfl) rfl (fun _ _ _ h => h) (Or.inl ⟨by rfl, ?y3u4⟩) hHeld ?r3u4
  case y3u4 => (intro W hSW; (try dsimp only at hSW); have qq := (HX12a.out.below hSW HX12a.out.lt).cell 2; simp only [List.getElem?_toArray, List.getElem?_cons_zero, List.getElem?_cons_succ] at qq; go_simp; try with_reducible rfl)
  simp only [Act.put, List.setIfInBounds_toArray, List.set_cons_zero, List.set_cons_succ]
  refine takeH 4 (v := ?v4u5) rfl (by kernel_rfl) (by kernel_rfl) (by kernel_rfl) rfl (fun _ _ _ h => h) (Or.inl ⟨by rfl, ?y4u5⟩) hHeld ?r4u5
  case y4u5 => (intro W hSW; (try dsimp only at hSW); go_simp; try with_reducible rfl)
  simp only [Act.put, List.setIfInBounds_toArray, List.set_cons_zero, List.set_cons_succ]
  refine takeH 5 (v := ?v5u6) rfl (by kernel_rfl) (by kernel_rfl) (by kernel_rfl) rfl (fun _ _ _ h => h) (Or.inl ⟨by rfl, ?y5u6⟩) hHeld ?r5u6
  case y5u6 => (intro W hSW; (try dsimp only at hSW); go_simp; try with_reducible rfl)
  simp only [Act.put, List.setIfInBounds_toArray, List.set_cons_zero, List.set_cons_succ]
  refine takeH 6 (v := ?v6u7) rfl (by kernel_rfl) (by kernel_rfl) (by kernel_rfl) rfl (fun _ _ _ h => h) (Or.inl ⟨by rfl, ?y6u7⟩) hHeld ?r6u7
  case y6u7 => (intro W hSW; (try dsimp only at hSW); go_simp; try with_reducible rfl)
  simp only [Act.put, List.setIfInBounds_toArray, List.set_cons_zero, List.set_cons_succ]
  refine takeH 7 (v := ?v7u8) rfl (by kernel_rfl) (by kernel_rfl) (by kernel_rfl) rfl (fun _ _ _ h => h) (Or.inl ⟨by rfl, ?y7u8⟩) hHeld ?r7u8
  case y7u8 => (intro W hSW; (try dsimp only at hSW); have qq := (HX14.out.below hSW HX14.out.lt).cell 1; simp only [List.getElem?_toArray, List.getElem?_cons_zero, List.getElem?_cons_succ] at qq; go_simp; try with_reducible rfl)
  simp only [Act.put, List.setIfInBounds_toArray, List.set_cons_zero, List.set_cons_succ]
  refine takeH 8 (v := ?v8u9) rfl (by kernel_rfl) (by kernel_rfl) (by kernel_rfl) rfl (fun _ _ _ h => h) (Or.inl ⟨by rfl, ?y8u9⟩) hHeld ?r8u9
  case y8u9 => (intro W hSW; (try dsimp only at hSW); go_simp; try with_reducible rfl)
  simp only [Act.put, List.setIfInBounds_toArray, List.set_cons_zero, List.set_cons_succ]
  refine takeH 9 (v := ?v9u10) rfl (by kernel_rfl) (by kernel_rfl) (by kernel_rfl) rfl (fun _ _ _ h => h) (Or.inl ⟨by rfl, ?y9u10⟩) hHeld ?r9u10
  case y9u10 => (intro W hSW; (try dsimp only at hSW); have qq := (HX12a.out.below hSW HX12a.out.lt).cell 1; simp only [List.getElem?_toArray, List.getElem?_cons_zero, List.getElem?_cons_succ] at qq; go_simp; try with_reducible rfl)
  simp only [Act.put, List.setIfInBounds_toArray, List.set_cons_zero, List.set_cons_succ]
  refine takeH 10 (v := ?v10u11) rfl (by kernel_rfl) (by kernel_rfl) (by kernel_rfl) rfl (fun _ _ _ h => h) (Or.inl ⟨by rfl, ?y10u11⟩) hHeld ?r10u11
  case y10u11 => (intro W hSW; (try dsimp only at hSW); go_simp; try with_reducible rfl)
  simp only [Act.put, List.setIfInBounds_toArray, List.set_cons_zero, List.set_cons_succ]
  refine takeH 11 (v := ?v11u12) rfl (by kernel_rfl) (by kernel_rfl) (by kernel_rfl) rfl (fun _ _ _ h => h) (Or.inl ⟨by rfl, ?y11u12⟩) hHeld ?r11u12
  case y11u12 => (intro W hSW; (try dsimp only at hSW); go_simp; try with_reducible rfl)
  simp only [Act.put, List.setIfInBounds_toArray, List.set_cons_zero, List.set_cons_succ]
  refine takeH 12 (v := ?v12u13) rfl (by kernel_rfl) (by kernel_rfl) (by kernel_rfl) rfl (fun _ _ _ h => h) (Or.inl ⟨by rfl, ?y12u13⟩) hHeld ?r12u13
  case y12u13 => (intro W hSW; (try dsimp only at hSW); go_simp; try with_reducible rfl)
  simp only [Act.put, List.setIfInBounds_toArray, List.set_cons_zero, List.set_cons_succ]
  refine takeH 13 (v := ?v13u14) rfl (by kernel_rfl) (by kernel_rfl) (by kernel_rfl) rfl (fun _ _ _ h => h) (Or.inl ⟨by rfl, ?y13u14⟩) hHeld ?r13u14
  case y13u14 => (intro W hSW; (try dsimp only at hSW); go_simp; try with_reducible rfl)
  simp only [Act.put, List.setIfInBounds_toArray, List.set_cons_zero, List.set_cons_succ]
  refine takeH 14 (v := ?v14u15) rfl (by kernel_rfl) (by kernel_rfl) (by kernel_rfl) rfl (fun _ _ _ h => h) (Or.inl ⟨by rfl, ?y14u15⟩) hHeld ?r14u15
  case y14u15 => (intro W hSW; (try dsimp only at hSW); have qq := (HX14.out.below hSW HX14.out.lt).cell 2; simp only [List.getElem?_toArray, List.getElem?_cons_zero, List.getElem?_cons_succ] at qq; go_simp; try with_reducible rfl)
  simp only [Act.put, List.setIfInBounds_toArray, List.set_cons_zero, List.set_cons_succ]
  refine takeH 15 (v := ?v15u16) rfl (by kernel_rfl) (by kernel_rfl) (by kernel_rfl) rfl (fun _ _ _ h => h) (Or.inl ⟨by rfl, ?y15u16⟩) hHeld ?r15u16
  case y15u16 => (intro W hSW; (try dsimp only at hSW); go_simp; try with_reducible rfl)
  simp only [Act.put, List.setIfInBounds_toArray, List.set_cons_zero, List.set_cons_succ]
  refine takeH 16 (v := ?v16u17) rfl (by kernel_rfl) (by kernel_rfl) (by kernel_rfl) rfl (fun _ _ _ h => h) (Or.inl ⟨by rfl, ?y16u17⟩) hHeld ?r16u17
  case y16u17 => (intro W hSW; (try dsimp only at hSW); go_simp; try with_reducible rfl)
  simp only [Act.put, List.setIfInBounds_toArray, List.set_cons_zero, List.set_cons_succ]
  refine takeH 17 (v := undef) rfl (by kernel_rfl) (by kernel_rfl) (by kernel_rfl) rfl (fun _ _ _ h => h) (Or.inr ⟨by rfl, rfl⟩) hHeld ?_
  simp only [Act.put, List.setIfInBounds_toArray, List.set_cons_zero, List.set_cons_succ]
  refine takeH 18 (v := undef) rfl (by kernel_rfl) (by kernel_rfl) (by kernel_rfl) rfl (fun _ _ _ h => h) (Or.inr ⟨by rfl, rfl⟩) hHeld ?_
  simp only [Act.put, List.setIfInBounds_toArray, List.set_cons_zero, List.set_cons_succ]
  refine takeH 19 (v := undef) rfl (by kernel_rfl) (by kernel_rfl) (by kernel_rfl) rfl (fun _ _ _ h => h) (Or.inr ⟨by rfl, rfl⟩) hHeld ?_
  simp only [Act.put, List.setIfInBounds_toArray, List.set_cons_zero, List.set_cons_succ]
  refine takeH 20 (v := undef) rfl (by kernel_rfl) (by kernel_rfl) (by kernel_rfl) rfl (fun _ _ _ h => h) (Or.inr ⟨by rfl, rfl⟩) hHeld ?_
  simp only [Act.put, List.setIfInBounds_toArray, List.set_cons_zero, List.set_cons_succ]
  refine takeH 21 (v := undef) rfl (by kernel_rfl) (by kernel_rfl) (by kernel_rfl) rfl (fun _ _ _ h => h) (Or.inr ⟨by rfl, rfl⟩) hHeld ?_
  simp only [Act.put, List.setIfInBounds_toArray, List.set_cons_zero, List.set_cons_succ]
  refine takeH 22 (v := undef) rfl (by kernel_rfl) (by kernel_rfl) (by kernel_rfl) rfl (fun _ _ _ h => h) (Or.inr ⟨by rfl, rfl⟩) hHeld ?_
  simp only [Act.put, List.setIfInBounds_toArray, List.set_cons_zero, List.set_cons_succ]
  refine takeH 23 (v := undef) rfl (by kernel_rfl) (by kernel_rfl) (by kernel_rfl) rfl (fun _ _ _ h => h) (Or.inr ⟨by rfl, rfl⟩) hHeld ?_
  simp only [Act.put, List.setIfInBounds_toArray, List.set_cons_zero, List.set_cons_succ]
  refine takeH 24 (v := undef) rfl (by kernel_rfl) (by kernel_rfl) (by kernel_rfl) rfl (fun _ _ _ h => h) (Or.inr ⟨by rfl, rfl⟩) hHeld ?_
  simp only [Act.put, List.setIfInBounds_toArray, List.set_cons_zero, List.set_cons_succ]
  refine takeH 25 (v := undef) rfl (by kernel_rfl) (by kernel_rfl) (by kernel_rfl) rfl (fun _ _ _ h => h) (Or.inr ⟨by rfl, rfl⟩) hHeld ?_
  simp only [Act.put, List.setIfInBounds_toArray, List.set_cons_zero, List.set_cons_succ]
  refine takeH 26 (v := undef) rfl (by kernel_rfl) (by kernel_rfl) (by kernel_rfl) rfl (fun _ _ _ h => h) (Or.inr ⟨by rfl, rfl⟩) hHeld ?_
  simp only [Act.put, List.setIfInBounds_toArray, List.set_cons_zero, List.set_cons_succ]
  refine takeH 27 (v := undef) rfl (by kernel_rfl) (by kernel_rfl) (by kernel_rfl) rfl (fun _ _ _ h => h) (Or.inr ⟨by rfl, rfl⟩) hHeld ?_
  simp only [Act.put, List.setIfInBounds_toArray, List.set_cons_zero, List.set_cons_succ]
  refine takeH 28 (v := undef) rfl (by kernel_rfl) (by kernel_rfl) (by kernel_rfl) rfl (fun _ _ _ h => h) (Or.inr ⟨by rfl, rfl⟩) hHeld ?_
  simp only [Act.put, List.setIfInBounds_toArray, List.set_cons_zero, List.set_cons_succ]
  refine takeH 29 (v := ?v29u18) rfl (by kernel_rfl) (by kernel_rfl) (by kernel_rfl) rfl (fun _ _ _ h => h) (Or.inl ⟨by rfl, ?y29u18⟩) hHeld ?r29u18
  case y29u18 => (intro W hSW; (try dsimp only at hSW); go_simp; try with_reducible rfl)
  simp only [Act.put, List.setIfInBounds_toArray, List.set_cons_zero, List.set_cons_succ]
  refine takeH 30 (v := ?v30u19) rfl (by kernel_rfl) (by kernel_rfl) (by kernel_rfl) rfl (fun _ _ _ h => h) (Or.inl ⟨by rfl, ?y30u19⟩) hHeld ?r30u19
  case y30u19 => (intro W hSW; (try dsimp only at hSW); go_simp; try with_reducible rfl)
  simp only [Act.put, List.setIfInBounds_toArray, List.set_cons_zero, List.set_cons_succ]
  refine wpAnyH_done (by kernel_rfl) ?_ _
  refine NoPanic.normal ?_
  have hb : Below wa13.heap.size wa13 wa13.drew := (Below.refl _ _).drew
  clear hHeld
  generalize wa13.drew = w5 at hb ⊢
  have hs16 : wa13.heap.size ≤ w5.heap.size := hb.size
  have HX17 := Lib.hid (show Blk w5 w1.heap.size 26 #[.slice A n c, .int .i64 (k : Int), .int .i64 0] from HX11a.out.below hb HX11a.out.lt)
  have HX18 := Lib.hid (show Blk w5 w2.heap.size 26 #[.slice A n c, .int .i64 (k : Int), .int .i64 y1] from HX12a.out.below hb HX12a.out.lt)
  have HX19 := Lib.hid (show Blk w5 w4.heap.size 26 #[.slice A n c, .int .i64 (k : Int), .int .i64 y1] from HX14.out.below hb HX14.out.lt)
  have HB' := Lib.hid (show Below w.heap.size w w5 from HB.out.trans (hb.mono HB.out.size))
  clear HX11a HX12a HX14 HB
  have HB := HB'
  clear HB'
  clear hb
  have c_c_0 : w5.cell? ⟨w1.heap.size, 0, none⟩ = some (.slice A n c) := HX17.out.cell 0
  have z_c_0 : w5.frozen? ⟨w1.heap.size, 0, none⟩ = false := HX17.out.frozen 0
  have c_c_1 : w5.cell? ⟨w1.heap.size, 1, none⟩ = some (.int .i64 (k : Int)) := HX17.out.cell 1
  have z_c_1 : w5.frozen? ⟨w1.heap.size, 1, none⟩ = false := HX17.out.frozen 1
  have c_c_2 : w5.cell? ⟨w1.heap.size, 2, none⟩ = some (.int .i64 0) := HX17.out.cell 2
  have z_c_2 : w5.frozen? ⟨w1.heap.size, 2, none⟩ = false := HX17.out.frozen 2
  have c_x_0 : w5.cell? ⟨w2.heap.size, 0, none⟩ = some (.slice A n c) := HX18.out.cell 0
  have z_x_0 : w5.frozen? ⟨w2.heap.size, 0, none⟩ = false := HX18.out.frozen 0
  have c_x_1 : w5.cell? ⟨w2.heap.size, 1, none⟩ = some (.int .i64 (k : Int)) := HX18.out.cell 1
  have z_x_1 : w5.frozen? ⟨w2.heap.size, 1, none⟩ = false := HX18.out.frozen 1
  have c_x_2 : w5.cell? ⟨w2.heap.size, 2, none⟩ = some (.int .i64 y1) := HX18.out.cell 2
  have z_x_2 : w5.frozen? ⟨w2.heap.size, 2, none⟩ = false := HX18.out.frozen 2
  have c_y_0 : w5.cell? ⟨w4.heap.size, 0, none⟩ = some (.slice A n c) := HX19.out.cell 0
  have z_y_0 : w5.frozen? ⟨w4.heap.size, 0, none⟩ = false := HX19.out.frozen 0
  have c_y_1 : w5.cell? ⟨w4.heap.size, 1, none⟩ = some (.int .i64 (k : Int)) := HX19.out.cell 1
  have z_y_1 : w5.frozen? ⟨w4.heap.size, 1, none⟩ = false := HX19.out.frozen 1
  have c_y_2 : w5.cell? ⟨w4.heap.size, 2, none⟩ = some (.int .i64 y1) := HX19.out.cell 2
  have z_y_2 : w5.frozen? ⟨w4.heap.size, 2, none⟩ = false := HX19.out.frozen 2
  go_wp2_with fail
  clear c_c_0 z_c_0 c_c_1 z_c_1 c_c_2 z_c_2 c_x_0 z_x_0 c_x_1 z_x_1 c_x_2 z_x_2 c_y_0 z_y_0 c_y_1 z_y_1 c_y_2 z_y_2
  refine (Text_v A n c (k : Int) 0 bs w.heap.size _ (HR.out.below HB.out) HB.out.size hnc hcm (by omega) (most : Int) (by omega) (k : Int) y3 [] HX.out).mono ?_
  rintro e w6 ⟨rfl, hb⟩
  have hs20 : w5.heap.size ≤ w6.heap.size := hb.size
  have HX21 := Lib.hid (show Blk w6 w1.heap.size 26 #[.slice A n c, .int .i64 (k : Int), .int .i64 0] from HX17.out.below hb HX17.out.lt)
  have HX22 := Lib.hid (show Blk w6 w2.heap.size 26 #[.slice A n c, .int .i64 (k : Int), .int .i64 y1] from HX18.out.below hb HX18.out.lt)
  have HX23 := Lib.hid (show Blk w6 w4.heap.size 26 #[.slice A n c, .int .i64 (k : Int), .int .i64 y1] from HX19.out.below hb HX19.out.lt)
  have HB' := Lib.hid (show Below w.heap.size w w6 from HB.out.trans (hb.mono HB.out.size))
  clear HX17 HX18 HX19 HB
  have HB := HB'
  clear HB'
  clear hb
  have HX25 := Lib.hid (Blk.new w6 26 #[.slice A n c, .int .i64 (k : Int), .int .i64 y3])
  have HX21a := Lib.hid (HX21.out.alloc (.cells #[.slice A n c, .int .i64 (k : Int), .int .i64 y3] 26))
  have HX22a := Lib.hid (HX22.out.alloc (.cells #[.slice A n c, .int .i64 (k : Int), .int .i64 y3] 26))
  have HX23a := Lib.hid (HX23.out.alloc (.cells #[.slice A n c, .int .i64 (k : Int), .int .i64 y3] 26))
  have HBa := Lib.hid (HB.out.alloc HB.out.size (.cells #[.slice A n c, .int .i64 (k : Int), .int .i64 y3] 26))
  have hs26 : w6.heap.size < (w6.alloc (.cells #[.slice A n c, .int .i64 (k : Int), .int .i64 y3] 26)).heap.size := by simp
  go_wp2
  go_ret
  exact ⟨rfl, HBa.out⟩

set_option maxRecDepth 100000 in
set_option maxHeartbeats 8000000 in
theorem WireOne_half (A : Option Addr) (n c : Nat) (bs : List UInt8) (cut most : Nat) (w : World) (hcut : cut < 65536) (hmost : most < 256) (hr : Reads w w.heap.size 1 A n (byteCells bs)) (hnc : n ≤ c) (hcm : c ≤ 9223372036854775807) (hn : n ≤ 2000) (k : Nat) (hk : cut % (n + 1) = k) (a1 : Nat) (x3 y3 : Int) (v1 : Nat) (l3 : List UInt8) (hu : uRes bs (k : Int) 0 = ((a1 : Int), 0, v1)) (hx : xRes bs (k : Int) 0 (most : Int) = (x3, y3, l3)) (hka : k ≤ a1) (han : a1 ≤ n) (he1 : bs.take k ++ uencB v1 = bs.take a1) (hy3 : y3 ≠ 0) : Calls Try.prog 5 #[.slice A n c, .int .u16 cut, .int .u8 most] w fun e w' => e = .returned (.bool true) ∧ Below w.heap.size w w' := by
  have hll := hr.lenB
  have hkn : k ≤ n := by have := Nat.mod_lt cut (show 0 < n + 1 by omega); omega
  have hkc : (cut : Int) % ((n : Int) + 1) = (k : Int) := by rw [← hk]; simp [Int.natCast_emod]
  have hk0 : (0 : Int) ≤ (k : Int) := by omega
  have hk1 : (k : Int) ≤ (c : Int) := by omega
  have hk2 : k ≤ c := by omega
  have HR := Lib.hid hr
  have HLL := Lib.hid hll
  have d0 : decide ((2000 : Int) < (n : Int)) = false := by simp; omega
  have HU := Lib.hid hu
  have HX := Lib.hid hx
  obtain ⟨rfl, rfl⟩ := one_xbad bs k most x3 y3 l3 (by omega) hx hy3
  have e3 : (y3 != 0) = true := by rw [bne_iff_ne]; exact hy3
  have HE1 := Lib.hid he1
  have hv1 : v1 < 18446744073709551616 := by have := uRes_lt bs k 0; rw [hu] at this; exact this
  have hz1 := unzig_bounds v1 hv1
  have HZ := Lib.hid (zig_unzig v1)
  have b1 : (0 : Int) ≤ (a1 : Int) := by omega
  have b2 : (a1 : Int) ≤ (c : Int) := by omega
  have b3 : a1 ≤ c := by omega
  have b4 : decide ((a1 : Int) < (k : Int)) = false := by simp; omega
  have b5 : decide ((n : Int) < (a1 : Int)) = false := by simp; omega
  have b6' : decide (a1 < k) = false := by simp; omega
  have b7 : decide (n < a1) = false := by simp; omega
  clear hu hx he1
  clear hr hll hk
  go_enter Try.func5, Try.ntmps5
  go_wp2_with fail
  refine (Wire_awake _).mono ?_
  rintro e w1 ⟨rfl, hb⟩
  have hs1 : w.heap.size ≤ w1.heap.size := hb.size
  have HB' := Lib.hid (show Below w.heap.size w w1 from hb)
  have HB := HB'
  clear HB'
  clear hb
  have HX3 := Lib.hid (Blk.new w1 26 #[.slice A n c, .int .i64 (k : Int), .int .i64 0])
  have HBa := Lib.hid (HB.out.alloc HB.out.size (.cells #[.slice A n c, .int .i64 (k : Int), .int .i64 0] 26))
  have hs4 : w1.heap.size < (w1.alloc (.cells #[.slice A n c, .int .i64 (k : Int), .int .i64 0] 26)).heap.size := by simp
  go_wp2_with fail
  simp only [hkc]
  generalize w1.alloc (.cells #[.slice A n c, .int .i64 (k : Int), .int .i64 0] 26) = wa2 at HX3 HBa hs4 ⊢
  clear HB
  have HB := HBa
  clear HBa
  refine (Uint_v A n c (k : Int) 0 bs w.heap.size _ (HR.out.below HB.out) HB.out.size hnc hcm (by omega) (a1 : Int) 0 v1 HU.out).mono ?_
  rintro e w2 ⟨rfl, hb⟩
  have hs5 : wa2.heap.size ≤ w2.heap.size := hb.size
  have HX6 := Lib.hid (show Blk w2 w1.heap.size 26 #[.slice A n c, .int .i64 (k : Int), .int .i64 0] from HX3.out.below hb HX3.out.lt)
  have HB' := Lib.hid (show Below w.heap.size w w2 from HB.out.trans (hb.mono HB.out.size))
  clear HX3 HB
  have HB := HB'
  clear HB'
  clear hb
  have HX8 := Lib.hid (Blk.new w2 26 #[.slice A n c, .int .i64 (a1 : Int), .int .i64 0])
  have HX6a := Lib.hid (HX6.out.alloc (.cells #[.slice A n c, .int .i64 (a1 : Int), .int .i64 0] 26))
  have HBa := Lib.hid (HB.out.alloc HB.out.size (.cells #[.slice A n c, .int .i64 (a1 : Int), .int .i64 0] 26))
  have hs9 : w2.heap.size < (w2.alloc (.cells #[.slice A n c, .int .i64 (a1 : Int), .int .i64 0] 26)).heap.size := by simp
  have af0 : (w2.alloc (.cells #[.slice A n c, .int .i64 (a1 : Int), .int .i64 0] 26)).cell? ⟨w1.heap.size, 0, none⟩ = some (.slice A n c) := HX6a.out.cell 0
  have af1 : (w2.alloc (.cells #[.slice A n c, .int .i64 (a1 : Int), .int .i64 0] 26)).cell? ⟨w1.heap.size, 1, none⟩ = some (.int .i64 (k : Int)) := HX6a.out.cell 1
  have af2 : (w2.alloc (.cells #[.slice A n c, .int .i64 (a1 : Int), .int .i64 0] 26)).cell? ⟨w1.heap.size, 2, none⟩ = some (.int .i64 0) := HX6a.out.cell 2
  go_wp2_with fail
  clear af0 af1 af2
  generalize w2.alloc (.cells #[.slice A n c, .int .i64 (a1 : Int), .int .i64 0] 26) = wa7 at HX6a HX8 HBa hs9 ⊢
  clear HX6 HB
  have HB := HBa
  clear HBa
  refine wp_region_noPanic ?_
  refine wp_region_held_drew (S := fun W => Below wa7.heap.size wa7 W) (by kernel_rfl) (Below.refl _ _).drew (fun hHeld => ?_)
  refine takeH 0 (v := ?v0u20) rfl (by kernel_rfl) (by kernel_rfl) (by kernel_rfl) rfl (fun _ _ _ h => h) (Or.inl ⟨by rfl, ?y0u20⟩) hHeld ?r0u20
  case y0u20 => (intro W hSW; (try dsimp only at hSW); go_simp; try with_reducible rfl)
  simp only [Act.put, List.setIfInBounds_toArray, List.set_cons_zero, List.set_cons_succ]
  refine takeH 1 (v := ?v1u21) rfl (by kernel_rfl) (by kernel_rfl) (by kernel_rfl) rfl (fun _ _ _ h => h) (Or.inl ⟨by rfl, ?y1u21⟩) hHeld ?r1u21
  case y1u21 => (intro W hSW; (try dsimp only at hSW); have qq := (HX8.out.below hSW HX8.out.lt).cell 1; simp only [List.getElem?_toArray, List.getElem?_cons_zero, List.getElem?_cons_succ] at qq; go_simp; try with_reducible rfl)
  simp only [Act.put, List.setIfInBounds_toArray, List.set_cons_zero, List.set_cons_succ]
  refine takeH 2 (v := ?v2u22) rfl (by kernel_rfl) (by kernel_rfl) (by kernel_rfl) rfl (fun _ _ _ h => h) (Or.inl ⟨by rfl, ?y2u22⟩) hHeld ?r2u22
  case y2u22 => (intro W hSW; (try dsimp only at hSW); go_simp; try with_reducible rfl)
  simp only [Act.put, List.setIfInBounds_toArray, List.set_cons_zero, List.set_cons_succ]
  refine takeH 3 (v := ?v3u23) rfl (by kernel_rfl) (by kernel_rfl) (by kernel_rfl) rfl (fun _ _ _ h => h) (Or.inl ⟨by rfl, ?y3u23⟩) hHeld ?r3u23
  case y3u23 => (intro W hSW; (try dsimp only at hSW); go_simp; try with_reducible rfl)
  simp only [Act.put, List.setIfInBounds_toArray, List.set_cons_zero, List.set_cons_succ]
  refine takeH 4 (v := ?v4u24) rfl (by kernel_rfl) (by kernel_rfl) (by kernel_rfl) rfl (fun _ _ _ h => h) (Or.inl ⟨by rfl, ?y4u24⟩) hHeld ?r4u24
  case y4u24 => (intro W hSW; (try dsimp only at hSW); go_simp; try with_reducible rfl)
  simp only [Act.put, List.setIfInBounds_toArray, List.set_cons_zero, List.set_cons_succ]
  refine takeH 5 (v := ?v5u25) rfl (by kernel_rfl) (by kernel_rfl) (by kernel_rfl) rfl (fun _ _ _ h => h) (Or.inl ⟨by rfl, ?y5u25⟩) hHeld ?r5u25
  case y5u25 => (intro W hSW; (try dsimp only at hSW); go_simp; try with_reducible rfl)
  simp only [Act.put, List.setIfInBounds_toArray, List.set_cons_zero, List.set_cons_succ]
  refine takeH 6 (v := ?v6u26) rfl (by kernel_rfl) (by kernel_rfl) (by kernel_rfl) rfl (fun _ _ _ h => h) (Or.inl ⟨by rfl, ?y6u26⟩) hHeld ?r6u26
  case y6u26 => (intro W hSW; (try dsimp only at hSW); have qq := (HX8.out.below hSW HX8.out.lt).cell 1; simp only [List.getElem?_toArray, List.getElem?_cons_zero, List.getElem?_cons_succ] at qq; go_simp; try with_reducible rfl)
  simp only [Act.put, List.setIfInBounds_toArray, List.set_cons_zero, List.set_cons_succ]
  refine takeH 7 (v := ?v7u27) rfl (by kernel_rfl) (by kernel_rfl) (by kernel_rfl) rfl (fun _ _ _ h => h) (Or.inl ⟨by rfl, ?y7u27⟩) hHeld ?r7u27
  case y7u27 => (intro W hSW; (try dsimp only at hSW); go_simp; try with_reducible rfl)
  simp only [Act.put, List.setIfInBounds_toArray, List.set_cons_zero, List.set_cons_succ]
  refine takeH 8 (v := ?v8u28) rfl (by kernel_rfl) (by kernel_rfl) (by kernel_rfl) rfl (fun _ _ _ h => h) (Or.inl ⟨by rfl, ?y8u28⟩) hHeld ?r8u28
  case y8u28 => (intro W hSW; (try dsimp only at hSW); go_simp; try with_reducible rfl)
  simp only [Act.put, List.setIfInBounds_toArray, List.set_cons_zero, List.set_cons_succ]
  refine takeH 9 (v := ?v9u29) rfl (by kernel_rfl) (by kernel_rfl) (by kernel_rfl) rfl (fun _ _ _ h => h) (Or.inl ⟨by rfl, ?y9u29⟩) hHeld ?r9u29
  case y9u29 => (intro W hSW; (try dsimp only at hSW); go_simp; try with_reducible rfl)
  simp only [Act.put, List.setIfInBounds_toArray, List.set_cons_zero, List.set_cons_succ]
  refine takeH 10 (v := ?v10u30) rfl (by kernel_rfl) (by kernel_rfl) (by kernel_rfl) rfl (fun _ _ _ h => h) (Or.inl ⟨by rfl, ?y10u30⟩) hHeld ?r10u30
  case y10u30 => (intro W hSW; (try dsimp only at hSW); go_simp; try with_reducible rfl)
  simp only [Act.put, List.setIfInBounds_toArray, List.set_cons_zero, List.set_cons_succ]
  refine takeH 11 (v := ?v11u31) rfl (by kernel_rfl) (by kernel_rfl) (by kernel_rfl) rfl (fun _ _ _ h => h) (Or.inl ⟨by rfl, ?y11u31⟩) hHeld ?r11u31
  case y11u31 => (intro W hSW; (try dsimp only at hSW); go_simp; try with_reducible rfl)
  simp only [Act.put, List.setIfInBounds_toArray, List.set_cons_zero, List.set_cons_succ]
  refine takeH 12 (v := ?v12u32) rfl (by kernel_rfl) (by kernel_rfl) (by kernel_rfl) rfl (fun _ _ _ h => h) (Or.inl ⟨by rfl, ?y12u32⟩) hHeld ?r12u32
  case y12u32 => (intro W hSW; (try dsimp only at hSW); go_simp; try with_reducible rfl)
  simp only [Act.put, List.setIfInBounds_toArray, List.set_cons_zero, List.set_cons_succ]
  refine takeH 13 (v := ?v13u33) rfl (by kernel_rfl) (by kernel_rfl) (by kernel_rfl) rfl (fun _ _ _ h => h) (Or.inl ⟨by rfl, ?y13u33⟩) hHeld ?r13u33
  case y13u33 => (intro W hSW; (try dsimp only at hSW); go_simp; try with_reducible rfl)
  simp only [Act.put, List.setIfInBounds_toArray, List.set_cons_zero, List.set_cons_succ]
  refine takeH 14 (v := ?v14u34) rfl (by kernel_rfl) (by kernel_rfl) (by kernel_rfl) rfl (fun _ _ _ h => h) (Or.inl ⟨by rfl, ?y14u34⟩) hHeld ?r14u34
  case y14u34 => (intro W hSW; (try dsimp only at hSW); go_simp; try with_reducible rfl)
  simp only [Act.put, List.setIfInBounds_toArray, List.set_cons_zero, List.set_cons_succ]
  refine takeH 15 (v := ?v15u35) rfl (by kernel_rfl) (by kernel_rfl) (by kernel_rfl) rfl (fun _ _ _ h => h) (Or.inl ⟨by rfl, ?y15u35⟩) hHeld ?r15u35
  case y15u35 => (intro W hSW; (try dsimp only at hSW); go_simp; try with_reducible rfl)
  simp only [Act.put, List.setIfInBounds_toArray, List.set_cons_zero, List.set_cons_succ]
  refine takeH 18 (v := ?v18u36) rfl (by kernel_rfl) (by kernel_rfl) (by kernel_rfl) rfl (fun _ _ _ h => h) (Or.inl ⟨by rfl, ?y18u36⟩) hHeld ?r18u36
  case y18u36 => (intro W hSW; (try dsimp only at hSW); go_simp; try with_reducible rfl)
  simp only [Act.put, List.setIfInBounds_toArray, List.set_cons_zero, List.set_cons_succ]
  refine takeH 19 (v := ?v19u37) rfl (by kernel_rfl) (by kernel_rfl) (by kernel_rfl) rfl (fun _ _ _ h => h) (Or.inl ⟨by rfl, ?y19u37⟩) hHeld ?r19u37
  case y19u37 => (intro W hSW; (try dsimp only at hSW); go_simp; try with_reducible rfl)
  simp only [Act.put, List.setIfInBounds_toArray, List.set_cons_zero, List.set_cons_succ]
  refine takeH 20 (v := ?v20u38) rfl (by kernel_rfl) (by kernel_rfl) (by kernel_rfl) rfl (fun _ _ _ h => h) (Or.inl ⟨by rfl, ?y20u38⟩) hHeld ?r20u38
  case y20u38 => (intro W hSW; (try dsimp only at hSW); have qq := (HX8.out.below hSW HX8.out.lt).cell 1; simp only [List.getElem?_toArray, List.getElem?_cons_zero, List.getElem?_cons_succ] at qq; go_simp; try with_reducible rfl)
  simp only [Act.put, List.setIfInBounds_toArray, List.set_cons_zero, List.set_cons_succ]
  refine takeH 21 (v := ?v21u39) rfl (by kernel_rfl) (by kernel_rfl) (by kernel_rfl) rfl (fun _ _ _ h => h) (Or.inl ⟨by rfl, ?y21u39⟩) hHeld ?r21u39
  case y21u39 => (intro W hSW; (try dsimp only at hSW); go_simp; try with_reducible rfl)
  simp only [Act.put, List.setIfInBounds_toArray, List.set_cons_zero, List.set_cons_succ]
  refine takeH 22 (v := ?v22u40) rfl (by kernel_rfl) (by kernel_rfl) (by kernel_rfl) rfl (fun _ _ _ h => h) (Or.inl ⟨by rfl, ?y22u40⟩) hHeld ?r22u40
  case y22u40 => (intro W hSW; (try dsimp only at hSW); have hcv := conv_reads ((HR.out.below (HB.out.trans (Below.mono hSW HB.out.size))).preB (k := a1) (by omega)) c; go_simp; try with_reducible rfl)
  simp only [Act.put, List.setIfInBounds_toArray, List.set_cons_zero, List.set_cons_succ]
  refine wpAnyH_ready (rs := [16]) (by kernel_rfl) (by simp) ?_
  refine AllReadyH.cons rfl (fun K hK => ?_) AllReadyH.nil
  go_simp
  refine (PutUint_c A k c w.heap.size (bs.take k) v1 hv1 _ ((HR.out.below (HB.out.trans (Below.mono hHeld HB.out.size))).preB hkn) (Nat.le_trans HB.out.size (Below.size hHeld)) (by omega)).mono ?_
  rintro e w3 ⟨v3, rfl, hown3, hb3⟩
  rw [HE1.out] at hown3
  obtain ⟨A3, c3, rfl, _, _, _, hR3⟩ := own_reads hown3
  have hcv3 := conv_reads hR3 c3
  refine hK.out _ _ (Below.trans hHeld (hb3.mono (Below.size hHeld))) (fun hHeld => ?_)
  clear hK K
  try simp only [Act.put, List.setIfInBounds_toArray, List.set_cons_zero, List.set_cons_succ]
  refine wpAnyH_ready (rs := [17]) (by kernel_rfl) (by simp) ?_
  refine AllReadyH.cons rfl (fun K hK => ?_) AllReadyH.nil
  go_simp
  refine hK.out _ _ hHeld (fun hHeld => ?_)
  clear hK K
  try simp only [Act.put, List.setIfInBounds_toArray, List.set_cons_zero, List.set_cons_succ]
  refine takeH 23 (v := ?v23u41) rfl (by kernel_rfl) (by kernel_rfl) (by kernel_rfl) rfl (fun _ _ _ h => h) (Or.inl ⟨by rfl, ?y23u41⟩) hHeld ?r23u41
  case y23u41 => (intro W hSW; (try dsimp only at hSW); go_simp; try with_reducible rfl)
  simp only [Act.put, List.setIfInBounds_toArray, List.set_cons_zero, List.set_cons_succ]
  refine takeH 24 (v := ?v24u42) rfl (by kernel_rfl) (by kernel_rfl) (by kernel_rfl) rfl (fun _ _ _ h => h) (Or.inl ⟨by rfl, ?y24u42⟩) hHeld ?r24u42
  case y24u42 => (intro W hSW; (try dsimp only at hSW); go_simp; try with_reducible rfl)
  simp only [Act.put, List.setIfInBounds_toArray, List.set_cons_zero, List.set_cons_succ]
  refine wpAnyH_done (by kernel_rfl) ?_ _
  refine NoPanic.normal ?_
  have hb : Below wa7.heap.size wa7 w3 := hHeld
  clear hHeld hcv3 hR3 hown3 hb3
  have hs10 : wa7.heap.size ≤ w3.heap.size := hb.size
  have HX11 := Lib.hid (show Blk w3 w1.heap.size 26 #[.slice A n c, .int .i64 (k : Int), .int .i64 0] from HX6a.out.below hb HX6a.out.lt)
  have HX12 := Lib.hid (show Blk w3 w2.heap.size 26 #[.slice A n c, .int .i64 (a1 : Int), .int .i64 0] from HX8.out.below hb HX8.out.lt)
  have HB' := Lib.hid (show Below w.heap.size w w3 from HB.out.trans (hb.mono HB.out.size))
  clear HX6a HX8 HB
  have HB := HB'
  clear HB'
  clear hb
  have c_c_0 : w3.cell? ⟨w1.heap.size, 0, none⟩ = some (.slice A n c) := HX11.out.cell 0
  have z_c_0 : w3.frozen? ⟨w1.heap.size, 0, none⟩ = false := HX11.out.frozen 0
  have c_c_1 : w3.cell? ⟨w1.heap.size, 1, none⟩ = some (.int .i64 (k : Int)) := HX11.out.cell 1
  have z_c_1 : w3.frozen? ⟨w1.heap.size, 1, none⟩ = false := HX11.out.frozen 1
  have c_c_2 : w3.cell? ⟨w1.heap.size, 2, none⟩ = some (.int .i64 0) := HX11.out.cell 2
  have z_c_2 : w3.frozen? ⟨w1.heap.size, 2, none⟩ = false := HX11.out.frozen 2
  have c_x_0 : w3.cell? ⟨w2.heap.size, 0, none⟩ = some (.slice A n c) := HX12.out.cell 0
  have z_x_0 : w3.frozen? ⟨w2.heap.size, 0, none⟩ = false := HX12.out.frozen 0
  have c_x_1 : w3.cell? ⟨w2.heap.size, 1, none⟩ = some (.int .i64 (a1 : Int)) := HX12.out.cell 1
  have z_x_1 : w3.frozen? ⟨w2.heap.size, 1, none⟩ = false := HX12.out.frozen 1
  have c_x_2 : w3.cell? ⟨w2.heap.size, 2, none⟩ = some (.int .i64 0) := HX12.out.cell 2
  have z_x_2 : w3.frozen? ⟨w2.heap.size, 2, none⟩ = false := HX12.out.frozen 2
  go_wp2_with fail
  clear c_c_0 z_c_0 c_c_1 z_c_1 c_c_2 z_c_2 c_x_0 z_x_0 c_x_1 z_x_1 c_x_2 z_x_2
  refine (Int_v A n c (k : Int) 0 bs w.heap.size _ (HR.out.below HB.out) HB.out.size hnc hcm (by omega) (a1 : Int) 0 v1 HU.out).mono ?_
  rintro e w4 ⟨rfl, hb⟩
  have hs13 : w3.heap.size ≤ w4.heap.size := hb.size
  have HX14 := Lib.hid (show Blk w4 w1.heap.size 26 #[.slice A n c, .int .i64 (k : Int), .int .i64 0] from HX11.out.below hb HX11.out.lt)
  have HX15 := Lib.hid (show Blk w4 w2.heap.size 26 #[.slice A n c, .int .i64 (a1 : Int), .int .i64 0] from HX12.out.below hb HX12.out.lt)
  have HB' := Lib.hid (show Below w.heap.size w w4 from HB.out.trans (hb.mono HB.out.size))
  clear HX11 HX12 HB
  have HB := HB'
  clear HB'
  clear hb
  have HX17 := Lib.hid (Blk.new w4 26 #[.slice A n c, .int .i64 (a1 : Int), .int .i64 0])
  have HX14a := Lib.hid (HX14.out.alloc (.cells #[.slice A n c, .int .i64 (a1 : Int), .int .i64 0] 26))
  have HX15a := Lib.hid (HX15.out.alloc (.cells #[.slice A n c, .int .i64 (a1 : Int), .int .i64 0] 26))
  have HBa := Lib.hid (HB.out.alloc HB.out.size (.cells #[.slice A n c, .int .i64 (a1 : Int), .int .i64 0] 26))
  have hs18 : w4.heap.size < (w4.alloc (.cells #[.slice A n c, .int .i64 (a1 : Int), .int .i64 0] 26)).heap.size := by simp
  go_wp2_with fail
  generalize w4.alloc (.cells #[.slice A n c, .int .i64 (a1 : Int), .int .i64 0] 26) = wa16 at HX14a HX15a HX17 HBa hs18 ⊢
  clear HX14 HX15 HB
  have HB := HBa
  clear HBa
  refine wp_region_noPanic ?_
  refine wp_region_held_drew (S := fun W => Below wa16.heap.size wa16 W) (by kernel_rfl) (Below.refl _ _).drew (fun hHeld => ?_)
  refine takeH 0 (v := ?v0u43) rfl (by kernel_rfl) (by kernel_rfl) (by kernel_rfl) rfl (fun _ _ _ h => h) (Or.inl ⟨by rfl, ?y0u43⟩) hHeld ?r0u43
  case y0u43 => (intro W hSW; (try dsimp only at hSW); go_simp; try with_reducible rfl)
  simp only [Act.put, List.setIfInBounds_toArray, List.set_cons_zero, List.set_cons_succ]
  refine takeH 1 (v := ?v1u44) rfl (by kernel_rfl) (by kernel_rfl) (by kernel_rfl) rfl (fun _ _ _ h => h) (Or.inl ⟨by rfl, ?y1u44⟩) hHeld ?r1u44
  case y1u44 => (intro W hSW; (try dsimp only at hSW); have qq := (HX17.out.below hSW HX17.out.lt).cell 2; simp only [List.getElem?_toArray, List.getElem?_cons_zero, List.getElem?_cons_succ] at qq; go_simp; try with_reducible rfl)
  simp only [Act.put, List.setIfInBounds_toArray, List.set_cons_zero, List.set_cons_succ]
  refine takeH 2 (v := ?v2u45) rfl (by kernel_rfl) (by kernel_rfl) (by kernel_rfl) rfl (fun _ _ _ h => h) (Or.inl ⟨by rfl, ?y2u45⟩) hHeld ?r2u45
  case y2u45 => (intro W hSW; (try dsimp only at hSW); go_simp; try with_reducible rfl)
  simp only [Act.put, List.setIfInBounds_toArray, List.set_cons_zero, List.set_cons_succ]
  refine takeH 3 (v := ?v3u46) rfl (by kernel_rfl) (by kernel_rfl) (by kernel_rfl) rfl (fun _ _ _ h => h) (Or.inl ⟨by rfl, ?y3u46⟩) hHeld ?r3u46
  case y3u46 => (intro W hSW; (try dsimp only at hSW); have qq := (HX15a.out.below hSW HX15a.out.lt).cell 2; simp only [List.getElem?_toArray, List.getElem?_cons_zero, List.getElem?_cons_succ] at qq; go_simp; try with_reducible rfl)
  simp only [Act.put, List.setIfInBounds_toArray, List.set_cons_zero, List.set_cons_succ]
  refine takeH 4 (v := ?v4u47) rfl (by kernel_rfl) (by kernel_rfl) (by kernel_rfl) rfl (fun _ _ _ h => h) (Or.inl ⟨by rfl, ?y4u47⟩) hHeld ?r4u47
  case y4u47 => (intro W hSW; (try dsimp only at hSW); go_simp; try with_reducible rfl)
  simp only [Act.put, List.setIfInBounds_toArray, List.set_cons_zero, List.set_cons_succ]
  refine takeH 5 (v := ?v5u48) rfl (by kernel_rfl) (by kernel_rfl) (by kernel_rfl) rfl (fun _ _ _ h => h) (Or.inl ⟨by rfl, ?y5u48⟩) hHeld ?r5u48
  case y5u48 => (intro W hSW; (try dsimp only at hSW); go_simp; try with_reducible rfl)
  simp only [Act.put, List.setIfInBounds_toArray, List.set_cons_zero, List.set_cons_succ]
  refine takeH 6 (v := ?v6u49) rfl (by kernel_rfl) (by kernel_rfl) (by kernel_rfl) rfl (fun _ _ _ h => h) (Or.inl ⟨by rfl, ?y6u49⟩) hHeld ?r6u49
  case y6u49 => (intro W hSW; (try dsimp only at hSW); go_simp; try with_reducible rfl)
  simp only [Act.put, List.setIfInBounds_toArray, List.set_cons_zero, List.set_cons_succ]
  refine takeH 7 (v := ?v7u50) rfl (by kernel_rfl) (by kernel_rfl) (by kernel_rfl) rfl (fun _ _ _ h => h) (Or.inl ⟨by rfl, ?y7u50⟩) hHeld ?r7u50
  case y7u50 => (intro W hSW; (try dsimp only at hSW); have qq := (HX17.out.below hSW HX17.out.lt).cell 1; simp only [List.getElem?_toArray, List.getElem?_cons_zero, List.getElem?_cons_succ] at qq; go_simp; try with_reducible rfl)
  simp only [Act.put, List.setIfInBounds_toArray, List.set_cons_zero, List.set_cons_succ]
  refine takeH 8 (v := ?v8u51) rfl (by kernel_rfl) (by kernel_rfl) (by kernel_rfl) rfl (fun _ _ _ h => h) (Or.inl ⟨by rfl, ?y8u51⟩) hHeld ?r8u51
  case y8u51 => (intro W hSW; (try dsimp only at hSW); go_simp; try with_reducible rfl)
  simp only [Act.put, List.setIfInBounds_toArray, List.set_cons_zero, List.set_cons_succ]
  refine takeH 9 (v := ?v9u52) rfl (by kernel_rfl) (by kernel_rfl) (by kernel_rfl) rfl (fun _ _ _ h => h) (Or.inl ⟨by rfl, ?y9u52⟩) hHeld ?r9u52
  case y9u52 => (intro W hSW; (try dsimp only at hSW); have qq := (HX15a.out.below hSW HX15a.out.lt).cell 1; simp only [List.getElem?_toArray, List.getElem?_cons_zero, List.getElem?_cons_succ] at qq; go_simp; try with_reducible rfl)
  simp only [Act.put, List.setIfInBounds_toArray, List.set_cons_zero, List.set_cons_succ]
  refine takeH 10 (v := ?v10u53) rfl (by kernel_rfl) (by kernel_rfl) (by kernel_rfl) rfl (fun _ _ _ h => h) (Or.inl ⟨by rfl, ?y10u53⟩) hHeld ?r10u53
  case y10u53 => (intro W hSW; (try dsimp only at hSW); go_simp; try with_reducible rfl)
  simp only [Act.put, List.setIfInBounds_toArray, List.set_cons_zero, List.set_cons_succ]
  refine takeH 11 (v := ?v11u54) rfl (by kernel_rfl) (by kernel_rfl) (by kernel_rfl) rfl (fun _ _ _ h => h) (Or.inl ⟨by rfl, ?y11u54⟩) hHeld ?r11u54
  case y11u54 => (intro W hSW; (try dsimp only at hSW); go_simp; try with_reducible rfl)
  simp only [Act.put, List.setIfInBounds_toArray, List.set_cons_zero, List.set_cons_succ]
  refine takeH 12 (v := ?v12u55) rfl (by kernel_rfl) (by kernel_rfl) (by kernel_rfl) rfl (fun _ _ _ h => h) (Or.inl ⟨by rfl, ?y12u55⟩) hHeld ?r12u55
  case y12u55 => (intro W hSW; (try dsimp only at hSW); go_simp; try with_reducible rfl)
  simp only [Act.put, List.setIfInBounds_toArray, List.set_cons_zero, List.set_cons_succ]
  refine takeH 13 (v := ?v13u56) rfl (by kernel_rfl) (by kernel_rfl) (by kernel_rfl) rfl (fun _ _ _ h => h) (Or.inl ⟨by rfl, ?y13u56⟩) hHeld ?r13u56
  case y13u56 => (intro W hSW; (try dsimp only at hSW); go_simp; try with_reducible rfl)
  simp only [Act.put, List.setIfInBounds_toArray, List.set_cons_zero, List.set_cons_succ]
  refine takeH 14 (v := ?v14u57) rfl (by kernel_rfl) (by kernel_rfl) (by kernel_rfl) rfl (fun _ _ _ h => h) (Or.inl ⟨by rfl, ?y14u57⟩) hHeld ?r14u57
  case y14u57 => (intro W hSW; (try dsimp only at hSW); have qq := (HX17.out.below hSW HX17.out.lt).cell 2; simp only [List.getElem?_toArray, List.getElem?_cons_zero, List.getElem?_cons_succ] at qq; go_simp; try with_reducible rfl)
  simp only [Act.put, List.setIfInBounds_toArray, List.set_cons_zero, List.set_cons_succ]
  refine takeH 15 (v := ?v15u58) rfl (by kernel_rfl) (by kernel_rfl) (by kernel_rfl) rfl (fun _ _ _ h => h) (Or.inl ⟨by rfl, ?y15u58⟩) hHeld ?r15u58
  case y15u58 => (intro W hSW; (try dsimp only at hSW); go_simp; try with_reducible rfl)
  simp only [Act.put, List.setIfInBounds_toArray, List.set_cons_zero, List.set_cons_succ]
  refine takeH 16 (v := ?v16u59) rfl (by kernel_rfl) (by kernel_rfl) (by kernel_rfl) rfl (fun _ _ _ h => h) (Or.inl ⟨by rfl, ?y16u59⟩) hHeld ?r16u59
  case y16u59 => (intro W hSW; (try dsimp only at hSW); go_simp; try with_reducible rfl)
  simp only [Act.put, List.setIfInBounds_toArray, List.set_cons_zero, List.set_cons_succ]
  refine takeH 17 (v := ?v17u60) rfl (by kernel_rfl) (by kernel_rfl) (by kernel_rfl) rfl (fun _ _ _ h => h) (Or.inl ⟨by rfl, ?y17u60⟩) hHeld ?r17u60
  case y17u60 => (intro W hSW; (try dsimp only at hSW); go_simp; try with_reducible rfl)
  simp only [Act.put, List.setIfInBounds_toArray, List.set_cons_zero, List.set_cons_succ]
  refine takeH 18 (v := ?v18u61) rfl (by kernel_rfl) (by kernel_rfl) (by kernel_rfl) rfl (fun _ _ _ h => h) (Or.inl ⟨by rfl, ?y18u61⟩) hHeld ?r18u61
  case y18u61 => (intro W hSW; (try dsimp only at hSW); go_simp; try with_reducible rfl)
  simp only [Act.put, List.setIfInBounds_toArray, List.set_cons_zero, List.set_cons_succ]
  refine takeH 19 (v := ?v19u62) rfl (by kernel_rfl) (by kernel_rfl) (by kernel_rfl) rfl (fun _ _ _ h => h) (Or.inl ⟨by rfl, ?y19u62⟩) hHeld ?r19u62
  case y19u62 => (intro W hSW; (try dsimp only at hSW); go_simp; try with_reducible rfl)
  simp only [Act.put, List.setIfInBounds_toArray, List.set_cons_zero, List.set_cons_succ]
  refine takeH 20 (v := ?v20u63) rfl (by kernel_rfl) (by kernel_rfl) (by kernel_rfl) rfl (fun _ _ _ h => h) (Or.inl ⟨by rfl, ?y20u63⟩) hHeld ?r20u63
  case y20u63 => (intro W hSW; (try dsimp only at hSW); go_simp; try with_reducible rfl)
  simp only [Act.put, List.setIfInBounds_toArray, List.set_cons_zero, List.set_cons_succ]
  refine takeH 23 (v := ?v23u64) rfl (by kernel_rfl) (by kernel_rfl) (by kernel_rfl) rfl (fun _ _ _ h => h) (Or.inl ⟨by rfl, ?y23u64⟩) hHeld ?r23u64
  case y23u64 => (intro W hSW; (try dsimp only at hSW); go_simp; try with_reducible rfl)
  simp only [Act.put, List.setIfInBounds_toArray, List.set_cons_zero, List.set_cons_succ]
  refine takeH 24 (v := ?v24u65) rfl (by kernel_rfl) (by kernel_rfl) (by kernel_rfl) rfl (fun _ _ _ h => h) (Or.inl ⟨by rfl, ?y24u65⟩) hHeld ?r24u65
  case y24u65 => (intro W hSW; (try dsimp only at hSW); go_simp; try with_reducible rfl)
  simp only [Act.put, List.setIfInBounds_toArray, List.set_cons_zero, List.set_cons_succ]
  refine takeH 25 (v := ?v25u66) rfl (by kernel_rfl) (by kernel_rfl) (by kernel_rfl) rfl (fun _ _ _ h => h) (Or.inl ⟨by rfl, ?y25u66⟩) hHeld ?r25u66
  case y25u66 => (intro W hSW; (try dsimp only at hSW); have qq := (HX17.out.below hSW HX17.out.lt).cell 1; simp only [List.getElem?_toArray, List.getElem?_cons_zero, List.getElem?_cons_succ] at qq; go_simp; try with_reducible rfl)
  simp only [Act.put, List.setIfInBounds_toArray, List.set_cons_zero, List.set_cons_succ]
  refine takeH 26 (v := ?v26u67) rfl (by kernel_rfl) (by kernel_rfl) (by kernel_rfl) rfl (fun _ _ _ h => h) (Or.inl ⟨by rfl, ?y26u67⟩) hHeld ?r26u67
  case y26u67 => (intro W hSW; (try dsimp only at hSW); go_simp; try with_reducible rfl)
  simp only [Act.put, List.setIfInBounds_toArray, List.set_cons_zero, List.set_cons_succ]
  refine takeH 27 (v := ?v27u68) rfl (by kernel_rfl) (by kernel_rfl) (by kernel_rfl) rfl (fun _ _ _ h => h) (Or.inl ⟨by rfl, ?y27u68⟩) hHeld ?r27u68
  case y27u68 => (intro W hSW; (try dsimp only at hSW); have hcv := conv_reads ((HR.out.below (HB.out.trans (Below.mono hSW HB.out.size))).preB (k := a1) (by omega)) c; go_simp; try with_reducible rfl)
  simp only [Act.put, List.setIfInBounds_toArray, List.set_cons_zero, List.set_cons_succ]
  refine wpAnyH_ready (rs := [21]) (by kernel_rfl) (by simp) ?_
  refine AllReadyH.cons rfl (fun K hK => ?_) AllReadyH.nil
  go_simp
  refine (PutInt_c A k c w.heap.size (bs.take k) (unzig v1) hz1.1 hz1.2 _ ((HR.out.below (HB.out.trans (Below.mono hHeld HB.out.size))).preB hkn) (Nat.le_trans HB.out.size (Below.size hHeld)) (by omega)).mono ?_
  rintro e w5 ⟨v5, rfl, hown5, hb5⟩
  rw [HZ.out, HE1.out] at hown5
  obtain ⟨A5, c5, rfl, _, _, _, hR5⟩ := own_reads hown5
  have hcv5 := conv_reads hR5 c5
  refine hK.out _ _ (Below.trans hHeld (hb5.mono (Below.size hHeld))) (fun hHeld => ?_)
  clear hK K
  try simp only [Act.put, List.setIfInBounds_toArray, List.set_cons_zero, List.set_cons_succ]
  refine wpAnyH_ready (rs := [22]) (by kernel_rfl) (by simp) ?_
  refine AllReadyH.cons rfl (fun K hK => ?_) AllReadyH.nil
  go_simp
  refine hK.out _ _ hHeld (fun hHeld => ?_)
  clear hK K
  try simp only [Act.put, List.setIfInBounds_toArray, List.set_cons_zero, List.set_cons_succ]
  refine takeH 28 (v := ?v28u69) rfl (by kernel_rfl) (by kernel_rfl) (by kernel_rfl) rfl (fun _ _ _ h => h) (Or.inl ⟨by rfl, ?y28u69⟩) hHeld ?r28u69
  case y28u69 => (intro W hSW; (try dsimp only at hSW); go_simp; try with_reducible rfl)
  simp only [Act.put, List.setIfInBounds_toArray, List.set_cons_zero, List.set_cons_succ]
  refine takeH 29 (v := ?v29u70) rfl (by kernel_rfl) (by kernel_rfl) (by kernel_rfl) rfl (fun _ _ _ h => h) (Or.inl ⟨by rfl, ?y29u70⟩) hHeld ?r29u70
  case y29u70 => (intro W hSW; (try dsimp only at hSW); go_simp; try with_reducible rfl)
  simp only [Act.put, List.setIfInBounds_toArray, List.set_cons_zero, List.set_cons_succ]
  refine takeH 30 (v := ?v30u71) rfl (by kernel_rfl) (by kernel_rfl) (by kernel_rfl) rfl (fun _ _ _ h => h) (Or.inl ⟨by rfl, ?y30u71⟩) hHeld ?r30u71
  case y30u71 => (intro W hSW; (try dsimp only at hSW); go_simp; try with_reducible rfl)
  simp only [Act.put, List.setIfInBounds_toArray, List.set_cons_zero, List.set_cons_succ]
  refine wpAnyH_done (by kernel_rfl) ?_ _
  refine NoPanic.normal ?_
  have hb : Below wa16.heap.size wa16 w5 := hHeld
  clear hHeld hcv5 hR5 hown5 hb5
  have hs19 : wa16.heap.size ≤ w5.heap.size := hb.size
  have HX20 := Lib.hid (show Blk w5 w1.heap.size 26 #[.slice A n c, .int .i64 (k : Int), .int .i64 0] from HX14a.out.below hb HX14a.out.lt)
  have HX21 := Lib.hid (show Blk w5 w2.heap.size 26 #[.slice A n c, .int .i64 (a1 : Int), .int .i64 0] from HX15a.out.below hb HX15a.out.lt)
  have HX22 := Lib.hid (show Blk w5 w4.heap.size 26 #[.slice A n c, .int .i64 (a1 : Int), .int .i64 0] from HX17.out.below hb HX17.out.lt)
  have HB' := Lib.hid (show Below w.heap.size w w5 from HB.out.trans (hb.mono HB.out.size))
  clear HX14a HX15a HX17 HB
  have HB := HB'
  clear HB'
  clear hb
  have c_c_0 : w5.cell? ⟨w1.heap.size, 0, none⟩ = some (.slice A n c) := HX20.out.cell 0
  have z_c_0 : w5.frozen? ⟨w1.heap.size, 0, none⟩ = false := HX20.out.frozen 0
  have c_c_1 : w5.cell? ⟨w1.heap.size, 1, none⟩ = some (.int .i64 (k : Int)) := HX20.out.cell 1
  have z_c_1 : w5.frozen? ⟨w1.heap.size, 1, none⟩ = false := HX20.out.frozen 1
  have c_c_2 : w5.cell? ⟨w1.heap.size, 2, none⟩ = some (.int .i64 0) := HX20.out.cell 2
  have z_c_2 : w5.frozen? ⟨w1.heap.size, 2, none⟩ = false := HX20.out.frozen 2
  have c_x_0 : w5.cell? ⟨w2.heap.size, 0, none⟩ = some (.slice A n c) := HX21.out.cell 0
  have z_x_0 : w5.frozen? ⟨w2.heap.size, 0, none⟩ = false := HX21.out.frozen 0
  have c_x_1 : w5.cell? ⟨w2.heap.size, 1, none⟩ = some (.int .i64 (a1 : Int)) := HX21.out.cell 1
  have z_x_1 : w5.frozen? ⟨w2.heap.size, 1, none⟩ = false := HX21.out.frozen 1
  have c_x_2 : w5.cell? ⟨w2.heap.size, 2, none⟩ = some (.int .i64 0) := HX21.out.cell 2
  have z_x_2 : w5.frozen? ⟨w2.heap.size, 2, none⟩ = false := HX21.out.frozen 2
  have c_y_0 : w5.cell? ⟨w4.heap.size, 0, none⟩ = some (.slice A n c) := HX22.out.cell 0
  have z_y_0 : w5.frozen? ⟨w4.heap.size, 0, none⟩ = false := HX22.out.frozen 0
  have c_y_1 : w5.cell? ⟨w4.heap.size, 1, none⟩ = some (.int .i64 (a1 : Int)) := HX22.out.cell 1
  have z_y_1 : w5.frozen? ⟨w4.heap.size, 1, none⟩ = false := HX22.out.frozen 1
  have c_y_2 : w5.cell? ⟨w4.heap.size, 2, none⟩ = some (.int .i64 0) := HX22.out.cell 2
  have z_y_2 : w5.frozen? ⟨w4.heap.size, 2, none⟩ = false := HX22.out.frozen 2
  go_wp2_with fail
  clear c_c_0 z_c_0 c_c_1 z_c_1 c_c_2 z_c_2 c_x_0 z_x_0 c_x_1 z_x_1 c_x_2 z_x_2 c_y_0 z_y_0 c_y_1 z_y_1 c_y_2 z_y_2
  refine (Text_v A n c (k : Int) 0 bs w.heap.size _ (HR.out.below HB.out) HB.out.size hnc hcm (by omega) (most : Int) (by omega) (k : Int) y3 [] HX.out).mono ?_
  rintro e w6 ⟨rfl, hb⟩
  have hs23 : w5.heap.size ≤ w6.heap.size := hb.size
  have HX24 := Lib.hid (show Blk w6 w1.heap.size 26 #[.slice A n c, .int .i64 (k : Int), .int .i64 0] from HX20.out.below hb HX20.out.lt)
  have HX25 := Lib.hid (show Blk w6 w2.heap.size 26 #[.slice A n c, .int .i64 (a1 : Int), .int .i64 0] from HX21.out.below hb HX21.out.lt)
  have HX26 := Lib.hid (show Blk w6 w4.heap.size 26 #[.slice A n c, .int .i64 (a1 : Int), .int .i64 0] from HX22.out.below hb HX22.out.lt)
  have HB' := Lib.hid (show Below w.heap.size w w6 from HB.out.trans (hb.mono HB.out.size))
  clear HX20 HX21 HX22 HB
  have HB := HB'
  clear HB'
  clear hb
  have HX28 := Lib.hid (Blk.new w6 26 #[.slice A n c, .int .i64 (k : Int), .int .i64 y3])
  have HX24a := Lib.hid (HX24.out.alloc (.cells #[.slice A n c, .int .i64 (k : Int), .int .i64 y3] 26))
  have HX25a := Lib.hid (HX25.out.alloc (.cells #[.slice A n c, .int .i64 (k : Int), .int .i64 y3] 26))
  have HX26a := Lib.hid (HX26.out.alloc (.cells #[.slice A n c, .int .i64 (k : Int), .int .i64 y3] 26))
  have HBa := Lib.hid (HB.out.alloc HB.out.size (.cells #[.slice A n c, .int .i64 (k : Int), .int .i64 y3] 26))
  have hs29 : w6.heap.size < (w6.alloc (.cells #[.slice A n c, .int .i64 (k : Int), .int .i64 y3] 26)).heap.size := by simp
  go_wp2
  go_ret
  exact ⟨rfl, HBa.out⟩

set_option maxRecDepth 100000 in
set_option maxHeartbeats 8000000 in
theorem WireOne_good (A : Option Addr) (n c : Nat) (bs : List UInt8) (cut most : Nat) (w : World) (hcut : cut < 65536) (hmost : most < 256) (hr : Reads w w.heap.size 1 A n (byteCells bs)) (hnc : n ≤ c) (hcm : c ≤ 9223372036854775807) (hn : n ≤ 2000) (k : Nat) (hk : cut % (n + 1) = k) (a1 a3 : Nat) (v1 : Nat) (l3 : List UInt8) (hu : uRes bs (k : Int) 0 = ((a1 : Int), 0, v1)) (hx : xRes bs (k : Int) 0 (most : Int) = ((a3 : Int), 0, l3)) (hka : k ≤ a1) (han : a1 ≤ n) (he1 : bs.take k ++ uencB v1 = bs.take a1) (hka3 : k ≤ a3) (han3 : a3 ≤ n) (hlm : l3.length ≤ most) (he3 : bs.take k ++ textB l3 = bs.take a3) : Calls Try.prog 5 #[.slice A n c, .int .u16 cut, .int .u8 most] w fun e w' => e = .returned (.bool true) ∧ Below w.heap.size w w' := by
  have hll := hr.lenB
  have hkn : k ≤ n := by have := Nat.mod_lt cut (show 0 < n + 1 by omega); omega
  have hkc : (cut : Int) % ((n : Int) + 1) = (k : Int) := by rw [← hk]; simp [Int.natCast_emod]
  have hk0 : (0 : Int) ≤ (k : Int) := by omega
  have hk1 : (k : Int) ≤ (c : Int) := by omega
  have hk2 : k ≤ c := by omega
  have HR := Lib.hid hr
  have HLL := Lib.hid hll
  have d0 : decide ((2000 : Int) < (n : Int)) = false := by simp; omega
  have HU := Lib.hid hu
  have HX := Lib.hid hx
  have HE1 := Lib.hid he1
  have hv1 : v1 < 18446744073709551616 := by have := uRes_lt bs k 0; rw [hu] at this; exact this
  have hz1 := unzig_bounds v1 hv1
  have HZ := Lib.hid (zig_unzig v1)
  have b1 : (0 : Int) ≤ (a1 : Int) := by omega
  have b2 : (a1 : Int) ≤ (c : Int) := by omega
  have b3 : a1 ≤ c := by omega
  have b4 : decide ((a1 : Int) < (k : Int)) = false := by simp; omega
  have b5 : decide ((n : Int) < (a1 : Int)) = false := by simp; omega
  have b6' : decide (a1 < k) = false := by simp; omega
  have b7 : decide (n < a1) = false := by simp; omega
  clear hu hx he1
  have HE3 := Lib.hid he3
  have g1 : (0 : Int) ≤ (a3 : Int) := by omega
  have g2 : (a3 : Int) ≤ (c : Int) := by omega
  have g3 : a3 ≤ c := by omega
  have g4 : decide ((k : Int) ≤ (a3 : Int)) = true := by simp; omega
  have g5 : decide ((a3 : Int) ≤ (n : Int)) = true := by simp; omega
  have g6 : decide (k ≤ a3) = true := by simp; omega
  have g7 : decide (a3 ≤ n) = true := by simp; omega
  have g8 : decide ((l3.length : Int) ≤ (most : Int)) = true := by simp; omega
  have g9 : decide (l3.length ≤ most) = true := by simp; omega
  have gw : IntKind.i64.wrap (most : Int) = (most : Int) := IntWalk.i64_in _ (by omega)
  clear he3
  clear hr hll hk
  go_enter Try.func5, Try.ntmps5
  go_wp2_with fail
  refine (Wire_awake _).mono ?_
  rintro e w1 ⟨rfl, hb⟩
  have hs1 : w.heap.size ≤ w1.heap.size := hb.size
  have HB' := Lib.hid (show Below w.heap.size w w1 from hb)
  have HB := HB'
  clear HB'
  clear hb
  have HX3 := Lib.hid (Blk.new w1 26 #[.slice A n c, .int .i64 (k : Int), .int .i64 0])
  have HBa := Lib.hid (HB.out.alloc HB.out.size (.cells #[.slice A n c, .int .i64 (k : Int), .int .i64 0] 26))
  have hs4 : w1.heap.size < (w1.alloc (.cells #[.slice A n c, .int .i64 (k : Int), .int .i64 0] 26)).heap.size := by simp
  go_wp2_with fail
  simp only [hkc]
  generalize w1.alloc (.cells #[.slice A n c, .int .i64 (k : Int), .int .i64 0] 26) = wa2 at HX3 HBa hs4 ⊢
  clear HB
  have HB := HBa
  clear HBa
  refine (Uint_v A n c (k : Int) 0 bs w.heap.size _ (HR.out.below HB.out) HB.out.size hnc hcm (by omega) (a1 : Int) 0 v1 HU.out).mono ?_
  rintro e w2 ⟨rfl, hb⟩
  have hs5 : wa2.heap.size ≤ w2.heap.size := hb.size
  have HX6 := Lib.hid (show Blk w2 w1.heap.size 26 #[.slice A n c, .int .i64 (k : Int), .int .i64 0] from HX3.out.below hb HX3.out.lt)
  have HB' := Lib.hid (show Below w.heap.size w w2 from HB.out.trans (hb.mono HB.out.size))
  clear HX3 HB
  have HB := HB'
  clear HB'
  clear hb
  have HX8 := Lib.hid (Blk.new w2 26 #[.slice A n c, .int .i64 (a1 : Int), .int .i64 0])
  have HX6a := Lib.hid (HX6.out.alloc (.cells #[.slice A n c, .int .i64 (a1 : Int), .int .i64 0] 26))
  have HBa := Lib.hid (HB.out.alloc HB.out.size (.cells #[.slice A n c, .int .i64 (a1 : Int), .int .i64 0] 26))
  have hs9 : w2.heap.size < (w2.alloc (.cells #[.slice A n c, .int .i64 (a1 : Int), .int .i64 0] 26)).heap.size := by simp
  have af0 : (w2.alloc (.cells #[.slice A n c, .int .i64 (a1 : Int), .int .i64 0] 26)).cell? ⟨w1.heap.size, 0, none⟩ = some (.slice A n c) := HX6a.out.cell 0
  have af1 : (w2.alloc (.cells #[.slice A n c, .int .i64 (a1 : Int), .int .i64 0] 26)).cell? ⟨w1.heap.size, 1, none⟩ = some (.int .i64 (k : Int)) := HX6a.out.cell 1
  have af2 : (w2.alloc (.cells #[.slice A n c, .int .i64 (a1 : Int), .int .i64 0] 26)).cell? ⟨w1.heap.size, 2, none⟩ = some (.int .i64 0) := HX6a.out.cell 2
  go_wp2_with fail
  clear af0 af1 af2
  generalize w2.alloc (.cells #[.slice A n c, .int .i64 (a1 : Int), .int .i64 0] 26) = wa7 at HX6a HX8 HBa hs9 ⊢
  clear HX6 HB
  have HB := HBa
  clear HBa
  refine wp_region_noPanic ?_
  refine wp_region_held_drew (S := fun W => Below wa7.heap.size wa7 W) (by kernel_rfl) (Below.refl _ _).drew (fun hHeld => ?_)
  refine takeH 0 (v := ?v0u72) rfl (by kernel_rfl) (by kernel_rfl) (by kernel_rfl) rfl (fun _ _ _ h => h) (Or.inl ⟨by rfl, ?y0u72⟩) hHeld ?r0u72
  case y0u72 => (intro W hSW; (try dsimp only at hSW); go_simp; try with_reducible rfl)
  simp only [Act.put, List.setIfInBounds_toArray, List.set_cons_zero, List.set_cons_succ]
  refine takeH 1 (v := ?v1u73) rfl (by kernel_rfl) (by kernel_rfl) (by kernel_rfl) rfl (fun _ _ _ h => h) (Or.inl ⟨by rfl, ?y1u73⟩) hHeld ?r1u73
  case y1u73 => (intro W hSW; (try dsimp only at hSW); have qq := (HX8.out.below hSW HX8.out.lt).cell 1; simp only [List.getElem?_toArray, List.getElem?_cons_zero, List.getElem?_cons_succ] at qq; go_simp; try with_reducible rfl)
  simp only [Act.put, List.setIfInBounds_toArray, List.set_cons_zero, List.set_cons_succ]
  refine takeH 2 (v := ?v2u74) rfl (by kernel_rfl) (by kernel_rfl) (by kernel_rfl) rfl (fun _ _ _ h => h) (Or.inl ⟨by rfl, ?y2u74⟩) hHeld ?r2u74
  case y2u74 => (intro W hSW; (try dsimp only at hSW); go_simp; try with_reducible rfl)
  simp only [Act.put, List.setIfInBounds_toArray, List.set_cons_zero, List.set_cons_succ]
  refine takeH 3 (v := ?v3u75) rfl (by kernel_rfl) (by kernel_rfl) (by kernel_rfl) rfl (fun _ _ _ h => h) (Or.inl ⟨by rfl, ?y3u75⟩) hHeld ?r3u75
  case y3u75 => (intro W hSW; (try dsimp only at hSW); go_simp; try with_reducible rfl)
  simp only [Act.put, List.setIfInBounds_toArray, List.set_cons_zero, List.set_cons_succ]
  refine takeH 4 (v := ?v4u76) rfl (by kernel_rfl) (by kernel_rfl) (by kernel_rfl) rfl (fun _ _ _ h => h) (Or.inl ⟨by rfl, ?y4u76⟩) hHeld ?r4u76
  case y4u76 => (intro W hSW; (try dsimp only at hSW); go_simp; try with_reducible rfl)
  simp only [Act.put, List.setIfInBounds_toArray, List.set_cons_zero, List.set_cons_succ]
  refine takeH 5 (v := ?v5u77) rfl (by kernel_rfl) (by kernel_rfl) (by kernel_rfl) rfl (fun _ _ _ h => h) (Or.inl ⟨by rfl, ?y5u77⟩) hHeld ?r5u77
  case y5u77 => (intro W hSW; (try dsimp only at hSW); go_simp; try with_reducible rfl)
  simp only [Act.put, List.setIfInBounds_toArray, List.set_cons_zero, List.set_cons_succ]
  refine takeH 6 (v := ?v6u78) rfl (by kernel_rfl) (by kernel_rfl) (by kernel_rfl) rfl (fun _ _ _ h => h) (Or.inl ⟨by rfl, ?y6u78⟩) hHeld ?r6u78
  case y6u78 => (intro W hSW; (try dsimp only at hSW); have qq := (HX8.out.below hSW HX8.out.lt).cell 1; simp only [List.getElem?_toArray, List.getElem?_cons_zero, List.getElem?_cons_succ] at qq; go_simp; try with_reducible rfl)
  simp only [Act.put, List.setIfInBounds_toArray, List.set_cons_zero, List.set_cons_succ]
  refine takeH 7 (v := ?v7u79) rfl (by kernel_rfl) (by kernel_rfl) (by kernel_rfl) rfl (fun _ _ _ h => h) (Or.inl ⟨by rfl, ?y7u79⟩) hHeld ?r7u79
  case y7u79 => (intro W hSW; (try dsimp only at hSW); go_simp; try with_reducible rfl)
  simp only [Act.put, List.setIfInBounds_toArray, List.set_cons_zero, List.set_cons_succ]
  refine takeH 8 (v := ?v8u80) rfl (by kernel_rfl) (by kernel_rfl) (by kernel_rfl) rfl (fun _ _ _ h => h) (Or.inl ⟨by rfl, ?y8u80⟩) hHeld ?r8u80
  case y8u80 => (intro W hSW; (try dsimp only at hSW); go_simp; try with_reducible rfl)
  simp only [Act.put, List.setIfInBounds_toArray, List.set_cons_zero, List.set_cons_succ]
  refine takeH 9 (v := ?v9u81) rfl (by kernel_rfl) (by kernel_rfl) (by kernel_rfl) rfl (fun _ _ _ h => h) (Or.inl ⟨by rfl, ?y9u81⟩) hHeld ?r9u81
  case y9u81 => (intro W hSW; (try dsimp only at hSW); go_simp; try with_reducible rfl)
  simp only [Act.put, List.setIfInBounds_toArray, List.set_cons_zero, List.set_cons_succ]
  refine takeH 10 (v := ?v10u82) rfl (by kernel_rfl) (by kernel_rfl) (by kernel_rfl) rfl (fun _ _ _ h => h) (Or.inl ⟨by rfl, ?y10u82⟩) hHeld ?r10u82
  case y10u82 => (intro W hSW; (try dsimp only at hSW); go_simp; try with_reducible rfl)
  simp only [Act.put, List.setIfInBounds_toArray, List.set_cons_zero, List.set_cons_succ]
  refine takeH 11 (v := ?v11u83) rfl (by kernel_rfl) (by kernel_rfl) (by kernel_rfl) rfl (fun _ _ _ h => h) (Or.inl ⟨by rfl, ?y11u83⟩) hHeld ?r11u83
  case y11u83 => (intro W hSW; (try dsimp only at hSW); go_simp; try with_reducible rfl)
  simp only [Act.put, List.setIfInBounds_toArray, List.set_cons_zero, List.set_cons_succ]
  refine takeH 12 (v := ?v12u84) rfl (by kernel_rfl) (by kernel_rfl) (by kernel_rfl) rfl (fun _ _ _ h => h) (Or.inl ⟨by rfl, ?y12u84⟩) hHeld ?r12u84
  case y12u84 => (intro W hSW; (try dsimp only at hSW); go_simp; try with_reducible rfl)
  simp only [Act.put, List.setIfInBounds_toArray, List.set_cons_zero, List.set_cons_succ]
  refine takeH 13 (v := ?v13u85) rfl (by kernel_rfl) (by kernel_rfl) (by kernel_rfl) rfl (fun _ _ _ h => h) (Or.inl ⟨by rfl, ?y13u85⟩) hHeld ?r13u85
  case y13u85 => (intro W hSW; (try dsimp only at hSW); go_simp; try with_reducible rfl)
  simp only [Act.put, List.setIfInBounds_toArray, List.set_cons_zero, List.set_cons_succ]
  refine takeH 14 (v := ?v14u86) rfl (by kernel_rfl) (by kernel_rfl) (by kernel_rfl) rfl (fun _ _ _ h => h) (Or.inl ⟨by rfl, ?y14u86⟩) hHeld ?r14u86
  case y14u86 => (intro W hSW; (try dsimp only at hSW); go_simp; try with_reducible rfl)
  simp only [Act.put, List.setIfInBounds_toArray, List.set_cons_zero, List.set_cons_succ]
  refine takeH 15 (v := ?v15u87) rfl (by kernel_rfl) (by kernel_rfl) (by kernel_rfl) rfl (fun _ _ _ h => h) (Or.inl ⟨by rfl, ?y15u87⟩) hHeld ?r15u87
  case y15u87 => (intro W hSW; (try dsimp only at hSW); go_simp; try with_reducible rfl)
  simp only [Act.put, List.setIfInBounds_toArray, List.set_cons_zero, List.set_cons_succ]
  refine takeH 18 (v := ?v18u88) rfl (by kernel_rfl) (by kernel_rfl) (by kernel_rfl) rfl (fun _ _ _ h => h) (Or.inl ⟨by rfl, ?y18u88⟩) hHeld ?r18u88
  case y18u88 => (intro W hSW; (try dsimp only at hSW); go_simp; try with_reducible rfl)
  simp only [Act.put, List.setIfInBounds_toArray, List.set_cons_zero, List.set_cons_succ]
  refine takeH 19 (v := ?v19u89) rfl (by kernel_rfl) (by kernel_rfl) (by kernel_rfl) rfl (fun _ _ _ h => h) (Or.inl ⟨by rfl, ?y19u89⟩) hHeld ?r19u89
  case y19u89 => (intro W hSW; (try dsimp only at hSW); go_simp; try with_reducible rfl)
  simp only [Act.put, List.setIfInBounds_toArray, List.set_cons_zero, List.set_cons_succ]
  refine takeH 20 (v := ?v20u90) rfl (by kernel_rfl) (by kernel_rfl) (by kernel_rfl) rfl (fun _ _ _ h => h) (Or.inl ⟨by rfl, ?y20u90⟩) hHeld ?r20u90
  case y20u90 => (intro W hSW; (try dsimp only at hSW); have qq := (HX8.out.below hSW HX8.out.lt).cell 1; simp only [List.getElem?_toArray, List.getElem?_cons_zero, List.getElem?_cons_succ] at qq; go_simp; try with_reducible rfl)
  simp only [Act.put, List.setIfInBounds_toArray, List.set_cons_zero, List.set_cons_succ]
  refine takeH 21 (v := ?v21u91) rfl (by kernel_rfl) (by kernel_rfl) (by kernel_rfl) rfl (fun _ _ _ h => h) (Or.inl ⟨by rfl, ?y21u91⟩) hHeld ?r21u91
  case y21u91 => (intro W hSW; (try dsimp only at hSW); go_simp; try with_reducible rfl)
  simp only [Act.put, List.setIfInBounds_toArray, List.set_cons_zero, List.set_cons_succ]
  refine takeH 22 (v := ?v22u92) rfl (by kernel_rfl) (by kernel_rfl) (by kernel_rfl) rfl (fun _ _ _ h => h) (Or.inl ⟨by rfl, ?y22u92⟩) hHeld ?r22u92
  case y22u92 => (intro W hSW; (try dsimp only at hSW); have hcv := conv_reads ((HR.out.below (HB.out.trans (Below.mono hSW HB.out.size))).preB (k := a1) (by omega)) c; go_simp; try with_reducible rfl)
  simp only [Act.put, List.setIfInBounds_toArray, List.set_cons_zero, List.set_cons_succ]
  refine wpAnyH_ready (rs := [16]) (by kernel_rfl) (by simp) ?_
  refine AllReadyH.cons rfl (fun K hK => ?_) AllReadyH.nil
  go_simp
  refine (PutUint_c A k c w.heap.size (bs.take k) v1 hv1 _ ((HR.out.below (HB.out.trans (Below.mono hHeld HB.out.size))).preB hkn) (Nat.le_trans HB.out.size (Below.size hHeld)) (by omega)).mono ?_
  rintro e w3 ⟨v3, rfl, hown3, hb3⟩
  rw [HE1.out] at hown3
  obtain ⟨A3, c3, rfl, _, _, _, hR3⟩ := own_reads hown3
  have hcv3 := conv_reads hR3 c3
  refine hK.out _ _ (Below.trans hHeld (hb3.mono (Below.size hHeld))) (fun hHeld => ?_)
  clear hK K
  try simp only [Act.put, List.setIfInBounds_toArray, List.set_cons_zero, List.set_cons_succ]
  refine wpAnyH_ready (rs := [17]) (by kernel_rfl) (by simp) ?_
  refine AllReadyH.cons rfl (fun K hK => ?_) AllReadyH.nil
  go_simp
  refine hK.out _ _ hHeld (fun hHeld => ?_)
  clear hK K
  try simp only [Act.put, List.setIfInBounds_toArray, List.set_cons_zero, List.set_cons_succ]
  refine takeH 23 (v := ?v23u93) rfl (by kernel_rfl) (by kernel_rfl) (by kernel_rfl) rfl (fun _ _ _ h => h) (Or.inl ⟨by rfl, ?y23u93⟩) hHeld ?r23u93
  case y23u93 => (intro W hSW; (try dsimp only at hSW); go_simp; try with_reducible rfl)
  simp only [Act.put, List.setIfInBounds_toArray, List.set_cons_zero, List.set_cons_succ]
  refine takeH 24 (v := ?v24u94) rfl (by kernel_rfl) (by kernel_rfl) (by kernel_rfl) rfl (fun _ _ _ h => h) (Or.inl ⟨by rfl, ?y24u94⟩) hHeld ?r24u94
  case y24u94 => (intro W hSW; (try dsimp only at hSW); go_simp; try with_reducible rfl)
  simp only [Act.put, List.setIfInBounds_toArray, List.set_cons_zero, List.set_cons_succ]
  refine wpAnyH_done (by kernel_rfl) ?_ _
  refine NoPanic.normal ?_
  have hb : Below wa7.heap.size wa7 w3 := hHeld
  clear hHeld hcv3 hR3 hown3 hb3
  have hs10 : wa7.heap.size ≤ w3.heap.size := hb.size
  have HX11 := Lib.hid (show Blk w3 w1.heap.size 26 #[.slice A n c, .int .i64 (k : Int), .int .i64 0] from HX6a.out.below hb HX6a.out.lt)
  have HX12 := Lib.hid (show Blk w3 w2.heap.size 26 #[.slice A n c, .int .i64 (a1 : Int), .int .i64 0] from HX8.out.below hb HX8.out.lt)
  have HB' := Lib.hid (show Below w.heap.size w w3 from HB.out.trans (hb.mono HB.out.size))
  clear HX6a HX8 HB
  have HB := HB'
  clear HB'
  clear hb
  have c_c_0 : w3.cell? ⟨w1.heap.size, 0, none⟩ = some (.slice A n c) := HX11.out.cell 0
  have z_c_0 : w3.frozen? ⟨w1.heap.size, 0, none⟩ = false := HX11.out.frozen 0
  have c_c_1 : w3.cell? ⟨w1.heap.size, 1, none⟩ = some (.int .i64 (k : Int)) := HX11.out.cell 1
  have z_c_1 : w3.frozen? ⟨w1.heap.size, 1, none⟩ = false := HX11.out.frozen 1
  have c_c_2 : w3.cell? ⟨w1.heap.size, 2, none⟩ = some (.int .i64 0) := HX11.out.cell 2
  have z_c_2 : w3.frozen? ⟨w1.heap.size, 2, none⟩ = false := HX11.out.frozen 2
  have c_x_0 : w3.cell? ⟨w2.heap.size, 0, none⟩ = some (.slice A n c) := HX12.out.cell 0
  have z_x_0 : w3.frozen? ⟨w2.heap.size, 0, none⟩ = false := HX12.out.frozen 0
  have c_x_1 : w3.cell? ⟨w2.heap.size, 1, none⟩ = some (.int .i64 (a1 : Int)) := HX12.out.cell 1
  have z_x_1 : w3.frozen? ⟨w2.heap.size, 1, none⟩ = false := HX12.out.frozen 1
  have c_x_2 : w3.cell? ⟨w2.heap.size, 2, none⟩ = some (.int .i64 0) := HX12.out.cell 2
  have z_x_2 : w3.frozen? ⟨w2.heap.size, 2, none⟩ = false := HX12.out.frozen 2
  go_wp2_with fail
  clear c_c_0 z_c_0 c_c_1 z_c_1 c_c_2 z_c_2 c_x_0 z_x_0 c_x_1 z_x_1 c_x_2 z_x_2
  refine (Int_v A n c (k : Int) 0 bs w.heap.size _ (HR.out.below HB.out) HB.out.size hnc hcm (by omega) (a1 : Int) 0 v1 HU.out).mono ?_
  rintro e w4 ⟨rfl, hb⟩
  have hs13 : w3.heap.size ≤ w4.heap.size := hb.size
  have HX14 := Lib.hid (show Blk w4 w1.heap.size 26 #[.slice A n c, .int .i64 (k : Int), .int .i64 0] from HX11.out.below hb HX11.out.lt)
  have HX15 := Lib.hid (show Blk w4 w2.heap.size 26 #[.slice A n c, .int .i64 (a1 : Int), .int .i64 0] from HX12.out.below hb HX12.out.lt)
  have HB' := Lib.hid (show Below w.heap.size w w4 from HB.out.trans (hb.mono HB.out.size))
  clear HX11 HX12 HB
  have HB := HB'
  clear HB'
  clear hb
  have HX17 := Lib.hid (Blk.new w4 26 #[.slice A n c, .int .i64 (a1 : Int), .int .i64 0])
  have HX14a := Lib.hid (HX14.out.alloc (.cells #[.slice A n c, .int .i64 (a1 : Int), .int .i64 0] 26))
  have HX15a := Lib.hid (HX15.out.alloc (.cells #[.slice A n c, .int .i64 (a1 : Int), .int .i64 0] 26))
  have HBa := Lib.hid (HB.out.alloc HB.out.size (.cells #[.slice A n c, .int .i64 (a1 : Int), .int .i64 0] 26))
  have hs18 : w4.heap.size < (w4.alloc (.cells #[.slice A n c, .int .i64 (a1 : Int), .int .i64 0] 26)).heap.size := by simp
  go_wp2_with fail
  generalize w4.alloc (.cells #[.slice A n c, .int .i64 (a1 : Int), .int .i64 0] 26) = wa16 at HX14a HX15a HX17 HBa hs18 ⊢
  clear HX14 HX15 HB
  have HB := HBa
  clear HBa
  refine wp_region_noPanic ?_
  refine wp_region_held_drew (S := fun W => Below wa16.heap.size wa16 W) (by kernel_rfl) (Below.refl _ _).drew (fun hHeld => ?_)
  refine takeH 0 (v := ?v0u95) rfl (by kernel_rfl) (by kernel_rfl) (by kernel_rfl) rfl (fun _ _ _ h => h) (Or.inl ⟨by rfl, ?y0u95⟩) hHeld ?r0u95
  case y0u95 => (intro W hSW; (try dsimp only at hSW); go_simp; try with_reducible rfl)
  simp only [Act.put, List.setIfInBounds_toArray, List.set_cons_zero, List.set_cons_succ]
  refine takeH 1 (v := ?v1u96) rfl (by kernel_rfl) (by kernel_rfl) (by kernel_rfl) rfl (fun _ _ _ h => h) (Or.inl ⟨by rfl, ?y1u96⟩) hHeld ?r1u96
  case y1u96 => (intro W hSW; (try dsimp only at hSW); have qq := (HX17.out.below hSW HX17.out.lt).cell 2; simp only [List.getElem?_toArray, List.getElem?_cons_zero, List.getElem?_cons_succ] at qq; go_simp; try with_reducible rfl)
  simp only [Act.put, List.setIfInBounds_toArray, List.set_cons_zero, List.set_cons_succ]
  refine takeH 2 (v := ?v2u97) rfl (by kernel_rfl) (by kernel_rfl) (by kernel_rfl) rfl (fun _ _ _ h => h) (Or.inl ⟨by rfl, ?y2u97⟩) hHeld ?r2u97
  case y2u97 => (intro W hSW; (try dsimp only at hSW); go_simp; try with_reducible rfl)
  simp only [Act.put, List.setIfInBounds_toArray, List.set_cons_zero, List.set_cons_succ]
  refine takeH 3 (v := ?v3u98) rfl (by kernel_rfl) (by kernel_rfl) (by kernel_rfl) rfl (fun _ _ _ h => h) (Or.inl ⟨by rfl, ?y3u98⟩) hHeld ?r3u98
  case y3u98 => (intro W hSW; (try dsimp only at hSW); have qq := (HX15a.out.below hSW HX15a.out.lt).cell 2; simp only [List.getElem?_toArray, List.getElem?_cons_zero, List.getElem?_cons_succ] at qq; go_simp; try with_reducible rfl)
  simp only [Act.put, List.setIfInBounds_toArray, List.set_cons_zero, List.set_cons_succ]
  refine takeH 4 (v := ?v4u99) rfl (by kernel_rfl) (by kernel_rfl) (by kernel_rfl) rfl (fun _ _ _ h => h) (Or.inl ⟨by rfl, ?y4u99⟩) hHeld ?r4u99
  case y4u99 => (intro W hSW; (try dsimp only at hSW); go_simp; try with_reducible rfl)
  simp only [Act.put, List.setIfInBounds_toArray, List.set_cons_zero, List.set_cons_succ]
  refine takeH 5 (v := ?v5u100) rfl (by kernel_rfl) (by kernel_rfl) (by kernel_rfl) rfl (fun _ _ _ h => h) (Or.inl ⟨by rfl, ?y5u100⟩) hHeld ?r5u100
  case y5u100 => (intro W hSW; (try dsimp only at hSW); go_simp; try with_reducible rfl)
  simp only [Act.put, List.setIfInBounds_toArray, List.set_cons_zero, List.set_cons_succ]
  refine takeH 6 (v := ?v6u101) rfl (by kernel_rfl) (by kernel_rfl) (by kernel_rfl) rfl (fun _ _ _ h => h) (Or.inl ⟨by rfl, ?y6u101⟩) hHeld ?r6u101
  case y6u101 => (intro W hSW; (try dsimp only at hSW); go_simp; try with_reducible rfl)
  simp only [Act.put, List.setIfInBounds_toArray, List.set_cons_zero, List.set_cons_succ]
  refine takeH 7 (v := ?v7u102) rfl (by kernel_rfl) (by kernel_rfl) (by kernel_rfl) rfl (fun _ _ _ h => h) (Or.inl ⟨by rfl, ?y7u102⟩) hHeld ?r7u102
  case y7u102 => (intro W hSW; (try dsimp only at hSW); have qq := (HX17.out.below hSW HX17.out.lt).cell 1; simp only [List.getElem?_toArray, List.getElem?_cons_zero, List.getElem?_cons_succ] at qq; go_simp; try with_reducible rfl)
  simp only [Act.put, List.setIfInBounds_toArray, List.set_cons_zero, List.set_cons_succ]
  refine takeH 8 (v := ?v8u103) rfl (by kernel_rfl) (by kernel_rfl) (by kernel_rfl) rfl (fun _ _ _ h => h) (Or.inl ⟨by rfl, ?y8u103⟩) hHeld ?r8u103
  case y8u103 => (intro W hSW; (try dsimp only at hSW); go_simp; try with_reducible rfl)
  simp only [Act.put, List.setIfInBounds_toArray, List.set_cons_zero, List.set_cons_succ]
  refine takeH 9 (v := ?v9u104) rfl (by kernel_rfl) (by kernel_rfl) (by kernel_rfl) rfl (fun _ _ _ h => h) (Or.inl ⟨by rfl, ?y9u104⟩) hHeld ?r9u104
  case y9u104 => (intro W hSW; (try dsimp only at hSW); have qq := (HX15a.out.below hSW HX15a.out.lt).cell 1; simp only [List.getElem?_toArray, List.getElem?_cons_zero, List.getElem?_cons_succ] at qq; go_simp; try with_reducible rfl)
  simp only [Act.put, List.setIfInBounds_toArray, List.set_cons_zero, List.set_cons_succ]
  refine takeH 10 (v := ?v10u105) rfl (by kernel_rfl) (by kernel_rfl) (by kernel_rfl) rfl (fun _ _ _ h => h) (Or.inl ⟨by rfl, ?y10u105⟩) hHeld ?r10u105
  case y10u105 => (intro W hSW; (try dsimp only at hSW); go_simp; try with_reducible rfl)
  simp only [Act.put, List.setIfInBounds_toArray, List.set_cons_zero, List.set_cons_succ]
  refine takeH 11 (v := ?v11u106) rfl (by kernel_rfl) (by kernel_rfl) (by kernel_rfl) rfl (fun _ _ _ h => h) (Or.inl ⟨by rfl, ?y11u106⟩) hHeld ?r11u106
  case y11u106 => (intro W hSW; (try dsimp only at hSW); go_simp; try with_reducible rfl)
  simp only [Act.put, List.setIfInBounds_toArray, List.set_cons_zero, List.set_cons_succ]
  refine takeH 12 (v := ?v12u107) rfl (by kernel_rfl) (by kernel_rfl) (by kernel_rfl) rfl (fun _ _ _ h => h) (Or.inl ⟨by rfl, ?y12u107⟩) hHeld ?r12u107
  case y12u107 => (intro W hSW; (try dsimp only at hSW); go_simp; try with_reducible rfl)
  simp only [Act.put, List.setIfInBounds_toArray, List.set_cons_zero, List.set_cons_succ]
  refine takeH 13 (v := ?v13u108) rfl (by kernel_rfl) (by kernel_rfl) (by kernel_rfl) rfl (fun _ _ _ h => h) (Or.inl ⟨by rfl, ?y13u108⟩) hHeld ?r13u108
  case y13u108 => (intro W hSW; (try dsimp only at hSW); go_simp; try with_reducible rfl)
  simp only [Act.put, List.setIfInBounds_toArray, List.set_cons_zero, List.set_cons_succ]
  refine takeH 14 (v := ?v14u109) rfl (by kernel_rfl) (by kernel_rfl) (by kernel_rfl) rfl (fun _ _ _ h => h) (Or.inl ⟨by rfl, ?y14u109⟩) hHeld ?r14u109
  case y14u109 => (intro W hSW; (try dsimp only at hSW); have qq := (HX17.out.below hSW HX17.out.lt).cell 2; simp only [List.getElem?_toArray, List.getElem?_cons_zero, List.getElem?_cons_succ] at qq; go_simp; try with_reducible rfl)
  simp only [Act.put, List.setIfInBounds_toArray, List.set_cons_zero, List.set_cons_succ]
  refine takeH 15 (v := ?v15u110) rfl (by kernel_rfl) (by kernel_rfl) (by kernel_rfl) rfl (fun _ _ _ h => h) (Or.inl ⟨by rfl, ?y15u110⟩) hHeld ?r15u110
  case y15u110 => (intro W hSW; (try dsimp only at hSW); go_simp; try with_reducible rfl)
  simp only [Act.put, List.setIfInBounds_toArray, List.set_cons_zero, List.set_cons_succ]
  refine takeH 16 (v := ?v16u111) rfl (by kernel_rfl) (by kernel_rfl) (by kernel_rfl) rfl (fun _ _ _ h => h) (Or.inl ⟨by rfl, ?y16u111⟩) hHeld ?r16u111
  case y16u111 => (intro W hSW; (try dsimp only at hSW); go_simp; try with_reducible rfl)
  simp only [Act.put, List.setIfInBounds_toArray, List.set_cons_zero, List.set_cons_succ]
  refine takeH 17 (v := ?v17u112) rfl (by kernel_rfl) (by kernel_rfl) (by kernel_rfl) rfl (fun _ _ _ h => h) (Or.inl ⟨by rfl, ?y17u112⟩) hHeld ?r17u112
  case y17u112 => (intro W hSW; (try dsimp only at hSW); go_simp; try with_reducible rfl)
  simp only [Act.put, List.setIfInBounds_toArray, List.set_cons_zero, List.set_cons_succ]
  refine takeH 18 (v := ?v18u113) rfl (by kernel_rfl) (by kernel_rfl) (by kernel_rfl) rfl (fun _ _ _ h => h) (Or.inl ⟨by rfl, ?y18u113⟩) hHeld ?r18u113
  case y18u113 => (intro W hSW; (try dsimp only at hSW); go_simp; try with_reducible rfl)
  simp only [Act.put, List.setIfInBounds_toArray, List.set_cons_zero, List.set_cons_succ]
  refine takeH 19 (v := ?v19u114) rfl (by kernel_rfl) (by kernel_rfl) (by kernel_rfl) rfl (fun _ _ _ h => h) (Or.inl ⟨by rfl, ?y19u114⟩) hHeld ?r19u114
  case y19u114 => (intro W hSW; (try dsimp only at hSW); go_simp; try with_reducible rfl)
  simp only [Act.put, List.setIfInBounds_toArray, List.set_cons_zero, List.set_cons_succ]
  refine takeH 20 (v := ?v20u115) rfl (by kernel_rfl) (by kernel_rfl) (by kernel_rfl) rfl (fun _ _ _ h => h) (Or.inl ⟨by rfl, ?y20u115⟩) hHeld ?r20u115
  case y20u115 => (intro W hSW; (try dsimp only at hSW); go_simp; try with_reducible rfl)
  simp only [Act.put, List.setIfInBounds_toArray, List.set_cons_zero, List.set_cons_succ]
  refine takeH 23 (v := ?v23u116) rfl (by kernel_rfl) (by kernel_rfl) (by kernel_rfl) rfl (fun _ _ _ h => h) (Or.inl ⟨by rfl, ?y23u116⟩) hHeld ?r23u116
  case y23u116 => (intro W hSW; (try dsimp only at hSW); go_simp; try with_reducible rfl)
  simp only [Act.put, List.setIfInBounds_toArray, List.set_cons_zero, List.set_cons_succ]
  refine takeH 24 (v := ?v24u117) rfl (by kernel_rfl) (by kernel_rfl) (by kernel_rfl) rfl (fun _ _ _ h => h) (Or.inl ⟨by rfl, ?y24u117⟩) hHeld ?r24u117
  case y24u117 => (intro W hSW; (try dsimp only at hSW); go_simp; try with_reducible rfl)
  simp only [Act.put, List.setIfInBounds_toArray, List.set_cons_zero, List.set_cons_succ]
  refine takeH 25 (v := ?v25u118) rfl (by kernel_rfl) (by kernel_rfl) (by kernel_rfl) rfl (fun _ _ _ h => h) (Or.inl ⟨by rfl, ?y25u118⟩) hHeld ?r25u118
  case y25u118 => (intro W hSW; (try dsimp only at hSW); have qq := (HX17.out.below hSW HX17.out.lt).cell 1; simp only [List.getElem?_toArray, List.getElem?_cons_zero, List.getElem?_cons_succ] at qq; go_simp; try with_reducible rfl)
  simp only [Act.put, List.setIfInBounds_toArray, List.set_cons_zero, List.set_cons_succ]
  refine takeH 26 (v := ?v26u119) rfl (by kernel_rfl) (by kernel_rfl) (by kernel_rfl) rfl (fun _ _ _ h => h) (Or.inl ⟨by rfl, ?y26u119⟩) hHeld ?r26u119
  case y26u119 => (intro W hSW; (try dsimp only at hSW); go_simp; try with_reducible rfl)
  simp only [Act.put, List.setIfInBounds_toArray, List.set_cons_zero, List.set_cons_succ]
  refine takeH 27 (v := ?v27u120) rfl (by kernel_rfl) (by kernel_rfl) (by kernel_rfl) rfl (fun _ _ _ h => h) (Or.inl ⟨by rfl, ?y27u120⟩) hHeld ?r27u120
  case y27u120 => (intro W hSW; (try dsimp only at hSW); have hcv := conv_reads ((HR.out.below (HB.out.trans (Below.mono hSW HB.out.size))).preB (k := a1) (by omega)) c; go_simp; try with_reducible rfl)
  simp only [Act.put, List.setIfInBounds_toArray, List.set_cons_zero, List.set_cons_succ]
  refine wpAnyH_ready (rs := [21]) (by kernel_rfl) (by simp) ?_
  refine AllReadyH.cons rfl (fun K hK => ?_) AllReadyH.nil
  go_simp
  refine (PutInt_c A k c w.heap.size (bs.take k) (unzig v1) hz1.1 hz1.2 _ ((HR.out.below (HB.out.trans (Below.mono hHeld HB.out.size))).preB hkn) (Nat.le_trans HB.out.size (Below.size hHeld)) (by omega)).mono ?_
  rintro e w5 ⟨v5, rfl, hown5, hb5⟩
  rw [HZ.out, HE1.out] at hown5
  obtain ⟨A5, c5, rfl, _, _, _, hR5⟩ := own_reads hown5
  have hcv5 := conv_reads hR5 c5
  refine hK.out _ _ (Below.trans hHeld (hb5.mono (Below.size hHeld))) (fun hHeld => ?_)
  clear hK K
  try simp only [Act.put, List.setIfInBounds_toArray, List.set_cons_zero, List.set_cons_succ]
  refine wpAnyH_ready (rs := [22]) (by kernel_rfl) (by simp) ?_
  refine AllReadyH.cons rfl (fun K hK => ?_) AllReadyH.nil
  go_simp
  refine hK.out _ _ hHeld (fun hHeld => ?_)
  clear hK K
  try simp only [Act.put, List.setIfInBounds_toArray, List.set_cons_zero, List.set_cons_succ]
  refine takeH 28 (v := ?v28u121) rfl (by kernel_rfl) (by kernel_rfl) (by kernel_rfl) rfl (fun _ _ _ h => h) (Or.inl ⟨by rfl, ?y28u121⟩) hHeld ?r28u121
  case y28u121 => (intro W hSW; (try dsimp only at hSW); go_simp; try with_reducible rfl)
  simp only [Act.put, List.setIfInBounds_toArray, List.set_cons_zero, List.set_cons_succ]
  refine takeH 29 (v := ?v29u122) rfl (by kernel_rfl) (by kernel_rfl) (by kernel_rfl) rfl (fun _ _ _ h => h) (Or.inl ⟨by rfl, ?y29u122⟩) hHeld ?r29u122
  case y29u122 => (intro W hSW; (try dsimp only at hSW); go_simp; try with_reducible rfl)
  simp only [Act.put, List.setIfInBounds_toArray, List.set_cons_zero, List.set_cons_succ]
  refine takeH 30 (v := ?v30u123) rfl (by kernel_rfl) (by kernel_rfl) (by kernel_rfl) rfl (fun _ _ _ h => h) (Or.inl ⟨by rfl, ?y30u123⟩) hHeld ?r30u123
  case y30u123 => (intro W hSW; (try dsimp only at hSW); go_simp; try with_reducible rfl)
  simp only [Act.put, List.setIfInBounds_toArray, List.set_cons_zero, List.set_cons_succ]
  refine wpAnyH_done (by kernel_rfl) ?_ _
  refine NoPanic.normal ?_
  have hb : Below wa16.heap.size wa16 w5 := hHeld
  clear hHeld hcv5 hR5 hown5 hb5
  have hs19 : wa16.heap.size ≤ w5.heap.size := hb.size
  have HX20 := Lib.hid (show Blk w5 w1.heap.size 26 #[.slice A n c, .int .i64 (k : Int), .int .i64 0] from HX14a.out.below hb HX14a.out.lt)
  have HX21 := Lib.hid (show Blk w5 w2.heap.size 26 #[.slice A n c, .int .i64 (a1 : Int), .int .i64 0] from HX15a.out.below hb HX15a.out.lt)
  have HX22 := Lib.hid (show Blk w5 w4.heap.size 26 #[.slice A n c, .int .i64 (a1 : Int), .int .i64 0] from HX17.out.below hb HX17.out.lt)
  have HB' := Lib.hid (show Below w.heap.size w w5 from HB.out.trans (hb.mono HB.out.size))
  clear HX14a HX15a HX17 HB
  have HB := HB'
  clear HB'
  clear hb
  have c_c_0 : w5.cell? ⟨w1.heap.size, 0, none⟩ = some (.slice A n c) := HX20.out.cell 0
  have z_c_0 : w5.frozen? ⟨w1.heap.size, 0, none⟩ = false := HX20.out.frozen 0
  have c_c_1 : w5.cell? ⟨w1.heap.size, 1, none⟩ = some (.int .i64 (k : Int)) := HX20.out.cell 1
  have z_c_1 : w5.frozen? ⟨w1.heap.size, 1, none⟩ = false := HX20.out.frozen 1
  have c_c_2 : w5.cell? ⟨w1.heap.size, 2, none⟩ = some (.int .i64 0) := HX20.out.cell 2
  have z_c_2 : w5.frozen? ⟨w1.heap.size, 2, none⟩ = false := HX20.out.frozen 2
  have c_x_0 : w5.cell? ⟨w2.heap.size, 0, none⟩ = some (.slice A n c) := HX21.out.cell 0
  have z_x_0 : w5.frozen? ⟨w2.heap.size, 0, none⟩ = false := HX21.out.frozen 0
  have c_x_1 : w5.cell? ⟨w2.heap.size, 1, none⟩ = some (.int .i64 (a1 : Int)) := HX21.out.cell 1
  have z_x_1 : w5.frozen? ⟨w2.heap.size, 1, none⟩ = false := HX21.out.frozen 1
  have c_x_2 : w5.cell? ⟨w2.heap.size, 2, none⟩ = some (.int .i64 0) := HX21.out.cell 2
  have z_x_2 : w5.frozen? ⟨w2.heap.size, 2, none⟩ = false := HX21.out.frozen 2
  have c_y_0 : w5.cell? ⟨w4.heap.size, 0, none⟩ = some (.slice A n c) := HX22.out.cell 0
  have z_y_0 : w5.frozen? ⟨w4.heap.size, 0, none⟩ = false := HX22.out.frozen 0
  have c_y_1 : w5.cell? ⟨w4.heap.size, 1, none⟩ = some (.int .i64 (a1 : Int)) := HX22.out.cell 1
  have z_y_1 : w5.frozen? ⟨w4.heap.size, 1, none⟩ = false := HX22.out.frozen 1
  have c_y_2 : w5.cell? ⟨w4.heap.size, 2, none⟩ = some (.int .i64 0) := HX22.out.cell 2
  have z_y_2 : w5.frozen? ⟨w4.heap.size, 2, none⟩ = false := HX22.out.frozen 2
  go_wp2_with fail
  clear c_c_0 z_c_0 c_c_1 z_c_1 c_c_2 z_c_2 c_x_0 z_x_0 c_x_1 z_x_1 c_x_2 z_x_2 c_y_0 z_y_0 c_y_1 z_y_1 c_y_2 z_y_2
  refine (Text_v A n c (k : Int) 0 bs w.heap.size _ (HR.out.below HB.out) HB.out.size hnc hcm (by omega) (most : Int) (by omega) (a3 : Int) 0 l3 HX.out).mono ?_
  rintro e w6 ⟨rfl, hb⟩
  have hs23 : w5.heap.size ≤ w6.heap.size := hb.size
  have HX24 := Lib.hid (show Blk w6 w1.heap.size 26 #[.slice A n c, .int .i64 (k : Int), .int .i64 0] from HX20.out.below hb HX20.out.lt)
  have HX25 := Lib.hid (show Blk w6 w2.heap.size 26 #[.slice A n c, .int .i64 (a1 : Int), .int .i64 0] from HX21.out.below hb HX21.out.lt)
  have HX26 := Lib.hid (show Blk w6 w4.heap.size 26 #[.slice A n c, .int .i64 (a1 : Int), .int .i64 0] from HX22.out.below hb HX22.out.lt)
  have HB' := Lib.hid (show Below w.heap.size w w6 from HB.out.trans (hb.mono HB.out.size))
  clear HX20 HX21 HX22 HB
  have HB := HB'
  clear HB'
  clear hb
  have HX28 := Lib.hid (Blk.new w6 26 #[.slice A n c, .int .i64 (a3 : Int), .int .i64 0])
  have HX24a := Lib.hid (HX24.out.alloc (.cells #[.slice A n c, .int .i64 (a3 : Int), .int .i64 0] 26))
  have HX25a := Lib.hid (HX25.out.alloc (.cells #[.slice A n c, .int .i64 (a3 : Int), .int .i64 0] 26))
  have HX26a := Lib.hid (HX26.out.alloc (.cells #[.slice A n c, .int .i64 (a3 : Int), .int .i64 0] 26))
  have HBa := Lib.hid (HB.out.alloc HB.out.size (.cells #[.slice A n c, .int .i64 (a3 : Int), .int .i64 0] 26))
  have hs29 : w6.heap.size < (w6.alloc (.cells #[.slice A n c, .int .i64 (a3 : Int), .int .i64 0] 26)).heap.size := by simp
  go_wp2_with fail
  generalize w6.alloc (.cells #[.slice A n c, .int .i64 (a3 : Int), .int .i64 0] 26) = wa27 at HX24a HX25a HX26a HX28 HBa hs29 ⊢
  clear HX24 HX25 HX26 HB
  have HB := HBa
  clear HBa
  refine wp_region_noPanic ?_
  refine wp_region_held_drew (S := fun W => Below wa27.heap.size wa27 W) (by kernel_rfl) (Below.refl _ _).drew (fun hHeld => ?_)
  refine takeH 0 (v := ?v0u124) rfl (by kernel_rfl) (by kernel_rfl) (by kernel_rfl) rfl (fun _ _ _ h => h) (Or.inl ⟨by rfl, ?y0u124⟩) hHeld ?r0u124
  case y0u124 => (intro W hSW; (try dsimp only at hSW); go_simp; try with_reducible rfl)
  simp only [Act.put, List.setIfInBounds_toArray, List.set_cons_zero, List.set_cons_succ]
  refine takeH 1 (v := ?v1u125) rfl (by kernel_rfl) (by kernel_rfl) (by kernel_rfl) rfl (fun _ _ _ h => h) (Or.inl ⟨by rfl, ?y1u125⟩) hHeld ?r1u125
  case y1u125 => (intro W hSW; (try dsimp only at hSW); have qq := (HX28.out.below hSW HX28.out.lt).cell 1; simp only [List.getElem?_toArray, List.getElem?_cons_zero, List.getElem?_cons_succ] at qq; go_simp; try with_reducible rfl)
  simp only [Act.put, List.setIfInBounds_toArray, List.set_cons_zero, List.set_cons_succ]
  refine takeH 2 (v := ?v2u126) rfl (by kernel_rfl) (by kernel_rfl) (by kernel_rfl) rfl (fun _ _ _ h => h) (Or.inl ⟨by rfl, ?y2u126⟩) hHeld ?r2u126
  case y2u126 => (intro W hSW; (try dsimp only at hSW); go_simp; try with_reducible rfl)
  simp only [Act.put, List.setIfInBounds_toArray, List.set_cons_zero, List.set_cons_succ]
  refine takeH 3 (v := ?v3u127) rfl (by kernel_rfl) (by kernel_rfl) (by kernel_rfl) rfl (fun _ _ _ h => h) (Or.inl ⟨by rfl, ?y3u127⟩) hHeld ?r3u127
  case y3u127 => (intro W hSW; (try dsimp only at hSW); go_simp; try with_reducible rfl)
  simp only [Act.put, List.setIfInBounds_toArray, List.set_cons_zero, List.set_cons_succ]
  refine takeH 4 (v := ?v4u128) rfl (by kernel_rfl) (by kernel_rfl) (by kernel_rfl) rfl (fun _ _ _ h => h) (Or.inl ⟨by rfl, ?y4u128⟩) hHeld ?r4u128
  case y4u128 => (intro W hSW; (try dsimp only at hSW); go_simp; try with_reducible rfl)
  simp only [Act.put, List.setIfInBounds_toArray, List.set_cons_zero, List.set_cons_succ]
  refine takeH 5 (v := ?v5u129) rfl (by kernel_rfl) (by kernel_rfl) (by kernel_rfl) rfl (fun _ _ _ h => h) (Or.inl ⟨by rfl, ?y5u129⟩) hHeld ?r5u129
  case y5u129 => (intro W hSW; (try dsimp only at hSW); go_simp; try with_reducible rfl)
  simp only [Act.put, List.setIfInBounds_toArray, List.set_cons_zero, List.set_cons_succ]
  refine takeH 6 (v := ?v6u130) rfl (by kernel_rfl) (by kernel_rfl) (by kernel_rfl) rfl (fun _ _ _ h => h) (Or.inl ⟨by rfl, ?y6u130⟩) hHeld ?r6u130
  case y6u130 => (intro W hSW; (try dsimp only at hSW); have qq := (HX28.out.below hSW HX28.out.lt).cell 1; simp only [List.getElem?_toArray, List.getElem?_cons_zero, List.getElem?_cons_succ] at qq; go_simp; try with_reducible rfl)
  simp only [Act.put, List.setIfInBounds_toArray, List.set_cons_zero, List.set_cons_succ]
  refine takeH 7 (v := ?v7u131) rfl (by kernel_rfl) (by kernel_rfl) (by kernel_rfl) rfl (fun _ _ _ h => h) (Or.inl ⟨by rfl, ?y7u131⟩) hHeld ?r7u131
  case y7u131 => (intro W hSW; (try dsimp only at hSW); go_simp; try with_reducible rfl)
  simp only [Act.put, List.setIfInBounds_toArray, List.set_cons_zero, List.set_cons_succ]
  refine takeH 8 (v := ?v8u132) rfl (by kernel_rfl) (by kernel_rfl) (by kernel_rfl) rfl (fun _ _ _ h => h) (Or.inl ⟨by rfl, ?y8u132⟩) hHeld ?r8u132
  case y8u132 => (intro W hSW; (try dsimp only at hSW); go_simp; try with_reducible rfl)
  simp only [Act.put, List.setIfInBounds_toArray, List.set_cons_zero, List.set_cons_succ]
  refine takeH 9 (v := ?v9u133) rfl (by kernel_rfl) (by kernel_rfl) (by kernel_rfl) rfl (fun _ _ _ h => h) (Or.inl ⟨by rfl, ?y9u133⟩) hHeld ?r9u133
  case y9u133 => (intro W hSW; (try dsimp only at hSW); go_simp; try with_reducible rfl)
  simp only [Act.put, List.setIfInBounds_toArray, List.set_cons_zero, List.set_cons_succ]
  refine takeH 10 (v := ?v10u134) rfl (by kernel_rfl) (by kernel_rfl) (by kernel_rfl) rfl (fun _ _ _ h => h) (Or.inl ⟨by rfl, ?y10u134⟩) hHeld ?r10u134
  case y10u134 => (intro W hSW; (try dsimp only at hSW); go_simp; try with_reducible rfl)
  simp only [Act.put, List.setIfInBounds_toArray, List.set_cons_zero, List.set_cons_succ]
  refine takeH 11 (v := ?v11u135) rfl (by kernel_rfl) (by kernel_rfl) (by kernel_rfl) rfl (fun _ _ _ h => h) (Or.inl ⟨by rfl, ?y11u135⟩) hHeld ?r11u135
  case y11u135 => (intro W hSW; (try dsimp only at hSW); go_simp; try with_reducible rfl)
  simp only [Act.put, List.setIfInBounds_toArray, List.set_cons_zero, List.set_cons_succ]
  refine takeH 12 (v := ?v12u136) rfl (by kernel_rfl) (by kernel_rfl) (by kernel_rfl) rfl (fun _ _ _ h => h) (Or.inl ⟨by rfl, ?y12u136⟩) hHeld ?r12u136
  case y12u136 => (intro W hSW; (try dsimp only at hSW); go_simp; try with_reducible rfl)
  simp only [Act.put, List.setIfInBounds_toArray, List.set_cons_zero, List.set_cons_succ]
  refine takeH 13 (v := ?v13u137) rfl (by kernel_rfl) (by kernel_rfl) (by kernel_rfl) rfl (fun _ _ _ h => h) (Or.inl ⟨by rfl, ?y13u137⟩) hHeld ?r13u137
  case y13u137 => (intro W hSW; (try dsimp only at hSW); go_simp; try with_reducible rfl)
  simp only [Act.put, List.setIfInBounds_toArray, List.set_cons_zero, List.set_cons_succ]
  refine takeH 14 (v := ?v14u138) rfl (by kernel_rfl) (by kernel_rfl) (by kernel_rfl) rfl (fun _ _ _ h => h) (Or.inl ⟨by rfl, ?y14u138⟩) hHeld ?r14u138
  case y14u138 => (intro W hSW; (try dsimp only at hSW); go_simp; try with_reducible rfl)
  simp only [Act.put, List.setIfInBounds_toArray, List.set_cons_zero, List.set_cons_succ]
  refine takeH 15 (v := ?v15u139) rfl (by kernel_rfl) (by kernel_rfl) (by kernel_rfl) rfl (fun _ _ _ h => h) (Or.inl ⟨by rfl, ?y15u139⟩) hHeld ?r15u139
  case y15u139 => (intro W hSW; (try dsimp only at hSW); go_simp; try with_reducible rfl)
  simp only [Act.put, List.setIfInBounds_toArray, List.set_cons_zero, List.set_cons_succ]
  refine takeH 16 (v := ?v16u140) rfl (by kernel_rfl) (by kernel_rfl) (by kernel_rfl) rfl (fun _ _ _ h => h) (Or.inl ⟨by rfl, ?y16u140⟩) hHeld ?r16u140
  case y16u140 => (intro W hSW; (try dsimp only at hSW); go_simp; try with_reducible rfl)
  simp only [Act.put, List.setIfInBounds_toArray, List.set_cons_zero, List.set_cons_succ]
  refine takeH 17 (v := ?v17u141) rfl (by kernel_rfl) (by kernel_rfl) (by kernel_rfl) rfl (fun _ _ _ h => h) (Or.inl ⟨by rfl, ?y17u141⟩) hHeld ?r17u141
  case y17u141 => (intro W hSW; (try dsimp only at hSW); go_simp; try with_reducible rfl)
  simp only [Act.put, List.setIfInBounds_toArray, List.set_cons_zero, List.set_cons_succ]
  refine takeH 18 (v := ?v18u142) rfl (by kernel_rfl) (by kernel_rfl) (by kernel_rfl) rfl (fun _ _ _ h => h) (Or.inl ⟨by rfl, ?y18u142⟩) hHeld ?r18u142
  case y18u142 => (intro W hSW; (try dsimp only at hSW); go_simp; try with_reducible rfl)
  simp only [Act.put, List.setIfInBounds_toArray, List.set_cons_zero, List.set_cons_succ]
  refine takeH 19 (v := ?v19u143) rfl (by kernel_rfl) (by kernel_rfl) (by kernel_rfl) rfl (fun _ _ _ h => h) (Or.inl ⟨by rfl, ?y19u143⟩) hHeld ?r19u143
  case y19u143 => (intro W hSW; (try dsimp only at hSW); go_simp; try with_reducible rfl)
  simp only [Act.put, List.setIfInBounds_toArray, List.set_cons_zero, List.set_cons_succ]
  refine takeH 20 (v := ?v20u144) rfl (by kernel_rfl) (by kernel_rfl) (by kernel_rfl) rfl (fun _ _ _ h => h) (Or.inl ⟨by rfl, ?y20u144⟩) hHeld ?r20u144
  case y20u144 => (intro W hSW; (try dsimp only at hSW); go_simp; try with_reducible rfl)
  simp only [Act.put, List.setIfInBounds_toArray, List.set_cons_zero, List.set_cons_succ]
  refine takeH 21 (v := ?v21u145) rfl (by kernel_rfl) (by kernel_rfl) (by kernel_rfl) rfl (fun _ _ _ h => h) (Or.inl ⟨by rfl, ?y21u145⟩) hHeld ?r21u145
  case y21u145 => (intro W hSW; (try dsimp only at hSW); go_simp; try with_reducible rfl)
  simp only [Act.put, List.setIfInBounds_toArray, List.set_cons_zero, List.set_cons_succ]
  refine takeH 22 (v := ?v22u146) rfl (by kernel_rfl) (by kernel_rfl) (by kernel_rfl) rfl (fun _ _ _ h => h) (Or.inl ⟨by rfl, ?y22u146⟩) hHeld ?r22u146
  case y22u146 => (intro W hSW; (try dsimp only at hSW); go_simp; try with_reducible rfl)
  simp only [Act.put, List.setIfInBounds_toArray, List.set_cons_zero, List.set_cons_succ]
  refine takeH 25 (v := ?v25u147) rfl (by kernel_rfl) (by kernel_rfl) (by kernel_rfl) rfl (fun _ _ _ h => h) (Or.inl ⟨by rfl, ?y25u147⟩) hHeld ?r25u147
  case y25u147 => (intro W hSW; (try dsimp only at hSW); go_simp; try with_reducible rfl)
  simp only [Act.put, List.setIfInBounds_toArray, List.set_cons_zero, List.set_cons_succ]
  refine takeH 26 (v := ?v26u148) rfl (by kernel_rfl) (by kernel_rfl) (by kernel_rfl) rfl (fun _ _ _ h => h) (Or.inl ⟨by rfl, ?y26u148⟩) hHeld ?r26u148
  case y26u148 => (intro W hSW; (try dsimp only at hSW); go_simp; try with_reducible rfl)
  simp only [Act.put, List.setIfInBounds_toArray, List.set_cons_zero, List.set_cons_succ]
  refine takeH 27 (v := ?v27u149) rfl (by kernel_rfl) (by kernel_rfl) (by kernel_rfl) rfl (fun _ _ _ h => h) (Or.inl ⟨by rfl, ?y27u149⟩) hHeld ?r27u149
  case y27u149 => (intro W hSW; (try dsimp only at hSW); have qq := (HX28.out.below hSW HX28.out.lt).cell 1; simp only [List.getElem?_toArray, List.getElem?_cons_zero, List.getElem?_cons_succ] at qq; go_simp; try with_reducible rfl)
  simp only [Act.put, List.setIfInBounds_toArray, List.set_cons_zero, List.set_cons_succ]
  refine takeH 28 (v := ?v28u150) rfl (by kernel_rfl) (by kernel_rfl) (by kernel_rfl) rfl (fun _ _ _ h => h) (Or.inl ⟨by rfl, ?y28u150⟩) hHeld ?r28u150
  case y28u150 => (intro W hSW; (try dsimp only at hSW); go_simp; try with_reducible rfl)
  simp only [Act.put, List.setIfInBounds_toArray, List.set_cons_zero, List.set_cons_succ]
  refine takeH 29 (v := ?v29u151) rfl (by kernel_rfl) (by kernel_rfl) (by kernel_rfl) rfl (fun _ _ _ h => h) (Or.inl ⟨by rfl, ?y29u151⟩) hHeld ?r29u151
  case y29u151 => (intro W hSW; (try dsimp only at hSW); have hcv := conv_reads ((HR.out.below (HB.out.trans (Below.mono hSW HB.out.size))).preB (k := a3) (by omega)) c; go_simp; try with_reducible rfl)
  simp only [Act.put, List.setIfInBounds_toArray, List.set_cons_zero, List.set_cons_succ]
  refine wpAnyH_ready (rs := [23]) (by kernel_rfl) (by simp) ?_
  refine AllReadyH.cons rfl (fun K hK => ?_) AllReadyH.nil
  go_simp
  refine (PutText_c A k c w.heap.size (bs.take k) l3 _ ((HR.out.below (HB.out.trans (Below.mono hHeld HB.out.size))).preB hkn) (Nat.le_trans HB.out.size (Below.size hHeld)) (by omega) (by omega)).mono ?_
  rintro e w7 ⟨v7, rfl, hown7, hb7⟩
  rw [HE3.out] at hown7
  obtain ⟨A7, c7, rfl, _, _, _, hR7⟩ := own_reads hown7
  have hcv7 := conv_reads hR7 c7
  refine hK.out _ _ (Below.trans hHeld (hb7.mono (Below.size hHeld))) (fun hHeld => ?_)
  clear hK K
  try simp only [Act.put, List.setIfInBounds_toArray, List.set_cons_zero, List.set_cons_succ]
  refine wpAnyH_ready (rs := [24]) (by kernel_rfl) (by simp) ?_
  refine AllReadyH.cons rfl (fun K hK => ?_) AllReadyH.nil
  go_simp
  refine hK.out _ _ hHeld (fun hHeld => ?_)
  clear hK K
  try simp only [Act.put, List.setIfInBounds_toArray, List.set_cons_zero, List.set_cons_succ]
  refine takeH 30 (v := ?v30u152) rfl (by kernel_rfl) (by kernel_rfl) (by kernel_rfl) rfl (fun _ _ _ h => h) (Or.inl ⟨by rfl, ?y30u152⟩) hHeld ?r30u152
  case y30u152 => (intro W hSW; (try dsimp only at hSW); go_simp; try with_reducible rfl)
  simp only [Act.put, List.setIfInBounds_toArray, List.set_cons_zero, List.set_cons_succ]
  refine takeH 31 (v := ?v31u153) rfl (by kernel_rfl) (by kernel_rfl) (by kernel_rfl) rfl (fun _ _ _ h => h) (Or.inl ⟨by rfl, ?y31u153⟩) hHeld ?r31u153
  case y31u153 => (intro W hSW; (try dsimp only at hSW); go_simp; try with_reducible rfl)
  simp only [Act.put, List.setIfInBounds_toArray, List.set_cons_zero, List.set_cons_succ]
  refine takeH 32 (v := ?v32u154) rfl (by kernel_rfl) (by kernel_rfl) (by kernel_rfl) rfl (fun _ _ _ h => h) (Or.inl ⟨by rfl, ?y32u154⟩) hHeld ?r32u154
  case y32u154 => (intro W hSW; (try dsimp only at hSW); go_simp; try with_reducible rfl)
  simp only [Act.put, List.setIfInBounds_toArray, List.set_cons_zero, List.set_cons_succ]
  refine wpAnyH_done (by kernel_rfl) ?_ _
  refine NoPanic.normal ?_
  have hb : Below wa27.heap.size wa27 w7 := hHeld
  clear hHeld hcv7 hR7 hown7 hb7
  have hs30 : wa27.heap.size ≤ w7.heap.size := hb.size
  have HX31 := Lib.hid (show Blk w7 w1.heap.size 26 #[.slice A n c, .int .i64 (k : Int), .int .i64 0] from HX24a.out.below hb HX24a.out.lt)
  have HX32 := Lib.hid (show Blk w7 w2.heap.size 26 #[.slice A n c, .int .i64 (a1 : Int), .int .i64 0] from HX25a.out.below hb HX25a.out.lt)
  have HX33 := Lib.hid (show Blk w7 w4.heap.size 26 #[.slice A n c, .int .i64 (a1 : Int), .int .i64 0] from HX26a.out.below hb HX26a.out.lt)
  have HX34 := Lib.hid (show Blk w7 w6.heap.size 26 #[.slice A n c, .int .i64 (a3 : Int), .int .i64 0] from HX28.out.below hb HX28.out.lt)
  have HB' := Lib.hid (show Below w.heap.size w w7 from HB.out.trans (hb.mono HB.out.size))
  clear HX24a HX25a HX26a HX28 HB
  have HB := HB'
  clear HB'
  clear hb
  go_wp2
  go_ret
  exact ⟨rfl, HB.out⟩

theorem WireOne_walk (A : Option Addr) (n c : Nat) (zs : List Int) (cut most : Int) (w : World) (hz : IntArg .u8 w A n c zs) (hcu : (Lit.int .u16 cut).wf = true) (hmo : (Lit.int .u8 most).wf = true) : Calls Try.prog 5 #[.slice A n c, .int .u16 cut, .int .u8 most] w fun e w' => e = .returned (.bool true) ∧ Below w.heap.size w w' := by
  obtain ⟨bs, hr, hnc, hcm, _⟩ := bytesArg hz
  unfold maxLen at hcm
  have hll := hr.lenB
  have h1 := bounds_u16 hcu
  have h2 := bounds_u8 hmo
  obtain ⟨cut, rfl⟩ : ∃ m : Nat, cut = (m : Int) := ⟨cut.toNat, by omega⟩
  obtain ⟨most, rfl⟩ : ∃ m : Nat, most = (m : Int) := ⟨most.toNat, by omega⟩
  by_cases hn : 2000 < n
  · exact WireOne_long A n c bs cut most w (by omega) (by omega) hr hnc (by omega) hn
  · obtain ⟨k, hk⟩ : ∃ k, cut % (n + 1) = k := ⟨_, rfl⟩
    have hkn : k ≤ n := by have := Nat.mod_lt cut (show 0 < n + 1 by omega); omega
    obtain ⟨⟨x1, y1, v1⟩, hu⟩ : ∃ r, uRes bs (k : Int) 0 = r := ⟨_, rfl⟩
    obtain ⟨⟨x3, y3, l3⟩, hx⟩ : ∃ r, xRes bs (k : Int) 0 (most : Int) = r := ⟨_, rfl⟩
    by_cases hy1 : y1 = 0
    · subst hy1
      obtain ⟨a1, rfl, q1, q2, q3⟩ := one_u bs k x1 v1 (by omega) hu
      by_cases hy3 : y3 = 0
      · subst hy3
        obtain ⟨a3, rfl, r1, r2, r3, r4⟩ := one_x bs k most x3 l3 (by omega) hx
        exact WireOne_good A n c bs cut most w (by omega) (by omega) hr hnc (by omega) (by omega) k hk a1 a3 v1 l3 hu hx q1 (by omega) q3 r1 (by omega) (by omega) r4
      · exact WireOne_half A n c bs cut most w (by omega) (by omega) hr hnc (by omega) (by omega) k hk a1 x3 y3 v1 l3 hu hx q1 (by omega) q3 hy3
    · exact WireOne_bad A n c bs cut most w (by omega) (by omega) hr hnc (by omega) (by omega) k hk x1 y1 x3 y3 v1 l3 hu hx hy1
end Go.Proofs.Ytgpefnlmlicopaa
