/- The walk of WireRight. -/
import Derived.Test.YtgpefnlmlicopaaWire14
namespace Go.Proofs.Ytgpefnlmlicopaa
set_option linter.unusedVariables false
open Go.RowKit

set_option maxRecDepth 100000 in
theorem WireRight_long (A : Option Addr) (n c : Nat) (bs : List UInt8) (un : Nat) (k : Int) (l : List UInt8) (A2 : Option Addr) (n2 c2 : Nat) (bs2 : List UInt8) (at_ err take most : Int) (w : World) (hun : un < 18446744073709551616) (hk1 : -9223372036854775808 ≤ k) (hk2 : k ≤ 9223372036854775807) (hmm : most ≤ 9223372036854775807) (hr : Reads w w.heap.size 1 A n (byteCells bs)) (hnc : n ≤ c) (hcm : c ≤ 9223372036854775807) (hr2 : Reads w w.heap.size 1 A2 n2 (byteCells bs2)) (hnc2 : n2 ≤ c2) (hcm2 : c2 ≤ 9223372036854775807) (h : 2000 < n ∨ 2000 < l.length ∨ 2000 < n2) : Calls Try.prog 3 #[.slice A n c, .int .u64 un, .int .i64 k, .string ⟨l.toArray⟩, .agg #[.slice A2 n2 c2, .int .i64 at_, .int .i64 err], .int .i64 take, .int .i64 most] w fun e w' => e = .returned (.bool true) ∧ Below w.heap.size w w' := by
  by_cases h0 : 2000 < n
  · have d0 : decide ((2000 : Int) < (n : Int)) = true := by simp; omega
    clear h
    go_enter Try.func3, Try.ntmps3
    go_wp2_with fail
    refine (Wire_awake _).mono ?_
    rintro e w1 ⟨rfl, hb⟩
    have HX0 := Lib.hid ((Blk.new w 26 #[.slice A2 n2 c2, .int .i64 at_, .int .i64 err]).below hb (by simp))
    have HB := Lib.hid (show Below w.heap.size w w1 from ((Below.refl _ _).alloc (Nat.le_refl _) _).trans (hb.mono (by simp)))
    have hs0 : w.heap.size < w1.heap.size := by have := hb.size; simp at this; omega
    clear hb
    have q0 : w1.cell? ⟨w.heap.size, 0, none⟩ = some (.slice A2 n2 c2) := HX0.out.cell 0
    go_wp2
    go_ret
    exact ⟨rfl, HB.out⟩
  · skip
    by_cases h1 : 2000 < l.length
    · have d0 : decide ((2000 : Int) < (n : Int)) = false := by simp; omega
      have d1 : decide ((2000 : Int) < (l.length : Int)) = true := by simp; omega
      clear h
      go_enter Try.func3, Try.ntmps3
      go_wp2_with fail
      refine (Wire_awake _).mono ?_
      rintro e w1 ⟨rfl, hb⟩
      have HX0 := Lib.hid ((Blk.new w 26 #[.slice A2 n2 c2, .int .i64 at_, .int .i64 err]).below hb (by simp))
      have HB := Lib.hid (show Below w.heap.size w w1 from ((Below.refl _ _).alloc (Nat.le_refl _) _).trans (hb.mono (by simp)))
      have hs0 : w.heap.size < w1.heap.size := by have := hb.size; simp at this; omega
      clear hb
      have q0 : w1.cell? ⟨w.heap.size, 0, none⟩ = some (.slice A2 n2 c2) := HX0.out.cell 0
      go_wp2
      go_ret
      exact ⟨rfl, HB.out⟩
    · skip
      have d0 : decide ((2000 : Int) < (n : Int)) = false := by simp; omega
      have d1 : decide ((2000 : Int) < (l.length : Int)) = false := by simp; omega
      have d2 : decide ((2000 : Int) < (n2 : Int)) = true := by simp; omega
      clear h
      go_enter Try.func3, Try.ntmps3
      go_wp2_with fail
      refine (Wire_awake _).mono ?_
      rintro e w1 ⟨rfl, hb⟩
      have HX0 := Lib.hid ((Blk.new w 26 #[.slice A2 n2 c2, .int .i64 at_, .int .i64 err]).below hb (by simp))
      have HB := Lib.hid (show Below w.heap.size w w1 from ((Below.refl _ _).alloc (Nat.le_refl _) _).trans (hb.mono (by simp)))
      have hs0 : w.heap.size < w1.heap.size := by have := hb.size; simp at this; omega
      clear hb
      have q0 : w1.cell? ⟨w.heap.size, 0, none⟩ = some (.slice A2 n2 c2) := HX0.out.cell 0
      go_wp2
      go_ret
      exact ⟨rfl, HB.out⟩

set_option maxRecDepth 100000 in
set_option maxHeartbeats 8000000 in
theorem WireRight_no (A : Option Addr) (n c : Nat) (bs : List UInt8) (un : Nat) (k : Int) (l : List UInt8) (A2 : Option Addr) (n2 c2 : Nat) (bs2 : List UInt8) (at_ err take most : Int) (w : World) (hun : un < 18446744073709551616) (hk1 : -9223372036854775808 ≤ k) (hk2 : k ≤ 9223372036854775807) (hmm : most ≤ 9223372036854775807) (hr : Reads w w.heap.size 1 A n (byteCells bs)) (hnc : n ≤ c) (hcm : c ≤ 9223372036854775807) (hr2 : Reads w w.heap.size 1 A2 n2 (byteCells bs2)) (hnc2 : n2 ≤ c2) (hcm2 : c2 ≤ 9223372036854775807) (hn : n ≤ 2000) (hl : l.length ≤ 2000) (hn2 : n2 ≤ 2000) (hR : at_ < 0 ∨ (n2 : Int) < at_ ∨ err ≠ 0) : Calls Try.prog 3 #[.slice A n c, .int .u64 un, .int .i64 k, .string ⟨l.toArray⟩, .agg #[.slice A2 n2 c2, .int .i64 at_, .int .i64 err], .int .i64 take, .int .i64 most] w fun e w' => e = .returned (.bool true) ∧ Below w.heap.size w w' := by
  have HR := Lib.hid hr
  have HR2 := Lib.hid hr2
  clear hr hr2
  have d0 : decide ((2000 : Int) < (n : Int)) = false := by simp; omega
  have d1 : decide ((2000 : Int) < (l.length : Int)) = false := by simp; omega
  have d2 : decide ((2000 : Int) < (n2 : Int)) = false := by simp; omega
  have HRR := Lib.hid hR
  clear hR
  obtain ⟨⟨x1, y1, v1⟩, hu⟩ : ∃ r, uRes bs2 at_ err = r := ⟨_, rfl⟩
  obtain ⟨⟨x2, y2, l2⟩, ht⟩ : ∃ r, tRes bs2 at_ err take = r := ⟨_, rfl⟩
  obtain ⟨⟨x3, y3, l3⟩, hx⟩ : ∃ r, xRes bs2 at_ err most = r := ⟨_, rfl⟩
  obtain ⟨m2, hm2⟩ : ∃ m, l2.length = m := ⟨_, rfl⟩
  have HU := Lib.hid hu
  have HT := Lib.hid ht
  have HX := Lib.hid hx
  have HM := Lib.hid hm2
  clear hu ht hx hm2
  go_enter Try.func3, Try.ntmps3
  go_wp2_with fail
  refine (Wire_awake _).mono ?_
  rintro e w1 ⟨rfl, hb⟩
  have HX0 := Lib.hid ((Blk.new w 26 #[.slice A2 n2 c2, .int .i64 at_, .int .i64 err]).below hb (by simp))
  have HB := Lib.hid (show Below w.heap.size w w1 from ((Below.refl _ _).alloc (Nat.le_refl _) _).trans (hb.mono (by simp)))
  have hs0 : w.heap.size < w1.heap.size := by have := hb.size; simp at this; omega
  clear hb
  have q0 : w1.cell? ⟨w.heap.size, 0, none⟩ = some (.slice A2 n2 c2) := HX0.out.cell 0
  go_wp2
  clear q0
  refine wp_region_noPanic ?_
  refine wp_region_held_drew (S := fun W => Below w1.heap.size w1 W) (by kernel_rfl) (Below.refl _ _).drew (fun hHeld => ?_)
  refine takeH 0 (v := ?v0u1) rfl (by kernel_rfl) (by kernel_rfl) (by kernel_rfl) rfl (fun _ _ _ h => h) (Or.inl ⟨by rfl, ?y0u1⟩) hHeld ?r0u1
  case y0u1 => (intro W hSW; (try dsimp only at hSW); go_simp; try with_reducible rfl)
  simp only [Act.put, List.setIfInBounds_toArray, List.set_cons_zero, List.set_cons_succ]
  refine takeH 1 (v := ?v1u2) rfl (by kernel_rfl) (by kernel_rfl) (by kernel_rfl) rfl (fun _ _ _ h => h) (Or.inl ⟨by rfl, ?y1u2⟩) hHeld ?r1u2
  case y1u2 => (intro W hSW; (try dsimp only at hSW); go_simp; try with_reducible rfl)
  simp only [Act.put, List.setIfInBounds_toArray, List.set_cons_zero, List.set_cons_succ]
  refine takeH 4 (v := ?v4u3) rfl (by kernel_rfl) (by kernel_rfl) (by kernel_rfl) rfl (fun _ _ _ h => h) (Or.inl ⟨by rfl, ?y4u3⟩) hHeld ?r4u3
  case y4u3 => (intro W hSW; (try dsimp only at hSW); go_simp; try with_reducible rfl)
  simp only [Act.put, List.setIfInBounds_toArray, List.set_cons_zero, List.set_cons_succ]
  refine takeH 5 (v := ?v5u4) rfl (by kernel_rfl) (by kernel_rfl) (by kernel_rfl) rfl (fun _ _ _ h => h) (Or.inl ⟨by rfl, ?y5u4⟩) hHeld ?r5u4
  case y5u4 => (intro W hSW; (try dsimp only at hSW); go_simp; try with_reducible rfl)
  simp only [Act.put, List.setIfInBounds_toArray, List.set_cons_zero, List.set_cons_succ]
  refine wpAnyH_ready (rs := [2]) (by kernel_rfl) (by simp) ?_
  refine AllReadyH.cons rfl (fun K hK => ?_) AllReadyH.nil
  go_simp
  refine (PutUint_c A n c w.heap.size bs un hun _ (HR.out.below (HB.out.trans (Below.mono hHeld HB.out.size))) (Nat.le_trans HB.out.size (Below.size hHeld)) (by omega)).mono ?_
  rintro e a0 ⟨va0, rfl, howna0, hba0⟩
  obtain ⟨Aa0, ca0, rfl, _, _, _, hRa0⟩ := own_reads howna0
  refine hK.out _ _ (Below.trans hHeld (Below.mono hba0 (Below.size hHeld))) (fun hHeld => ?_)
  clear hK K
  try simp only [Act.put, List.setIfInBounds_toArray, List.set_cons_zero, List.set_cons_succ]
  refine wpAnyH_more (S2 := fun W => (fun W => Below w1.heap.size w1 W) W ∧ Reads W a0.heap.size 1 Aa0 (n + (uencB un).length) (byteCells (bs ++ (uencB un))) ∧ a0.heap.size ≤ W.heap.size) (fun W hW => hW.1) _ ?_
  replace hHeld : (fun W => (fun W => Below w1.heap.size w1 W) W ∧ Reads W a0.heap.size 1 Aa0 (n + (uencB un).length) (byteCells (bs ++ (uencB un))) ∧ a0.heap.size ≤ W.heap.size) a0 := ⟨hHeld, hRa0, Nat.le_refl _⟩
  refine takeH 3 (v := ?v3u5) rfl (by kernel_rfl) (by kernel_rfl) (by kernel_rfl) rfl (fun _ _ _ h => h) (Or.inl ⟨by rfl, ?y3u5⟩) hHeld ?r3u5
  case y3u5 => (intro W hSW; (try dsimp only at hSW); have hcv := conv_reads hSW.2.1 ca0; go_simp; try with_reducible rfl)
  simp only [Act.put, List.setIfInBounds_toArray, List.set_cons_zero, List.set_cons_succ]
  refine wpAnyH_ready (rs := [6]) (by kernel_rfl) (by simp) ?_
  refine AllReadyH.cons rfl (fun K hK => ?_) AllReadyH.nil
  go_simp
  refine (rPutUint_c A n c w.heap.size bs un hun _ (HR.out.below (HB.out.trans (Below.mono hHeld.1 HB.out.size))) (Nat.le_trans HB.out.size (Below.size hHeld.1)) (by omega)).mono ?_
  rintro e b0 ⟨vb0, rfl, hownb0, hbb0⟩
  obtain ⟨Ab0, cb0, rfl, _, _, _, hRb0⟩ := own_reads hownb0
  have hcvb0 := conv_reads hRb0 cb0
  refine hK.out _ _ ⟨(Below.trans hHeld.1 (Below.mono hbb0 (Below.size hHeld.1))), hHeld.2.1.below (Below.mono hbb0 hHeld.2.2), Nat.le_trans hHeld.2.2 (Below.size hbb0)⟩ (fun hHeld => ?_)
  clear hK K
  try simp only [Act.put, List.setIfInBounds_toArray, List.set_cons_zero, List.set_cons_succ]
  refine wpAnyH_ready (rs := [7]) (by kernel_rfl) (by simp) ?_
  refine AllReadyH.cons rfl (fun K hK => ?_) AllReadyH.nil
  go_simp
  refine hK.out _ _ hHeld (fun hHeld => ?_)
  clear hK K
  try simp only [Act.put, List.setIfInBounds_toArray, List.set_cons_zero, List.set_cons_succ]
  clear hcvb0 hRb0 hownb0 hbb0 howna0 hba0
  refine takeH 8 (v := ?v8u6) rfl (by kernel_rfl) (by kernel_rfl) (by kernel_rfl) rfl (fun _ _ _ h => h) (Or.inl ⟨by rfl, ?y8u6⟩) hHeld ?r8u6
  case y8u6 => (intro W hSW; (try dsimp only at hSW); go_simp; try with_reducible rfl)
  simp only [Act.put, List.setIfInBounds_toArray, List.set_cons_zero, List.set_cons_succ]
  refine takeH 9 (v := ?v9u7) rfl (by kernel_rfl) (by kernel_rfl) (by kernel_rfl) rfl (fun _ _ _ h => h) (Or.inl ⟨by rfl, ?y9u7⟩) hHeld ?r9u7
  case y9u7 => (intro W hSW; (try dsimp only at hSW); go_simp; try with_reducible rfl)
  simp only [Act.put, List.setIfInBounds_toArray, List.set_cons_zero, List.set_cons_succ]
  refine takeH 10 (v := ?v10u8) rfl (by kernel_rfl) (by kernel_rfl) (by kernel_rfl) rfl (fun _ _ _ h => h) (Or.inl ⟨by rfl, ?y10u8⟩) hHeld ?r10u8
  case y10u8 => (intro W hSW; (try dsimp only at hSW); go_simp; try with_reducible rfl)
  simp only [Act.put, List.setIfInBounds_toArray, List.set_cons_zero, List.set_cons_succ]
  refine takeH 11 (v := ?v11u9) rfl (by kernel_rfl) (by kernel_rfl) (by kernel_rfl) rfl (fun _ _ _ h => h) (Or.inl ⟨by rfl, ?y11u9⟩) hHeld ?r11u9
  case y11u9 => (intro W hSW; (try dsimp only at hSW); go_simp; try with_reducible rfl)
  simp only [Act.put, List.setIfInBounds_toArray, List.set_cons_zero, List.set_cons_succ]
  refine takeH 14 (v := ?v14u10) rfl (by kernel_rfl) (by kernel_rfl) (by kernel_rfl) rfl (fun _ _ _ h => h) (Or.inl ⟨by rfl, ?y14u10⟩) hHeld ?r14u10
  case y14u10 => (intro W hSW; (try dsimp only at hSW); go_simp; try with_reducible rfl)
  simp only [Act.put, List.setIfInBounds_toArray, List.set_cons_zero, List.set_cons_succ]
  refine takeH 15 (v := ?v15u11) rfl (by kernel_rfl) (by kernel_rfl) (by kernel_rfl) rfl (fun _ _ _ h => h) (Or.inl ⟨by rfl, ?y15u11⟩) hHeld ?r15u11
  case y15u11 => (intro W hSW; (try dsimp only at hSW); go_simp; try with_reducible rfl)
  simp only [Act.put, List.setIfInBounds_toArray, List.set_cons_zero, List.set_cons_succ]
  refine wpAnyH_ready (rs := [12]) (by kernel_rfl) (by simp) ?_
  refine AllReadyH.cons rfl (fun K hK => ?_) AllReadyH.nil
  go_simp
  refine (PutInt_c A n c w.heap.size bs k hk1 hk2 _ (HR.out.below (HB.out.trans (Below.mono hHeld.1 HB.out.size))) (Nat.le_trans HB.out.size (Below.size hHeld.1)) (by omega)).mono ?_
  rintro e a1 ⟨va1, rfl, howna1, hba1⟩
  obtain ⟨Aa1, ca1, rfl, _, _, _, hRa1⟩ := own_reads howna1
  refine hK.out _ _ ⟨(Below.trans hHeld.1 (Below.mono hba1 (Below.size hHeld.1))), hHeld.2.1.below (Below.mono hba1 hHeld.2.2), Nat.le_trans hHeld.2.2 (Below.size hba1)⟩ (fun hHeld => ?_)
  clear hK K
  try simp only [Act.put, List.setIfInBounds_toArray, List.set_cons_zero, List.set_cons_succ]
  refine wpAnyH_more (S2 := fun W => (fun W => (fun W => Below w1.heap.size w1 W) W ∧ Reads W a0.heap.size 1 Aa0 (n + (uencB un).length) (byteCells (bs ++ (uencB un))) ∧ a0.heap.size ≤ W.heap.size) W ∧ Reads W a1.heap.size 1 Aa1 (n + (uencB (zig k)).length) (byteCells (bs ++ (uencB (zig k)))) ∧ a1.heap.size ≤ W.heap.size) (fun W hW => hW.1) _ ?_
  replace hHeld : (fun W => (fun W => (fun W => Below w1.heap.size w1 W) W ∧ Reads W a0.heap.size 1 Aa0 (n + (uencB un).length) (byteCells (bs ++ (uencB un))) ∧ a0.heap.size ≤ W.heap.size) W ∧ Reads W a1.heap.size 1 Aa1 (n + (uencB (zig k)).length) (byteCells (bs ++ (uencB (zig k)))) ∧ a1.heap.size ≤ W.heap.size) a1 := ⟨hHeld, hRa1, Nat.le_refl _⟩
  refine takeH 13 (v := ?v13u12) rfl (by kernel_rfl) (by kernel_rfl) (by kernel_rfl) rfl (fun _ _ _ h => h) (Or.inl ⟨by rfl, ?y13u12⟩) hHeld ?r13u12
  case y13u12 => (intro W hSW; (try dsimp only at hSW); have hcv := conv_reads hSW.2.1 ca1; go_simp; try with_reducible rfl)
  simp only [Act.put, List.setIfInBounds_toArray, List.set_cons_zero, List.set_cons_succ]
  refine wpAnyH_ready (rs := [16]) (by kernel_rfl) (by simp) ?_
  refine AllReadyH.cons rfl (fun K hK => ?_) AllReadyH.nil
  go_simp
  refine (rPutInt_c A n c w.heap.size bs k hk1 hk2 _ (HR.out.below (HB.out.trans (Below.mono hHeld.1.1 HB.out.size))) (Nat.le_trans HB.out.size (Below.size hHeld.1.1)) (by omega)).mono ?_
  rintro e b1 ⟨vb1, rfl, hownb1, hbb1⟩
  obtain ⟨Ab1, cb1, rfl, _, _, _, hRb1⟩ := own_reads hownb1
  have hcvb1 := conv_reads hRb1 cb1
  refine hK.out _ _ ⟨⟨(Below.trans hHeld.1.1 (Below.mono hbb1 (Below.size hHeld.1.1))), hHeld.1.2.1.below (Below.mono hbb1 hHeld.1.2.2), Nat.le_trans hHeld.1.2.2 (Below.size hbb1)⟩, hHeld.2.1.below (Below.mono hbb1 hHeld.2.2), Nat.le_trans hHeld.2.2 (Below.size hbb1)⟩ (fun hHeld => ?_)
  clear hK K
  try simp only [Act.put, List.setIfInBounds_toArray, List.set_cons_zero, List.set_cons_succ]
  refine wpAnyH_ready (rs := [17]) (by kernel_rfl) (by simp) ?_
  refine AllReadyH.cons rfl (fun K hK => ?_) AllReadyH.nil
  go_simp
  refine hK.out _ _ hHeld (fun hHeld => ?_)
  clear hK K
  try simp only [Act.put, List.setIfInBounds_toArray, List.set_cons_zero, List.set_cons_succ]
  clear hcvb1 hRb1 hownb1 hbb1 howna1 hba1
  refine takeH 18 (v := ?v18u13) rfl (by kernel_rfl) (by kernel_rfl) (by kernel_rfl) rfl (fun _ _ _ h => h) (Or.inl ⟨by rfl, ?y18u13⟩) hHeld ?r18u13
  case y18u13 => (intro W hSW; (try dsimp only at hSW); go_simp; try with_reducible rfl)
  simp only [Act.put, List.setIfInBounds_toArray, List.set_cons_zero, List.set_cons_succ]
  refine takeH 19 (v := ?v19u14) rfl (by kernel_rfl) (by kernel_rfl) (by kernel_rfl) rfl (fun _ _ _ h => h) (Or.inl ⟨by rfl, ?y19u14⟩) hHeld ?r19u14
  case y19u14 => (intro W hSW; (try dsimp only at hSW); go_simp; try with_reducible rfl)
  simp only [Act.put, List.setIfInBounds_toArray, List.set_cons_zero, List.set_cons_succ]
  refine takeH 20 (v := ?v20u15) rfl (by kernel_rfl) (by kernel_rfl) (by kernel_rfl) rfl (fun _ _ _ h => h) (Or.inl ⟨by rfl, ?y20u15⟩) hHeld ?r20u15
  case y20u15 => (intro W hSW; (try dsimp only at hSW); go_simp; try with_reducible rfl)
  simp only [Act.put, List.setIfInBounds_toArray, List.set_cons_zero, List.set_cons_succ]
  refine takeH 21 (v := ?v21u16) rfl (by kernel_rfl) (by kernel_rfl) (by kernel_rfl) rfl (fun _ _ _ h => h) (Or.inl ⟨by rfl, ?y21u16⟩) hHeld ?r21u16
  case y21u16 => (intro W hSW; (try dsimp only at hSW); go_simp; try with_reducible rfl)
  simp only [Act.put, List.setIfInBounds_toArray, List.set_cons_zero, List.set_cons_succ]
  refine takeH 22 (v := ?v22u17) rfl (by kernel_rfl) (by kernel_rfl) (by kernel_rfl) rfl (fun _ _ _ h => h) (Or.inl ⟨by rfl, ?y22u17⟩) hHeld ?r22u17
  case y22u17 => (intro W hSW; (try dsimp only at hSW); go_simp; try with_reducible rfl)
  simp only [Act.put, List.setIfInBounds_toArray, List.set_cons_zero, List.set_cons_succ]
  refine takeH 25 (v := ?v25u18) rfl (by kernel_rfl) (by kernel_rfl) (by kernel_rfl) rfl (fun _ _ _ h => h) (Or.inl ⟨by rfl, ?y25u18⟩) hHeld ?r25u18
  case y25u18 => (intro W hSW; (try dsimp only at hSW); go_simp; try with_reducible rfl)
  simp only [Act.put, List.setIfInBounds_toArray, List.set_cons_zero, List.set_cons_succ]
  refine takeH 26 (v := ?v26u19) rfl (by kernel_rfl) (by kernel_rfl) (by kernel_rfl) rfl (fun _ _ _ h => h) (Or.inl ⟨by rfl, ?y26u19⟩) hHeld ?r26u19
  case y26u19 => (intro W hSW; (try dsimp only at hSW); go_simp; try with_reducible rfl)
  simp only [Act.put, List.setIfInBounds_toArray, List.set_cons_zero, List.set_cons_succ]
  refine wpAnyH_ready (rs := [23]) (by kernel_rfl) (by simp) ?_
  refine AllReadyH.cons rfl (fun K hK => ?_) AllReadyH.nil
  go_simp
  refine (PutText_c A n c w.heap.size bs l _ (HR.out.below (HB.out.trans (Below.mono hHeld.1.1 HB.out.size))) (Nat.le_trans HB.out.size (Below.size hHeld.1.1)) (by omega) (by omega)).mono ?_
  rintro e a2 ⟨va2, rfl, howna2, hba2⟩
  obtain ⟨Aa2, ca2, rfl, _, _, _, hRa2⟩ := own_reads howna2
  refine hK.out _ _ ⟨⟨(Below.trans hHeld.1.1 (Below.mono hba2 (Below.size hHeld.1.1))), hHeld.1.2.1.below (Below.mono hba2 hHeld.1.2.2), Nat.le_trans hHeld.1.2.2 (Below.size hba2)⟩, hHeld.2.1.below (Below.mono hba2 hHeld.2.2), Nat.le_trans hHeld.2.2 (Below.size hba2)⟩ (fun hHeld => ?_)
  clear hK K
  try simp only [Act.put, List.setIfInBounds_toArray, List.set_cons_zero, List.set_cons_succ]
  refine wpAnyH_more (S2 := fun W => (fun W => (fun W => (fun W => Below w1.heap.size w1 W) W ∧ Reads W a0.heap.size 1 Aa0 (n + (uencB un).length) (byteCells (bs ++ (uencB un))) ∧ a0.heap.size ≤ W.heap.size) W ∧ Reads W a1.heap.size 1 Aa1 (n + (uencB (zig k)).length) (byteCells (bs ++ (uencB (zig k)))) ∧ a1.heap.size ≤ W.heap.size) W ∧ Reads W a2.heap.size 1 Aa2 (n + (textB l).length) (byteCells (bs ++ (textB l))) ∧ a2.heap.size ≤ W.heap.size) (fun W hW => hW.1) _ ?_
  replace hHeld : (fun W => (fun W => (fun W => (fun W => Below w1.heap.size w1 W) W ∧ Reads W a0.heap.size 1 Aa0 (n + (uencB un).length) (byteCells (bs ++ (uencB un))) ∧ a0.heap.size ≤ W.heap.size) W ∧ Reads W a1.heap.size 1 Aa1 (n + (uencB (zig k)).length) (byteCells (bs ++ (uencB (zig k)))) ∧ a1.heap.size ≤ W.heap.size) W ∧ Reads W a2.heap.size 1 Aa2 (n + (textB l).length) (byteCells (bs ++ (textB l))) ∧ a2.heap.size ≤ W.heap.size) a2 := ⟨hHeld, hRa2, Nat.le_refl _⟩
  refine takeH 24 (v := ?v24u20) rfl (by kernel_rfl) (by kernel_rfl) (by kernel_rfl) rfl (fun _ _ _ h => h) (Or.inl ⟨by rfl, ?y24u20⟩) hHeld ?r24u20
  case y24u20 => (intro W hSW; (try dsimp only at hSW); have hcv := conv_reads hSW.2.1 ca2; go_simp; try with_reducible rfl)
  simp only [Act.put, List.setIfInBounds_toArray, List.set_cons_zero, List.set_cons_succ]
  refine wpAnyH_ready (rs := [27]) (by kernel_rfl) (by simp) ?_
  refine AllReadyH.cons rfl (fun K hK => ?_) AllReadyH.nil
  go_simp
  refine (rPutText_c A n c w.heap.size bs l _ (HR.out.below (HB.out.trans (Below.mono hHeld.1.1.1 HB.out.size))) (Nat.le_trans HB.out.size (Below.size hHeld.1.1.1)) (by omega) (by omega)).mono ?_
  rintro e b2 ⟨vb2, rfl, hownb2, hbb2⟩
  obtain ⟨Ab2, cb2, rfl, _, _, _, hRb2⟩ := own_reads hownb2
  have hcvb2 := conv_reads hRb2 cb2
  refine hK.out _ _ ⟨⟨⟨(Below.trans hHeld.1.1.1 (Below.mono hbb2 (Below.size hHeld.1.1.1))), hHeld.1.1.2.1.below (Below.mono hbb2 hHeld.1.1.2.2), Nat.le_trans hHeld.1.1.2.2 (Below.size hbb2)⟩, hHeld.1.2.1.below (Below.mono hbb2 hHeld.1.2.2), Nat.le_trans hHeld.1.2.2 (Below.size hbb2)⟩, hHeld.2.1.below (Below.mono hbb2 hHeld.2.2), Nat.le_trans hHeld.2.2 (Below.size hbb2)⟩ (fun hHeld => ?_)
  clear hK K
  try simp only [Act.put, List.setIfInBounds_toArray, List.set_cons_zero, List.set_cons_succ]
  refine wpAnyH_ready (rs := [28]) (by kernel_rfl) (by simp) ?_
  refine AllReadyH.cons rfl (fun K hK => ?_) AllReadyH.nil
  go_simp
  refine hK.out _ _ hHeld (fun hHeld => ?_)
  clear hK K
  try simp only [Act.put, List.setIfInBounds_toArray, List.set_cons_zero, List.set_cons_succ]
  clear hcvb2 hRb2 hownb2 hbb2 howna2 hba2
  refine takeH 29 (v := ?v29u21) rfl (by kernel_rfl) (by kernel_rfl) (by kernel_rfl) rfl (fun _ _ _ h => h) (Or.inl ⟨by rfl, ?y29u21⟩) hHeld ?r29u21
  case y29u21 => (intro W hSW; (try dsimp only at hSW); go_simp; try with_reducible rfl)
  simp only [Act.put, List.setIfInBounds_toArray, List.set_cons_zero, List.set_cons_succ]
  refine takeH 30 (v := ?v30u22) rfl (by kernel_rfl) (by kernel_rfl) (by kernel_rfl) rfl (fun _ _ _ h => h) (Or.inl ⟨by rfl, ?y30u22⟩) hHeld ?r30u22
  case y30u22 => (intro W hSW; (try dsimp only at hSW); go_simp; try with_reducible rfl)
  simp only [Act.put, List.setIfInBounds_toArray, List.set_cons_zero, List.set_cons_succ]
  refine wpAnyH_done (by kernel_rfl) ?_ _
  refine NoPanic.normal ?_
  have hbR : Below w1.heap.size w1 b2 := hHeld.1.1.1
  clear hHeld hRa0 hRa1 hRa2
  have hs1 : w1.heap.size ≤ b2.heap.size := hbR.size
  have HX2 := Lib.hid (show Blk b2 w.heap.size 26 #[.slice A2 n2 c2, .int .i64 at_, .int .i64 err] from HX0.out.below hbR HX0.out.lt)
  have HB' := Lib.hid (show Below w.heap.size w b2 from HB.out.trans (hbR.mono HB.out.size))
  clear HX0 HB
  have HB := HB'
  clear HB'
  clear hbR
  have c_c_0 : b2.cell? ⟨w.heap.size, 0, none⟩ = some (.slice A2 n2 c2) := HX2.out.cell 0
  have z_c_0 : b2.frozen? ⟨w.heap.size, 0, none⟩ = false := HX2.out.frozen 0
  have c_c_1 : b2.cell? ⟨w.heap.size, 1, none⟩ = some (.int .i64 at_) := HX2.out.cell 1
  have z_c_1 : b2.frozen? ⟨w.heap.size, 1, none⟩ = false := HX2.out.frozen 1
  have c_c_2 : b2.cell? ⟨w.heap.size, 2, none⟩ = some (.int .i64 err) := HX2.out.cell 2
  have z_c_2 : b2.frozen? ⟨w.heap.size, 2, none⟩ = false := HX2.out.frozen 2
  go_wp2_with fail
  clear c_c_0 z_c_0 c_c_1 z_c_1 c_c_2 z_c_2
  refine (rRight_no A2 n2 c2 at_ err _ HRR.out).mono ?_
  rintro e w3 ⟨rfl, hb⟩
  have hs3 : b2.heap.size ≤ w3.heap.size := hb.size
  have HX4 := Lib.hid (show Blk w3 w.heap.size 26 #[.slice A2 n2 c2, .int .i64 at_, .int .i64 err] from HX2.out.below hb HX2.out.lt)
  have HB' := Lib.hid (show Below w.heap.size w w3 from HB.out.trans (hb.mono HB.out.size))
  clear HX2 HB
  have HB := HB'
  clear HB'
  clear hb
  have c_c_0 : w3.cell? ⟨w.heap.size, 0, none⟩ = some (.slice A2 n2 c2) := HX4.out.cell 0
  have z_c_0 : w3.frozen? ⟨w.heap.size, 0, none⟩ = false := HX4.out.frozen 0
  have c_c_1 : w3.cell? ⟨w.heap.size, 1, none⟩ = some (.int .i64 at_) := HX4.out.cell 1
  have z_c_1 : w3.frozen? ⟨w.heap.size, 1, none⟩ = false := HX4.out.frozen 1
  have c_c_2 : w3.cell? ⟨w.heap.size, 2, none⟩ = some (.int .i64 err) := HX4.out.cell 2
  have z_c_2 : w3.frozen? ⟨w.heap.size, 2, none⟩ = false := HX4.out.frozen 2
  go_wp2_with fail
  clear c_c_0 z_c_0 c_c_1 z_c_1 c_c_2 z_c_2
  refine (Left_no A2 n2 c2 at_ err _ HRR.out).mono ?_
  rintro e w4 ⟨rfl, hb⟩
  have hs5 : w3.heap.size ≤ w4.heap.size := hb.size
  have HX6 := Lib.hid (show Blk w4 w.heap.size 26 #[.slice A2 n2 c2, .int .i64 at_, .int .i64 err] from HX4.out.below hb HX4.out.lt)
  have HB' := Lib.hid (show Below w.heap.size w w4 from HB.out.trans (hb.mono HB.out.size))
  clear HX4 HB
  have HB := HB'
  clear HB'
  clear hb
  have c_c_0 : w4.cell? ⟨w.heap.size, 0, none⟩ = some (.slice A2 n2 c2) := HX6.out.cell 0
  have z_c_0 : w4.frozen? ⟨w.heap.size, 0, none⟩ = false := HX6.out.frozen 0
  have c_c_1 : w4.cell? ⟨w.heap.size, 1, none⟩ = some (.int .i64 at_) := HX6.out.cell 1
  have z_c_1 : w4.frozen? ⟨w.heap.size, 1, none⟩ = false := HX6.out.frozen 1
  have c_c_2 : w4.cell? ⟨w.heap.size, 2, none⟩ = some (.int .i64 err) := HX6.out.cell 2
  have z_c_2 : w4.frozen? ⟨w.heap.size, 2, none⟩ = false := HX6.out.frozen 2
  go_wp2_with fail
  clear c_c_0 z_c_0 c_c_1 z_c_1 c_c_2 z_c_2
  refine (Start_c A n c _ hnc).mono ?_
  rintro e w5 ⟨rfl, hb⟩
  have hs7 : w4.heap.size ≤ w5.heap.size := hb.size
  have HX8 := Lib.hid (show Blk w5 w.heap.size 26 #[.slice A2 n2 c2, .int .i64 at_, .int .i64 err] from HX6.out.below hb HX6.out.lt)
  have HB' := Lib.hid (show Below w.heap.size w w5 from HB.out.trans (hb.mono HB.out.size))
  clear HX6 HB
  have HB := HB'
  clear HB'
  clear hb
  have c_c_0 : w5.cell? ⟨w.heap.size, 0, none⟩ = some (.slice A2 n2 c2) := HX8.out.cell 0
  have z_c_0 : w5.frozen? ⟨w.heap.size, 0, none⟩ = false := HX8.out.frozen 0
  have c_c_1 : w5.cell? ⟨w.heap.size, 1, none⟩ = some (.int .i64 at_) := HX8.out.cell 1
  have z_c_1 : w5.frozen? ⟨w.heap.size, 1, none⟩ = false := HX8.out.frozen 1
  have c_c_2 : w5.cell? ⟨w.heap.size, 2, none⟩ = some (.int .i64 err) := HX8.out.cell 2
  have z_c_2 : w5.frozen? ⟨w.heap.size, 2, none⟩ = false := HX8.out.frozen 2
  go_wp2_with fail
  clear c_c_0 z_c_0 c_c_1 z_c_1 c_c_2 z_c_2
  refine (rSame_yes A n n A n c 0 0 bs w.heap.size w.heap.size _ (HR.out.below HB.out) HB.out.size (HR.out.below HB.out) HB.out.size).mono ?_
  rintro e w6 ⟨rfl, hb⟩
  have hs9 : w5.heap.size ≤ w6.heap.size := hb.size
  have HX10 := Lib.hid (show Blk w6 w.heap.size 26 #[.slice A2 n2 c2, .int .i64 at_, .int .i64 err] from HX8.out.below hb HX8.out.lt)
  have HB' := Lib.hid (show Below w.heap.size w w6 from HB.out.trans (hb.mono HB.out.size))
  clear HX8 HB
  have HB := HB'
  clear HB'
  clear hb
  have c_c_0 : w6.cell? ⟨w.heap.size, 0, none⟩ = some (.slice A2 n2 c2) := HX10.out.cell 0
  have z_c_0 : w6.frozen? ⟨w.heap.size, 0, none⟩ = false := HX10.out.frozen 0
  have c_c_1 : w6.cell? ⟨w.heap.size, 1, none⟩ = some (.int .i64 at_) := HX10.out.cell 1
  have z_c_1 : w6.frozen? ⟨w.heap.size, 1, none⟩ = false := HX10.out.frozen 1
  have c_c_2 : w6.cell? ⟨w.heap.size, 2, none⟩ = some (.int .i64 err) := HX10.out.cell 2
  have z_c_2 : w6.frozen? ⟨w.heap.size, 2, none⟩ = false := HX10.out.frozen 2
  go_wp2_with fail
  clear c_c_0 z_c_0 c_c_1 z_c_1 c_c_2 z_c_2
  refine (Uint_v A2 n2 c2 at_ err bs2 w.heap.size _ (HR2.out.below HB.out) HB.out.size hnc2 hcm2 (by omega) x1 y1 v1 HU.out).mono ?_
  rintro e w7 ⟨rfl, hb⟩
  have hs11 : w6.heap.size ≤ w7.heap.size := hb.size
  have HX12 := Lib.hid (show Blk w7 w.heap.size 26 #[.slice A2 n2 c2, .int .i64 at_, .int .i64 err] from HX10.out.below hb HX10.out.lt)
  have HB' := Lib.hid (show Below w.heap.size w w7 from HB.out.trans (hb.mono HB.out.size))
  clear HX10 HB
  have HB := HB'
  clear HB'
  clear hb
  have HX14 := Lib.hid (Blk.new w7 26 #[.slice A2 n2 c2, .int .i64 x1, .int .i64 y1])
  have HX12a := Lib.hid (HX12.out.alloc (.cells #[.slice A2 n2 c2, .int .i64 x1, .int .i64 y1] 26))
  have HBa := Lib.hid (HB.out.alloc HB.out.size (.cells #[.slice A2 n2 c2, .int .i64 x1, .int .i64 y1] 26))
  have hs15 : w7.heap.size < (w7.alloc (.cells #[.slice A2 n2 c2, .int .i64 x1, .int .i64 y1] 26)).heap.size := by simp
  have af0 : (w7.alloc (.cells #[.slice A2 n2 c2, .int .i64 x1, .int .i64 y1] 26)).cell? ⟨w.heap.size, 0, none⟩ = some (.slice A2 n2 c2) := HX12a.out.cell 0
  have af1 : (w7.alloc (.cells #[.slice A2 n2 c2, .int .i64 x1, .int .i64 y1] 26)).cell? ⟨w.heap.size, 1, none⟩ = some (.int .i64 at_) := HX12a.out.cell 1
  have af2 : (w7.alloc (.cells #[.slice A2 n2 c2, .int .i64 x1, .int .i64 y1] 26)).cell? ⟨w.heap.size, 2, none⟩ = some (.int .i64 err) := HX12a.out.cell 2
  go_wp2_with fail
  clear af0 af1 af2
  generalize w7.alloc (.cells #[.slice A2 n2 c2, .int .i64 x1, .int .i64 y1] 26) = wa13 at HX12a HX14 HBa hs15 ⊢
  clear HX12 HB
  have HB := HBa
  clear HBa
  refine (rUint_v A2 n2 c2 at_ err bs2 w.heap.size _ (HR2.out.below HB.out) HB.out.size hnc2 hcm2 (by omega) x1 y1 v1 HU.out).mono ?_
  rintro e w8 ⟨rfl, hb⟩
  have hs16 : wa13.heap.size ≤ w8.heap.size := hb.size
  have HX17 := Lib.hid (show Blk w8 w.heap.size 26 #[.slice A2 n2 c2, .int .i64 at_, .int .i64 err] from HX12a.out.below hb HX12a.out.lt)
  have HX18 := Lib.hid (show Blk w8 w7.heap.size 26 #[.slice A2 n2 c2, .int .i64 x1, .int .i64 y1] from HX14.out.below hb HX14.out.lt)
  have HB' := Lib.hid (show Below w.heap.size w w8 from HB.out.trans (hb.mono HB.out.size))
  clear HX12a HX14 HB
  have HB := HB'
  clear HB'
  clear hb
  have HX20 := Lib.hid (Blk.new w8 26 #[.slice A2 n2 c2, .int .i64 x1, .int .i64 y1])
  have HX17a := Lib.hid (HX17.out.alloc (.cells #[.slice A2 n2 c2, .int .i64 x1, .int .i64 y1] 26))
  have HX18a := Lib.hid (HX18.out.alloc (.cells #[.slice A2 n2 c2, .int .i64 x1, .int .i64 y1] 26))
  have HBa := Lib.hid (HB.out.alloc HB.out.size (.cells #[.slice A2 n2 c2, .int .i64 x1, .int .i64 y1] 26))
  have hs21 : w8.heap.size < (w8.alloc (.cells #[.slice A2 n2 c2, .int .i64 x1, .int .i64 y1] 26)).heap.size := by simp
  have af0 : (w8.alloc (.cells #[.slice A2 n2 c2, .int .i64 x1, .int .i64 y1] 26)).cell? ⟨w7.heap.size, 0, none⟩ = some (.slice A2 n2 c2) := HX18a.out.cell 0
  have af1 : (w8.alloc (.cells #[.slice A2 n2 c2, .int .i64 x1, .int .i64 y1] 26)).cell? ⟨w7.heap.size, 1, none⟩ = some (.int .i64 x1) := HX18a.out.cell 1
  have af2 : (w8.alloc (.cells #[.slice A2 n2 c2, .int .i64 x1, .int .i64 y1] 26)).cell? ⟨w7.heap.size, 2, none⟩ = some (.int .i64 y1) := HX18a.out.cell 2
  go_wp2_with fail
  clear af0 af1 af2
  generalize w8.alloc (.cells #[.slice A2 n2 c2, .int .i64 x1, .int .i64 y1] 26) = wa19 at HX17a HX18a HX20 HBa hs21 ⊢
  clear HX17 HX18 HB
  have HB := HBa
  clear HBa
  refine (rSame_yes A2 n2 c2 A2 n2 c2 x1 y1 bs2 w.heap.size w.heap.size _ (HR2.out.below HB.out) HB.out.size (HR2.out.below HB.out) HB.out.size).mono ?_
  rintro e w9 ⟨rfl, hb⟩
  have hs22 : wa19.heap.size ≤ w9.heap.size := hb.size
  have HX23 := Lib.hid (show Blk w9 w.heap.size 26 #[.slice A2 n2 c2, .int .i64 at_, .int .i64 err] from HX17a.out.below hb HX17a.out.lt)
  have HX24 := Lib.hid (show Blk w9 w7.heap.size 26 #[.slice A2 n2 c2, .int .i64 x1, .int .i64 y1] from HX18a.out.below hb HX18a.out.lt)
  have HX25 := Lib.hid (show Blk w9 w8.heap.size 26 #[.slice A2 n2 c2, .int .i64 x1, .int .i64 y1] from HX20.out.below hb HX20.out.lt)
  have HB' := Lib.hid (show Below w.heap.size w w9 from HB.out.trans (hb.mono HB.out.size))
  clear HX17a HX18a HX20 HB
  have HB := HB'
  clear HB'
  clear hb
  have c_c_0 : w9.cell? ⟨w.heap.size, 0, none⟩ = some (.slice A2 n2 c2) := HX23.out.cell 0
  have z_c_0 : w9.frozen? ⟨w.heap.size, 0, none⟩ = false := HX23.out.frozen 0
  have c_c_1 : w9.cell? ⟨w.heap.size, 1, none⟩ = some (.int .i64 at_) := HX23.out.cell 1
  have z_c_1 : w9.frozen? ⟨w.heap.size, 1, none⟩ = false := HX23.out.frozen 1
  have c_c_2 : w9.cell? ⟨w.heap.size, 2, none⟩ = some (.int .i64 err) := HX23.out.cell 2
  have z_c_2 : w9.frozen? ⟨w.heap.size, 2, none⟩ = false := HX23.out.frozen 2
  have c_x_0 : w9.cell? ⟨w7.heap.size, 0, none⟩ = some (.slice A2 n2 c2) := HX24.out.cell 0
  have z_x_0 : w9.frozen? ⟨w7.heap.size, 0, none⟩ = false := HX24.out.frozen 0
  have c_x_1 : w9.cell? ⟨w7.heap.size, 1, none⟩ = some (.int .i64 x1) := HX24.out.cell 1
  have z_x_1 : w9.frozen? ⟨w7.heap.size, 1, none⟩ = false := HX24.out.frozen 1
  have c_x_2 : w9.cell? ⟨w7.heap.size, 2, none⟩ = some (.int .i64 y1) := HX24.out.cell 2
  have z_x_2 : w9.frozen? ⟨w7.heap.size, 2, none⟩ = false := HX24.out.frozen 2
  have c_y_0 : w9.cell? ⟨w8.heap.size, 0, none⟩ = some (.slice A2 n2 c2) := HX25.out.cell 0
  have z_y_0 : w9.frozen? ⟨w8.heap.size, 0, none⟩ = false := HX25.out.frozen 0
  have c_y_1 : w9.cell? ⟨w8.heap.size, 1, none⟩ = some (.int .i64 x1) := HX25.out.cell 1
  have z_y_1 : w9.frozen? ⟨w8.heap.size, 1, none⟩ = false := HX25.out.frozen 1
  have c_y_2 : w9.cell? ⟨w8.heap.size, 2, none⟩ = some (.int .i64 y1) := HX25.out.cell 2
  have z_y_2 : w9.frozen? ⟨w8.heap.size, 2, none⟩ = false := HX25.out.frozen 2
  go_wp2_with fail
  clear c_c_0 z_c_0 c_c_1 z_c_1 c_c_2 z_c_2 c_x_0 z_x_0 c_x_1 z_x_1 c_x_2 z_x_2 c_y_0 z_y_0 c_y_1 z_y_1 c_y_2 z_y_2
  refine (Int_v A2 n2 c2 at_ err bs2 w.heap.size _ (HR2.out.below HB.out) HB.out.size hnc2 hcm2 (by omega) x1 y1 v1 HU.out).mono ?_
  rintro e w10 ⟨rfl, hb⟩
  have hs26 : w9.heap.size ≤ w10.heap.size := hb.size
  have HX27 := Lib.hid (show Blk w10 w.heap.size 26 #[.slice A2 n2 c2, .int .i64 at_, .int .i64 err] from HX23.out.below hb HX23.out.lt)
  have HX28 := Lib.hid (show Blk w10 w7.heap.size 26 #[.slice A2 n2 c2, .int .i64 x1, .int .i64 y1] from HX24.out.below hb HX24.out.lt)
  have HX29 := Lib.hid (show Blk w10 w8.heap.size 26 #[.slice A2 n2 c2, .int .i64 x1, .int .i64 y1] from HX25.out.below hb HX25.out.lt)
  have HB' := Lib.hid (show Below w.heap.size w w10 from HB.out.trans (hb.mono HB.out.size))
  clear HX23 HX24 HX25 HB
  have HB := HB'
  clear HB'
  clear hb
  have c_c_0 : w10.cell? ⟨w.heap.size, 0, none⟩ = some (.slice A2 n2 c2) := HX27.out.cell 0
  have z_c_0 : w10.frozen? ⟨w.heap.size, 0, none⟩ = false := HX27.out.frozen 0
  have c_c_1 : w10.cell? ⟨w.heap.size, 1, none⟩ = some (.int .i64 at_) := HX27.out.cell 1
  have z_c_1 : w10.frozen? ⟨w.heap.size, 1, none⟩ = false := HX27.out.frozen 1
  have c_c_2 : w10.cell? ⟨w.heap.size, 2, none⟩ = some (.int .i64 err) := HX27.out.cell 2
  have z_c_2 : w10.frozen? ⟨w.heap.size, 2, none⟩ = false := HX27.out.frozen 2
  have c_x_0 : w10.cell? ⟨w7.heap.size, 0, none⟩ = some (.slice A2 n2 c2) := HX28.out.cell 0
  have z_x_0 : w10.frozen? ⟨w7.heap.size, 0, none⟩ = false := HX28.out.frozen 0
  have c_x_1 : w10.cell? ⟨w7.heap.size, 1, none⟩ = some (.int .i64 x1) := HX28.out.cell 1
  have z_x_1 : w10.frozen? ⟨w7.heap.size, 1, none⟩ = false := HX28.out.frozen 1
  have c_x_2 : w10.cell? ⟨w7.heap.size, 2, none⟩ = some (.int .i64 y1) := HX28.out.cell 2
  have z_x_2 : w10.frozen? ⟨w7.heap.size, 2, none⟩ = false := HX28.out.frozen 2
  have c_y_0 : w10.cell? ⟨w8.heap.size, 0, none⟩ = some (.slice A2 n2 c2) := HX29.out.cell 0
  have z_y_0 : w10.frozen? ⟨w8.heap.size, 0, none⟩ = false := HX29.out.frozen 0
  have c_y_1 : w10.cell? ⟨w8.heap.size, 1, none⟩ = some (.int .i64 x1) := HX29.out.cell 1
  have z_y_1 : w10.frozen? ⟨w8.heap.size, 1, none⟩ = false := HX29.out.frozen 1
  have c_y_2 : w10.cell? ⟨w8.heap.size, 2, none⟩ = some (.int .i64 y1) := HX29.out.cell 2
  have z_y_2 : w10.frozen? ⟨w8.heap.size, 2, none⟩ = false := HX29.out.frozen 2
  go_wp2_with fail
  have HX28s := Lib.hid (show Blk (((w10.setCell ⟨w7.heap.size, 0, none⟩ (.slice A2 n2 c2)).setCell ⟨w7.heap.size, 1, none⟩ (.int .i64 x1)).setCell ⟨w7.heap.size, 2, none⟩ (.int .i64 y1)) w7.heap.size 26 #[.slice A2 n2 c2, .int .i64 x1, .int .i64 y1] from (((HX28.out.set_ 0 _).set_ 1 _).set_ 2 _))
  have HX27s := Lib.hid (show Blk (((w10.setCell ⟨w7.heap.size, 0, none⟩ (.slice A2 n2 c2)).setCell ⟨w7.heap.size, 1, none⟩ (.int .i64 x1)).setCell ⟨w7.heap.size, 2, none⟩ (.int .i64 y1)) w.heap.size 26 #[.slice A2 n2 c2, .int .i64 at_, .int .i64 err] from (((HX27.out.far (by simp; omega) _).far (by simp; omega) _).far (by simp; omega) _))
  have HX29s := Lib.hid (show Blk (((w10.setCell ⟨w7.heap.size, 0, none⟩ (.slice A2 n2 c2)).setCell ⟨w7.heap.size, 1, none⟩ (.int .i64 x1)).setCell ⟨w7.heap.size, 2, none⟩ (.int .i64 y1)) w8.heap.size 26 #[.slice A2 n2 c2, .int .i64 x1, .int .i64 y1] from (((HX29.out.far (by simp; omega) _).far (by simp; omega) _).far (by simp; omega) _))
  have HBs := Lib.hid (show Below w.heap.size w (((w10.setCell ⟨w7.heap.size, 0, none⟩ (.slice A2 n2 c2)).setCell ⟨w7.heap.size, 1, none⟩ (.int .i64 x1)).setCell ⟨w7.heap.size, 2, none⟩ (.int .i64 y1)) from (((HB.out.setCell (by simp; omega) _).setCell (by simp; omega) _).setCell (by simp; omega) _))
  have hs31 : w10.heap.size ≤ (((w10.setCell ⟨w7.heap.size, 0, none⟩ (.slice A2 n2 c2)).setCell ⟨w7.heap.size, 1, none⟩ (.int .i64 x1)).setCell ⟨w7.heap.size, 2, none⟩ (.int .i64 y1)).heap.size := by simp [World.setCell]
  clear c_c_0 z_c_0 c_c_1 z_c_1 c_c_2 z_c_2 c_x_0 z_x_0 c_x_1 z_x_1 c_x_2 z_x_2 c_y_0 z_y_0 c_y_1 z_y_1 c_y_2 z_y_2
  generalize ((w10.setCell ⟨w7.heap.size, 0, none⟩ (.slice A2 n2 c2)).setCell ⟨w7.heap.size, 1, none⟩ (.int .i64 x1)).setCell ⟨w7.heap.size, 2, none⟩ (.int .i64 y1) = wt30 at HX28s HX27s HX29s HBs hs31 ⊢
  clear HX27 HX28 HX29 HB
  have HB := HBs
  clear HBs
  refine (rInt_v A2 n2 c2 at_ err bs2 w.heap.size _ (HR2.out.below HB.out) HB.out.size hnc2 hcm2 (by omega) x1 y1 v1 HU.out).mono ?_
  rintro e w11 ⟨rfl, hb⟩
  have hs32 : wt30.heap.size ≤ w11.heap.size := hb.size
  have HX33 := Lib.hid (show Blk w11 w.heap.size 26 #[.slice A2 n2 c2, .int .i64 at_, .int .i64 err] from HX27s.out.below hb HX27s.out.lt)
  have HX34 := Lib.hid (show Blk w11 w7.heap.size 26 #[.slice A2 n2 c2, .int .i64 x1, .int .i64 y1] from HX28s.out.below hb HX28s.out.lt)
  have HX35 := Lib.hid (show Blk w11 w8.heap.size 26 #[.slice A2 n2 c2, .int .i64 x1, .int .i64 y1] from HX29s.out.below hb HX29s.out.lt)
  have HB' := Lib.hid (show Below w.heap.size w w11 from HB.out.trans (hb.mono HB.out.size))
  clear HX27s HX28s HX29s HB
  have HB := HB'
  clear HB'
  clear hb
  have c_c_0 : w11.cell? ⟨w.heap.size, 0, none⟩ = some (.slice A2 n2 c2) := HX33.out.cell 0
  have z_c_0 : w11.frozen? ⟨w.heap.size, 0, none⟩ = false := HX33.out.frozen 0
  have c_c_1 : w11.cell? ⟨w.heap.size, 1, none⟩ = some (.int .i64 at_) := HX33.out.cell 1
  have z_c_1 : w11.frozen? ⟨w.heap.size, 1, none⟩ = false := HX33.out.frozen 1
  have c_c_2 : w11.cell? ⟨w.heap.size, 2, none⟩ = some (.int .i64 err) := HX33.out.cell 2
  have z_c_2 : w11.frozen? ⟨w.heap.size, 2, none⟩ = false := HX33.out.frozen 2
  have c_x_0 : w11.cell? ⟨w7.heap.size, 0, none⟩ = some (.slice A2 n2 c2) := HX34.out.cell 0
  have z_x_0 : w11.frozen? ⟨w7.heap.size, 0, none⟩ = false := HX34.out.frozen 0
  have c_x_1 : w11.cell? ⟨w7.heap.size, 1, none⟩ = some (.int .i64 x1) := HX34.out.cell 1
  have z_x_1 : w11.frozen? ⟨w7.heap.size, 1, none⟩ = false := HX34.out.frozen 1
  have c_x_2 : w11.cell? ⟨w7.heap.size, 2, none⟩ = some (.int .i64 y1) := HX34.out.cell 2
  have z_x_2 : w11.frozen? ⟨w7.heap.size, 2, none⟩ = false := HX34.out.frozen 2
  have c_y_0 : w11.cell? ⟨w8.heap.size, 0, none⟩ = some (.slice A2 n2 c2) := HX35.out.cell 0
  have z_y_0 : w11.frozen? ⟨w8.heap.size, 0, none⟩ = false := HX35.out.frozen 0
  have c_y_1 : w11.cell? ⟨w8.heap.size, 1, none⟩ = some (.int .i64 x1) := HX35.out.cell 1
  have z_y_1 : w11.frozen? ⟨w8.heap.size, 1, none⟩ = false := HX35.out.frozen 1
  have c_y_2 : w11.cell? ⟨w8.heap.size, 2, none⟩ = some (.int .i64 y1) := HX35.out.cell 2
  have z_y_2 : w11.frozen? ⟨w8.heap.size, 2, none⟩ = false := HX35.out.frozen 2
  go_wp2_with fail
  have HX35s := Lib.hid (show Blk (((w11.setCell ⟨w8.heap.size, 0, none⟩ (.slice A2 n2 c2)).setCell ⟨w8.heap.size, 1, none⟩ (.int .i64 x1)).setCell ⟨w8.heap.size, 2, none⟩ (.int .i64 y1)) w8.heap.size 26 #[.slice A2 n2 c2, .int .i64 x1, .int .i64 y1] from (((HX35.out.set_ 0 _).set_ 1 _).set_ 2 _))
  have HX33s := Lib.hid (show Blk (((w11.setCell ⟨w8.heap.size, 0, none⟩ (.slice A2 n2 c2)).setCell ⟨w8.heap.size, 1, none⟩ (.int .i64 x1)).setCell ⟨w8.heap.size, 2, none⟩ (.int .i64 y1)) w.heap.size 26 #[.slice A2 n2 c2, .int .i64 at_, .int .i64 err] from (((HX33.out.far (by simp; omega) _).far (by simp; omega) _).far (by simp; omega) _))
  have HX34s := Lib.hid (show Blk (((w11.setCell ⟨w8.heap.size, 0, none⟩ (.slice A2 n2 c2)).setCell ⟨w8.heap.size, 1, none⟩ (.int .i64 x1)).setCell ⟨w8.heap.size, 2, none⟩ (.int .i64 y1)) w7.heap.size 26 #[.slice A2 n2 c2, .int .i64 x1, .int .i64 y1] from (((HX34.out.far (by simp; omega) _).far (by simp; omega) _).far (by simp; omega) _))
  have HBs := Lib.hid (show Below w.heap.size w (((w11.setCell ⟨w8.heap.size, 0, none⟩ (.slice A2 n2 c2)).setCell ⟨w8.heap.size, 1, none⟩ (.int .i64 x1)).setCell ⟨w8.heap.size, 2, none⟩ (.int .i64 y1)) from (((HB.out.setCell (by simp; omega) _).setCell (by simp; omega) _).setCell (by simp; omega) _))
  have hs37 : w11.heap.size ≤ (((w11.setCell ⟨w8.heap.size, 0, none⟩ (.slice A2 n2 c2)).setCell ⟨w8.heap.size, 1, none⟩ (.int .i64 x1)).setCell ⟨w8.heap.size, 2, none⟩ (.int .i64 y1)).heap.size := by simp [World.setCell]
  clear c_c_0 z_c_0 c_c_1 z_c_1 c_c_2 z_c_2 c_x_0 z_x_0 c_x_1 z_x_1 c_x_2 z_x_2 c_y_0 z_y_0 c_y_1 z_y_1 c_y_2 z_y_2
  generalize ((w11.setCell ⟨w8.heap.size, 0, none⟩ (.slice A2 n2 c2)).setCell ⟨w8.heap.size, 1, none⟩ (.int .i64 x1)).setCell ⟨w8.heap.size, 2, none⟩ (.int .i64 y1) = wt36 at HX35s HX33s HX34s HBs hs37 ⊢
  clear HX33 HX34 HX35 HB
  have HB := HBs
  clear HBs
  refine (rSame_yes A2 n2 c2 A2 n2 c2 x1 y1 bs2 w.heap.size w.heap.size _ (HR2.out.below HB.out) HB.out.size (HR2.out.below HB.out) HB.out.size).mono ?_
  rintro e w12 ⟨rfl, hb⟩
  have hs38 : wt36.heap.size ≤ w12.heap.size := hb.size
  have HX39 := Lib.hid (show Blk w12 w.heap.size 26 #[.slice A2 n2 c2, .int .i64 at_, .int .i64 err] from HX33s.out.below hb HX33s.out.lt)
  have HX40 := Lib.hid (show Blk w12 w7.heap.size 26 #[.slice A2 n2 c2, .int .i64 x1, .int .i64 y1] from HX34s.out.below hb HX34s.out.lt)
  have HX41 := Lib.hid (show Blk w12 w8.heap.size 26 #[.slice A2 n2 c2, .int .i64 x1, .int .i64 y1] from HX35s.out.below hb HX35s.out.lt)
  have HB' := Lib.hid (show Below w.heap.size w w12 from HB.out.trans (hb.mono HB.out.size))
  clear HX33s HX34s HX35s HB
  have HB := HB'
  clear HB'
  clear hb
  have c_c_0 : w12.cell? ⟨w.heap.size, 0, none⟩ = some (.slice A2 n2 c2) := HX39.out.cell 0
  have z_c_0 : w12.frozen? ⟨w.heap.size, 0, none⟩ = false := HX39.out.frozen 0
  have c_c_1 : w12.cell? ⟨w.heap.size, 1, none⟩ = some (.int .i64 at_) := HX39.out.cell 1
  have z_c_1 : w12.frozen? ⟨w.heap.size, 1, none⟩ = false := HX39.out.frozen 1
  have c_c_2 : w12.cell? ⟨w.heap.size, 2, none⟩ = some (.int .i64 err) := HX39.out.cell 2
  have z_c_2 : w12.frozen? ⟨w.heap.size, 2, none⟩ = false := HX39.out.frozen 2
  have c_x_0 : w12.cell? ⟨w7.heap.size, 0, none⟩ = some (.slice A2 n2 c2) := HX40.out.cell 0
  have z_x_0 : w12.frozen? ⟨w7.heap.size, 0, none⟩ = false := HX40.out.frozen 0
  have c_x_1 : w12.cell? ⟨w7.heap.size, 1, none⟩ = some (.int .i64 x1) := HX40.out.cell 1
  have z_x_1 : w12.frozen? ⟨w7.heap.size, 1, none⟩ = false := HX40.out.frozen 1
  have c_x_2 : w12.cell? ⟨w7.heap.size, 2, none⟩ = some (.int .i64 y1) := HX40.out.cell 2
  have z_x_2 : w12.frozen? ⟨w7.heap.size, 2, none⟩ = false := HX40.out.frozen 2
  have c_y_0 : w12.cell? ⟨w8.heap.size, 0, none⟩ = some (.slice A2 n2 c2) := HX41.out.cell 0
  have z_y_0 : w12.frozen? ⟨w8.heap.size, 0, none⟩ = false := HX41.out.frozen 0
  have c_y_1 : w12.cell? ⟨w8.heap.size, 1, none⟩ = some (.int .i64 x1) := HX41.out.cell 1
  have z_y_1 : w12.frozen? ⟨w8.heap.size, 1, none⟩ = false := HX41.out.frozen 1
  have c_y_2 : w12.cell? ⟨w8.heap.size, 2, none⟩ = some (.int .i64 y1) := HX41.out.cell 2
  have z_y_2 : w12.frozen? ⟨w8.heap.size, 2, none⟩ = false := HX41.out.frozen 2
  go_wp2_with fail
  clear c_c_0 z_c_0 c_c_1 z_c_1 c_c_2 z_c_2 c_x_0 z_x_0 c_x_1 z_x_1 c_x_2 z_x_2 c_y_0 z_y_0 c_y_1 z_y_1 c_y_2 z_y_2
  refine (Take_u A2 n2 c2 at_ err bs2 w.heap.size _ (HR2.out.below HB.out) HB.out.size hnc2 hcm2 (by omega) take x2 y2 l2 m2 HM.out HT.out).mono ?_
  rintro e w13 ⟨A5, c5, rfl, hR5, hb⟩
  have hs42 : w12.heap.size ≤ w13.heap.size := hb.size
  have HX43 := Lib.hid (show Blk w13 w.heap.size 26 #[.slice A2 n2 c2, .int .i64 at_, .int .i64 err] from HX39.out.below hb HX39.out.lt)
  have HX44 := Lib.hid (show Blk w13 w7.heap.size 26 #[.slice A2 n2 c2, .int .i64 x1, .int .i64 y1] from HX40.out.below hb HX40.out.lt)
  have HX45 := Lib.hid (show Blk w13 w8.heap.size 26 #[.slice A2 n2 c2, .int .i64 x1, .int .i64 y1] from HX41.out.below hb HX41.out.lt)
  have HB' := Lib.hid (show Below w.heap.size w w13 from HB.out.trans (hb.mono HB.out.size))
  clear HX39 HX40 HX41 HB
  have HB := HB'
  clear HB'
  clear hb
  have HY5 := Lib.hid hR5
  clear hR5
  have c_c_0 : w13.cell? ⟨w.heap.size, 0, none⟩ = some (.slice A2 n2 c2) := HX43.out.cell 0
  have z_c_0 : w13.frozen? ⟨w.heap.size, 0, none⟩ = false := HX43.out.frozen 0
  have c_c_1 : w13.cell? ⟨w.heap.size, 1, none⟩ = some (.int .i64 at_) := HX43.out.cell 1
  have z_c_1 : w13.frozen? ⟨w.heap.size, 1, none⟩ = false := HX43.out.frozen 1
  have c_c_2 : w13.cell? ⟨w.heap.size, 2, none⟩ = some (.int .i64 err) := HX43.out.cell 2
  have z_c_2 : w13.frozen? ⟨w.heap.size, 2, none⟩ = false := HX43.out.frozen 2
  have c_x_0 : w13.cell? ⟨w7.heap.size, 0, none⟩ = some (.slice A2 n2 c2) := HX44.out.cell 0
  have z_x_0 : w13.frozen? ⟨w7.heap.size, 0, none⟩ = false := HX44.out.frozen 0
  have c_x_1 : w13.cell? ⟨w7.heap.size, 1, none⟩ = some (.int .i64 x1) := HX44.out.cell 1
  have z_x_1 : w13.frozen? ⟨w7.heap.size, 1, none⟩ = false := HX44.out.frozen 1
  have c_x_2 : w13.cell? ⟨w7.heap.size, 2, none⟩ = some (.int .i64 y1) := HX44.out.cell 2
  have z_x_2 : w13.frozen? ⟨w7.heap.size, 2, none⟩ = false := HX44.out.frozen 2
  have c_y_0 : w13.cell? ⟨w8.heap.size, 0, none⟩ = some (.slice A2 n2 c2) := HX45.out.cell 0
  have z_y_0 : w13.frozen? ⟨w8.heap.size, 0, none⟩ = false := HX45.out.frozen 0
  have c_y_1 : w13.cell? ⟨w8.heap.size, 1, none⟩ = some (.int .i64 x1) := HX45.out.cell 1
  have z_y_1 : w13.frozen? ⟨w8.heap.size, 1, none⟩ = false := HX45.out.frozen 1
  have c_y_2 : w13.cell? ⟨w8.heap.size, 2, none⟩ = some (.int .i64 y1) := HX45.out.cell 2
  have z_y_2 : w13.frozen? ⟨w8.heap.size, 2, none⟩ = false := HX45.out.frozen 2
  go_wp2_with fail
  have HX44s := Lib.hid (show Blk (((w13.setCell ⟨w7.heap.size, 0, none⟩ (.slice A2 n2 c2)).setCell ⟨w7.heap.size, 1, none⟩ (.int .i64 x2)).setCell ⟨w7.heap.size, 2, none⟩ (.int .i64 y2)) w7.heap.size 26 #[.slice A2 n2 c2, .int .i64 x2, .int .i64 y2] from (((HX44.out.set_ 0 _).set_ 1 _).set_ 2 _))
  have HX43s := Lib.hid (show Blk (((w13.setCell ⟨w7.heap.size, 0, none⟩ (.slice A2 n2 c2)).setCell ⟨w7.heap.size, 1, none⟩ (.int .i64 x2)).setCell ⟨w7.heap.size, 2, none⟩ (.int .i64 y2)) w.heap.size 26 #[.slice A2 n2 c2, .int .i64 at_, .int .i64 err] from (((HX43.out.far (by simp; omega) _).far (by simp; omega) _).far (by simp; omega) _))
  have HX45s := Lib.hid (show Blk (((w13.setCell ⟨w7.heap.size, 0, none⟩ (.slice A2 n2 c2)).setCell ⟨w7.heap.size, 1, none⟩ (.int .i64 x2)).setCell ⟨w7.heap.size, 2, none⟩ (.int .i64 y2)) w8.heap.size 26 #[.slice A2 n2 c2, .int .i64 x1, .int .i64 y1] from (((HX45.out.far (by simp; omega) _).far (by simp; omega) _).far (by simp; omega) _))
  have HY5s := Lib.hid (show Reads (((w13.setCell ⟨w7.heap.size, 0, none⟩ (.slice A2 n2 c2)).setCell ⟨w7.heap.size, 1, none⟩ (.int .i64 x2)).setCell ⟨w7.heap.size, 2, none⟩ (.int .i64 y2)) w.heap.size 1 A5 m2 (byteCells l2) from (((HY5.out.setCell (by simp; omega) _).setCell (by simp; omega) _).setCell (by simp; omega) _))
  have HBs := Lib.hid (show Below w.heap.size w (((w13.setCell ⟨w7.heap.size, 0, none⟩ (.slice A2 n2 c2)).setCell ⟨w7.heap.size, 1, none⟩ (.int .i64 x2)).setCell ⟨w7.heap.size, 2, none⟩ (.int .i64 y2)) from (((HB.out.setCell (by simp; omega) _).setCell (by simp; omega) _).setCell (by simp; omega) _))
  have hs47 : w13.heap.size ≤ (((w13.setCell ⟨w7.heap.size, 0, none⟩ (.slice A2 n2 c2)).setCell ⟨w7.heap.size, 1, none⟩ (.int .i64 x2)).setCell ⟨w7.heap.size, 2, none⟩ (.int .i64 y2)).heap.size := by simp [World.setCell]
  clear c_c_0 z_c_0 c_c_1 z_c_1 c_c_2 z_c_2 c_x_0 z_x_0 c_x_1 z_x_1 c_x_2 z_x_2 c_y_0 z_y_0 c_y_1 z_y_1 c_y_2 z_y_2
  generalize ((w13.setCell ⟨w7.heap.size, 0, none⟩ (.slice A2 n2 c2)).setCell ⟨w7.heap.size, 1, none⟩ (.int .i64 x2)).setCell ⟨w7.heap.size, 2, none⟩ (.int .i64 y2) = wt46 at HX44s HX43s HX45s HY5s HBs hs47 ⊢
  clear HX43 HX44 HX45 HY5 HB
  have HB := HBs
  clear HBs
  have hbase : wt46.heap.size ≤ wt46.heap.size := Nat.le_refl _
  refine (rTake_u A2 n2 c2 at_ err bs2 w.heap.size _ (HR2.out.below HB.out) HB.out.size hnc2 hcm2 (by omega) take x2 y2 l2 m2 HM.out HT.out).mono ?_
  rintro e w14 ⟨A6, c6, rfl, hown6, hb⟩
  have hs48 : wt46.heap.size ≤ w14.heap.size := hb.size
  have HX49 := Lib.hid (show Blk w14 w.heap.size 26 #[.slice A2 n2 c2, .int .i64 at_, .int .i64 err] from HX43s.out.below hb HX43s.out.lt)
  have HX50 := Lib.hid (show Blk w14 w7.heap.size 26 #[.slice A2 n2 c2, .int .i64 x2, .int .i64 y2] from HX44s.out.below hb HX44s.out.lt)
  have HX51 := Lib.hid (show Blk w14 w8.heap.size 26 #[.slice A2 n2 c2, .int .i64 x1, .int .i64 y1] from HX45s.out.below hb HX45s.out.lt)
  have HY52 := Lib.hid (show Reads w14 w.heap.size 1 A5 m2 (byteCells l2) from HY5s.out.below (hb.mono (by omega)))
  have HB' := Lib.hid (show Below w.heap.size w w14 from HB.out.trans (hb.mono HB.out.size))
  clear HX43s HX44s HX45s HY5s HB
  have HB := HB'
  clear HB'
  clear hb
  have HO6 := Lib.hid hown6
  clear hown6
  have c_c_0 : w14.cell? ⟨w.heap.size, 0, none⟩ = some (.slice A2 n2 c2) := HX49.out.cell 0
  have z_c_0 : w14.frozen? ⟨w.heap.size, 0, none⟩ = false := HX49.out.frozen 0
  have c_c_1 : w14.cell? ⟨w.heap.size, 1, none⟩ = some (.int .i64 at_) := HX49.out.cell 1
  have z_c_1 : w14.frozen? ⟨w.heap.size, 1, none⟩ = false := HX49.out.frozen 1
  have c_c_2 : w14.cell? ⟨w.heap.size, 2, none⟩ = some (.int .i64 err) := HX49.out.cell 2
  have z_c_2 : w14.frozen? ⟨w.heap.size, 2, none⟩ = false := HX49.out.frozen 2
  have c_x_0 : w14.cell? ⟨w7.heap.size, 0, none⟩ = some (.slice A2 n2 c2) := HX50.out.cell 0
  have z_x_0 : w14.frozen? ⟨w7.heap.size, 0, none⟩ = false := HX50.out.frozen 0
  have c_x_1 : w14.cell? ⟨w7.heap.size, 1, none⟩ = some (.int .i64 x2) := HX50.out.cell 1
  have z_x_1 : w14.frozen? ⟨w7.heap.size, 1, none⟩ = false := HX50.out.frozen 1
  have c_x_2 : w14.cell? ⟨w7.heap.size, 2, none⟩ = some (.int .i64 y2) := HX50.out.cell 2
  have z_x_2 : w14.frozen? ⟨w7.heap.size, 2, none⟩ = false := HX50.out.frozen 2
  have c_y_0 : w14.cell? ⟨w8.heap.size, 0, none⟩ = some (.slice A2 n2 c2) := HX51.out.cell 0
  have z_y_0 : w14.frozen? ⟨w8.heap.size, 0, none⟩ = false := HX51.out.frozen 0
  have c_y_1 : w14.cell? ⟨w8.heap.size, 1, none⟩ = some (.int .i64 x1) := HX51.out.cell 1
  have z_y_1 : w14.frozen? ⟨w8.heap.size, 1, none⟩ = false := HX51.out.frozen 1
  have c_y_2 : w14.cell? ⟨w8.heap.size, 2, none⟩ = some (.int .i64 y1) := HX51.out.cell 2
  have z_y_2 : w14.frozen? ⟨w8.heap.size, 2, none⟩ = false := HX51.out.frozen 2
  have v5 := conv_reads (show Reads (((w14.setCell ⟨w8.heap.size, 0, none⟩ (.slice A2 n2 c2)).setCell ⟨w8.heap.size, 1, none⟩ (.int .i64 x2)).setCell ⟨w8.heap.size, 2, none⟩ (.int .i64 y2)) w.heap.size 1 A5 m2 (byteCells l2) from (((HY52.out.setCell (by simp; omega) _).setCell (by simp; omega) _).setCell (by simp; omega) _)) c5
  have v6 := conv_reads (Reads.of_own (show (((w14.setCell ⟨w8.heap.size, 0, none⟩ (.slice A2 n2 c2)).setCell ⟨w8.heap.size, 1, none⟩ (.int .i64 x2)).setCell ⟨w8.heap.size, 2, none⟩ (.int .i64 y2)).ownsRow wt46.heap.size 5 1 (.slice A6 m2 c6) m2 (byteCells l2) from own_far (own_far (own_far HO6.out (by simp; omega)) (by simp; omega)) (by simp; omega))) c6
  go_wp2_with fail
  clear v5 v6 HO6
  have HX51s := Lib.hid (show Blk (((w14.setCell ⟨w8.heap.size, 0, none⟩ (.slice A2 n2 c2)).setCell ⟨w8.heap.size, 1, none⟩ (.int .i64 x2)).setCell ⟨w8.heap.size, 2, none⟩ (.int .i64 y2)) w8.heap.size 26 #[.slice A2 n2 c2, .int .i64 x2, .int .i64 y2] from (((HX51.out.set_ 0 _).set_ 1 _).set_ 2 _))
  have HX49s := Lib.hid (show Blk (((w14.setCell ⟨w8.heap.size, 0, none⟩ (.slice A2 n2 c2)).setCell ⟨w8.heap.size, 1, none⟩ (.int .i64 x2)).setCell ⟨w8.heap.size, 2, none⟩ (.int .i64 y2)) w.heap.size 26 #[.slice A2 n2 c2, .int .i64 at_, .int .i64 err] from (((HX49.out.far (by simp; omega) _).far (by simp; omega) _).far (by simp; omega) _))
  have HX50s := Lib.hid (show Blk (((w14.setCell ⟨w8.heap.size, 0, none⟩ (.slice A2 n2 c2)).setCell ⟨w8.heap.size, 1, none⟩ (.int .i64 x2)).setCell ⟨w8.heap.size, 2, none⟩ (.int .i64 y2)) w7.heap.size 26 #[.slice A2 n2 c2, .int .i64 x2, .int .i64 y2] from (((HX50.out.far (by simp; omega) _).far (by simp; omega) _).far (by simp; omega) _))
  have HY52s := Lib.hid (show Reads (((w14.setCell ⟨w8.heap.size, 0, none⟩ (.slice A2 n2 c2)).setCell ⟨w8.heap.size, 1, none⟩ (.int .i64 x2)).setCell ⟨w8.heap.size, 2, none⟩ (.int .i64 y2)) w.heap.size 1 A5 m2 (byteCells l2) from (((HY52.out.setCell (by simp; omega) _).setCell (by simp; omega) _).setCell (by simp; omega) _))
  have HBs := Lib.hid (show Below w.heap.size w (((w14.setCell ⟨w8.heap.size, 0, none⟩ (.slice A2 n2 c2)).setCell ⟨w8.heap.size, 1, none⟩ (.int .i64 x2)).setCell ⟨w8.heap.size, 2, none⟩ (.int .i64 y2)) from (((HB.out.setCell (by simp; omega) _).setCell (by simp; omega) _).setCell (by simp; omega) _))
  have hs54 : w14.heap.size ≤ (((w14.setCell ⟨w8.heap.size, 0, none⟩ (.slice A2 n2 c2)).setCell ⟨w8.heap.size, 1, none⟩ (.int .i64 x2)).setCell ⟨w8.heap.size, 2, none⟩ (.int .i64 y2)).heap.size := by simp [World.setCell]
  clear c_c_0 z_c_0 c_c_1 z_c_1 c_c_2 z_c_2 c_x_0 z_x_0 c_x_1 z_x_1 c_x_2 z_x_2 c_y_0 z_y_0 c_y_1 z_y_1 c_y_2 z_y_2
  generalize ((w14.setCell ⟨w8.heap.size, 0, none⟩ (.slice A2 n2 c2)).setCell ⟨w8.heap.size, 1, none⟩ (.int .i64 x2)).setCell ⟨w8.heap.size, 2, none⟩ (.int .i64 y2) = wt53 at HX51s HX49s HX50s HY52s HBs hs54 ⊢
  clear HX49 HX50 HX51 HY52 HB
  have HB := HBs
  clear HBs
  refine (rSame_yes A2 n2 c2 A2 n2 c2 x2 y2 bs2 w.heap.size w.heap.size _ (HR2.out.below HB.out) HB.out.size (HR2.out.below HB.out) HB.out.size).mono ?_
  rintro e w15 ⟨rfl, hb⟩
  have hs55 : wt53.heap.size ≤ w15.heap.size := hb.size
  have HX56 := Lib.hid (show Blk w15 w.heap.size 26 #[.slice A2 n2 c2, .int .i64 at_, .int .i64 err] from HX49s.out.below hb HX49s.out.lt)
  have HX57 := Lib.hid (show Blk w15 w7.heap.size 26 #[.slice A2 n2 c2, .int .i64 x2, .int .i64 y2] from HX50s.out.below hb HX50s.out.lt)
  have HX58 := Lib.hid (show Blk w15 w8.heap.size 26 #[.slice A2 n2 c2, .int .i64 x2, .int .i64 y2] from HX51s.out.below hb HX51s.out.lt)
  have HY59 := Lib.hid (show Reads w15 w.heap.size 1 A5 m2 (byteCells l2) from HY52s.out.below (hb.mono (by omega)))
  have HB' := Lib.hid (show Below w.heap.size w w15 from HB.out.trans (hb.mono HB.out.size))
  clear HX49s HX50s HX51s HY52s HB
  have HB := HB'
  clear HB'
  clear hb
  have c_c_0 : w15.cell? ⟨w.heap.size, 0, none⟩ = some (.slice A2 n2 c2) := HX56.out.cell 0
  have z_c_0 : w15.frozen? ⟨w.heap.size, 0, none⟩ = false := HX56.out.frozen 0
  have c_c_1 : w15.cell? ⟨w.heap.size, 1, none⟩ = some (.int .i64 at_) := HX56.out.cell 1
  have z_c_1 : w15.frozen? ⟨w.heap.size, 1, none⟩ = false := HX56.out.frozen 1
  have c_c_2 : w15.cell? ⟨w.heap.size, 2, none⟩ = some (.int .i64 err) := HX56.out.cell 2
  have z_c_2 : w15.frozen? ⟨w.heap.size, 2, none⟩ = false := HX56.out.frozen 2
  have c_x_0 : w15.cell? ⟨w7.heap.size, 0, none⟩ = some (.slice A2 n2 c2) := HX57.out.cell 0
  have z_x_0 : w15.frozen? ⟨w7.heap.size, 0, none⟩ = false := HX57.out.frozen 0
  have c_x_1 : w15.cell? ⟨w7.heap.size, 1, none⟩ = some (.int .i64 x2) := HX57.out.cell 1
  have z_x_1 : w15.frozen? ⟨w7.heap.size, 1, none⟩ = false := HX57.out.frozen 1
  have c_x_2 : w15.cell? ⟨w7.heap.size, 2, none⟩ = some (.int .i64 y2) := HX57.out.cell 2
  have z_x_2 : w15.frozen? ⟨w7.heap.size, 2, none⟩ = false := HX57.out.frozen 2
  have c_y_0 : w15.cell? ⟨w8.heap.size, 0, none⟩ = some (.slice A2 n2 c2) := HX58.out.cell 0
  have z_y_0 : w15.frozen? ⟨w8.heap.size, 0, none⟩ = false := HX58.out.frozen 0
  have c_y_1 : w15.cell? ⟨w8.heap.size, 1, none⟩ = some (.int .i64 x2) := HX58.out.cell 1
  have z_y_1 : w15.frozen? ⟨w8.heap.size, 1, none⟩ = false := HX58.out.frozen 1
  have c_y_2 : w15.cell? ⟨w8.heap.size, 2, none⟩ = some (.int .i64 y2) := HX58.out.cell 2
  have z_y_2 : w15.frozen? ⟨w8.heap.size, 2, none⟩ = false := HX58.out.frozen 2
  go_wp2_with fail
  clear c_c_0 z_c_0 c_c_1 z_c_1 c_c_2 z_c_2 c_x_0 z_x_0 c_x_1 z_x_1 c_x_2 z_x_2 c_y_0 z_y_0 c_y_1 z_y_1 c_y_2 z_y_2
  refine (Text_v A2 n2 c2 at_ err bs2 w.heap.size _ (HR2.out.below HB.out) HB.out.size hnc2 hcm2 (by omega) most hmm x3 y3 l3 HX.out).mono ?_
  rintro e w16 ⟨rfl, hb⟩
  have hs60 : w15.heap.size ≤ w16.heap.size := hb.size
  have HX61 := Lib.hid (show Blk w16 w.heap.size 26 #[.slice A2 n2 c2, .int .i64 at_, .int .i64 err] from HX56.out.below hb HX56.out.lt)
  have HX62 := Lib.hid (show Blk w16 w7.heap.size 26 #[.slice A2 n2 c2, .int .i64 x2, .int .i64 y2] from HX57.out.below hb HX57.out.lt)
  have HX63 := Lib.hid (show Blk w16 w8.heap.size 26 #[.slice A2 n2 c2, .int .i64 x2, .int .i64 y2] from HX58.out.below hb HX58.out.lt)
  have HB' := Lib.hid (show Below w.heap.size w w16 from HB.out.trans (hb.mono HB.out.size))
  clear HX56 HX57 HX58 HB
  have HB := HB'
  clear HB'
  clear hb
  have c_c_0 : w16.cell? ⟨w.heap.size, 0, none⟩ = some (.slice A2 n2 c2) := HX61.out.cell 0
  have z_c_0 : w16.frozen? ⟨w.heap.size, 0, none⟩ = false := HX61.out.frozen 0
  have c_c_1 : w16.cell? ⟨w.heap.size, 1, none⟩ = some (.int .i64 at_) := HX61.out.cell 1
  have z_c_1 : w16.frozen? ⟨w.heap.size, 1, none⟩ = false := HX61.out.frozen 1
  have c_c_2 : w16.cell? ⟨w.heap.size, 2, none⟩ = some (.int .i64 err) := HX61.out.cell 2
  have z_c_2 : w16.frozen? ⟨w.heap.size, 2, none⟩ = false := HX61.out.frozen 2
  have c_x_0 : w16.cell? ⟨w7.heap.size, 0, none⟩ = some (.slice A2 n2 c2) := HX62.out.cell 0
  have z_x_0 : w16.frozen? ⟨w7.heap.size, 0, none⟩ = false := HX62.out.frozen 0
  have c_x_1 : w16.cell? ⟨w7.heap.size, 1, none⟩ = some (.int .i64 x2) := HX62.out.cell 1
  have z_x_1 : w16.frozen? ⟨w7.heap.size, 1, none⟩ = false := HX62.out.frozen 1
  have c_x_2 : w16.cell? ⟨w7.heap.size, 2, none⟩ = some (.int .i64 y2) := HX62.out.cell 2
  have z_x_2 : w16.frozen? ⟨w7.heap.size, 2, none⟩ = false := HX62.out.frozen 2
  have c_y_0 : w16.cell? ⟨w8.heap.size, 0, none⟩ = some (.slice A2 n2 c2) := HX63.out.cell 0
  have z_y_0 : w16.frozen? ⟨w8.heap.size, 0, none⟩ = false := HX63.out.frozen 0
  have c_y_1 : w16.cell? ⟨w8.heap.size, 1, none⟩ = some (.int .i64 x2) := HX63.out.cell 1
  have z_y_1 : w16.frozen? ⟨w8.heap.size, 1, none⟩ = false := HX63.out.frozen 1
  have c_y_2 : w16.cell? ⟨w8.heap.size, 2, none⟩ = some (.int .i64 y2) := HX63.out.cell 2
  have z_y_2 : w16.frozen? ⟨w8.heap.size, 2, none⟩ = false := HX63.out.frozen 2
  go_wp2_with fail
  have HX62s := Lib.hid (show Blk (((w16.setCell ⟨w7.heap.size, 0, none⟩ (.slice A2 n2 c2)).setCell ⟨w7.heap.size, 1, none⟩ (.int .i64 x3)).setCell ⟨w7.heap.size, 2, none⟩ (.int .i64 y3)) w7.heap.size 26 #[.slice A2 n2 c2, .int .i64 x3, .int .i64 y3] from (((HX62.out.set_ 0 _).set_ 1 _).set_ 2 _))
  have HX61s := Lib.hid (show Blk (((w16.setCell ⟨w7.heap.size, 0, none⟩ (.slice A2 n2 c2)).setCell ⟨w7.heap.size, 1, none⟩ (.int .i64 x3)).setCell ⟨w7.heap.size, 2, none⟩ (.int .i64 y3)) w.heap.size 26 #[.slice A2 n2 c2, .int .i64 at_, .int .i64 err] from (((HX61.out.far (by simp; omega) _).far (by simp; omega) _).far (by simp; omega) _))
  have HX63s := Lib.hid (show Blk (((w16.setCell ⟨w7.heap.size, 0, none⟩ (.slice A2 n2 c2)).setCell ⟨w7.heap.size, 1, none⟩ (.int .i64 x3)).setCell ⟨w7.heap.size, 2, none⟩ (.int .i64 y3)) w8.heap.size 26 #[.slice A2 n2 c2, .int .i64 x2, .int .i64 y2] from (((HX63.out.far (by simp; omega) _).far (by simp; omega) _).far (by simp; omega) _))
  have HBs := Lib.hid (show Below w.heap.size w (((w16.setCell ⟨w7.heap.size, 0, none⟩ (.slice A2 n2 c2)).setCell ⟨w7.heap.size, 1, none⟩ (.int .i64 x3)).setCell ⟨w7.heap.size, 2, none⟩ (.int .i64 y3)) from (((HB.out.setCell (by simp; omega) _).setCell (by simp; omega) _).setCell (by simp; omega) _))
  have hs65 : w16.heap.size ≤ (((w16.setCell ⟨w7.heap.size, 0, none⟩ (.slice A2 n2 c2)).setCell ⟨w7.heap.size, 1, none⟩ (.int .i64 x3)).setCell ⟨w7.heap.size, 2, none⟩ (.int .i64 y3)).heap.size := by simp [World.setCell]
  clear c_c_0 z_c_0 c_c_1 z_c_1 c_c_2 z_c_2 c_x_0 z_x_0 c_x_1 z_x_1 c_x_2 z_x_2 c_y_0 z_y_0 c_y_1 z_y_1 c_y_2 z_y_2
  generalize ((w16.setCell ⟨w7.heap.size, 0, none⟩ (.slice A2 n2 c2)).setCell ⟨w7.heap.size, 1, none⟩ (.int .i64 x3)).setCell ⟨w7.heap.size, 2, none⟩ (.int .i64 y3) = wt64 at HX62s HX61s HX63s HBs hs65 ⊢
  clear HX61 HX62 HX63 HB
  have HB := HBs
  clear HBs
  refine (rText_v A2 n2 c2 at_ err bs2 w.heap.size _ (HR2.out.below HB.out) HB.out.size hnc2 hcm2 (by omega) most hmm x3 y3 l3 HX.out).mono ?_
  rintro e w17 ⟨rfl, hb⟩
  have hs66 : wt64.heap.size ≤ w17.heap.size := hb.size
  have HX67 := Lib.hid (show Blk w17 w.heap.size 26 #[.slice A2 n2 c2, .int .i64 at_, .int .i64 err] from HX61s.out.below hb HX61s.out.lt)
  have HX68 := Lib.hid (show Blk w17 w7.heap.size 26 #[.slice A2 n2 c2, .int .i64 x3, .int .i64 y3] from HX62s.out.below hb HX62s.out.lt)
  have HX69 := Lib.hid (show Blk w17 w8.heap.size 26 #[.slice A2 n2 c2, .int .i64 x2, .int .i64 y2] from HX63s.out.below hb HX63s.out.lt)
  have HB' := Lib.hid (show Below w.heap.size w w17 from HB.out.trans (hb.mono HB.out.size))
  clear HX61s HX62s HX63s HB
  have HB := HB'
  clear HB'
  clear hb
  have c_c_0 : w17.cell? ⟨w.heap.size, 0, none⟩ = some (.slice A2 n2 c2) := HX67.out.cell 0
  have z_c_0 : w17.frozen? ⟨w.heap.size, 0, none⟩ = false := HX67.out.frozen 0
  have c_c_1 : w17.cell? ⟨w.heap.size, 1, none⟩ = some (.int .i64 at_) := HX67.out.cell 1
  have z_c_1 : w17.frozen? ⟨w.heap.size, 1, none⟩ = false := HX67.out.frozen 1
  have c_c_2 : w17.cell? ⟨w.heap.size, 2, none⟩ = some (.int .i64 err) := HX67.out.cell 2
  have z_c_2 : w17.frozen? ⟨w.heap.size, 2, none⟩ = false := HX67.out.frozen 2
  have c_x_0 : w17.cell? ⟨w7.heap.size, 0, none⟩ = some (.slice A2 n2 c2) := HX68.out.cell 0
  have z_x_0 : w17.frozen? ⟨w7.heap.size, 0, none⟩ = false := HX68.out.frozen 0
  have c_x_1 : w17.cell? ⟨w7.heap.size, 1, none⟩ = some (.int .i64 x3) := HX68.out.cell 1
  have z_x_1 : w17.frozen? ⟨w7.heap.size, 1, none⟩ = false := HX68.out.frozen 1
  have c_x_2 : w17.cell? ⟨w7.heap.size, 2, none⟩ = some (.int .i64 y3) := HX68.out.cell 2
  have z_x_2 : w17.frozen? ⟨w7.heap.size, 2, none⟩ = false := HX68.out.frozen 2
  have c_y_0 : w17.cell? ⟨w8.heap.size, 0, none⟩ = some (.slice A2 n2 c2) := HX69.out.cell 0
  have z_y_0 : w17.frozen? ⟨w8.heap.size, 0, none⟩ = false := HX69.out.frozen 0
  have c_y_1 : w17.cell? ⟨w8.heap.size, 1, none⟩ = some (.int .i64 x2) := HX69.out.cell 1
  have z_y_1 : w17.frozen? ⟨w8.heap.size, 1, none⟩ = false := HX69.out.frozen 1
  have c_y_2 : w17.cell? ⟨w8.heap.size, 2, none⟩ = some (.int .i64 y2) := HX69.out.cell 2
  have z_y_2 : w17.frozen? ⟨w8.heap.size, 2, none⟩ = false := HX69.out.frozen 2
  go_wp2_with fail
  have HX69s := Lib.hid (show Blk (((w17.setCell ⟨w8.heap.size, 0, none⟩ (.slice A2 n2 c2)).setCell ⟨w8.heap.size, 1, none⟩ (.int .i64 x3)).setCell ⟨w8.heap.size, 2, none⟩ (.int .i64 y3)) w8.heap.size 26 #[.slice A2 n2 c2, .int .i64 x3, .int .i64 y3] from (((HX69.out.set_ 0 _).set_ 1 _).set_ 2 _))
  have HX67s := Lib.hid (show Blk (((w17.setCell ⟨w8.heap.size, 0, none⟩ (.slice A2 n2 c2)).setCell ⟨w8.heap.size, 1, none⟩ (.int .i64 x3)).setCell ⟨w8.heap.size, 2, none⟩ (.int .i64 y3)) w.heap.size 26 #[.slice A2 n2 c2, .int .i64 at_, .int .i64 err] from (((HX67.out.far (by simp; omega) _).far (by simp; omega) _).far (by simp; omega) _))
  have HX68s := Lib.hid (show Blk (((w17.setCell ⟨w8.heap.size, 0, none⟩ (.slice A2 n2 c2)).setCell ⟨w8.heap.size, 1, none⟩ (.int .i64 x3)).setCell ⟨w8.heap.size, 2, none⟩ (.int .i64 y3)) w7.heap.size 26 #[.slice A2 n2 c2, .int .i64 x3, .int .i64 y3] from (((HX68.out.far (by simp; omega) _).far (by simp; omega) _).far (by simp; omega) _))
  have HBs := Lib.hid (show Below w.heap.size w (((w17.setCell ⟨w8.heap.size, 0, none⟩ (.slice A2 n2 c2)).setCell ⟨w8.heap.size, 1, none⟩ (.int .i64 x3)).setCell ⟨w8.heap.size, 2, none⟩ (.int .i64 y3)) from (((HB.out.setCell (by simp; omega) _).setCell (by simp; omega) _).setCell (by simp; omega) _))
  have hs71 : w17.heap.size ≤ (((w17.setCell ⟨w8.heap.size, 0, none⟩ (.slice A2 n2 c2)).setCell ⟨w8.heap.size, 1, none⟩ (.int .i64 x3)).setCell ⟨w8.heap.size, 2, none⟩ (.int .i64 y3)).heap.size := by simp [World.setCell]
  clear c_c_0 z_c_0 c_c_1 z_c_1 c_c_2 z_c_2 c_x_0 z_x_0 c_x_1 z_x_1 c_x_2 z_x_2 c_y_0 z_y_0 c_y_1 z_y_1 c_y_2 z_y_2
  generalize ((w17.setCell ⟨w8.heap.size, 0, none⟩ (.slice A2 n2 c2)).setCell ⟨w8.heap.size, 1, none⟩ (.int .i64 x3)).setCell ⟨w8.heap.size, 2, none⟩ (.int .i64 y3) = wt70 at HX69s HX67s HX68s HBs hs71 ⊢
  clear HX67 HX68 HX69 HB
  have HB := HBs
  clear HBs
  refine (rSame_yes A2 n2 c2 A2 n2 c2 x3 y3 bs2 w.heap.size w.heap.size _ (HR2.out.below HB.out) HB.out.size (HR2.out.below HB.out) HB.out.size).mono ?_
  rintro e w18 ⟨rfl, hb⟩
  have hs72 : wt70.heap.size ≤ w18.heap.size := hb.size
  have HX73 := Lib.hid (show Blk w18 w.heap.size 26 #[.slice A2 n2 c2, .int .i64 at_, .int .i64 err] from HX67s.out.below hb HX67s.out.lt)
  have HX74 := Lib.hid (show Blk w18 w7.heap.size 26 #[.slice A2 n2 c2, .int .i64 x3, .int .i64 y3] from HX68s.out.below hb HX68s.out.lt)
  have HX75 := Lib.hid (show Blk w18 w8.heap.size 26 #[.slice A2 n2 c2, .int .i64 x3, .int .i64 y3] from HX69s.out.below hb HX69s.out.lt)
  have HB' := Lib.hid (show Below w.heap.size w w18 from HB.out.trans (hb.mono HB.out.size))
  clear HX67s HX68s HX69s HB
  have HB := HB'
  clear HB'
  clear hb
  go_wp2
  go_ret
  exact ⟨rfl, HB.out⟩

set_option maxRecDepth 100000 in
set_option maxHeartbeats 8000000 in
theorem WireRight_yes (A : Option Addr) (n c : Nat) (bs : List UInt8) (un : Nat) (k : Int) (l : List UInt8) (A2 : Option Addr) (n2 c2 : Nat) (bs2 : List UInt8) (at_ err take most : Int) (w : World) (hun : un < 18446744073709551616) (hk1 : -9223372036854775808 ≤ k) (hk2 : k ≤ 9223372036854775807) (hmm : most ≤ 9223372036854775807) (hr : Reads w w.heap.size 1 A n (byteCells bs)) (hnc : n ≤ c) (hcm : c ≤ 9223372036854775807) (hr2 : Reads w w.heap.size 1 A2 n2 (byteCells bs2)) (hnc2 : n2 ≤ c2) (hcm2 : c2 ≤ 9223372036854775807) (hn : n ≤ 2000) (hl : l.length ≤ 2000) (hn2 : n2 ≤ 2000) (hR : 0 ≤ at_ ∧ at_ ≤ (n2 : Int) ∧ err = 0) : Calls Try.prog 3 #[.slice A n c, .int .u64 un, .int .i64 k, .string ⟨l.toArray⟩, .agg #[.slice A2 n2 c2, .int .i64 at_, .int .i64 err], .int .i64 take, .int .i64 most] w fun e w' => e = .returned (.bool true) ∧ Below w.heap.size w w' := by
  have HR := Lib.hid hr
  have HR2 := Lib.hid hr2
  clear hr hr2
  have d0 : decide ((2000 : Int) < (n : Int)) = false := by simp; omega
  have d1 : decide ((2000 : Int) < (l.length : Int)) = false := by simp; omega
  have d2 : decide ((2000 : Int) < (n2 : Int)) = false := by simp; omega
  obtain ⟨hR0, hR1, rfl⟩ := hR
  obtain ⟨⟨x1, y1, v1⟩, hu⟩ : ∃ r, uRes bs2 at_ 0 = r := ⟨_, rfl⟩
  obtain ⟨⟨x2, y2, l2⟩, ht⟩ : ∃ r, tRes bs2 at_ 0 take = r := ⟨_, rfl⟩
  obtain ⟨⟨x3, y3, l3⟩, hx⟩ : ∃ r, xRes bs2 at_ 0 most = r := ⟨_, rfl⟩
  obtain ⟨m2, hm2⟩ : ∃ m, l2.length = m := ⟨_, rfl⟩
  have HU := Lib.hid hu
  have HT := Lib.hid ht
  have HX := Lib.hid hx
  have HM := Lib.hid hm2
  clear hu ht hx hm2
  go_enter Try.func3, Try.ntmps3
  go_wp2_with fail
  refine (Wire_awake _).mono ?_
  rintro e w1 ⟨rfl, hb⟩
  have HX0 := Lib.hid ((Blk.new w 26 #[.slice A2 n2 c2, .int .i64 at_, .int .i64 0]).below hb (by simp))
  have HB := Lib.hid (show Below w.heap.size w w1 from ((Below.refl _ _).alloc (Nat.le_refl _) _).trans (hb.mono (by simp)))
  have hs0 : w.heap.size < w1.heap.size := by have := hb.size; simp at this; omega
  clear hb
  have q0 : w1.cell? ⟨w.heap.size, 0, none⟩ = some (.slice A2 n2 c2) := HX0.out.cell 0
  go_wp2
  clear q0
  refine wp_region_noPanic ?_
  refine wp_region_held_drew (S := fun W => Below w1.heap.size w1 W) (by kernel_rfl) (Below.refl _ _).drew (fun hHeld => ?_)
  refine takeH 0 (v := ?v0u23) rfl (by kernel_rfl) (by kernel_rfl) (by kernel_rfl) rfl (fun _ _ _ h => h) (Or.inl ⟨by rfl, ?y0u23⟩) hHeld ?r0u23
  case y0u23 => (intro W hSW; (try dsimp only at hSW); go_simp; try with_reducible rfl)
  simp only [Act.put, List.setIfInBounds_toArray, List.set_cons_zero, List.set_cons_succ]
  refine takeH 1 (v := ?v1u24) rfl (by kernel_rfl) (by kernel_rfl) (by kernel_rfl) rfl (fun _ _ _ h => h) (Or.inl ⟨by rfl, ?y1u24⟩) hHeld ?r1u24
  case y1u24 => (intro W hSW; (try dsimp only at hSW); go_simp; try with_reducible rfl)
  simp only [Act.put, List.setIfInBounds_toArray, List.set_cons_zero, List.set_cons_succ]
  refine takeH 4 (v := ?v4u25) rfl (by kernel_rfl) (by kernel_rfl) (by kernel_rfl) rfl (fun _ _ _ h => h) (Or.inl ⟨by rfl, ?y4u25⟩) hHeld ?r4u25
  case y4u25 => (intro W hSW; (try dsimp only at hSW); go_simp; try with_reducible rfl)
  simp only [Act.put, List.setIfInBounds_toArray, List.set_cons_zero, List.set_cons_succ]
  refine takeH 5 (v := ?v5u26) rfl (by kernel_rfl) (by kernel_rfl) (by kernel_rfl) rfl (fun _ _ _ h => h) (Or.inl ⟨by rfl, ?y5u26⟩) hHeld ?r5u26
  case y5u26 => (intro W hSW; (try dsimp only at hSW); go_simp; try with_reducible rfl)
  simp only [Act.put, List.setIfInBounds_toArray, List.set_cons_zero, List.set_cons_succ]
  refine wpAnyH_ready (rs := [2]) (by kernel_rfl) (by simp) ?_
  refine AllReadyH.cons rfl (fun K hK => ?_) AllReadyH.nil
  go_simp
  refine (PutUint_c A n c w.heap.size bs un hun _ (HR.out.below (HB.out.trans (Below.mono hHeld HB.out.size))) (Nat.le_trans HB.out.size (Below.size hHeld)) (by omega)).mono ?_
  rintro e a0 ⟨va0, rfl, howna0, hba0⟩
  obtain ⟨Aa0, ca0, rfl, _, _, _, hRa0⟩ := own_reads howna0
  refine hK.out _ _ (Below.trans hHeld (Below.mono hba0 (Below.size hHeld))) (fun hHeld => ?_)
  clear hK K
  try simp only [Act.put, List.setIfInBounds_toArray, List.set_cons_zero, List.set_cons_succ]
  refine wpAnyH_more (S2 := fun W => (fun W => Below w1.heap.size w1 W) W ∧ Reads W a0.heap.size 1 Aa0 (n + (uencB un).length) (byteCells (bs ++ (uencB un))) ∧ a0.heap.size ≤ W.heap.size) (fun W hW => hW.1) _ ?_
  replace hHeld : (fun W => (fun W => Below w1.heap.size w1 W) W ∧ Reads W a0.heap.size 1 Aa0 (n + (uencB un).length) (byteCells (bs ++ (uencB un))) ∧ a0.heap.size ≤ W.heap.size) a0 := ⟨hHeld, hRa0, Nat.le_refl _⟩
  refine takeH 3 (v := ?v3u27) rfl (by kernel_rfl) (by kernel_rfl) (by kernel_rfl) rfl (fun _ _ _ h => h) (Or.inl ⟨by rfl, ?y3u27⟩) hHeld ?r3u27
  case y3u27 => (intro W hSW; (try dsimp only at hSW); have hcv := conv_reads hSW.2.1 ca0; go_simp; try with_reducible rfl)
  simp only [Act.put, List.setIfInBounds_toArray, List.set_cons_zero, List.set_cons_succ]
  refine wpAnyH_ready (rs := [6]) (by kernel_rfl) (by simp) ?_
  refine AllReadyH.cons rfl (fun K hK => ?_) AllReadyH.nil
  go_simp
  refine (rPutUint_c A n c w.heap.size bs un hun _ (HR.out.below (HB.out.trans (Below.mono hHeld.1 HB.out.size))) (Nat.le_trans HB.out.size (Below.size hHeld.1)) (by omega)).mono ?_
  rintro e b0 ⟨vb0, rfl, hownb0, hbb0⟩
  obtain ⟨Ab0, cb0, rfl, _, _, _, hRb0⟩ := own_reads hownb0
  have hcvb0 := conv_reads hRb0 cb0
  refine hK.out _ _ ⟨(Below.trans hHeld.1 (Below.mono hbb0 (Below.size hHeld.1))), hHeld.2.1.below (Below.mono hbb0 hHeld.2.2), Nat.le_trans hHeld.2.2 (Below.size hbb0)⟩ (fun hHeld => ?_)
  clear hK K
  try simp only [Act.put, List.setIfInBounds_toArray, List.set_cons_zero, List.set_cons_succ]
  refine wpAnyH_ready (rs := [7]) (by kernel_rfl) (by simp) ?_
  refine AllReadyH.cons rfl (fun K hK => ?_) AllReadyH.nil
  go_simp
  refine hK.out _ _ hHeld (fun hHeld => ?_)
  clear hK K
  try simp only [Act.put, List.setIfInBounds_toArray, List.set_cons_zero, List.set_cons_succ]
  clear hcvb0 hRb0 hownb0 hbb0 howna0 hba0
  refine takeH 8 (v := ?v8u28) rfl (by kernel_rfl) (by kernel_rfl) (by kernel_rfl) rfl (fun _ _ _ h => h) (Or.inl ⟨by rfl, ?y8u28⟩) hHeld ?r8u28
  case y8u28 => (intro W hSW; (try dsimp only at hSW); go_simp; try with_reducible rfl)
  simp only [Act.put, List.setIfInBounds_toArray, List.set_cons_zero, List.set_cons_succ]
  refine takeH 9 (v := ?v9u29) rfl (by kernel_rfl) (by kernel_rfl) (by kernel_rfl) rfl (fun _ _ _ h => h) (Or.inl ⟨by rfl, ?y9u29⟩) hHeld ?r9u29
  case y9u29 => (intro W hSW; (try dsimp only at hSW); go_simp; try with_reducible rfl)
  simp only [Act.put, List.setIfInBounds_toArray, List.set_cons_zero, List.set_cons_succ]
  refine takeH 10 (v := ?v10u30) rfl (by kernel_rfl) (by kernel_rfl) (by kernel_rfl) rfl (fun _ _ _ h => h) (Or.inl ⟨by rfl, ?y10u30⟩) hHeld ?r10u30
  case y10u30 => (intro W hSW; (try dsimp only at hSW); go_simp; try with_reducible rfl)
  simp only [Act.put, List.setIfInBounds_toArray, List.set_cons_zero, List.set_cons_succ]
  refine takeH 11 (v := ?v11u31) rfl (by kernel_rfl) (by kernel_rfl) (by kernel_rfl) rfl (fun _ _ _ h => h) (Or.inl ⟨by rfl, ?y11u31⟩) hHeld ?r11u31
  case y11u31 => (intro W hSW; (try dsimp only at hSW); go_simp; try with_reducible rfl)
  simp only [Act.put, List.setIfInBounds_toArray, List.set_cons_zero, List.set_cons_succ]
  refine takeH 14 (v := ?v14u32) rfl (by kernel_rfl) (by kernel_rfl) (by kernel_rfl) rfl (fun _ _ _ h => h) (Or.inl ⟨by rfl, ?y14u32⟩) hHeld ?r14u32
  case y14u32 => (intro W hSW; (try dsimp only at hSW); go_simp; try with_reducible rfl)
  simp only [Act.put, List.setIfInBounds_toArray, List.set_cons_zero, List.set_cons_succ]
  refine takeH 15 (v := ?v15u33) rfl (by kernel_rfl) (by kernel_rfl) (by kernel_rfl) rfl (fun _ _ _ h => h) (Or.inl ⟨by rfl, ?y15u33⟩) hHeld ?r15u33
  case y15u33 => (intro W hSW; (try dsimp only at hSW); go_simp; try with_reducible rfl)
  simp only [Act.put, List.setIfInBounds_toArray, List.set_cons_zero, List.set_cons_succ]
  refine wpAnyH_ready (rs := [12]) (by kernel_rfl) (by simp) ?_
  refine AllReadyH.cons rfl (fun K hK => ?_) AllReadyH.nil
  go_simp
  refine (PutInt_c A n c w.heap.size bs k hk1 hk2 _ (HR.out.below (HB.out.trans (Below.mono hHeld.1 HB.out.size))) (Nat.le_trans HB.out.size (Below.size hHeld.1)) (by omega)).mono ?_
  rintro e a1 ⟨va1, rfl, howna1, hba1⟩
  obtain ⟨Aa1, ca1, rfl, _, _, _, hRa1⟩ := own_reads howna1
  refine hK.out _ _ ⟨(Below.trans hHeld.1 (Below.mono hba1 (Below.size hHeld.1))), hHeld.2.1.below (Below.mono hba1 hHeld.2.2), Nat.le_trans hHeld.2.2 (Below.size hba1)⟩ (fun hHeld => ?_)
  clear hK K
  try simp only [Act.put, List.setIfInBounds_toArray, List.set_cons_zero, List.set_cons_succ]
  refine wpAnyH_more (S2 := fun W => (fun W => (fun W => Below w1.heap.size w1 W) W ∧ Reads W a0.heap.size 1 Aa0 (n + (uencB un).length) (byteCells (bs ++ (uencB un))) ∧ a0.heap.size ≤ W.heap.size) W ∧ Reads W a1.heap.size 1 Aa1 (n + (uencB (zig k)).length) (byteCells (bs ++ (uencB (zig k)))) ∧ a1.heap.size ≤ W.heap.size) (fun W hW => hW.1) _ ?_
  replace hHeld : (fun W => (fun W => (fun W => Below w1.heap.size w1 W) W ∧ Reads W a0.heap.size 1 Aa0 (n + (uencB un).length) (byteCells (bs ++ (uencB un))) ∧ a0.heap.size ≤ W.heap.size) W ∧ Reads W a1.heap.size 1 Aa1 (n + (uencB (zig k)).length) (byteCells (bs ++ (uencB (zig k)))) ∧ a1.heap.size ≤ W.heap.size) a1 := ⟨hHeld, hRa1, Nat.le_refl _⟩
  refine takeH 13 (v := ?v13u34) rfl (by kernel_rfl) (by kernel_rfl) (by kernel_rfl) rfl (fun _ _ _ h => h) (Or.inl ⟨by rfl, ?y13u34⟩) hHeld ?r13u34
  case y13u34 => (intro W hSW; (try dsimp only at hSW); have hcv := conv_reads hSW.2.1 ca1; go_simp; try with_reducible rfl)
  simp only [Act.put, List.setIfInBounds_toArray, List.set_cons_zero, List.set_cons_succ]
  refine wpAnyH_ready (rs := [16]) (by kernel_rfl) (by simp) ?_
  refine AllReadyH.cons rfl (fun K hK => ?_) AllReadyH.nil
  go_simp
  refine (rPutInt_c A n c w.heap.size bs k hk1 hk2 _ (HR.out.below (HB.out.trans (Below.mono hHeld.1.1 HB.out.size))) (Nat.le_trans HB.out.size (Below.size hHeld.1.1)) (by omega)).mono ?_
  rintro e b1 ⟨vb1, rfl, hownb1, hbb1⟩
  obtain ⟨Ab1, cb1, rfl, _, _, _, hRb1⟩ := own_reads hownb1
  have hcvb1 := conv_reads hRb1 cb1
  refine hK.out _ _ ⟨⟨(Below.trans hHeld.1.1 (Below.mono hbb1 (Below.size hHeld.1.1))), hHeld.1.2.1.below (Below.mono hbb1 hHeld.1.2.2), Nat.le_trans hHeld.1.2.2 (Below.size hbb1)⟩, hHeld.2.1.below (Below.mono hbb1 hHeld.2.2), Nat.le_trans hHeld.2.2 (Below.size hbb1)⟩ (fun hHeld => ?_)
  clear hK K
  try simp only [Act.put, List.setIfInBounds_toArray, List.set_cons_zero, List.set_cons_succ]
  refine wpAnyH_ready (rs := [17]) (by kernel_rfl) (by simp) ?_
  refine AllReadyH.cons rfl (fun K hK => ?_) AllReadyH.nil
  go_simp
  refine hK.out _ _ hHeld (fun hHeld => ?_)
  clear hK K
  try simp only [Act.put, List.setIfInBounds_toArray, List.set_cons_zero, List.set_cons_succ]
  clear hcvb1 hRb1 hownb1 hbb1 howna1 hba1
  refine takeH 18 (v := ?v18u35) rfl (by kernel_rfl) (by kernel_rfl) (by kernel_rfl) rfl (fun _ _ _ h => h) (Or.inl ⟨by rfl, ?y18u35⟩) hHeld ?r18u35
  case y18u35 => (intro W hSW; (try dsimp only at hSW); go_simp; try with_reducible rfl)
  simp only [Act.put, List.setIfInBounds_toArray, List.set_cons_zero, List.set_cons_succ]
  refine takeH 19 (v := ?v19u36) rfl (by kernel_rfl) (by kernel_rfl) (by kernel_rfl) rfl (fun _ _ _ h => h) (Or.inl ⟨by rfl, ?y19u36⟩) hHeld ?r19u36
  case y19u36 => (intro W hSW; (try dsimp only at hSW); go_simp; try with_reducible rfl)
  simp only [Act.put, List.setIfInBounds_toArray, List.set_cons_zero, List.set_cons_succ]
  refine takeH 20 (v := ?v20u37) rfl (by kernel_rfl) (by kernel_rfl) (by kernel_rfl) rfl (fun _ _ _ h => h) (Or.inl ⟨by rfl, ?y20u37⟩) hHeld ?r20u37
  case y20u37 => (intro W hSW; (try dsimp only at hSW); go_simp; try with_reducible rfl)
  simp only [Act.put, List.setIfInBounds_toArray, List.set_cons_zero, List.set_cons_succ]
  refine takeH 21 (v := ?v21u38) rfl (by kernel_rfl) (by kernel_rfl) (by kernel_rfl) rfl (fun _ _ _ h => h) (Or.inl ⟨by rfl, ?y21u38⟩) hHeld ?r21u38
  case y21u38 => (intro W hSW; (try dsimp only at hSW); go_simp; try with_reducible rfl)
  simp only [Act.put, List.setIfInBounds_toArray, List.set_cons_zero, List.set_cons_succ]
  refine takeH 22 (v := ?v22u39) rfl (by kernel_rfl) (by kernel_rfl) (by kernel_rfl) rfl (fun _ _ _ h => h) (Or.inl ⟨by rfl, ?y22u39⟩) hHeld ?r22u39
  case y22u39 => (intro W hSW; (try dsimp only at hSW); go_simp; try with_reducible rfl)
  simp only [Act.put, List.setIfInBounds_toArray, List.set_cons_zero, List.set_cons_succ]
  refine takeH 25 (v := ?v25u40) rfl (by kernel_rfl) (by kernel_rfl) (by kernel_rfl) rfl (fun _ _ _ h => h) (Or.inl ⟨by rfl, ?y25u40⟩) hHeld ?r25u40
  case y25u40 => (intro W hSW; (try dsimp only at hSW); go_simp; try with_reducible rfl)
  simp only [Act.put, List.setIfInBounds_toArray, List.set_cons_zero, List.set_cons_succ]
  refine takeH 26 (v := ?v26u41) rfl (by kernel_rfl) (by kernel_rfl) (by kernel_rfl) rfl (fun _ _ _ h => h) (Or.inl ⟨by rfl, ?y26u41⟩) hHeld ?r26u41
  case y26u41 => (intro W hSW; (try dsimp only at hSW); go_simp; try with_reducible rfl)
  simp only [Act.put, List.setIfInBounds_toArray, List.set_cons_zero, List.set_cons_succ]
  refine wpAnyH_ready (rs := [23]) (by kernel_rfl) (by simp) ?_
  refine AllReadyH.cons rfl (fun K hK => ?_) AllReadyH.nil
  go_simp
  refine (PutText_c A n c w.heap.size bs l _ (HR.out.below (HB.out.trans (Below.mono hHeld.1.1 HB.out.size))) (Nat.le_trans HB.out.size (Below.size hHeld.1.1)) (by omega) (by omega)).mono ?_
  rintro e a2 ⟨va2, rfl, howna2, hba2⟩
  obtain ⟨Aa2, ca2, rfl, _, _, _, hRa2⟩ := own_reads howna2
  refine hK.out _ _ ⟨⟨(Below.trans hHeld.1.1 (Below.mono hba2 (Below.size hHeld.1.1))), hHeld.1.2.1.below (Below.mono hba2 hHeld.1.2.2), Nat.le_trans hHeld.1.2.2 (Below.size hba2)⟩, hHeld.2.1.below (Below.mono hba2 hHeld.2.2), Nat.le_trans hHeld.2.2 (Below.size hba2)⟩ (fun hHeld => ?_)
  clear hK K
  try simp only [Act.put, List.setIfInBounds_toArray, List.set_cons_zero, List.set_cons_succ]
  refine wpAnyH_more (S2 := fun W => (fun W => (fun W => (fun W => Below w1.heap.size w1 W) W ∧ Reads W a0.heap.size 1 Aa0 (n + (uencB un).length) (byteCells (bs ++ (uencB un))) ∧ a0.heap.size ≤ W.heap.size) W ∧ Reads W a1.heap.size 1 Aa1 (n + (uencB (zig k)).length) (byteCells (bs ++ (uencB (zig k)))) ∧ a1.heap.size ≤ W.heap.size) W ∧ Reads W a2.heap.size 1 Aa2 (n + (textB l).length) (byteCells (bs ++ (textB l))) ∧ a2.heap.size ≤ W.heap.size) (fun W hW => hW.1) _ ?_
  replace hHeld : (fun W => (fun W => (fun W => (fun W => Below w1.heap.size w1 W) W ∧ Reads W a0.heap.size 1 Aa0 (n + (uencB un).length) (byteCells (bs ++ (uencB un))) ∧ a0.heap.size ≤ W.heap.size) W ∧ Reads W a1.heap.size 1 Aa1 (n + (uencB (zig k)).length) (byteCells (bs ++ (uencB (zig k)))) ∧ a1.heap.size ≤ W.heap.size) W ∧ Reads W a2.heap.size 1 Aa2 (n + (textB l).length) (byteCells (bs ++ (textB l))) ∧ a2.heap.size ≤ W.heap.size) a2 := ⟨hHeld, hRa2, Nat.le_refl _⟩
  refine takeH 24 (v := ?v24u42) rfl (by kernel_rfl) (by kernel_rfl) (by kernel_rfl) rfl (fun _ _ _ h => h) (Or.inl ⟨by rfl, ?y24u42⟩) hHeld ?r24u42
  case y24u42 => (intro W hSW; (try dsimp only at hSW); have hcv := conv_reads hSW.2.1 ca2; go_simp; try with_reducible rfl)
  simp only [Act.put, List.setIfInBounds_toArray, List.set_cons_zero, List.set_cons_succ]
  refine wpAnyH_ready (rs := [27]) (by kernel_rfl) (by simp) ?_
  refine AllReadyH.cons rfl (fun K hK => ?_) AllReadyH.nil
  go_simp
  refine (rPutText_c A n c w.heap.size bs l _ (HR.out.below (HB.out.trans (Below.mono hHeld.1.1.1 HB.out.size))) (Nat.le_trans HB.out.size (Below.size hHeld.1.1.1)) (by omega) (by omega)).mono ?_
  rintro e b2 ⟨vb2, rfl, hownb2, hbb2⟩
  obtain ⟨Ab2, cb2, rfl, _, _, _, hRb2⟩ := own_reads hownb2
  have hcvb2 := conv_reads hRb2 cb2
  refine hK.out _ _ ⟨⟨⟨(Below.trans hHeld.1.1.1 (Below.mono hbb2 (Below.size hHeld.1.1.1))), hHeld.1.1.2.1.below (Below.mono hbb2 hHeld.1.1.2.2), Nat.le_trans hHeld.1.1.2.2 (Below.size hbb2)⟩, hHeld.1.2.1.below (Below.mono hbb2 hHeld.1.2.2), Nat.le_trans hHeld.1.2.2 (Below.size hbb2)⟩, hHeld.2.1.below (Below.mono hbb2 hHeld.2.2), Nat.le_trans hHeld.2.2 (Below.size hbb2)⟩ (fun hHeld => ?_)
  clear hK K
  try simp only [Act.put, List.setIfInBounds_toArray, List.set_cons_zero, List.set_cons_succ]
  refine wpAnyH_ready (rs := [28]) (by kernel_rfl) (by simp) ?_
  refine AllReadyH.cons rfl (fun K hK => ?_) AllReadyH.nil
  go_simp
  refine hK.out _ _ hHeld (fun hHeld => ?_)
  clear hK K
  try simp only [Act.put, List.setIfInBounds_toArray, List.set_cons_zero, List.set_cons_succ]
  clear hcvb2 hRb2 hownb2 hbb2 howna2 hba2
  refine takeH 29 (v := ?v29u43) rfl (by kernel_rfl) (by kernel_rfl) (by kernel_rfl) rfl (fun _ _ _ h => h) (Or.inl ⟨by rfl, ?y29u43⟩) hHeld ?r29u43
  case y29u43 => (intro W hSW; (try dsimp only at hSW); go_simp; try with_reducible rfl)
  simp only [Act.put, List.setIfInBounds_toArray, List.set_cons_zero, List.set_cons_succ]
  refine takeH 30 (v := ?v30u44) rfl (by kernel_rfl) (by kernel_rfl) (by kernel_rfl) rfl (fun _ _ _ h => h) (Or.inl ⟨by rfl, ?y30u44⟩) hHeld ?r30u44
  case y30u44 => (intro W hSW; (try dsimp only at hSW); go_simp; try with_reducible rfl)
  simp only [Act.put, List.setIfInBounds_toArray, List.set_cons_zero, List.set_cons_succ]
  refine wpAnyH_done (by kernel_rfl) ?_ _
  refine NoPanic.normal ?_
  have hbR : Below w1.heap.size w1 b2 := hHeld.1.1.1
  clear hHeld hRa0 hRa1 hRa2
  have hs1 : w1.heap.size ≤ b2.heap.size := hbR.size
  have HX2 := Lib.hid (show Blk b2 w.heap.size 26 #[.slice A2 n2 c2, .int .i64 at_, .int .i64 0] from HX0.out.below hbR HX0.out.lt)
  have HB' := Lib.hid (show Below w.heap.size w b2 from HB.out.trans (hbR.mono HB.out.size))
  clear HX0 HB
  have HB := HB'
  clear HB'
  clear hbR
  have c_c_0 : b2.cell? ⟨w.heap.size, 0, none⟩ = some (.slice A2 n2 c2) := HX2.out.cell 0
  have z_c_0 : b2.frozen? ⟨w.heap.size, 0, none⟩ = false := HX2.out.frozen 0
  have c_c_1 : b2.cell? ⟨w.heap.size, 1, none⟩ = some (.int .i64 at_) := HX2.out.cell 1
  have z_c_1 : b2.frozen? ⟨w.heap.size, 1, none⟩ = false := HX2.out.frozen 1
  have c_c_2 : b2.cell? ⟨w.heap.size, 2, none⟩ = some (.int .i64 0) := HX2.out.cell 2
  have z_c_2 : b2.frozen? ⟨w.heap.size, 2, none⟩ = false := HX2.out.frozen 2
  go_wp2_with fail
  clear c_c_0 z_c_0 c_c_1 z_c_1 c_c_2 z_c_2
  refine (rRight_yes A2 n2 c2 at_ _ hR0 hR1).mono ?_
  rintro e w3 ⟨rfl, hb⟩
  have hs3 : b2.heap.size ≤ w3.heap.size := hb.size
  have HX4 := Lib.hid (show Blk w3 w.heap.size 26 #[.slice A2 n2 c2, .int .i64 at_, .int .i64 0] from HX2.out.below hb HX2.out.lt)
  have HB' := Lib.hid (show Below w.heap.size w w3 from HB.out.trans (hb.mono HB.out.size))
  clear HX2 HB
  have HB := HB'
  clear HB'
  clear hb
  have c_c_0 : w3.cell? ⟨w.heap.size, 0, none⟩ = some (.slice A2 n2 c2) := HX4.out.cell 0
  have z_c_0 : w3.frozen? ⟨w.heap.size, 0, none⟩ = false := HX4.out.frozen 0
  have c_c_1 : w3.cell? ⟨w.heap.size, 1, none⟩ = some (.int .i64 at_) := HX4.out.cell 1
  have z_c_1 : w3.frozen? ⟨w.heap.size, 1, none⟩ = false := HX4.out.frozen 1
  have c_c_2 : w3.cell? ⟨w.heap.size, 2, none⟩ = some (.int .i64 0) := HX4.out.cell 2
  have z_c_2 : w3.frozen? ⟨w.heap.size, 2, none⟩ = false := HX4.out.frozen 2
  go_wp2_with fail
  clear c_c_0 z_c_0 c_c_1 z_c_1 c_c_2 z_c_2
  refine (Left_yes A2 n2 c2 at_ _ hR0 hR1 (by omega)).mono ?_
  rintro e w4 ⟨rfl, hb⟩
  have hs5 : w3.heap.size ≤ w4.heap.size := hb.size
  have HX6 := Lib.hid (show Blk w4 w.heap.size 26 #[.slice A2 n2 c2, .int .i64 at_, .int .i64 0] from HX4.out.below hb HX4.out.lt)
  have HB' := Lib.hid (show Below w.heap.size w w4 from HB.out.trans (hb.mono HB.out.size))
  clear HX4 HB
  have HB := HB'
  clear HB'
  clear hb
  have c_c_0 : w4.cell? ⟨w.heap.size, 0, none⟩ = some (.slice A2 n2 c2) := HX6.out.cell 0
  have z_c_0 : w4.frozen? ⟨w.heap.size, 0, none⟩ = false := HX6.out.frozen 0
  have c_c_1 : w4.cell? ⟨w.heap.size, 1, none⟩ = some (.int .i64 at_) := HX6.out.cell 1
  have z_c_1 : w4.frozen? ⟨w.heap.size, 1, none⟩ = false := HX6.out.frozen 1
  have c_c_2 : w4.cell? ⟨w.heap.size, 2, none⟩ = some (.int .i64 0) := HX6.out.cell 2
  have z_c_2 : w4.frozen? ⟨w.heap.size, 2, none⟩ = false := HX6.out.frozen 2
  go_wp2_with fail
  clear c_c_0 z_c_0 c_c_1 z_c_1 c_c_2 z_c_2
  refine (Start_c A n c _ hnc).mono ?_
  rintro e w5 ⟨rfl, hb⟩
  have hs7 : w4.heap.size ≤ w5.heap.size := hb.size
  have HX8 := Lib.hid (show Blk w5 w.heap.size 26 #[.slice A2 n2 c2, .int .i64 at_, .int .i64 0] from HX6.out.below hb HX6.out.lt)
  have HB' := Lib.hid (show Below w.heap.size w w5 from HB.out.trans (hb.mono HB.out.size))
  clear HX6 HB
  have HB := HB'
  clear HB'
  clear hb
  have c_c_0 : w5.cell? ⟨w.heap.size, 0, none⟩ = some (.slice A2 n2 c2) := HX8.out.cell 0
  have z_c_0 : w5.frozen? ⟨w.heap.size, 0, none⟩ = false := HX8.out.frozen 0
  have c_c_1 : w5.cell? ⟨w.heap.size, 1, none⟩ = some (.int .i64 at_) := HX8.out.cell 1
  have z_c_1 : w5.frozen? ⟨w.heap.size, 1, none⟩ = false := HX8.out.frozen 1
  have c_c_2 : w5.cell? ⟨w.heap.size, 2, none⟩ = some (.int .i64 0) := HX8.out.cell 2
  have z_c_2 : w5.frozen? ⟨w.heap.size, 2, none⟩ = false := HX8.out.frozen 2
  go_wp2_with fail
  clear c_c_0 z_c_0 c_c_1 z_c_1 c_c_2 z_c_2
  refine (rSame_yes A n n A n c 0 0 bs w.heap.size w.heap.size _ (HR.out.below HB.out) HB.out.size (HR.out.below HB.out) HB.out.size).mono ?_
  rintro e w6 ⟨rfl, hb⟩
  have hs9 : w5.heap.size ≤ w6.heap.size := hb.size
  have HX10 := Lib.hid (show Blk w6 w.heap.size 26 #[.slice A2 n2 c2, .int .i64 at_, .int .i64 0] from HX8.out.below hb HX8.out.lt)
  have HB' := Lib.hid (show Below w.heap.size w w6 from HB.out.trans (hb.mono HB.out.size))
  clear HX8 HB
  have HB := HB'
  clear HB'
  clear hb
  have c_c_0 : w6.cell? ⟨w.heap.size, 0, none⟩ = some (.slice A2 n2 c2) := HX10.out.cell 0
  have z_c_0 : w6.frozen? ⟨w.heap.size, 0, none⟩ = false := HX10.out.frozen 0
  have c_c_1 : w6.cell? ⟨w.heap.size, 1, none⟩ = some (.int .i64 at_) := HX10.out.cell 1
  have z_c_1 : w6.frozen? ⟨w.heap.size, 1, none⟩ = false := HX10.out.frozen 1
  have c_c_2 : w6.cell? ⟨w.heap.size, 2, none⟩ = some (.int .i64 0) := HX10.out.cell 2
  have z_c_2 : w6.frozen? ⟨w.heap.size, 2, none⟩ = false := HX10.out.frozen 2
  go_wp2_with fail
  clear c_c_0 z_c_0 c_c_1 z_c_1 c_c_2 z_c_2
  refine (Uint_v A2 n2 c2 at_ 0 bs2 w.heap.size _ (HR2.out.below HB.out) HB.out.size hnc2 hcm2 (by omega) x1 y1 v1 HU.out).mono ?_
  rintro e w7 ⟨rfl, hb⟩
  have hs11 : w6.heap.size ≤ w7.heap.size := hb.size
  have HX12 := Lib.hid (show Blk w7 w.heap.size 26 #[.slice A2 n2 c2, .int .i64 at_, .int .i64 0] from HX10.out.below hb HX10.out.lt)
  have HB' := Lib.hid (show Below w.heap.size w w7 from HB.out.trans (hb.mono HB.out.size))
  clear HX10 HB
  have HB := HB'
  clear HB'
  clear hb
  have HX14 := Lib.hid (Blk.new w7 26 #[.slice A2 n2 c2, .int .i64 x1, .int .i64 y1])
  have HX12a := Lib.hid (HX12.out.alloc (.cells #[.slice A2 n2 c2, .int .i64 x1, .int .i64 y1] 26))
  have HBa := Lib.hid (HB.out.alloc HB.out.size (.cells #[.slice A2 n2 c2, .int .i64 x1, .int .i64 y1] 26))
  have hs15 : w7.heap.size < (w7.alloc (.cells #[.slice A2 n2 c2, .int .i64 x1, .int .i64 y1] 26)).heap.size := by simp
  have af0 : (w7.alloc (.cells #[.slice A2 n2 c2, .int .i64 x1, .int .i64 y1] 26)).cell? ⟨w.heap.size, 0, none⟩ = some (.slice A2 n2 c2) := HX12a.out.cell 0
  have af1 : (w7.alloc (.cells #[.slice A2 n2 c2, .int .i64 x1, .int .i64 y1] 26)).cell? ⟨w.heap.size, 1, none⟩ = some (.int .i64 at_) := HX12a.out.cell 1
  have af2 : (w7.alloc (.cells #[.slice A2 n2 c2, .int .i64 x1, .int .i64 y1] 26)).cell? ⟨w.heap.size, 2, none⟩ = some (.int .i64 0) := HX12a.out.cell 2
  go_wp2_with fail
  clear af0 af1 af2
  generalize w7.alloc (.cells #[.slice A2 n2 c2, .int .i64 x1, .int .i64 y1] 26) = wa13 at HX12a HX14 HBa hs15 ⊢
  clear HX12 HB
  have HB := HBa
  clear HBa
  refine (rUint_v A2 n2 c2 at_ 0 bs2 w.heap.size _ (HR2.out.below HB.out) HB.out.size hnc2 hcm2 (by omega) x1 y1 v1 HU.out).mono ?_
  rintro e w8 ⟨rfl, hb⟩
  have hs16 : wa13.heap.size ≤ w8.heap.size := hb.size
  have HX17 := Lib.hid (show Blk w8 w.heap.size 26 #[.slice A2 n2 c2, .int .i64 at_, .int .i64 0] from HX12a.out.below hb HX12a.out.lt)
  have HX18 := Lib.hid (show Blk w8 w7.heap.size 26 #[.slice A2 n2 c2, .int .i64 x1, .int .i64 y1] from HX14.out.below hb HX14.out.lt)
  have HB' := Lib.hid (show Below w.heap.size w w8 from HB.out.trans (hb.mono HB.out.size))
  clear HX12a HX14 HB
  have HB := HB'
  clear HB'
  clear hb
  have HX20 := Lib.hid (Blk.new w8 26 #[.slice A2 n2 c2, .int .i64 x1, .int .i64 y1])
  have HX17a := Lib.hid (HX17.out.alloc (.cells #[.slice A2 n2 c2, .int .i64 x1, .int .i64 y1] 26))
  have HX18a := Lib.hid (HX18.out.alloc (.cells #[.slice A2 n2 c2, .int .i64 x1, .int .i64 y1] 26))
  have HBa := Lib.hid (HB.out.alloc HB.out.size (.cells #[.slice A2 n2 c2, .int .i64 x1, .int .i64 y1] 26))
  have hs21 : w8.heap.size < (w8.alloc (.cells #[.slice A2 n2 c2, .int .i64 x1, .int .i64 y1] 26)).heap.size := by simp
  have af0 : (w8.alloc (.cells #[.slice A2 n2 c2, .int .i64 x1, .int .i64 y1] 26)).cell? ⟨w7.heap.size, 0, none⟩ = some (.slice A2 n2 c2) := HX18a.out.cell 0
  have af1 : (w8.alloc (.cells #[.slice A2 n2 c2, .int .i64 x1, .int .i64 y1] 26)).cell? ⟨w7.heap.size, 1, none⟩ = some (.int .i64 x1) := HX18a.out.cell 1
  have af2 : (w8.alloc (.cells #[.slice A2 n2 c2, .int .i64 x1, .int .i64 y1] 26)).cell? ⟨w7.heap.size, 2, none⟩ = some (.int .i64 y1) := HX18a.out.cell 2
  go_wp2_with fail
  clear af0 af1 af2
  generalize w8.alloc (.cells #[.slice A2 n2 c2, .int .i64 x1, .int .i64 y1] 26) = wa19 at HX17a HX18a HX20 HBa hs21 ⊢
  clear HX17 HX18 HB
  have HB := HBa
  clear HBa
  refine (rSame_yes A2 n2 c2 A2 n2 c2 x1 y1 bs2 w.heap.size w.heap.size _ (HR2.out.below HB.out) HB.out.size (HR2.out.below HB.out) HB.out.size).mono ?_
  rintro e w9 ⟨rfl, hb⟩
  have hs22 : wa19.heap.size ≤ w9.heap.size := hb.size
  have HX23 := Lib.hid (show Blk w9 w.heap.size 26 #[.slice A2 n2 c2, .int .i64 at_, .int .i64 0] from HX17a.out.below hb HX17a.out.lt)
  have HX24 := Lib.hid (show Blk w9 w7.heap.size 26 #[.slice A2 n2 c2, .int .i64 x1, .int .i64 y1] from HX18a.out.below hb HX18a.out.lt)
  have HX25 := Lib.hid (show Blk w9 w8.heap.size 26 #[.slice A2 n2 c2, .int .i64 x1, .int .i64 y1] from HX20.out.below hb HX20.out.lt)
  have HB' := Lib.hid (show Below w.heap.size w w9 from HB.out.trans (hb.mono HB.out.size))
  clear HX17a HX18a HX20 HB
  have HB := HB'
  clear HB'
  clear hb
  have c_c_0 : w9.cell? ⟨w.heap.size, 0, none⟩ = some (.slice A2 n2 c2) := HX23.out.cell 0
  have z_c_0 : w9.frozen? ⟨w.heap.size, 0, none⟩ = false := HX23.out.frozen 0
  have c_c_1 : w9.cell? ⟨w.heap.size, 1, none⟩ = some (.int .i64 at_) := HX23.out.cell 1
  have z_c_1 : w9.frozen? ⟨w.heap.size, 1, none⟩ = false := HX23.out.frozen 1
  have c_c_2 : w9.cell? ⟨w.heap.size, 2, none⟩ = some (.int .i64 0) := HX23.out.cell 2
  have z_c_2 : w9.frozen? ⟨w.heap.size, 2, none⟩ = false := HX23.out.frozen 2
  have c_x_0 : w9.cell? ⟨w7.heap.size, 0, none⟩ = some (.slice A2 n2 c2) := HX24.out.cell 0
  have z_x_0 : w9.frozen? ⟨w7.heap.size, 0, none⟩ = false := HX24.out.frozen 0
  have c_x_1 : w9.cell? ⟨w7.heap.size, 1, none⟩ = some (.int .i64 x1) := HX24.out.cell 1
  have z_x_1 : w9.frozen? ⟨w7.heap.size, 1, none⟩ = false := HX24.out.frozen 1
  have c_x_2 : w9.cell? ⟨w7.heap.size, 2, none⟩ = some (.int .i64 y1) := HX24.out.cell 2
  have z_x_2 : w9.frozen? ⟨w7.heap.size, 2, none⟩ = false := HX24.out.frozen 2
  have c_y_0 : w9.cell? ⟨w8.heap.size, 0, none⟩ = some (.slice A2 n2 c2) := HX25.out.cell 0
  have z_y_0 : w9.frozen? ⟨w8.heap.size, 0, none⟩ = false := HX25.out.frozen 0
  have c_y_1 : w9.cell? ⟨w8.heap.size, 1, none⟩ = some (.int .i64 x1) := HX25.out.cell 1
  have z_y_1 : w9.frozen? ⟨w8.heap.size, 1, none⟩ = false := HX25.out.frozen 1
  have c_y_2 : w9.cell? ⟨w8.heap.size, 2, none⟩ = some (.int .i64 y1) := HX25.out.cell 2
  have z_y_2 : w9.frozen? ⟨w8.heap.size, 2, none⟩ = false := HX25.out.frozen 2
  go_wp2_with fail
  clear c_c_0 z_c_0 c_c_1 z_c_1 c_c_2 z_c_2 c_x_0 z_x_0 c_x_1 z_x_1 c_x_2 z_x_2 c_y_0 z_y_0 c_y_1 z_y_1 c_y_2 z_y_2
  refine (Int_v A2 n2 c2 at_ 0 bs2 w.heap.size _ (HR2.out.below HB.out) HB.out.size hnc2 hcm2 (by omega) x1 y1 v1 HU.out).mono ?_
  rintro e w10 ⟨rfl, hb⟩
  have hs26 : w9.heap.size ≤ w10.heap.size := hb.size
  have HX27 := Lib.hid (show Blk w10 w.heap.size 26 #[.slice A2 n2 c2, .int .i64 at_, .int .i64 0] from HX23.out.below hb HX23.out.lt)
  have HX28 := Lib.hid (show Blk w10 w7.heap.size 26 #[.slice A2 n2 c2, .int .i64 x1, .int .i64 y1] from HX24.out.below hb HX24.out.lt)
  have HX29 := Lib.hid (show Blk w10 w8.heap.size 26 #[.slice A2 n2 c2, .int .i64 x1, .int .i64 y1] from HX25.out.below hb HX25.out.lt)
  have HB' := Lib.hid (show Below w.heap.size w w10 from HB.out.trans (hb.mono HB.out.size))
  clear HX23 HX24 HX25 HB
  have HB := HB'
  clear HB'
  clear hb
  have c_c_0 : w10.cell? ⟨w.heap.size, 0, none⟩ = some (.slice A2 n2 c2) := HX27.out.cell 0
  have z_c_0 : w10.frozen? ⟨w.heap.size, 0, none⟩ = false := HX27.out.frozen 0
  have c_c_1 : w10.cell? ⟨w.heap.size, 1, none⟩ = some (.int .i64 at_) := HX27.out.cell 1
  have z_c_1 : w10.frozen? ⟨w.heap.size, 1, none⟩ = false := HX27.out.frozen 1
  have c_c_2 : w10.cell? ⟨w.heap.size, 2, none⟩ = some (.int .i64 0) := HX27.out.cell 2
  have z_c_2 : w10.frozen? ⟨w.heap.size, 2, none⟩ = false := HX27.out.frozen 2
  have c_x_0 : w10.cell? ⟨w7.heap.size, 0, none⟩ = some (.slice A2 n2 c2) := HX28.out.cell 0
  have z_x_0 : w10.frozen? ⟨w7.heap.size, 0, none⟩ = false := HX28.out.frozen 0
  have c_x_1 : w10.cell? ⟨w7.heap.size, 1, none⟩ = some (.int .i64 x1) := HX28.out.cell 1
  have z_x_1 : w10.frozen? ⟨w7.heap.size, 1, none⟩ = false := HX28.out.frozen 1
  have c_x_2 : w10.cell? ⟨w7.heap.size, 2, none⟩ = some (.int .i64 y1) := HX28.out.cell 2
  have z_x_2 : w10.frozen? ⟨w7.heap.size, 2, none⟩ = false := HX28.out.frozen 2
  have c_y_0 : w10.cell? ⟨w8.heap.size, 0, none⟩ = some (.slice A2 n2 c2) := HX29.out.cell 0
  have z_y_0 : w10.frozen? ⟨w8.heap.size, 0, none⟩ = false := HX29.out.frozen 0
  have c_y_1 : w10.cell? ⟨w8.heap.size, 1, none⟩ = some (.int .i64 x1) := HX29.out.cell 1
  have z_y_1 : w10.frozen? ⟨w8.heap.size, 1, none⟩ = false := HX29.out.frozen 1
  have c_y_2 : w10.cell? ⟨w8.heap.size, 2, none⟩ = some (.int .i64 y1) := HX29.out.cell 2
  have z_y_2 : w10.frozen? ⟨w8.heap.size, 2, none⟩ = false := HX29.out.frozen 2
  go_wp2_with fail
  have HX28s := Lib.hid (show Blk (((w10.setCell ⟨w7.heap.size, 0, none⟩ (.slice A2 n2 c2)).setCell ⟨w7.heap.size, 1, none⟩ (.int .i64 x1)).setCell ⟨w7.heap.size, 2, none⟩ (.int .i64 y1)) w7.heap.size 26 #[.slice A2 n2 c2, .int .i64 x1, .int .i64 y1] from (((HX28.out.set_ 0 _).set_ 1 _).set_ 2 _))
  have HX27s := Lib.hid (show Blk (((w10.setCell ⟨w7.heap.size, 0, none⟩ (.slice A2 n2 c2)).setCell ⟨w7.heap.size, 1, none⟩ (.int .i64 x1)).setCell ⟨w7.heap.size, 2, none⟩ (.int .i64 y1)) w.heap.size 26 #[.slice A2 n2 c2, .int .i64 at_, .int .i64 0] from (((HX27.out.far (by simp; omega) _).far (by simp; omega) _).far (by simp; omega) _))
  have HX29s := Lib.hid (show Blk (((w10.setCell ⟨w7.heap.size, 0, none⟩ (.slice A2 n2 c2)).setCell ⟨w7.heap.size, 1, none⟩ (.int .i64 x1)).setCell ⟨w7.heap.size, 2, none⟩ (.int .i64 y1)) w8.heap.size 26 #[.slice A2 n2 c2, .int .i64 x1, .int .i64 y1] from (((HX29.out.far (by simp; omega) _).far (by simp; omega) _).far (by simp; omega) _))
  have HBs := Lib.hid (show Below w.heap.size w (((w10.setCell ⟨w7.heap.size, 0, none⟩ (.slice A2 n2 c2)).setCell ⟨w7.heap.size, 1, none⟩ (.int .i64 x1)).setCell ⟨w7.heap.size, 2, none⟩ (.int .i64 y1)) from (((HB.out.setCell (by simp; omega) _).setCell (by simp; omega) _).setCell (by simp; omega) _))
  have hs31 : w10.heap.size ≤ (((w10.setCell ⟨w7.heap.size, 0, none⟩ (.slice A2 n2 c2)).setCell ⟨w7.heap.size, 1, none⟩ (.int .i64 x1)).setCell ⟨w7.heap.size, 2, none⟩ (.int .i64 y1)).heap.size := by simp [World.setCell]
  clear c_c_0 z_c_0 c_c_1 z_c_1 c_c_2 z_c_2 c_x_0 z_x_0 c_x_1 z_x_1 c_x_2 z_x_2 c_y_0 z_y_0 c_y_1 z_y_1 c_y_2 z_y_2
  generalize ((w10.setCell ⟨w7.heap.size, 0, none⟩ (.slice A2 n2 c2)).setCell ⟨w7.heap.size, 1, none⟩ (.int .i64 x1)).setCell ⟨w7.heap.size, 2, none⟩ (.int .i64 y1) = wt30 at HX28s HX27s HX29s HBs hs31 ⊢
  clear HX27 HX28 HX29 HB
  have HB := HBs
  clear HBs
  refine (rInt_v A2 n2 c2 at_ 0 bs2 w.heap.size _ (HR2.out.below HB.out) HB.out.size hnc2 hcm2 (by omega) x1 y1 v1 HU.out).mono ?_
  rintro e w11 ⟨rfl, hb⟩
  have hs32 : wt30.heap.size ≤ w11.heap.size := hb.size
  have HX33 := Lib.hid (show Blk w11 w.heap.size 26 #[.slice A2 n2 c2, .int .i64 at_, .int .i64 0] from HX27s.out.below hb HX27s.out.lt)
  have HX34 := Lib.hid (show Blk w11 w7.heap.size 26 #[.slice A2 n2 c2, .int .i64 x1, .int .i64 y1] from HX28s.out.below hb HX28s.out.lt)
  have HX35 := Lib.hid (show Blk w11 w8.heap.size 26 #[.slice A2 n2 c2, .int .i64 x1, .int .i64 y1] from HX29s.out.below hb HX29s.out.lt)
  have HB' := Lib.hid (show Below w.heap.size w w11 from HB.out.trans (hb.mono HB.out.size))
  clear HX27s HX28s HX29s HB
  have HB := HB'
  clear HB'
  clear hb
  have c_c_0 : w11.cell? ⟨w.heap.size, 0, none⟩ = some (.slice A2 n2 c2) := HX33.out.cell 0
  have z_c_0 : w11.frozen? ⟨w.heap.size, 0, none⟩ = false := HX33.out.frozen 0
  have c_c_1 : w11.cell? ⟨w.heap.size, 1, none⟩ = some (.int .i64 at_) := HX33.out.cell 1
  have z_c_1 : w11.frozen? ⟨w.heap.size, 1, none⟩ = false := HX33.out.frozen 1
  have c_c_2 : w11.cell? ⟨w.heap.size, 2, none⟩ = some (.int .i64 0) := HX33.out.cell 2
  have z_c_2 : w11.frozen? ⟨w.heap.size, 2, none⟩ = false := HX33.out.frozen 2
  have c_x_0 : w11.cell? ⟨w7.heap.size, 0, none⟩ = some (.slice A2 n2 c2) := HX34.out.cell 0
  have z_x_0 : w11.frozen? ⟨w7.heap.size, 0, none⟩ = false := HX34.out.frozen 0
  have c_x_1 : w11.cell? ⟨w7.heap.size, 1, none⟩ = some (.int .i64 x1) := HX34.out.cell 1
  have z_x_1 : w11.frozen? ⟨w7.heap.size, 1, none⟩ = false := HX34.out.frozen 1
  have c_x_2 : w11.cell? ⟨w7.heap.size, 2, none⟩ = some (.int .i64 y1) := HX34.out.cell 2
  have z_x_2 : w11.frozen? ⟨w7.heap.size, 2, none⟩ = false := HX34.out.frozen 2
  have c_y_0 : w11.cell? ⟨w8.heap.size, 0, none⟩ = some (.slice A2 n2 c2) := HX35.out.cell 0
  have z_y_0 : w11.frozen? ⟨w8.heap.size, 0, none⟩ = false := HX35.out.frozen 0
  have c_y_1 : w11.cell? ⟨w8.heap.size, 1, none⟩ = some (.int .i64 x1) := HX35.out.cell 1
  have z_y_1 : w11.frozen? ⟨w8.heap.size, 1, none⟩ = false := HX35.out.frozen 1
  have c_y_2 : w11.cell? ⟨w8.heap.size, 2, none⟩ = some (.int .i64 y1) := HX35.out.cell 2
  have z_y_2 : w11.frozen? ⟨w8.heap.size, 2, none⟩ = false := HX35.out.frozen 2
  go_wp2_with fail
  have HX35s := Lib.hid (show Blk (((w11.setCell ⟨w8.heap.size, 0, none⟩ (.slice A2 n2 c2)).setCell ⟨w8.heap.size, 1, none⟩ (.int .i64 x1)).setCell ⟨w8.heap.size, 2, none⟩ (.int .i64 y1)) w8.heap.size 26 #[.slice A2 n2 c2, .int .i64 x1, .int .i64 y1] from (((HX35.out.set_ 0 _).set_ 1 _).set_ 2 _))
  have HX33s := Lib.hid (show Blk (((w11.setCell ⟨w8.heap.size, 0, none⟩ (.slice A2 n2 c2)).setCell ⟨w8.heap.size, 1, none⟩ (.int .i64 x1)).setCell ⟨w8.heap.size, 2, none⟩ (.int .i64 y1)) w.heap.size 26 #[.slice A2 n2 c2, .int .i64 at_, .int .i64 0] from (((HX33.out.far (by simp; omega) _).far (by simp; omega) _).far (by simp; omega) _))
  have HX34s := Lib.hid (show Blk (((w11.setCell ⟨w8.heap.size, 0, none⟩ (.slice A2 n2 c2)).setCell ⟨w8.heap.size, 1, none⟩ (.int .i64 x1)).setCell ⟨w8.heap.size, 2, none⟩ (.int .i64 y1)) w7.heap.size 26 #[.slice A2 n2 c2, .int .i64 x1, .int .i64 y1] from (((HX34.out.far (by simp; omega) _).far (by simp; omega) _).far (by simp; omega) _))
  have HBs := Lib.hid (show Below w.heap.size w (((w11.setCell ⟨w8.heap.size, 0, none⟩ (.slice A2 n2 c2)).setCell ⟨w8.heap.size, 1, none⟩ (.int .i64 x1)).setCell ⟨w8.heap.size, 2, none⟩ (.int .i64 y1)) from (((HB.out.setCell (by simp; omega) _).setCell (by simp; omega) _).setCell (by simp; omega) _))
  have hs37 : w11.heap.size ≤ (((w11.setCell ⟨w8.heap.size, 0, none⟩ (.slice A2 n2 c2)).setCell ⟨w8.heap.size, 1, none⟩ (.int .i64 x1)).setCell ⟨w8.heap.size, 2, none⟩ (.int .i64 y1)).heap.size := by simp [World.setCell]
  clear c_c_0 z_c_0 c_c_1 z_c_1 c_c_2 z_c_2 c_x_0 z_x_0 c_x_1 z_x_1 c_x_2 z_x_2 c_y_0 z_y_0 c_y_1 z_y_1 c_y_2 z_y_2
  generalize ((w11.setCell ⟨w8.heap.size, 0, none⟩ (.slice A2 n2 c2)).setCell ⟨w8.heap.size, 1, none⟩ (.int .i64 x1)).setCell ⟨w8.heap.size, 2, none⟩ (.int .i64 y1) = wt36 at HX35s HX33s HX34s HBs hs37 ⊢
  clear HX33 HX34 HX35 HB
  have HB := HBs
  clear HBs
  refine (rSame_yes A2 n2 c2 A2 n2 c2 x1 y1 bs2 w.heap.size w.heap.size _ (HR2.out.below HB.out) HB.out.size (HR2.out.below HB.out) HB.out.size).mono ?_
  rintro e w12 ⟨rfl, hb⟩
  have hs38 : wt36.heap.size ≤ w12.heap.size := hb.size
  have HX39 := Lib.hid (show Blk w12 w.heap.size 26 #[.slice A2 n2 c2, .int .i64 at_, .int .i64 0] from HX33s.out.below hb HX33s.out.lt)
  have HX40 := Lib.hid (show Blk w12 w7.heap.size 26 #[.slice A2 n2 c2, .int .i64 x1, .int .i64 y1] from HX34s.out.below hb HX34s.out.lt)
  have HX41 := Lib.hid (show Blk w12 w8.heap.size 26 #[.slice A2 n2 c2, .int .i64 x1, .int .i64 y1] from HX35s.out.below hb HX35s.out.lt)
  have HB' := Lib.hid (show Below w.heap.size w w12 from HB.out.trans (hb.mono HB.out.size))
  clear HX33s HX34s HX35s HB
  have HB := HB'
  clear HB'
  clear hb
  have c_c_0 : w12.cell? ⟨w.heap.size, 0, none⟩ = some (.slice A2 n2 c2) := HX39.out.cell 0
  have z_c_0 : w12.frozen? ⟨w.heap.size, 0, none⟩ = false := HX39.out.frozen 0
  have c_c_1 : w12.cell? ⟨w.heap.size, 1, none⟩ = some (.int .i64 at_) := HX39.out.cell 1
  have z_c_1 : w12.frozen? ⟨w.heap.size, 1, none⟩ = false := HX39.out.frozen 1
  have c_c_2 : w12.cell? ⟨w.heap.size, 2, none⟩ = some (.int .i64 0) := HX39.out.cell 2
  have z_c_2 : w12.frozen? ⟨w.heap.size, 2, none⟩ = false := HX39.out.frozen 2
  have c_x_0 : w12.cell? ⟨w7.heap.size, 0, none⟩ = some (.slice A2 n2 c2) := HX40.out.cell 0
  have z_x_0 : w12.frozen? ⟨w7.heap.size, 0, none⟩ = false := HX40.out.frozen 0
  have c_x_1 : w12.cell? ⟨w7.heap.size, 1, none⟩ = some (.int .i64 x1) := HX40.out.cell 1
  have z_x_1 : w12.frozen? ⟨w7.heap.size, 1, none⟩ = false := HX40.out.frozen 1
  have c_x_2 : w12.cell? ⟨w7.heap.size, 2, none⟩ = some (.int .i64 y1) := HX40.out.cell 2
  have z_x_2 : w12.frozen? ⟨w7.heap.size, 2, none⟩ = false := HX40.out.frozen 2
  have c_y_0 : w12.cell? ⟨w8.heap.size, 0, none⟩ = some (.slice A2 n2 c2) := HX41.out.cell 0
  have z_y_0 : w12.frozen? ⟨w8.heap.size, 0, none⟩ = false := HX41.out.frozen 0
  have c_y_1 : w12.cell? ⟨w8.heap.size, 1, none⟩ = some (.int .i64 x1) := HX41.out.cell 1
  have z_y_1 : w12.frozen? ⟨w8.heap.size, 1, none⟩ = false := HX41.out.frozen 1
  have c_y_2 : w12.cell? ⟨w8.heap.size, 2, none⟩ = some (.int .i64 y1) := HX41.out.cell 2
  have z_y_2 : w12.frozen? ⟨w8.heap.size, 2, none⟩ = false := HX41.out.frozen 2
  go_wp2_with fail
  clear c_c_0 z_c_0 c_c_1 z_c_1 c_c_2 z_c_2 c_x_0 z_x_0 c_x_1 z_x_1 c_x_2 z_x_2 c_y_0 z_y_0 c_y_1 z_y_1 c_y_2 z_y_2
  refine (Take_u A2 n2 c2 at_ 0 bs2 w.heap.size _ (HR2.out.below HB.out) HB.out.size hnc2 hcm2 (by omega) take x2 y2 l2 m2 HM.out HT.out).mono ?_
  rintro e w13 ⟨A5, c5, rfl, hR5, hb⟩
  have hs42 : w12.heap.size ≤ w13.heap.size := hb.size
  have HX43 := Lib.hid (show Blk w13 w.heap.size 26 #[.slice A2 n2 c2, .int .i64 at_, .int .i64 0] from HX39.out.below hb HX39.out.lt)
  have HX44 := Lib.hid (show Blk w13 w7.heap.size 26 #[.slice A2 n2 c2, .int .i64 x1, .int .i64 y1] from HX40.out.below hb HX40.out.lt)
  have HX45 := Lib.hid (show Blk w13 w8.heap.size 26 #[.slice A2 n2 c2, .int .i64 x1, .int .i64 y1] from HX41.out.below hb HX41.out.lt)
  have HB' := Lib.hid (show Below w.heap.size w w13 from HB.out.trans (hb.mono HB.out.size))
  clear HX39 HX40 HX41 HB
  have HB := HB'
  clear HB'
  clear hb
  have HY5 := Lib.hid hR5
  clear hR5
  have c_c_0 : w13.cell? ⟨w.heap.size, 0, none⟩ = some (.slice A2 n2 c2) := HX43.out.cell 0
  have z_c_0 : w13.frozen? ⟨w.heap.size, 0, none⟩ = false := HX43.out.frozen 0
  have c_c_1 : w13.cell? ⟨w.heap.size, 1, none⟩ = some (.int .i64 at_) := HX43.out.cell 1
  have z_c_1 : w13.frozen? ⟨w.heap.size, 1, none⟩ = false := HX43.out.frozen 1
  have c_c_2 : w13.cell? ⟨w.heap.size, 2, none⟩ = some (.int .i64 0) := HX43.out.cell 2
  have z_c_2 : w13.frozen? ⟨w.heap.size, 2, none⟩ = false := HX43.out.frozen 2
  have c_x_0 : w13.cell? ⟨w7.heap.size, 0, none⟩ = some (.slice A2 n2 c2) := HX44.out.cell 0
  have z_x_0 : w13.frozen? ⟨w7.heap.size, 0, none⟩ = false := HX44.out.frozen 0
  have c_x_1 : w13.cell? ⟨w7.heap.size, 1, none⟩ = some (.int .i64 x1) := HX44.out.cell 1
  have z_x_1 : w13.frozen? ⟨w7.heap.size, 1, none⟩ = false := HX44.out.frozen 1
  have c_x_2 : w13.cell? ⟨w7.heap.size, 2, none⟩ = some (.int .i64 y1) := HX44.out.cell 2
  have z_x_2 : w13.frozen? ⟨w7.heap.size, 2, none⟩ = false := HX44.out.frozen 2
  have c_y_0 : w13.cell? ⟨w8.heap.size, 0, none⟩ = some (.slice A2 n2 c2) := HX45.out.cell 0
  have z_y_0 : w13.frozen? ⟨w8.heap.size, 0, none⟩ = false := HX45.out.frozen 0
  have c_y_1 : w13.cell? ⟨w8.heap.size, 1, none⟩ = some (.int .i64 x1) := HX45.out.cell 1
  have z_y_1 : w13.frozen? ⟨w8.heap.size, 1, none⟩ = false := HX45.out.frozen 1
  have c_y_2 : w13.cell? ⟨w8.heap.size, 2, none⟩ = some (.int .i64 y1) := HX45.out.cell 2
  have z_y_2 : w13.frozen? ⟨w8.heap.size, 2, none⟩ = false := HX45.out.frozen 2
  go_wp2_with fail
  have HX44s := Lib.hid (show Blk (((w13.setCell ⟨w7.heap.size, 0, none⟩ (.slice A2 n2 c2)).setCell ⟨w7.heap.size, 1, none⟩ (.int .i64 x2)).setCell ⟨w7.heap.size, 2, none⟩ (.int .i64 y2)) w7.heap.size 26 #[.slice A2 n2 c2, .int .i64 x2, .int .i64 y2] from (((HX44.out.set_ 0 _).set_ 1 _).set_ 2 _))
  have HX43s := Lib.hid (show Blk (((w13.setCell ⟨w7.heap.size, 0, none⟩ (.slice A2 n2 c2)).setCell ⟨w7.heap.size, 1, none⟩ (.int .i64 x2)).setCell ⟨w7.heap.size, 2, none⟩ (.int .i64 y2)) w.heap.size 26 #[.slice A2 n2 c2, .int .i64 at_, .int .i64 0] from (((HX43.out.far (by simp; omega) _).far (by simp; omega) _).far (by simp; omega) _))
  have HX45s := Lib.hid (show Blk (((w13.setCell ⟨w7.heap.size, 0, none⟩ (.slice A2 n2 c2)).setCell ⟨w7.heap.size, 1, none⟩ (.int .i64 x2)).setCell ⟨w7.heap.size, 2, none⟩ (.int .i64 y2)) w8.heap.size 26 #[.slice A2 n2 c2, .int .i64 x1, .int .i64 y1] from (((HX45.out.far (by simp; omega) _).far (by simp; omega) _).far (by simp; omega) _))
  have HY5s := Lib.hid (show Reads (((w13.setCell ⟨w7.heap.size, 0, none⟩ (.slice A2 n2 c2)).setCell ⟨w7.heap.size, 1, none⟩ (.int .i64 x2)).setCell ⟨w7.heap.size, 2, none⟩ (.int .i64 y2)) w.heap.size 1 A5 m2 (byteCells l2) from (((HY5.out.setCell (by simp; omega) _).setCell (by simp; omega) _).setCell (by simp; omega) _))
  have HBs := Lib.hid (show Below w.heap.size w (((w13.setCell ⟨w7.heap.size, 0, none⟩ (.slice A2 n2 c2)).setCell ⟨w7.heap.size, 1, none⟩ (.int .i64 x2)).setCell ⟨w7.heap.size, 2, none⟩ (.int .i64 y2)) from (((HB.out.setCell (by simp; omega) _).setCell (by simp; omega) _).setCell (by simp; omega) _))
  have hs47 : w13.heap.size ≤ (((w13.setCell ⟨w7.heap.size, 0, none⟩ (.slice A2 n2 c2)).setCell ⟨w7.heap.size, 1, none⟩ (.int .i64 x2)).setCell ⟨w7.heap.size, 2, none⟩ (.int .i64 y2)).heap.size := by simp [World.setCell]
  clear c_c_0 z_c_0 c_c_1 z_c_1 c_c_2 z_c_2 c_x_0 z_x_0 c_x_1 z_x_1 c_x_2 z_x_2 c_y_0 z_y_0 c_y_1 z_y_1 c_y_2 z_y_2
  generalize ((w13.setCell ⟨w7.heap.size, 0, none⟩ (.slice A2 n2 c2)).setCell ⟨w7.heap.size, 1, none⟩ (.int .i64 x2)).setCell ⟨w7.heap.size, 2, none⟩ (.int .i64 y2) = wt46 at HX44s HX43s HX45s HY5s HBs hs47 ⊢
  clear HX43 HX44 HX45 HY5 HB
  have HB := HBs
  clear HBs
  have hbase : wt46.heap.size ≤ wt46.heap.size := Nat.le_refl _
  refine (rTake_u A2 n2 c2 at_ 0 bs2 w.heap.size _ (HR2.out.below HB.out) HB.out.size hnc2 hcm2 (by omega) take x2 y2 l2 m2 HM.out HT.out).mono ?_
  rintro e w14 ⟨A6, c6, rfl, hown6, hb⟩
  have hs48 : wt46.heap.size ≤ w14.heap.size := hb.size
  have HX49 := Lib.hid (show Blk w14 w.heap.size 26 #[.slice A2 n2 c2, .int .i64 at_, .int .i64 0] from HX43s.out.below hb HX43s.out.lt)
  have HX50 := Lib.hid (show Blk w14 w7.heap.size 26 #[.slice A2 n2 c2, .int .i64 x2, .int .i64 y2] from HX44s.out.below hb HX44s.out.lt)
  have HX51 := Lib.hid (show Blk w14 w8.heap.size 26 #[.slice A2 n2 c2, .int .i64 x1, .int .i64 y1] from HX45s.out.below hb HX45s.out.lt)
  have HY52 := Lib.hid (show Reads w14 w.heap.size 1 A5 m2 (byteCells l2) from HY5s.out.below (hb.mono (by omega)))
  have HB' := Lib.hid (show Below w.heap.size w w14 from HB.out.trans (hb.mono HB.out.size))
  clear HX43s HX44s HX45s HY5s HB
  have HB := HB'
  clear HB'
  clear hb
  have HO6 := Lib.hid hown6
  clear hown6
  have c_c_0 : w14.cell? ⟨w.heap.size, 0, none⟩ = some (.slice A2 n2 c2) := HX49.out.cell 0
  have z_c_0 : w14.frozen? ⟨w.heap.size, 0, none⟩ = false := HX49.out.frozen 0
  have c_c_1 : w14.cell? ⟨w.heap.size, 1, none⟩ = some (.int .i64 at_) := HX49.out.cell 1
  have z_c_1 : w14.frozen? ⟨w.heap.size, 1, none⟩ = false := HX49.out.frozen 1
  have c_c_2 : w14.cell? ⟨w.heap.size, 2, none⟩ = some (.int .i64 0) := HX49.out.cell 2
  have z_c_2 : w14.frozen? ⟨w.heap.size, 2, none⟩ = false := HX49.out.frozen 2
  have c_x_0 : w14.cell? ⟨w7.heap.size, 0, none⟩ = some (.slice A2 n2 c2) := HX50.out.cell 0
  have z_x_0 : w14.frozen? ⟨w7.heap.size, 0, none⟩ = false := HX50.out.frozen 0
  have c_x_1 : w14.cell? ⟨w7.heap.size, 1, none⟩ = some (.int .i64 x2) := HX50.out.cell 1
  have z_x_1 : w14.frozen? ⟨w7.heap.size, 1, none⟩ = false := HX50.out.frozen 1
  have c_x_2 : w14.cell? ⟨w7.heap.size, 2, none⟩ = some (.int .i64 y2) := HX50.out.cell 2
  have z_x_2 : w14.frozen? ⟨w7.heap.size, 2, none⟩ = false := HX50.out.frozen 2
  have c_y_0 : w14.cell? ⟨w8.heap.size, 0, none⟩ = some (.slice A2 n2 c2) := HX51.out.cell 0
  have z_y_0 : w14.frozen? ⟨w8.heap.size, 0, none⟩ = false := HX51.out.frozen 0
  have c_y_1 : w14.cell? ⟨w8.heap.size, 1, none⟩ = some (.int .i64 x1) := HX51.out.cell 1
  have z_y_1 : w14.frozen? ⟨w8.heap.size, 1, none⟩ = false := HX51.out.frozen 1
  have c_y_2 : w14.cell? ⟨w8.heap.size, 2, none⟩ = some (.int .i64 y1) := HX51.out.cell 2
  have z_y_2 : w14.frozen? ⟨w8.heap.size, 2, none⟩ = false := HX51.out.frozen 2
  have v5 := conv_reads (show Reads (((w14.setCell ⟨w8.heap.size, 0, none⟩ (.slice A2 n2 c2)).setCell ⟨w8.heap.size, 1, none⟩ (.int .i64 x2)).setCell ⟨w8.heap.size, 2, none⟩ (.int .i64 y2)) w.heap.size 1 A5 m2 (byteCells l2) from (((HY52.out.setCell (by simp; omega) _).setCell (by simp; omega) _).setCell (by simp; omega) _)) c5
  have v6 := conv_reads (Reads.of_own (show (((w14.setCell ⟨w8.heap.size, 0, none⟩ (.slice A2 n2 c2)).setCell ⟨w8.heap.size, 1, none⟩ (.int .i64 x2)).setCell ⟨w8.heap.size, 2, none⟩ (.int .i64 y2)).ownsRow wt46.heap.size 5 1 (.slice A6 m2 c6) m2 (byteCells l2) from own_far (own_far (own_far HO6.out (by simp; omega)) (by simp; omega)) (by simp; omega))) c6
  go_wp2_with fail
  clear v5 v6 HO6
  have HX51s := Lib.hid (show Blk (((w14.setCell ⟨w8.heap.size, 0, none⟩ (.slice A2 n2 c2)).setCell ⟨w8.heap.size, 1, none⟩ (.int .i64 x2)).setCell ⟨w8.heap.size, 2, none⟩ (.int .i64 y2)) w8.heap.size 26 #[.slice A2 n2 c2, .int .i64 x2, .int .i64 y2] from (((HX51.out.set_ 0 _).set_ 1 _).set_ 2 _))
  have HX49s := Lib.hid (show Blk (((w14.setCell ⟨w8.heap.size, 0, none⟩ (.slice A2 n2 c2)).setCell ⟨w8.heap.size, 1, none⟩ (.int .i64 x2)).setCell ⟨w8.heap.size, 2, none⟩ (.int .i64 y2)) w.heap.size 26 #[.slice A2 n2 c2, .int .i64 at_, .int .i64 0] from (((HX49.out.far (by simp; omega) _).far (by simp; omega) _).far (by simp; omega) _))
  have HX50s := Lib.hid (show Blk (((w14.setCell ⟨w8.heap.size, 0, none⟩ (.slice A2 n2 c2)).setCell ⟨w8.heap.size, 1, none⟩ (.int .i64 x2)).setCell ⟨w8.heap.size, 2, none⟩ (.int .i64 y2)) w7.heap.size 26 #[.slice A2 n2 c2, .int .i64 x2, .int .i64 y2] from (((HX50.out.far (by simp; omega) _).far (by simp; omega) _).far (by simp; omega) _))
  have HY52s := Lib.hid (show Reads (((w14.setCell ⟨w8.heap.size, 0, none⟩ (.slice A2 n2 c2)).setCell ⟨w8.heap.size, 1, none⟩ (.int .i64 x2)).setCell ⟨w8.heap.size, 2, none⟩ (.int .i64 y2)) w.heap.size 1 A5 m2 (byteCells l2) from (((HY52.out.setCell (by simp; omega) _).setCell (by simp; omega) _).setCell (by simp; omega) _))
  have HBs := Lib.hid (show Below w.heap.size w (((w14.setCell ⟨w8.heap.size, 0, none⟩ (.slice A2 n2 c2)).setCell ⟨w8.heap.size, 1, none⟩ (.int .i64 x2)).setCell ⟨w8.heap.size, 2, none⟩ (.int .i64 y2)) from (((HB.out.setCell (by simp; omega) _).setCell (by simp; omega) _).setCell (by simp; omega) _))
  have hs54 : w14.heap.size ≤ (((w14.setCell ⟨w8.heap.size, 0, none⟩ (.slice A2 n2 c2)).setCell ⟨w8.heap.size, 1, none⟩ (.int .i64 x2)).setCell ⟨w8.heap.size, 2, none⟩ (.int .i64 y2)).heap.size := by simp [World.setCell]
  clear c_c_0 z_c_0 c_c_1 z_c_1 c_c_2 z_c_2 c_x_0 z_x_0 c_x_1 z_x_1 c_x_2 z_x_2 c_y_0 z_y_0 c_y_1 z_y_1 c_y_2 z_y_2
  generalize ((w14.setCell ⟨w8.heap.size, 0, none⟩ (.slice A2 n2 c2)).setCell ⟨w8.heap.size, 1, none⟩ (.int .i64 x2)).setCell ⟨w8.heap.size, 2, none⟩ (.int .i64 y2) = wt53 at HX51s HX49s HX50s HY52s HBs hs54 ⊢
  clear HX49 HX50 HX51 HY52 HB
  have HB := HBs
  clear HBs
  refine (rSame_yes A2 n2 c2 A2 n2 c2 x2 y2 bs2 w.heap.size w.heap.size _ (HR2.out.below HB.out) HB.out.size (HR2.out.below HB.out) HB.out.size).mono ?_
  rintro e w15 ⟨rfl, hb⟩
  have hs55 : wt53.heap.size ≤ w15.heap.size := hb.size
  have HX56 := Lib.hid (show Blk w15 w.heap.size 26 #[.slice A2 n2 c2, .int .i64 at_, .int .i64 0] from HX49s.out.below hb HX49s.out.lt)
  have HX57 := Lib.hid (show Blk w15 w7.heap.size 26 #[.slice A2 n2 c2, .int .i64 x2, .int .i64 y2] from HX50s.out.below hb HX50s.out.lt)
  have HX58 := Lib.hid (show Blk w15 w8.heap.size 26 #[.slice A2 n2 c2, .int .i64 x2, .int .i64 y2] from HX51s.out.below hb HX51s.out.lt)
  have HY59 := Lib.hid (show Reads w15 w.heap.size 1 A5 m2 (byteCells l2) from HY52s.out.below (hb.mono (by omega)))
  have HB' := Lib.hid (show Below w.heap.size w w15 from HB.out.trans (hb.mono HB.out.size))
  clear HX49s HX50s HX51s HY52s HB
  have HB := HB'
  clear HB'
  clear hb
  have c_c_0 : w15.cell? ⟨w.heap.size, 0, none⟩ = some (.slice A2 n2 c2) := HX56.out.cell 0
  have z_c_0 : w15.frozen? ⟨w.heap.size, 0, none⟩ = false := HX56.out.frozen 0
  have c_c_1 : w15.cell? ⟨w.heap.size, 1, none⟩ = some (.int .i64 at_) := HX56.out.cell 1
  have z_c_1 : w15.frozen? ⟨w.heap.size, 1, none⟩ = false := HX56.out.frozen 1
  have c_c_2 : w15.cell? ⟨w.heap.size, 2, none⟩ = some (.int .i64 0) := HX56.out.cell 2
  have z_c_2 : w15.frozen? ⟨w.heap.size, 2, none⟩ = false := HX56.out.frozen 2
  have c_x_0 : w15.cell? ⟨w7.heap.size, 0, none⟩ = some (.slice A2 n2 c2) := HX57.out.cell 0
  have z_x_0 : w15.frozen? ⟨w7.heap.size, 0, none⟩ = false := HX57.out.frozen 0
  have c_x_1 : w15.cell? ⟨w7.heap.size, 1, none⟩ = some (.int .i64 x2) := HX57.out.cell 1
  have z_x_1 : w15.frozen? ⟨w7.heap.size, 1, none⟩ = false := HX57.out.frozen 1
  have c_x_2 : w15.cell? ⟨w7.heap.size, 2, none⟩ = some (.int .i64 y2) := HX57.out.cell 2
  have z_x_2 : w15.frozen? ⟨w7.heap.size, 2, none⟩ = false := HX57.out.frozen 2
  have c_y_0 : w15.cell? ⟨w8.heap.size, 0, none⟩ = some (.slice A2 n2 c2) := HX58.out.cell 0
  have z_y_0 : w15.frozen? ⟨w8.heap.size, 0, none⟩ = false := HX58.out.frozen 0
  have c_y_1 : w15.cell? ⟨w8.heap.size, 1, none⟩ = some (.int .i64 x2) := HX58.out.cell 1
  have z_y_1 : w15.frozen? ⟨w8.heap.size, 1, none⟩ = false := HX58.out.frozen 1
  have c_y_2 : w15.cell? ⟨w8.heap.size, 2, none⟩ = some (.int .i64 y2) := HX58.out.cell 2
  have z_y_2 : w15.frozen? ⟨w8.heap.size, 2, none⟩ = false := HX58.out.frozen 2
  go_wp2_with fail
  clear c_c_0 z_c_0 c_c_1 z_c_1 c_c_2 z_c_2 c_x_0 z_x_0 c_x_1 z_x_1 c_x_2 z_x_2 c_y_0 z_y_0 c_y_1 z_y_1 c_y_2 z_y_2
  refine (Text_v A2 n2 c2 at_ 0 bs2 w.heap.size _ (HR2.out.below HB.out) HB.out.size hnc2 hcm2 (by omega) most hmm x3 y3 l3 HX.out).mono ?_
  rintro e w16 ⟨rfl, hb⟩
  have hs60 : w15.heap.size ≤ w16.heap.size := hb.size
  have HX61 := Lib.hid (show Blk w16 w.heap.size 26 #[.slice A2 n2 c2, .int .i64 at_, .int .i64 0] from HX56.out.below hb HX56.out.lt)
  have HX62 := Lib.hid (show Blk w16 w7.heap.size 26 #[.slice A2 n2 c2, .int .i64 x2, .int .i64 y2] from HX57.out.below hb HX57.out.lt)
  have HX63 := Lib.hid (show Blk w16 w8.heap.size 26 #[.slice A2 n2 c2, .int .i64 x2, .int .i64 y2] from HX58.out.below hb HX58.out.lt)
  have HB' := Lib.hid (show Below w.heap.size w w16 from HB.out.trans (hb.mono HB.out.size))
  clear HX56 HX57 HX58 HB
  have HB := HB'
  clear HB'
  clear hb
  have c_c_0 : w16.cell? ⟨w.heap.size, 0, none⟩ = some (.slice A2 n2 c2) := HX61.out.cell 0
  have z_c_0 : w16.frozen? ⟨w.heap.size, 0, none⟩ = false := HX61.out.frozen 0
  have c_c_1 : w16.cell? ⟨w.heap.size, 1, none⟩ = some (.int .i64 at_) := HX61.out.cell 1
  have z_c_1 : w16.frozen? ⟨w.heap.size, 1, none⟩ = false := HX61.out.frozen 1
  have c_c_2 : w16.cell? ⟨w.heap.size, 2, none⟩ = some (.int .i64 0) := HX61.out.cell 2
  have z_c_2 : w16.frozen? ⟨w.heap.size, 2, none⟩ = false := HX61.out.frozen 2
  have c_x_0 : w16.cell? ⟨w7.heap.size, 0, none⟩ = some (.slice A2 n2 c2) := HX62.out.cell 0
  have z_x_0 : w16.frozen? ⟨w7.heap.size, 0, none⟩ = false := HX62.out.frozen 0
  have c_x_1 : w16.cell? ⟨w7.heap.size, 1, none⟩ = some (.int .i64 x2) := HX62.out.cell 1
  have z_x_1 : w16.frozen? ⟨w7.heap.size, 1, none⟩ = false := HX62.out.frozen 1
  have c_x_2 : w16.cell? ⟨w7.heap.size, 2, none⟩ = some (.int .i64 y2) := HX62.out.cell 2
  have z_x_2 : w16.frozen? ⟨w7.heap.size, 2, none⟩ = false := HX62.out.frozen 2
  have c_y_0 : w16.cell? ⟨w8.heap.size, 0, none⟩ = some (.slice A2 n2 c2) := HX63.out.cell 0
  have z_y_0 : w16.frozen? ⟨w8.heap.size, 0, none⟩ = false := HX63.out.frozen 0
  have c_y_1 : w16.cell? ⟨w8.heap.size, 1, none⟩ = some (.int .i64 x2) := HX63.out.cell 1
  have z_y_1 : w16.frozen? ⟨w8.heap.size, 1, none⟩ = false := HX63.out.frozen 1
  have c_y_2 : w16.cell? ⟨w8.heap.size, 2, none⟩ = some (.int .i64 y2) := HX63.out.cell 2
  have z_y_2 : w16.frozen? ⟨w8.heap.size, 2, none⟩ = false := HX63.out.frozen 2
  go_wp2_with fail
  have HX62s := Lib.hid (show Blk (((w16.setCell ⟨w7.heap.size, 0, none⟩ (.slice A2 n2 c2)).setCell ⟨w7.heap.size, 1, none⟩ (.int .i64 x3)).setCell ⟨w7.heap.size, 2, none⟩ (.int .i64 y3)) w7.heap.size 26 #[.slice A2 n2 c2, .int .i64 x3, .int .i64 y3] from (((HX62.out.set_ 0 _).set_ 1 _).set_ 2 _))
  have HX61s := Lib.hid (show Blk (((w16.setCell ⟨w7.heap.size, 0, none⟩ (.slice A2 n2 c2)).setCell ⟨w7.heap.size, 1, none⟩ (.int .i64 x3)).setCell ⟨w7.heap.size, 2, none⟩ (.int .i64 y3)) w.heap.size 26 #[.slice A2 n2 c2, .int .i64 at_, .int .i64 0] from (((HX61.out.far (by simp; omega) _).far (by simp; omega) _).far (by simp; omega) _))
  have HX63s := Lib.hid (show Blk (((w16.setCell ⟨w7.heap.size, 0, none⟩ (.slice A2 n2 c2)).setCell ⟨w7.heap.size, 1, none⟩ (.int .i64 x3)).setCell ⟨w7.heap.size, 2, none⟩ (.int .i64 y3)) w8.heap.size 26 #[.slice A2 n2 c2, .int .i64 x2, .int .i64 y2] from (((HX63.out.far (by simp; omega) _).far (by simp; omega) _).far (by simp; omega) _))
  have HBs := Lib.hid (show Below w.heap.size w (((w16.setCell ⟨w7.heap.size, 0, none⟩ (.slice A2 n2 c2)).setCell ⟨w7.heap.size, 1, none⟩ (.int .i64 x3)).setCell ⟨w7.heap.size, 2, none⟩ (.int .i64 y3)) from (((HB.out.setCell (by simp; omega) _).setCell (by simp; omega) _).setCell (by simp; omega) _))
  have hs65 : w16.heap.size ≤ (((w16.setCell ⟨w7.heap.size, 0, none⟩ (.slice A2 n2 c2)).setCell ⟨w7.heap.size, 1, none⟩ (.int .i64 x3)).setCell ⟨w7.heap.size, 2, none⟩ (.int .i64 y3)).heap.size := by simp [World.setCell]
  clear c_c_0 z_c_0 c_c_1 z_c_1 c_c_2 z_c_2 c_x_0 z_x_0 c_x_1 z_x_1 c_x_2 z_x_2 c_y_0 z_y_0 c_y_1 z_y_1 c_y_2 z_y_2
  generalize ((w16.setCell ⟨w7.heap.size, 0, none⟩ (.slice A2 n2 c2)).setCell ⟨w7.heap.size, 1, none⟩ (.int .i64 x3)).setCell ⟨w7.heap.size, 2, none⟩ (.int .i64 y3) = wt64 at HX62s HX61s HX63s HBs hs65 ⊢
  clear HX61 HX62 HX63 HB
  have HB := HBs
  clear HBs
  refine (rText_v A2 n2 c2 at_ 0 bs2 w.heap.size _ (HR2.out.below HB.out) HB.out.size hnc2 hcm2 (by omega) most hmm x3 y3 l3 HX.out).mono ?_
  rintro e w17 ⟨rfl, hb⟩
  have hs66 : wt64.heap.size ≤ w17.heap.size := hb.size
  have HX67 := Lib.hid (show Blk w17 w.heap.size 26 #[.slice A2 n2 c2, .int .i64 at_, .int .i64 0] from HX61s.out.below hb HX61s.out.lt)
  have HX68 := Lib.hid (show Blk w17 w7.heap.size 26 #[.slice A2 n2 c2, .int .i64 x3, .int .i64 y3] from HX62s.out.below hb HX62s.out.lt)
  have HX69 := Lib.hid (show Blk w17 w8.heap.size 26 #[.slice A2 n2 c2, .int .i64 x2, .int .i64 y2] from HX63s.out.below hb HX63s.out.lt)
  have HB' := Lib.hid (show Below w.heap.size w w17 from HB.out.trans (hb.mono HB.out.size))
  clear HX61s HX62s HX63s HB
  have HB := HB'
  clear HB'
  clear hb
  have c_c_0 : w17.cell? ⟨w.heap.size, 0, none⟩ = some (.slice A2 n2 c2) := HX67.out.cell 0
  have z_c_0 : w17.frozen? ⟨w.heap.size, 0, none⟩ = false := HX67.out.frozen 0
  have c_c_1 : w17.cell? ⟨w.heap.size, 1, none⟩ = some (.int .i64 at_) := HX67.out.cell 1
  have z_c_1 : w17.frozen? ⟨w.heap.size, 1, none⟩ = false := HX67.out.frozen 1
  have c_c_2 : w17.cell? ⟨w.heap.size, 2, none⟩ = some (.int .i64 0) := HX67.out.cell 2
  have z_c_2 : w17.frozen? ⟨w.heap.size, 2, none⟩ = false := HX67.out.frozen 2
  have c_x_0 : w17.cell? ⟨w7.heap.size, 0, none⟩ = some (.slice A2 n2 c2) := HX68.out.cell 0
  have z_x_0 : w17.frozen? ⟨w7.heap.size, 0, none⟩ = false := HX68.out.frozen 0
  have c_x_1 : w17.cell? ⟨w7.heap.size, 1, none⟩ = some (.int .i64 x3) := HX68.out.cell 1
  have z_x_1 : w17.frozen? ⟨w7.heap.size, 1, none⟩ = false := HX68.out.frozen 1
  have c_x_2 : w17.cell? ⟨w7.heap.size, 2, none⟩ = some (.int .i64 y3) := HX68.out.cell 2
  have z_x_2 : w17.frozen? ⟨w7.heap.size, 2, none⟩ = false := HX68.out.frozen 2
  have c_y_0 : w17.cell? ⟨w8.heap.size, 0, none⟩ = some (.slice A2 n2 c2) := HX69.out.cell 0
  have z_y_0 : w17.frozen? ⟨w8.heap.size, 0, none⟩ = false := HX69.out.frozen 0
  have c_y_1 : w17.cell? ⟨w8.heap.size, 1, none⟩ = some (.int .i64 x2) := HX69.out.cell 1
  have z_y_1 : w17.frozen? ⟨w8.heap.size, 1, none⟩ = false := HX69.out.frozen 1
  have c_y_2 : w17.cell? ⟨w8.heap.size, 2, none⟩ = some (.int .i64 y2) := HX69.out.cell 2
  have z_y_2 : w17.frozen? ⟨w8.heap.size, 2, none⟩ = false := HX69.out.frozen 2
  go_wp2_with fail
  have HX69s := Lib.hid (show Blk (((w17.setCell ⟨w8.heap.size, 0, none⟩ (.slice A2 n2 c2)).setCell ⟨w8.heap.size, 1, none⟩ (.int .i64 x3)).setCell ⟨w8.heap.size, 2, none⟩ (.int .i64 y3)) w8.heap.size 26 #[.slice A2 n2 c2, .int .i64 x3, .int .i64 y3] from (((HX69.out.set_ 0 _).set_ 1 _).set_ 2 _))
  have HX67s := Lib.hid (show Blk (((w17.setCell ⟨w8.heap.size, 0, none⟩ (.slice A2 n2 c2)).setCell ⟨w8.heap.size, 1, none⟩ (.int .i64 x3)).setCell ⟨w8.heap.size, 2, none⟩ (.int .i64 y3)) w.heap.size 26 #[.slice A2 n2 c2, .int .i64 at_, .int .i64 0] from (((HX67.out.far (by simp; omega) _).far (by simp; omega) _).far (by simp; omega) _))
  have HX68s := Lib.hid (show Blk (((w17.setCell ⟨w8.heap.size, 0, none⟩ (.slice A2 n2 c2)).setCell ⟨w8.heap.size, 1, none⟩ (.int .i64 x3)).setCell ⟨w8.heap.size, 2, none⟩ (.int .i64 y3)) w7.heap.size 26 #[.slice A2 n2 c2, .int .i64 x3, .int .i64 y3] from (((HX68.out.far (by simp; omega) _).far (by simp; omega) _).far (by simp; omega) _))
  have HBs := Lib.hid (show Below w.heap.size w (((w17.setCell ⟨w8.heap.size, 0, none⟩ (.slice A2 n2 c2)).setCell ⟨w8.heap.size, 1, none⟩ (.int .i64 x3)).setCell ⟨w8.heap.size, 2, none⟩ (.int .i64 y3)) from (((HB.out.setCell (by simp; omega) _).setCell (by simp; omega) _).setCell (by simp; omega) _))
  have hs71 : w17.heap.size ≤ (((w17.setCell ⟨w8.heap.size, 0, none⟩ (.slice A2 n2 c2)).setCell ⟨w8.heap.size, 1, none⟩ (.int .i64 x3)).setCell ⟨w8.heap.size, 2, none⟩ (.int .i64 y3)).heap.size := by simp [World.setCell]
  clear c_c_0 z_c_0 c_c_1 z_c_1 c_c_2 z_c_2 c_x_0 z_x_0 c_x_1 z_x_1 c_x_2 z_x_2 c_y_0 z_y_0 c_y_1 z_y_1 c_y_2 z_y_2
  generalize ((w17.setCell ⟨w8.heap.size, 0, none⟩ (.slice A2 n2 c2)).setCell ⟨w8.heap.size, 1, none⟩ (.int .i64 x3)).setCell ⟨w8.heap.size, 2, none⟩ (.int .i64 y3) = wt70 at HX69s HX67s HX68s HBs hs71 ⊢
  clear HX67 HX68 HX69 HB
  have HB := HBs
  clear HBs
  refine (rSame_yes A2 n2 c2 A2 n2 c2 x3 y3 bs2 w.heap.size w.heap.size _ (HR2.out.below HB.out) HB.out.size (HR2.out.below HB.out) HB.out.size).mono ?_
  rintro e w18 ⟨rfl, hb⟩
  have hs72 : wt70.heap.size ≤ w18.heap.size := hb.size
  have HX73 := Lib.hid (show Blk w18 w.heap.size 26 #[.slice A2 n2 c2, .int .i64 at_, .int .i64 0] from HX67s.out.below hb HX67s.out.lt)
  have HX74 := Lib.hid (show Blk w18 w7.heap.size 26 #[.slice A2 n2 c2, .int .i64 x3, .int .i64 y3] from HX68s.out.below hb HX68s.out.lt)
  have HX75 := Lib.hid (show Blk w18 w8.heap.size 26 #[.slice A2 n2 c2, .int .i64 x3, .int .i64 y3] from HX69s.out.below hb HX69s.out.lt)
  have HB' := Lib.hid (show Below w.heap.size w w18 from HB.out.trans (hb.mono HB.out.size))
  clear HX67s HX68s HX69s HB
  have HB := HB'
  clear HB'
  clear hb
  go_wp2
  go_ret
  exact ⟨rfl, HB.out⟩

theorem WireRight_walk (A : Option Addr) (n c : Nat) (zs : List Int) (un : Int) (k : Int) (s : ByteArray) (A2 : Option Addr) (n2 c2 : Nat) (at_ err : Int) (zs2 : List Int) (take most : Int) (w : World) (hz : IntArg .u8 w A n c zs) (hun : (Lit.int .u64 un).wf = true) (hk : (Lit.int .i64 k).wf = true) (hs : s.size ≤ maxLen) (hz2 : IntArg .u8 w A2 n2 c2 zs2) (hmo : (Lit.int .i64 most).wf = true) :
    Calls Try.prog 3 #[.slice A n c, .int .u64 un, .int .i64 k, .string s, .agg #[.slice A2 n2 c2, .int .i64 at_, .int .i64 err], .int .i64 take, .int .i64 most] w fun e w' => e = .returned (.bool true) ∧ Below w.heap.size w w' := by
  obtain ⟨bs, hr, hnc, hcm, _⟩ := bytesArg hz
  obtain ⟨bs2, hr2, hnc2, hcm2, _⟩ := bytesArg hz2
  unfold maxLen at hcm hcm2
  have h1 := bounds_u64 hun
  have h2 := bounds_i64 hk
  have h3 := bounds_i64 hmo
  obtain ⟨un, rfl⟩ : ∃ m : Nat, un = (m : Int) := ⟨un.toNat, by omega⟩
  obtain ⟨⟨l⟩⟩ := s
  by_cases hn : 2000 < n ∨ 2000 < l.length ∨ 2000 < n2
  · exact WireRight_long A n c bs un k l A2 n2 c2 bs2 at_ err take most w (by omega) (by omega) (by omega) (by omega) hr hnc (by omega) hr2 hnc2 (by omega) hn
  · by_cases hR : 0 ≤ at_ ∧ at_ ≤ (n2 : Int) ∧ err = 0
    · exact WireRight_yes A n c bs un k l A2 n2 c2 bs2 at_ err take most w (by omega) (by omega) (by omega) (by omega) hr hnc (by omega) hr2 hnc2 (by omega) (by omega) (by omega) (by omega) hR
    · exact WireRight_no A n c bs un k l A2 n2 c2 bs2 at_ err take most w (by omega) (by omega) (by omega) (by omega) hr hnc (by omega) hr2 hnc2 (by omega) (by omega) (by omega) (by omega) (by omega)
end Go.Proofs.Ytgpefnlmlicopaa
