/- The walk of CrcBack. -/
import Derived.Test.YtmdclaahfndhdaaLawCrc6
namespace Go.Proofs.Ytmdclaahfndhdaa
set_option linter.unusedVariables false
open Go.RowKit

theorem sealB_take (t : Nat → Nat) (bs : List UInt8) (n : Nat) (h : bs.length = n) : (sealB t bs).take n = bs := by unfold sealB; rw [← h]; simp
theorem sealB_self (t : Nat → Nat) (bs : List UInt8) (n : Nat) (h : bs.length = n) : (sealB t ((sealB t bs).take n) == sealB t bs) = true := by rw [sealB_take t bs n h]; simp

set_option maxRecDepth 100000 in
theorem CrcBack_long (t : Nat → Nat) (a b : Int) (A : Option Addr) (n c : Nat) (cut : Int) (w : World) (hn : 3000 < n) (hm : n ≤ 9223372036854775807) :
    Calls Try.prog 10 #[.agg (tabArr t), .int .u32 a, .int .u32 b, .slice A n c, .int .u16 cut] w fun e w' => e = .returned (.bool true) ∧ Below w.heap.size w w' := by
  have hd : decide ((3000 : Int) < (n : Int)) = true := by simp; omega
  go_enter Try.func10, Try.ntmps10
  go_wp2_with fail
  refine (Crc_awake _).mono ?_
  rintro e w1 ⟨rfl, hb1⟩
  go_wp2
  go_ret
  exact ⟨rfl, ((Tb.start t w).next hb1).2.1⟩

set_option maxRecDepth 100000 in
set_option maxHeartbeats 2000000 in
theorem CrcBack_main (t : Nat → Nat) (a b : Nat) (A : Option Addr) (n c : Nat) (bs : List UInt8) (cut : Nat) (w : World) (ht : ∀ i, i < 256 → t i < 4294967296) (ha : a < 4294967296) (hb : b < 4294967296) (hcut : cut < 65536) (hr : Reads w w.heap.size 1 A n (byteCells bs)) (hnc : n ≤ c) (hcm : c ≤ 9223372036854775807) (hn : n ≤ 3000) :
    Calls Try.prog 10 #[.agg (tabArr t), .int .u32 a, .int .u32 b, .slice A n c, .int .u16 cut] w fun e w' => e = .returned (.bool true) ∧ Below w.heap.size w w' := by
  have HL := Lib.hid hr.lenB
  have HR := Lib.hid hr; clear hr
  have hu := Try.underlying44
  have hi2 : (Try.prog.info? 44).map (·.size) = some (tabArr t).toList.length := by rw [Array.length_toList]; exact tabArr_info t
  have hd : decide ((3000 : Int) < (n : Int)) = false := by simp; omega
  go_enter Try.func10, Try.ntmps10
  go_wp2_with fail
  refine (Crc_awake _).mono ?_
  rintro e w1 ⟨rfl, hb1⟩
  have T1 := Lib.hid ((Tb.start t w).next hb1)
  clear hb1
  go_wp2
  refine wp_region_noPanic ?_
  refine wp_region_held_drew (S := fun W => Tb t w.heap.size w W) (by kernel_rfl) T1.out.drew (fun hHeld => ?_)
  refine takeH 0 (v := .agg ((tabArr t).toList).toArray) rfl (by kernel_rfl) (by kernel_rfl) (by kernel_rfl) rfl (fun _ _ _ h => h) (yieldsIf_load_mid (by rfl) _ _ rfl _ _ rfl ((tabArr t).toList) _ ?hS0u1 hu rfl hi2) hHeld ?r0u1
  case hS0u1 => (intro W hSW; (try dsimp only at hSW); exact tab_range hSW.1)
  simp only [Act.put, Array.toArray_toList, List.setIfInBounds_toArray, List.set_cons_zero, List.set_cons_succ]
  refine takeH 1 (v := .agg ((tabArr t).toList).toArray) rfl (by kernel_rfl) (by kernel_rfl) (by kernel_rfl) rfl (fun _ _ _ h => h) (yieldsIf_load_mid (by rfl) _ _ rfl _ _ rfl ((tabArr t).toList) _ ?hS1u2 hu rfl hi2) hHeld ?r1u2
  case hS1u2 => (intro W hSW; (try dsimp only at hSW); exact tab_range hSW.1)
  simp only [Act.put, Array.toArray_toList, List.setIfInBounds_toArray, List.set_cons_zero, List.set_cons_succ]
  refine takeH 2 (v := ?v2u3) rfl (by kernel_rfl) (by kernel_rfl) (by kernel_rfl) rfl (fun _ _ _ h => h) (Or.inl ⟨by rfl, ?y2u3⟩) hHeld ?r2u3
  case y2u3 => (intro W hSW; (try dsimp only at hSW); go_simp; try with_reducible rfl)
  simp only [Act.put, List.setIfInBounds_toArray, List.set_cons_zero, List.set_cons_succ]
  refine wpAnyH_ready (rs := [3]) (by kernel_rfl) (by simp) ?_
  refine AllReadyH.cons rfl (fun K hK => ?_) AllReadyH.nil
  go_simp
  refine (Seal_c t ht A n c w.heap.size bs _ (Tb.reads hHeld HR.out) (Tb.size hHeld) (by omega)).mono ?_
  rintro e w3 ⟨v, rfl, hown, hb3⟩
  obtain ⟨A1, c1, rfl, hc1, hc2, hc3, hR1⟩ := own_reads hown
  have hm1 : c1 ≤ 9223372036854775807 := by unfold maxLen at hc2; omega
  have HR1 := Lib.hid hR1
  clear hown hR1 hc2 hc3
  refine hK.out _ _ (Tb.next hHeld hb3) (fun hHeld => ?_)
  clear hK K
  try simp only [Act.put, List.setIfInBounds_toArray, List.set_cons_zero, List.set_cons_succ]
  refine wpAnyH_ready (rs := [4]) (by kernel_rfl) (by simp) ?_
  refine AllReadyH.cons rfl (fun K hK => ?_) AllReadyH.nil
  go_simp
  refine (Open_ok t ht A1 n c1 w3.heap.size (sealB t bs) _ HR1.out (Nat.le_refl _) hc1 (by omega) hm1 (sealB_self t bs n HL.out)).mono ?_
  rintro e w4 ⟨rfl, hb4⟩
  refine hK.out _ _ (Tb.next hHeld hb4) (fun hHeld => ?_)
  clear hK K
  try simp only [Act.put, List.setIfInBounds_toArray, List.set_cons_zero, List.set_cons_succ]
  refine takeH 5 (v := ?v5u4) rfl (by kernel_rfl) (by kernel_rfl) (by kernel_rfl) rfl (fun _ _ _ h => h) (Or.inl ⟨by rfl, ?y5u4⟩) hHeld ?r5u4
  case y5u4 => (intro W hSW; (try dsimp only at hSW); go_simp; try with_reducible rfl)
  simp only [Act.put, List.setIfInBounds_toArray, List.set_cons_zero, List.set_cons_succ]
  refine takeH 6 (v := ?v6u5) rfl (by kernel_rfl) (by kernel_rfl) (by kernel_rfl) rfl (fun _ _ _ h => h) (Or.inl ⟨by rfl, ?y6u5⟩) hHeld ?r6u5
  case y6u5 => (intro W hSW; (try dsimp only at hSW); go_simp; try with_reducible rfl)
  simp only [Act.put, List.setIfInBounds_toArray, List.set_cons_zero, List.set_cons_succ]
  refine takeH 7 (v := ?v7u6) rfl (by kernel_rfl) (by kernel_rfl) (by kernel_rfl) rfl (fun _ _ _ h => h) (Or.inl ⟨by rfl, ?y7u6⟩) hHeld ?r7u6
  case y7u6 => (intro W hSW; (try dsimp only at hSW); go_simp; try with_reducible rfl)
  simp only [Act.put, List.setIfInBounds_toArray, List.set_cons_zero, List.set_cons_succ]
  refine takeH 8 (v := ?v8u7) rfl (by kernel_rfl) (by kernel_rfl) (by kernel_rfl) rfl (fun _ _ _ h => h) (Or.inl ⟨by rfl, ?y8u7⟩) hHeld ?r8u7
  case y8u7 => (intro W hSW; (try dsimp only at hSW); go_simp; try with_reducible rfl)
  simp only [Act.put, List.setIfInBounds_toArray, List.set_cons_zero, List.set_cons_succ]
  refine takeH 9 (v := ?v9u8) rfl (by kernel_rfl) (by kernel_rfl) (by kernel_rfl) rfl (fun _ _ _ h => h) (Or.inl ⟨by rfl, ?y9u8⟩) hHeld ?r9u8
  case y9u8 => (intro W hSW; (try dsimp only at hSW); go_simp; try with_reducible rfl)
  simp only [Act.put, List.setIfInBounds_toArray, List.set_cons_zero, List.set_cons_succ]
  refine wpAnyH_done (by kernel_rfl) ?_ _
  refine NoPanic.normal ?_
  have hcv1 := conv_reads ((HR1.out.below hb4).preB (k := n) (by omega)) n
  rw [sealB_take t bs n HL.out] at hcv1
  have T4 := Lib.hid (show Tb t w.heap.size w w4 from hHeld)
  have hcv2 := conv_reads (T4.out.reads HR.out) c
  clear hHeld hb3 hb4 HR1 hm1 hc1 T1
  obtain ⟨k, hk⟩ : ∃ k, cut % (n + 1) = k := ⟨_, rfl⟩
  have hkn : k ≤ n := by have := Nat.mod_lt cut (show 0 < n + 1 by omega); omega
  have hkc : (cut : Int) % ((n : Int) + 1) = (k : Int) := by rw [← hk]; simp [Int.natCast_emod]
  have hk0 : (0 : Int) ≤ (k : Int) := by omega
  have hk1 : (k : Int) ≤ (c : Int) := by omega
  have hk2 : (k : Int) ≤ (n : Int) := by omega
  have hkc' : k ≤ c := by omega
  clear hk
  go_wp2
  clear hcv1 hcv2
  refine wp_region_noPanic ?_
  refine wp_region_held_drew (S := fun W => Tb t w.heap.size w W) (by kernel_rfl) T4.out.drew (fun hHeld => ?_)
  refine takeH 0 (v := .agg ((tabArr t).toList).toArray) rfl (by kernel_rfl) (by kernel_rfl) (by kernel_rfl) rfl (fun _ _ _ h => h) (yieldsIf_load_mid (by rfl) _ _ rfl _ _ rfl ((tabArr t).toList) _ ?hS0u9 hu rfl hi2) hHeld ?r0u9
  case hS0u9 => (intro W hSW; (try dsimp only at hSW); exact tab_range hSW.1)
  simp only [Act.put, Array.toArray_toList, List.setIfInBounds_toArray, List.set_cons_zero, List.set_cons_succ]
  refine takeH 1 (v := ?v1u10) rfl (by kernel_rfl) (by kernel_rfl) (by kernel_rfl) rfl (fun _ _ _ h => h) (Or.inl ⟨by rfl, ?y1u10⟩) hHeld ?r1u10
  case y1u10 => (intro W hSW; (try dsimp only at hSW); go_simp; try with_reducible rfl)
  simp only [Act.put, List.setIfInBounds_toArray, List.set_cons_zero, List.set_cons_succ]
  refine takeH 2 (v := ?v2u11) rfl (by kernel_rfl) (by kernel_rfl) (by kernel_rfl) rfl (fun _ _ _ h => h) (Or.inl ⟨by rfl, ?y2u11⟩) hHeld ?r2u11
  case y2u11 => (intro W hSW; (try dsimp only at hSW); go_simp; try with_reducible rfl)
  simp only [Act.put, List.setIfInBounds_toArray, List.set_cons_zero, List.set_cons_succ]
  refine takeH 4 (v := .agg ((tabArr t).toList).toArray) rfl (by kernel_rfl) (by kernel_rfl) (by kernel_rfl) rfl (fun _ _ _ h => h) (yieldsIf_load_mid (by rfl) _ _ rfl _ _ rfl ((tabArr t).toList) _ ?hS4u12 hu rfl hi2) hHeld ?r4u12
  case hS4u12 => (intro W hSW; (try dsimp only at hSW); exact tab_range hSW.1)
  simp only [Act.put, Array.toArray_toList, List.setIfInBounds_toArray, List.set_cons_zero, List.set_cons_succ]
  refine takeH 5 (v := .agg ((tabArr t).toList).toArray) rfl (by kernel_rfl) (by kernel_rfl) (by kernel_rfl) rfl (fun _ _ _ h => h) (yieldsIf_load_mid (by rfl) _ _ rfl _ _ rfl ((tabArr t).toList) _ ?hS5u13 hu rfl hi2) hHeld ?r5u13
  case hS5u13 => (intro W hSW; (try dsimp only at hSW); exact tab_range hSW.1)
  simp only [Act.put, Array.toArray_toList, List.setIfInBounds_toArray, List.set_cons_zero, List.set_cons_succ]
  refine takeH 6 (v := ?v6u14) rfl (by kernel_rfl) (by kernel_rfl) (by kernel_rfl) rfl (fun _ _ _ h => h) (Or.inl ⟨by rfl, ?y6u14⟩) hHeld ?r6u14
  case y6u14 => (intro W hSW; (try dsimp only at hSW); go_simp; try with_reducible rfl)
  simp only [Act.put, List.setIfInBounds_toArray, List.set_cons_zero, List.set_cons_succ]
  refine takeH 7 (v := ?v7u15) rfl (by kernel_rfl) (by kernel_rfl) (by kernel_rfl) rfl (fun _ _ _ h => h) (Or.inl ⟨by rfl, ?y7u15⟩) hHeld ?r7u15
  case y7u15 => (intro W hSW; (try dsimp only at hSW); go_simp; try with_reducible rfl)
  simp only [Act.put, List.setIfInBounds_toArray, List.set_cons_zero, List.set_cons_succ]
  refine takeH 8 (v := ?v8u16) rfl (by kernel_rfl) (by kernel_rfl) (by kernel_rfl) rfl (fun _ _ _ h => h) (Or.inl ⟨by rfl, ?y8u16⟩) hHeld ?r8u16
  case y8u16 => (intro W hSW; (try dsimp only at hSW); go_simp; try with_reducible rfl)
  simp only [Act.put, List.setIfInBounds_toArray, List.set_cons_zero, List.set_cons_succ]
  refine takeH 9 (v := ?v9u17) rfl (by kernel_rfl) (by kernel_rfl) (by kernel_rfl) rfl (fun _ _ _ h => h) (Or.inl ⟨by rfl, ?y9u17⟩) hHeld ?r9u17
  case y9u17 => (intro W hSW; (try dsimp only at hSW); go_simp; try with_reducible rfl)
  simp only [Act.put, List.setIfInBounds_toArray, List.set_cons_zero, List.set_cons_succ]
  refine takeH 11 (v := ?v11u18) rfl (by kernel_rfl) (by kernel_rfl) (by kernel_rfl) rfl (fun _ _ _ h => h) (Or.inl ⟨by rfl, ?y11u18⟩) hHeld ?r11u18
  case y11u18 => (intro W hSW; (try dsimp only at hSW); go_simp; try with_reducible rfl)
  simp only [Act.put, List.setIfInBounds_toArray, List.set_cons_zero, List.set_cons_succ]
  refine takeH 12 (v := ?v12u19) rfl (by kernel_rfl) (by kernel_rfl) (by kernel_rfl) rfl (fun _ _ _ h => h) (Or.inl ⟨by rfl, ?y12u19⟩) hHeld ?r12u19
  case y12u19 => (intro W hSW; (try dsimp only at hSW); go_simp; try with_reducible rfl)
  simp only [Act.put, List.setIfInBounds_toArray, List.set_cons_zero, List.set_cons_succ]
  refine takeH 13 (v := ?v13u20) rfl (by kernel_rfl) (by kernel_rfl) (by kernel_rfl) rfl (fun _ _ _ h => h) (Or.inl ⟨by rfl, ?y13u20⟩) hHeld ?r13u20
  case y13u20 => (intro W hSW; (try dsimp only at hSW); go_simp; try with_reducible rfl)
  simp only [Act.put, List.setIfInBounds_toArray, List.set_cons_zero, List.set_cons_succ]
  refine wpAnyH_ready (rs := [3]) (by kernel_rfl) (by simp) ?_
  refine AllReadyH.cons rfl (fun K hK => ?_) AllReadyH.nil
  go_simp
  refine (Sum_c t ht a ha A n c w.heap.size bs _ (Tb.reads hHeld HR.out) (Tb.size hHeld) (by omega)).mono ?_
  rintro e w5 ⟨rfl, hb5⟩
  refine hK.out _ _ (Tb.next hHeld hb5) (fun hHeld => ?_)
  clear hK K
  try simp only [Act.put, List.setIfInBounds_toArray, List.set_cons_zero, List.set_cons_succ]
  refine wpAnyH_ready (rs := [10]) (by kernel_rfl) (by simp) ?_
  refine AllReadyH.cons rfl (fun K hK => ?_) AllReadyH.nil
  go_simp
  refine (Sum_c t ht a ha A k c w.heap.size (bs.take k) _ ((Tb.reads hHeld HR.out).preB hkn) (Tb.size hHeld) (by omega)).mono ?_
  rintro e w6 ⟨rfl, hb6⟩
  refine hK.out _ _ (Tb.next hHeld hb6) (fun hHeld => ?_)
  clear hK K
  try simp only [Act.put, List.setIfInBounds_toArray, List.set_cons_zero, List.set_cons_succ]
  refine wpAnyH_ready (rs := [14]) (by kernel_rfl) (by simp) ?_
  refine AllReadyH.cons rfl (fun K hK => ?_) AllReadyH.nil
  go_simp
  refine (Sum_c t ht (sumT t a (natB (bs.take k))) (sumT_lt t ht a ha _ (natB_lt _)) (if c = k then A else A.map (·.add k)) (n - k) (c - k) w.heap.size (bs.drop k) _ ((Tb.reads hHeld HR.out).sufB hkn hnc) (Tb.size hHeld) (by omega)).mono ?_
  rintro e w7 ⟨rfl, hb7⟩
  rw [← sumT_append, ← natB_append, List.take_append_drop]
  refine hK.out _ _ (Tb.next hHeld hb7) (fun hHeld => ?_)
  clear hK K
  try simp only [Act.put, List.setIfInBounds_toArray, List.set_cons_zero, List.set_cons_succ]
  generalize (if c = k then A else A.map (·.add k)) = Ak
  refine takeH 15 (v := ?v15u21) rfl (by kernel_rfl) (by kernel_rfl) (by kernel_rfl) rfl (fun _ _ _ h => h) (Or.inl ⟨by rfl, ?y15u21⟩) hHeld ?r15u21
  case y15u21 => (intro W hSW; (try dsimp only at hSW); go_simp; try with_reducible rfl)
  simp only [Act.put, List.setIfInBounds_toArray, List.set_cons_zero, List.set_cons_succ]
  refine takeH 16 (v := ?v16u22) rfl (by kernel_rfl) (by kernel_rfl) (by kernel_rfl) rfl (fun _ _ _ h => h) (Or.inl ⟨by rfl, ?y16u22⟩) hHeld ?r16u22
  case y16u22 => (intro W hSW; (try dsimp only at hSW); go_simp; try with_reducible rfl)
  simp only [Act.put, List.setIfInBounds_toArray, List.set_cons_zero, List.set_cons_succ]
  refine takeH 17 (v := .agg ((tabArr t).toList).toArray) rfl (by kernel_rfl) (by kernel_rfl) (by kernel_rfl) rfl (fun _ _ _ h => h) (yieldsIf_load_mid (by rfl) _ _ rfl _ _ rfl ((tabArr t).toList) _ ?hS17u23 hu rfl hi2) hHeld ?r17u23
  case hS17u23 => (intro W hSW; (try dsimp only at hSW); exact tab_range hSW.1)
  simp only [Act.put, Array.toArray_toList, List.setIfInBounds_toArray, List.set_cons_zero, List.set_cons_succ]
  refine takeH 18 (v := ?v18u24) rfl (by kernel_rfl) (by kernel_rfl) (by kernel_rfl) rfl (fun _ _ _ h => h) (Or.inl ⟨by rfl, ?y18u24⟩) hHeld ?r18u24
  case y18u24 => (intro W hSW; (try dsimp only at hSW); go_simp; try with_reducible rfl)
  simp only [Act.put, List.setIfInBounds_toArray, List.set_cons_zero, List.set_cons_succ]
  refine takeH 20 (v := ?v20u25) rfl (by kernel_rfl) (by kernel_rfl) (by kernel_rfl) rfl (fun _ _ _ h => h) (Or.inl ⟨by rfl, ?y20u25⟩) hHeld ?r20u25
  case y20u25 => (intro W hSW; (try dsimp only at hSW); go_simp; try with_reducible rfl)
  simp only [Act.put, List.setIfInBounds_toArray, List.set_cons_zero, List.set_cons_succ]
  refine wpAnyH_ready (rs := [19]) (by kernel_rfl) (by simp) ?_
  refine AllReadyH.cons rfl (fun K hK => ?_) AllReadyH.nil
  go_simp
  refine (Sum_c t ht a ha none 0 0 w.heap.size [] _ Reads.none_ (Tb.size hHeld) (by omega)).mono ?_
  rintro e w8 ⟨rfl, hb8⟩
  rw [show natB [] = [] from rfl, sumT_nil]
  refine hK.out _ _ (Tb.next hHeld hb8) (fun hHeld => ?_)
  clear hK K
  try simp only [Act.put, List.setIfInBounds_toArray, List.set_cons_zero, List.set_cons_succ]
  refine takeH 21 (v := ?v21u26) rfl (by kernel_rfl) (by kernel_rfl) (by kernel_rfl) rfl (fun _ _ _ h => h) (Or.inl ⟨by rfl, ?y21u26⟩) hHeld ?r21u26
  case y21u26 => (intro W hSW; (try dsimp only at hSW); go_simp; try with_reducible rfl)
  simp only [Act.put, List.setIfInBounds_toArray, List.set_cons_zero, List.set_cons_succ]
  refine takeH 22 (v := ?v22u27) rfl (by kernel_rfl) (by kernel_rfl) (by kernel_rfl) rfl (fun _ _ _ h => h) (Or.inl ⟨by rfl, ?y22u27⟩) hHeld ?r22u27
  case y22u27 => (intro W hSW; (try dsimp only at hSW); go_simp; try with_reducible rfl)
  simp only [Act.put, List.setIfInBounds_toArray, List.set_cons_zero, List.set_cons_succ]
  refine wpAnyH_done (by kernel_rfl) ?_ _
  refine NoPanic.normal ?_
  have HB4 := Lib.hid (show Below w.heap.size w w8 from hHeld.2.1)
  clear hHeld hb5 hb6 hb7 hb8 T4 hi2
  go_wp2_with fail
  refine (Table_c _).mono ?_
  rintro e w9 ⟨rfl, hb9⟩
  have HB9 := Lib.hid (HB4.out.trans (hb9.mono HB4.out.size))
  have T10 := Lib.hid (bset (u := step8) HB9.out)
  go_wp2_with (first
    | (refine wpList_store_row rfl 44 _ _ rfl w9.heap.size (tabArr step8) rfl rfl 44 (tabArr (fun _ => 0)) (zeroBlk w9) (tabArr_info _) (by rw [tabArr_size, tabArr_size]) (tabArr_one _) ?_; generalize (w9.alloc (.cells Try.zeroCells44 44)).setRow w9.heap.size (tabArr step8) = w10 at T10 ⊢))
  clear hb9 HB4 HB9
  have hi3 : (Try.prog.info? 44).map (·.size) = some (tabArr step8).toList.length := by rw [Array.length_toList]; exact tabArr_info step8
  refine wp_region_noPanic ?_
  refine wp_region_held_drew (S := fun W => Tb step8 w9.heap.size w W) (by kernel_rfl) T10.out.drew (fun hHeld => ?_)
  refine takeH 0 (v := .agg ((tabArr step8).toList).toArray) rfl (by kernel_rfl) (by kernel_rfl) (by kernel_rfl) rfl (fun _ _ _ h => h) (yieldsIf_load_mid (by rfl) _ _ rfl _ _ rfl ((tabArr step8).toList) _ ?hS0u28 hu rfl hi3) hHeld ?r0u28
  case hS0u28 => (intro W hSW; (try dsimp only at hSW); exact tab_range hSW.1)
  simp only [Act.put, Array.toArray_toList, List.setIfInBounds_toArray, List.set_cons_zero, List.set_cons_succ]
  refine takeH 1 (v := ?v1u29) rfl (by kernel_rfl) (by kernel_rfl) (by kernel_rfl) rfl (fun _ _ _ h => h) (Or.inl ⟨by rfl, ?y1u29⟩) hHeld ?r1u29
  case y1u29 => (intro W hSW; (try dsimp only at hSW); go_simp; try with_reducible rfl)
  simp only [Act.put, List.setIfInBounds_toArray, List.set_cons_zero, List.set_cons_succ]
  refine takeH 2 (v := ?v2u30) rfl (by kernel_rfl) (by kernel_rfl) (by kernel_rfl) rfl (fun _ _ _ h => h) (Or.inl ⟨by rfl, ?y2u30⟩) hHeld ?r2u30
  case y2u30 => (intro W hSW; (try dsimp only at hSW); go_simp; try with_reducible rfl)
  simp only [Act.put, List.setIfInBounds_toArray, List.set_cons_zero, List.set_cons_succ]
  refine takeH 4 (v := .agg ((tabArr step8).toList).toArray) rfl (by kernel_rfl) (by kernel_rfl) (by kernel_rfl) rfl (fun _ _ _ h => h) (yieldsIf_load_mid (by rfl) _ _ rfl _ _ rfl ((tabArr step8).toList) _ ?hS4u31 hu rfl hi3) hHeld ?r4u31
  case hS4u31 => (intro W hSW; (try dsimp only at hSW); exact tab_range hSW.1)
  simp only [Act.put, Array.toArray_toList, List.setIfInBounds_toArray, List.set_cons_zero, List.set_cons_succ]
  refine takeH 5 (v := ?v5u32) rfl (by kernel_rfl) (by kernel_rfl) (by kernel_rfl) rfl (fun _ _ _ h => h) (Or.inl ⟨by rfl, ?y5u32⟩) hHeld ?r5u32
  case y5u32 => (intro W hSW; (try dsimp only at hSW); go_simp; try with_reducible rfl)
  simp only [Act.put, List.setIfInBounds_toArray, List.set_cons_zero, List.set_cons_succ]
  refine takeH 6 (v := ?v6u33) rfl (by kernel_rfl) (by kernel_rfl) (by kernel_rfl) rfl (fun _ _ _ h => h) (Or.inl ⟨by rfl, ?y6u33⟩) hHeld ?r6u33
  case y6u33 => (intro W hSW; (try dsimp only at hSW); go_simp; try with_reducible rfl)
  simp only [Act.put, List.setIfInBounds_toArray, List.set_cons_zero, List.set_cons_succ]
  refine takeH 9 (v := ?v9u34) rfl (by kernel_rfl) (by kernel_rfl) (by kernel_rfl) rfl (fun _ _ _ h => h) (Or.inl ⟨by rfl, ?y9u34⟩) hHeld ?r9u34
  case y9u34 => (intro W hSW; (try dsimp only at hSW); go_simp; try with_reducible rfl)
  simp only [Act.put, List.setIfInBounds_toArray, List.set_cons_zero, List.set_cons_succ]
  refine takeH 10 (v := ?v10u35) rfl (by kernel_rfl) (by kernel_rfl) (by kernel_rfl) rfl (fun _ _ _ h => h) (Or.inl ⟨by rfl, ?y10u35⟩) hHeld ?r10u35
  case y10u35 => (intro W hSW; (try dsimp only at hSW); go_simp; try with_reducible rfl)
  simp only [Act.put, List.setIfInBounds_toArray, List.set_cons_zero, List.set_cons_succ]
  refine takeH 11 (v := ?v11u36) rfl (by kernel_rfl) (by kernel_rfl) (by kernel_rfl) rfl (fun _ _ _ h => h) (Or.inl ⟨by rfl, ?y11u36⟩) hHeld ?r11u36
  case y11u36 => (intro W hSW; (try dsimp only at hSW); go_simp; try with_reducible rfl)
  simp only [Act.put, List.setIfInBounds_toArray, List.set_cons_zero, List.set_cons_succ]
  refine wpAnyH_ready (rs := [3]) (by kernel_rfl) (by simp) ?_
  refine AllReadyH.cons rfl (fun K hK => ?_) AllReadyH.nil
  go_simp
  refine (Sum_c step8 step8_tab a ha A n c w.heap.size bs _ (Tb.reads hHeld HR.out) (Tb.size hHeld) (by omega)).mono ?_
  rintro e w11 ⟨rfl, hb11⟩
  refine hK.out _ _ (Tb.next hHeld hb11) (fun hHeld => ?_)
  clear hK K
  try simp only [Act.put, List.setIfInBounds_toArray, List.set_cons_zero, List.set_cons_succ]
  refine wpAnyH_ready (rs := [7]) (by kernel_rfl) (by simp) ?_
  refine AllReadyH.cons rfl (fun K hK => ?_) AllReadyH.nil
  go_simp
  refine (Sum_c step8 step8_tab b hb A n c w.heap.size bs _ (Tb.reads hHeld HR.out) (Tb.size hHeld) (by omega)).mono ?_
  rintro e w12 ⟨rfl, hb12⟩
  refine hK.out _ _ (Tb.next hHeld hb12) (fun hHeld => ?_)
  clear hK K
  try simp only [Act.put, List.setIfInBounds_toArray, List.set_cons_zero, List.set_cons_succ]
  have hI := sumT_tab_inj a b ha hb (natB bs) (natB_lt bs)
  obtain ⟨x1, hx1⟩ : ∃ x, sumT step8 a (natB bs) = x := ⟨_, rfl⟩
  obtain ⟨x2, hx2⟩ : ∃ x, sumT step8 b (natB bs) = x := ⟨_, rfl⟩
  rw [hx1, hx2]
  rw [hx1, hx2] at hI
  have HI := Lib.hid (show ((x1 : Int) == (x2 : Int)) = ((a : Int) == (b : Int)) from by rw [Bool.eq_iff_iff, beq_iff_eq, beq_iff_eq, Int.ofNat_inj, Int.ofNat_inj]; exact hI)
  clear hx1 hx2 hI
  refine takeH 8 (v := ?v8u37) rfl (by kernel_rfl) (by kernel_rfl) (by kernel_rfl) rfl (fun _ _ _ h => h) (Or.inl ⟨by rfl, ?y8u37⟩) hHeld ?r8u37
  case y8u37 => (intro W hSW; (try dsimp only at hSW); go_simp; try with_reducible rfl)
  simp only [Act.put, List.setIfInBounds_toArray, List.set_cons_zero, List.set_cons_succ]
  refine takeH 12 (v := ?v12u38) rfl (by kernel_rfl) (by kernel_rfl) (by kernel_rfl) rfl (fun _ _ _ h => h) (Or.inl ⟨by rfl, ?y12u38⟩) hHeld ?r12u38
  case y12u38 => (intro W hSW; (try dsimp only at hSW); go_simp; try with_reducible rfl)
  simp only [Act.put, List.setIfInBounds_toArray, List.set_cons_zero, List.set_cons_succ]
  refine takeH 13 (v := ?v13u39) rfl (by kernel_rfl) (by kernel_rfl) (by kernel_rfl) rfl (fun _ _ _ h => h) (Or.inl ⟨by rfl, ?y13u39⟩) hHeld ?r13u39
  case y13u39 => (intro W hSW; (try dsimp only at hSW); go_simp; try with_reducible rfl)
  simp only [Act.put, List.setIfInBounds_toArray, List.set_cons_zero, List.set_cons_succ]
  refine wpAnyH_done (by kernel_rfl) ?_ _
  refine NoPanic.normal ?_
  have HB12 := Lib.hid (show Below w.heap.size w w12 from hHeld.2.1)
  go_wp2
  go_ret
  refine ⟨?_, HB12.out⟩
  show Ending.returned (Value.bool (((x1 : Int) == (x2 : Int)) == ((a : Int) == (b : Int)))) = _
  rw [HI.out, beq_self_eq_true]

theorem CrcBack_walk (t : Nat → Nat) (a b : Int) (A : Option Addr) (n c : Nat) (zs : List Int) (cut : Int) (w : World) (ht : ∀ i, i < 256 → t i < 4294967296) (ha : (Lit.int .u32 a).wf = true) (hb : (Lit.int .u32 b).wf = true) (hz : IntArg .u8 w A n c zs) (hc : (Lit.int .u16 cut).wf = true) :
    Calls Try.prog 10 #[.agg (tabArr t), .int .u32 a, .int .u32 b, .slice A n c, .int .u16 cut] w fun e w' => e = .returned (.bool true) ∧ Below w.heap.size w w' := by
  obtain ⟨bs, hr, hnc, hcm, _⟩ := bytesArg hz
  unfold maxLen at hcm
  by_cases hn : n ≤ 3000
  · have h1 := bounds_u32 ha
    have h2 := bounds_u32 hb
    have h3 := bounds_u16 hc
    obtain ⟨a, rfl⟩ : ∃ m : Nat, a = (m : Int) := ⟨a.toNat, by omega⟩
    obtain ⟨b, rfl⟩ : ∃ m : Nat, b = (m : Int) := ⟨b.toNat, by omega⟩
    obtain ⟨cut, rfl⟩ : ∃ m : Nat, cut = (m : Int) := ⟨cut.toNat, by omega⟩
    exact CrcBack_main t a b A n c bs cut w ht (by omega) (by omega) (by omega) hr hnc hcm hn
  · exact CrcBack_long t a b A n c cut w (by omega) (by omega)
end Go.Proofs.Ytmdclaahfndhdaa
