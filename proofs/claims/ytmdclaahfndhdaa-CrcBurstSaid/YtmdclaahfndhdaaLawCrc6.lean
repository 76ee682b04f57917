/- The walk of CrcRight. -/
import Derived.Test.YtmdclaahfndhdaaLawCrc2
import Derived.Test.YtmdclaahfndhdaaTabOpen
namespace Go.Proofs.Ytmdclaahfndhdaa
set_option linter.unusedVariables false
open Go.RowKit

/-- a table lies in block g, above all that was there at w. -/
def Tb (t : Nat → Nat) (g : Nat) (w W : World) : Prop := Blk W g 44 (tabArr t) ∧ Below w.heap.size w W ∧ w.heap.size ≤ g
theorem Tb.next {t : Nat → Nat} {g : Nat} {w W W' : World} (h : Tb t g w W) (hb : Below W.heap.size W W') : Tb t g w W' := ⟨h.1.below hb h.1.lt, h.2.1.trans (hb.mono h.2.1.size), h.2.2⟩
theorem Tb.start (t : Nat → Nat) (w : World) : Tb t w.heap.size w (w.alloc (.cells (tabArr t) 44)) := ⟨Blk.new w _ _, (Below.refl _ _).alloc (Nat.le_refl _) _, Nat.le_refl _⟩
theorem Tb.drew {t : Nat → Nat} {g : Nat} {w W : World} (h : Tb t g w W) : Tb t g w W.drew := ⟨h.1.drew, h.2.1.drew, h.2.2⟩
theorem Tb.size {t : Nat → Nat} {g : Nat} {w W : World} (h : Tb t g w W) : w.heap.size ≤ W.heap.size := h.2.1.size
theorem Tb.reads {t : Nat → Nat} {g : Nat} {w W : World} (h : Tb t g w W) {A : Option Addr} {n : Nat} {xs : List Value} (hr : Reads w w.heap.size 1 A n xs) : Reads W w.heap.size 1 A n xs := hr.below h.2.1
theorem Tb.set {t u : Nat → Nat} {g : Nat} {w W : World} (h : Tb t g w W) : Tb u W.heap.size w ((W.alloc (.cells Try.zeroCells44 44)).setRow W.heap.size (tabArr u)) := by
  refine ⟨(Blk.new W 44 Try.zeroCells44).setRow _, below_setRow (h.2.1.alloc h.size _) h.size _, h.size⟩
theorem bset {u : Nat → Nat} {w W : World} (h : Below w.heap.size w W) : Tb u W.heap.size w ((W.alloc (.cells Try.zeroCells44 44)).setRow W.heap.size (tabArr u)) := by
  refine ⟨(Blk.new W 44 Try.zeroCells44).setRow _, below_setRow (h.alloc h.size _) h.size _, h.size⟩
theorem zeroBlk (W : World) : Blk (W.alloc (.cells Try.zeroCells44 44)) W.heap.size 44 (tabArr fun _ => 0) := by rw [← tabArr_zero]; exact Blk.new W _ _

set_option maxRecDepth 100000 in
theorem CrcRight_long (t : Nat → Nat) (s : Int) (A : Option Addr) (n c : Nat) (w : World) (hn : 3000 < n) (hm : n ≤ 9223372036854775807) :
    Calls Try.prog 8 #[.agg (tabArr t), .int .u32 s, .slice A n c] w fun e w' => e = .returned (.bool true) ∧ Below w.heap.size w w' := by
  have hd : decide ((3000 : Int) < (n : Int)) = true := by simp; omega
  go_enter Try.func8, Try.ntmps8
  go_wp2_with fail
  refine (Crc_awake _).mono ?_
  rintro e w1 ⟨rfl, hb1⟩
  go_wp2
  go_ret
  exact ⟨rfl, ((Tb.start t w).next hb1).2.1⟩

set_option maxRecDepth 100000 in
set_option maxHeartbeats 2000000 in
theorem CrcRight_main (t : Nat → Nat) (s : Nat) (A : Option Addr) (n c : Nat) (bs : List UInt8) (w : World) (ht : ∀ i, i < 256 → t i < 4294967296) (hs : s < 4294967296) (hr : Reads w w.heap.size 1 A n (byteCells bs)) (hnc : n ≤ c) (hcm : c ≤ 9223372036854775807) (hn : n ≤ 3000) :
    Calls Try.prog 8 #[.agg (tabArr t), .int .u32 s, .slice A n c] w fun e w' => e = .returned (.bool true) ∧ Below w.heap.size w w' := by
  have HR := Lib.hid hr; clear hr
  have hu := Try.underlying44
  have hi2 : (Try.prog.info? 44).map (·.size) = some (tabArr t).toList.length := by rw [Array.length_toList]; exact tabArr_info t
  have hd : decide ((3000 : Int) < (n : Int)) = false := by simp; omega
  go_enter Try.func8, Try.ntmps8
  go_wp2_with fail
  refine (Crc_awake _).mono ?_
  rintro e w1 ⟨rfl, hb1⟩
  have T1 := Lib.hid ((Tb.start t w).next hb1)
  clear hb1
  go_wp2_with (refine wpList_load_row rfl 44 _ rfl w.heap.size rfl 44 (tabArr t) (0, 0) _ T1.out.1 Try.underlying44 rfl (tabArr_info _) ?_)
  refine (rSum_c t ht 0 (by decide) A n c w.heap.size bs _ (T1.out.reads HR.out) T1.out.size (by omega)).mono ?_
  rintro e w2 ⟨rfl, hb2⟩
  have T2 := Lib.hid (T1.out.next hb2)
  clear hb2 T1
  obtain ⟨q, hq⟩ : ∃ q, sumT t 0 (natB bs) = q := ⟨_, rfl⟩
  have hql : q < 4294967296 := by rw [← hq]; exact sumT_lt t ht 0 (by decide) _ (natB_lt bs)
  rw [hq]
  have HE := Lib.hid (show sealB t bs = bs ++ le4B q from by unfold sealB; rw [hq])
  clear hq
  go_wp2
  refine wp_region_noPanic ?_
  refine wp_region_held_drew (S := fun W => Tb t w.heap.size w W) (by kernel_rfl) T2.out.drew (fun hHeld => ?_)
  refine takeH 0 (v := .agg ((tabArr t).toList).toArray) rfl (by kernel_rfl) (by kernel_rfl) (by kernel_rfl) rfl (fun _ _ _ h => h) (yieldsIf_load_mid (by rfl) _ _ rfl _ _ rfl ((tabArr t).toList) _ ?hS0 hu rfl hi2) hHeld ?r0
  case hS0 => (intro W hSW; (try dsimp only at hSW); exact tab_range hSW.1)
  simp only [Act.put, Array.toArray_toList, List.setIfInBounds_toArray, List.set_cons_zero, List.set_cons_succ]
  refine takeH 1 (v := ?v1) rfl (by kernel_rfl) (by kernel_rfl) (by kernel_rfl) rfl (fun _ _ _ h => h) (Or.inl ⟨by rfl, ?y1⟩) hHeld ?r1
  case y1 => (intro W hSW; (try dsimp only at hSW); go_simp; try with_reducible rfl)
  simp only [Act.put, List.setIfInBounds_toArray, List.set_cons_zero, List.set_cons_succ]
  refine takeH 2 (v := ?v2) rfl (by kernel_rfl) (by kernel_rfl) (by kernel_rfl) rfl (fun _ _ _ h => h) (Or.inl ⟨by rfl, ?y2⟩) hHeld ?r2
  case y2 => (intro W hSW; (try dsimp only at hSW); go_simp; try with_reducible rfl)
  simp only [Act.put, List.setIfInBounds_toArray, List.set_cons_zero, List.set_cons_succ]
  refine takeH 4 (v := .agg ((tabArr t).toList).toArray) rfl (by kernel_rfl) (by kernel_rfl) (by kernel_rfl) rfl (fun _ _ _ h => h) (yieldsIf_load_mid (by rfl) _ _ rfl _ _ rfl ((tabArr t).toList) _ ?hS4 hu rfl hi2) hHeld ?r4
  case hS4 => (intro W hSW; (try dsimp only at hSW); exact tab_range hSW.1)
  simp only [Act.put, Array.toArray_toList, List.setIfInBounds_toArray, List.set_cons_zero, List.set_cons_succ]
  refine takeH 5 (v := ?v5) rfl (by kernel_rfl) (by kernel_rfl) (by kernel_rfl) rfl (fun _ _ _ h => h) (Or.inl ⟨by rfl, ?y5⟩) hHeld ?r5
  case y5 => (intro W hSW; (try dsimp only at hSW); go_simp; try with_reducible rfl)
  simp only [Act.put, List.setIfInBounds_toArray, List.set_cons_zero, List.set_cons_succ]
  refine takeH 6 (v := ?v6) rfl (by kernel_rfl) (by kernel_rfl) (by kernel_rfl) rfl (fun _ _ _ h => h) (Or.inl ⟨by rfl, ?y6⟩) hHeld ?r6
  case y6 => (intro W hSW; (try dsimp only at hSW); go_simp; try with_reducible rfl)
  simp only [Act.put, List.setIfInBounds_toArray, List.set_cons_zero, List.set_cons_succ]
  refine wpAnyH_ready (rs := [3]) (by kernel_rfl) (by simp) ?_
  refine AllReadyH.cons rfl (fun K hK => ?_) AllReadyH.nil
  go_simp
  refine (Sum_c t ht s hs A n c w.heap.size bs _ (Tb.reads hHeld HR.out) (Tb.size hHeld) (by omega)).mono ?_
  rintro e wn ⟨rfl, hbn⟩
  refine hK.out _ _ (Tb.next hHeld hbn) (fun hHeld => ?_)
  clear hK K
  try simp only [Act.put, List.setIfInBounds_toArray, List.set_cons_zero, List.set_cons_succ]
  refine wpAnyH_ready (rs := [7]) (by kernel_rfl) (by simp) ?_
  refine AllReadyH.cons rfl (fun K hK => ?_) AllReadyH.nil
  go_simp
  refine (rSum_c t ht s hs A n c w.heap.size bs _ (Tb.reads hHeld HR.out) (Tb.size hHeld) (by omega)).mono ?_
  rintro e wn2 ⟨rfl, hbn2⟩
  refine hK.out _ _ (Tb.next hHeld hbn2) (fun hHeld => ?_)
  clear hK K
  try simp only [Act.put, List.setIfInBounds_toArray, List.set_cons_zero, List.set_cons_succ]
  refine takeH 8 (v := ?v8) rfl (by kernel_rfl) (by kernel_rfl) (by kernel_rfl) rfl (fun _ _ _ h => h) (Or.inl ⟨by rfl, ?y8⟩) hHeld ?r8
  case y8 => (intro W hSW; (try dsimp only at hSW); go_simp; try with_reducible rfl)
  simp only [Act.put, List.setIfInBounds_toArray, List.set_cons_zero, List.set_cons_succ]
  refine takeH 9 (v := ?v9) rfl (by kernel_rfl) (by kernel_rfl) (by kernel_rfl) rfl (fun _ _ _ h => h) (Or.inl ⟨by rfl, ?y9⟩) hHeld ?r9
  case y9 => (intro W hSW; (try dsimp only at hSW); go_simp; try with_reducible rfl)
  simp only [Act.put, List.setIfInBounds_toArray, List.set_cons_zero, List.set_cons_succ]
  refine takeH 10 (v := .agg ((tabArr t).toList).toArray) rfl (by kernel_rfl) (by kernel_rfl) (by kernel_rfl) rfl (fun _ _ _ h => h) (yieldsIf_load_mid (by rfl) _ _ rfl _ _ rfl ((tabArr t).toList) _ ?hS10 hu rfl hi2) hHeld ?r10
  case hS10 => (intro W hSW; (try dsimp only at hSW); exact tab_range hSW.1)
  simp only [Act.put, Array.toArray_toList, List.setIfInBounds_toArray, List.set_cons_zero, List.set_cons_succ]
  refine takeH 11 (v := ?v11) rfl (by kernel_rfl) (by kernel_rfl) (by kernel_rfl) rfl (fun _ _ _ h => h) (Or.inl ⟨by rfl, ?y11⟩) hHeld ?r11
  case y11 => (intro W hSW; (try dsimp only at hSW); go_simp; try with_reducible rfl)
  simp only [Act.put, List.setIfInBounds_toArray, List.set_cons_zero, List.set_cons_succ]
  refine takeH 14 (v := ?v14) rfl (by kernel_rfl) (by kernel_rfl) (by kernel_rfl) rfl (fun _ _ _ h => h) (Or.inl ⟨by rfl, ?y14⟩) hHeld ?r14
  case y14 => (intro W hSW; (try dsimp only at hSW); go_simp; try with_reducible rfl)
  simp only [Act.put, List.setIfInBounds_toArray, List.set_cons_zero, List.set_cons_succ]
  refine takeH 15 (v := ?v15) rfl (by kernel_rfl) (by kernel_rfl) (by kernel_rfl) rfl (fun _ _ _ h => h) (Or.inl ⟨by rfl, ?y15⟩) hHeld ?r15
  case y15 => (intro W hSW; (try dsimp only at hSW); go_simp; try with_reducible rfl)
  simp only [Act.put, List.setIfInBounds_toArray, List.set_cons_zero, List.set_cons_succ]
  refine wpAnyH_ready (rs := [12]) (by kernel_rfl) (by simp) ?_
  refine AllReadyH.cons rfl (fun K hK => ?_) AllReadyH.nil
  go_simp
  refine (Seal_c t ht A n c w.heap.size bs _ (Tb.reads hHeld HR.out) (Tb.size hHeld) (by omega)).mono ?_
  rintro e w3 ⟨v, rfl, hown, hb3⟩
  rw [HE.out] at hown
  obtain ⟨A1, c1, rfl, _, _, _, hR1⟩ := own_reads hown
  refine hK.out _ _ (Tb.next hHeld hb3) (fun hHeld => ?_)
  clear hK K
  try simp only [Act.put, List.setIfInBounds_toArray, List.set_cons_zero, List.set_cons_succ]
  refine wpAnyH_more (S2 := fun W => Tb t w.heap.size w W ∧ Reads W w3.heap.size 1 A1 (n + 4) (byteCells (bs ++ le4B q)) ∧ w3.heap.size ≤ W.heap.size) (fun W hW => hW.1) _ ?_
  replace hHeld := (⟨hHeld, hR1, Nat.le_refl _⟩ : Tb t w.heap.size w w3 ∧ Reads w3 w3.heap.size 1 A1 (n + 4) (byteCells (bs ++ le4B q)) ∧ w3.heap.size ≤ w3.heap.size)
  refine takeH 13 (v := ?v13) rfl (by kernel_rfl) (by kernel_rfl) (by kernel_rfl) rfl (fun _ _ _ h => h) (Or.inl ⟨by rfl, ?y13⟩) hHeld ?r13
  case y13 => (intro W hSW; (try dsimp only at hSW); have hcv := conv_reads hSW.2.1 c1; go_simp; try with_reducible rfl)
  simp only [Act.put, List.setIfInBounds_toArray, List.set_cons_zero, List.set_cons_succ]
  refine wpAnyH_ready (rs := [16]) (by kernel_rfl) (by simp) ?_
  refine AllReadyH.cons rfl (fun K hK => ?_) AllReadyH.nil
  go_simp
  refine (rTail_c A n c w.heap.size bs q hql _ (Tb.reads hHeld.1 HR.out) (Tb.size hHeld.1) (by omega)).mono ?_
  rintro e w4 ⟨v4, rfl, hown4, hb4⟩
  obtain ⟨A4, c4, rfl, _, _, _, hR4⟩ := own_reads hown4
  refine hK.out _ _ ⟨Tb.next hHeld.1 hb4, hHeld.2.1.below (hb4.mono hHeld.2.2), Nat.le_trans hHeld.2.2 hb4.size⟩ (fun hHeld => ?_)
  clear hK K
  try simp only [Act.put, List.setIfInBounds_toArray, List.set_cons_zero, List.set_cons_succ]
  have hcv4 := conv_reads hR4 c4
  refine wpAnyH_ready (rs := [17]) (by kernel_rfl) (by simp) ?_
  refine AllReadyH.cons rfl (fun K hK => ?_) AllReadyH.nil
  go_simp
  refine hK.out _ _ hHeld (fun hHeld => ?_)
  clear hK K
  try simp only [Act.put, List.setIfInBounds_toArray, List.set_cons_zero, List.set_cons_succ]
  refine takeH 18 (v := ?v18) rfl (by kernel_rfl) (by kernel_rfl) (by kernel_rfl) rfl (fun _ _ _ h => h) (Or.inl ⟨by rfl, ?y18⟩) hHeld ?r18
  case y18 => (intro W hSW; (try dsimp only at hSW); go_simp; try with_reducible rfl)
  simp only [Act.put, List.setIfInBounds_toArray, List.set_cons_zero, List.set_cons_succ]
  refine takeH 19 (v := ?v19) rfl (by kernel_rfl) (by kernel_rfl) (by kernel_rfl) rfl (fun _ _ _ h => h) (Or.inl ⟨by rfl, ?y19⟩) hHeld ?r19
  case y19 => (intro W hSW; (try dsimp only at hSW); go_simp; try with_reducible rfl)
  simp only [Act.put, List.setIfInBounds_toArray, List.set_cons_zero, List.set_cons_succ]
  refine wpAnyH_done (by kernel_rfl) ?_ _
  refine NoPanic.normal ?_
  have HB4 := Lib.hid (show Below w.heap.size w w4 from hHeld.1.2.1)
  clear hHeld hcv4 hR4 hown4 hb4 HE hR1 hown hbn hbn2 hb3 T2 hi2
  go_wp2_with fail
  refine (Table_c _).mono ?_
  rintro e w5 ⟨rfl, hb5⟩
  have HB5 := Lib.hid (HB4.out.trans (hb5.mono HB4.out.size))
  have T6 := Lib.hid (bset (u := step8) HB5.out)
  go_wp2_with (first
    | (refine wpList_store_row rfl 44 _ _ rfl w5.heap.size (tabArr step8) rfl rfl 44 (tabArr (fun _ => 0)) (zeroBlk w5) (tabArr_info _) (by rw [tabArr_size, tabArr_size]) (tabArr_one _) ?_; generalize (w5.alloc (.cells Try.zeroCells44 44)).setRow w5.heap.size (tabArr step8) = w6 at T6 ⊢)
    | (refine wpList_load_row rfl 44 _ rfl w5.heap.size rfl 44 (tabArr step8) (0, 0) _ T6.out.1 Try.underlying44 rfl (tabArr_info _) ?_))
  refine (Sum_c step8 step8_tab 0 (by decide) A n c w.heap.size bs _ (T6.out.reads HR.out) T6.out.size (by omega)).mono ?_
  rintro e w7 ⟨rfl, hb7⟩
  rw [sumT_tab]
  have T7 := Lib.hid (T6.out.next hb7)
  clear hb5 hb7 HB4 HB5 T6
  go_wp2_with fail
  refine (rPlain_c A n c w.heap.size bs _ (T7.out.reads HR.out) (by omega)).mono ?_
  rintro e w8 ⟨rfl, rfl⟩
  obtain ⟨pl, hpl⟩ : ∃ pl, plainN (natB bs) = pl := ⟨_, rfl⟩
  rw [hpl]
  clear hpl
  go_wp2_with (refine wpList_load_row rfl 44 _ rfl w5.heap.size rfl 44 (tabArr step8) (0, 0) _ T7.out.1 Try.underlying44 rfl (tabArr_info _) ?_)
  by_cases h4 : n < 4
  · have hd4 : decide ((n : Int) < 4) = true := by simp; omega
    refine (Open_short step8 A n c _ h4).mono ?_
    rintro e w9 ⟨rfl, hb9⟩
    have HB9 := Lib.hid (T7.out.next hb9).2.1
    clear hb9
    go_wp2
    go_ret
    exact ⟨rfl, HB9.out⟩
  · obtain ⟨m, rfl⟩ : ∃ m, n = m + 4 := ⟨n - 4, by omega⟩
    clear h4
    have hd4 : decide (((m + 4 : Nat) : Int) < 4) = false := by simp; omega
    cases hbb : (sealB step8 (bs.take m) == bs)
    · have HBB := Lib.hid hbb; clear hbb
      refine (Open_bad step8 step8_tab A m c w.heap.size bs _ (T7.out.reads HR.out) T7.out.size hnc (by omega) hcm HBB.out).mono ?_
      rintro e w9 ⟨rfl, hb9⟩
      have T9 := Lib.hid (T7.out.next hb9)
      clear hb9 T7
      go_wp2_with fail
      refine (rOpens_c A m c w.heap.size bs _ (T9.out.reads HR.out) T9.out.size hnc (by omega) hcm).mono ?_
      rintro e w10 ⟨rfl, hb10⟩
      rw [sealP_eq, HBB.out]
      have HB10 := Lib.hid (T9.out.next hb10).2.1
      clear hb10
      go_wp2
      go_ret
      exact ⟨rfl, HB10.out⟩
    · have HBB := Lib.hid hbb; clear hbb
      refine (Open_ok step8 step8_tab A m c w.heap.size bs _ (T7.out.reads HR.out) T7.out.size hnc (by omega) hcm HBB.out).mono ?_
      rintro e w9 ⟨rfl, hb9⟩
      have T9 := Lib.hid (T7.out.next hb9)
      clear hb9 T7
      go_wp2_with fail
      refine (rOpens_c A m c w.heap.size bs _ (T9.out.reads HR.out) T9.out.size hnc (by omega) hcm).mono ?_
      rintro e w10 ⟨rfl, hb10⟩
      rw [sealP_eq, HBB.out]
      have T10 := Lib.hid (T9.out.next hb10)
      have hcv := fun (k c : Nat) => conv_reads (((T10.out.reads HR.out).preB (k := m) (by omega)).drewN k) c
      have h0i : (0 : Int) ≤ (m : Int) := by omega
      have h1i : (m : Int) ≤ (c : Int) := by omega
      have hmc : m ≤ c := by omega
      have hw4 : IntKind.i64.wrap (m : Int) = (m : Int) := IntWalk.i64_in _ (by omega)
      clear hb10 T9 HBB
      go_wp2
      go_quiet (fail)
      go_wp2
      go_ret
      exact ⟨rfl, below_drewN T10.out.2.1 _⟩

theorem CrcRight_walk (t : Nat → Nat) (s : Int) (A : Option Addr) (n c : Nat) (zs : List Int) (w : World) (ht : ∀ i, i < 256 → t i < 4294967296) (hs : (Lit.int .u32 s).wf = true) (hz : IntArg .u8 w A n c zs) :
    Calls Try.prog 8 #[.agg (tabArr t), .int .u32 s, .slice A n c] w fun e w' => e = .returned (.bool true) ∧ Below w.heap.size w w' := by
  obtain ⟨bs, hr, hnc, hcm, _⟩ := bytesArg hz
  unfold maxLen at hcm
  by_cases hn : n ≤ 3000
  · have hb := bounds_u32 hs
    obtain ⟨m, rfl⟩ : ∃ m : Nat, s = (m : Int) := ⟨s.toNat, by omega⟩
    exact CrcRight_main t m A n c bs w ht (by omega) hr hnc hcm hn
  · exact CrcRight_long t s A n c w (by omega) (by omega)
end Go.Proofs.Ytmdclaahfndhdaa
