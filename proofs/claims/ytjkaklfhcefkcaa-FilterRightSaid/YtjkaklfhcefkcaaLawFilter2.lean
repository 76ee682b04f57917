/- The walk of FilterRight. -/
import Derived.Test.YtjkaklfhcefkcaaLawFilter
namespace Go.Proofs.Ytjkaklfhcefkcaa
set_option linter.unusedVariables false
open Go.RowKit Go.ChangeShapes

set_option maxHeartbeats 8000000 in
set_option maxRecDepth 100000 in
theorem FilterRight_walk (cs : List Value) (t : FT) (cs2 : List Value) (u : FT) (Al : Option Addr) (nl cl : Nat) (evs : List Evt) (w : World) (h : FTr w w.heap.size cs t) (h2 : FTr w w.heap.size cs2 u) (hl : EvArg w Al nl cl evs) :
    Calls Try.prog 3 #[.agg cs.toArray, .agg cs2.toArray, .slice Al nl cl] w fun e w' => e = .returned (.bool true) ∧ Below w.heap.size w w' := by
  obtain ⟨hr, hnc, hcm, _, _⟩ := hl
  have HR := Lib.hid hr
  have HL := Lib.hid hr.ev_len
  unfold maxLen at hcm
  clear hr
  have HT := Lib.hid h
  have HU := Lib.hid h2
  cases h with
  | mk op a b name A n c vs ks hop ha hb hnm hn hv hnc hcm hr hk =>
    clear hop ha hb hn hv hr hk hnm hnc hcm
    cases h2 with
    | mk op2 a2 b2 name2 A2 n2 c2 vs2 ks2 hop ha hb hnm hn hv hnc hcm hr hk =>
      clear hop ha hb hn hv hr hk hnm hnc hcm
      generalize FT.mk op a b name ks = t at HT
      generalize FT.mk op2 a2 b2 name2 ks2 = u at HU
      have HK1 := Lib.hid (show Kept w ((w.alloc (.cells #[.int .i64 op, .int .i64 a, .int .i64 b, .string name, .slice A n c] 24)).alloc (.cells #[.int .i64 op2, .int .i64 a2, .int .i64 b2, .string name2, .slice A2 n2 c2] 24)) [(w.heap.size + 1, 24, #[.int .i64 op2, .int .i64 a2, .int .i64 b2, .string name2, .slice A2 n2 c2]), (w.heap.size, 24, #[.int .i64 op, .int .i64 a, .int .i64 b, .string name, .slice A n c])] from (((Kept.start w).alloc_at 24 #[.int .i64 op, .int .i64 a, .int .i64 b, .string name, .slice A n c] (w.heap.size) (by simp)).alloc_at 24 #[.int .i64 op2, .int .i64 a2, .int .i64 b2, .string name2, .slice A2 n2 c2] (w.heap.size + 1) (by simp)))
      go_enter Try.func3, Try.ntmps3
      go_wp2_with fail
      with_reducible refine (awake_c _).mono ?_
      rintro e w1 ⟨rfl, hb1⟩
      have HK2 := Lib.hid (show Kept w w1 [(w.heap.size + 1, 24, #[.int .i64 op2, .int .i64 a2, .int .i64 b2, .string name2, .slice A2 n2 c2]), (w.heap.size, 24, #[.int .i64 op, .int .i64 a, .int .i64 b, .string name, .slice A n c])] from HK1.out.next hb1)
      clear HK1
      clear hb1
      have c_f_0 : w1.cell? ⟨w.heap.size, 0, none⟩ = some (.int .i64 op) := HK2.out.cell 1 rfl 0
      have c_f_1 : w1.cell? ⟨w.heap.size, 1, none⟩ = some (.int .i64 a) := HK2.out.cell 1 rfl 1
      have c_f_2 : w1.cell? ⟨w.heap.size, 2, none⟩ = some (.int .i64 b) := HK2.out.cell 1 rfl 2
      have c_f_3 : w1.cell? ⟨w.heap.size, 3, none⟩ = some (.string name) := HK2.out.cell 1 rfl 3
      have c_f_4 : w1.cell? ⟨w.heap.size, 4, none⟩ = some (.slice A n c) := HK2.out.cell 1 rfl 4
      go_wp2_with fail
      with_reducible refine (Short_c HT.out _ HK2.out.bel HK2.out.size).mono ?_
      rintro e w2 ⟨rfl, hb2⟩
      clear c_f_0 c_f_1 c_f_2 c_f_3 c_f_4
      have HK3 := Lib.hid (show Kept w w2 [(w.heap.size + 1, 24, #[.int .i64 op2, .int .i64 a2, .int .i64 b2, .string name2, .slice A2 n2 c2]), (w.heap.size, 24, #[.int .i64 op, .int .i64 a, .int .i64 b, .string name, .slice A n c])] from HK2.out.next hb2)
      clear HK2
      clear hb2
      cases hsh : shortF t
      · go_wp2
        go_ret
        exact ⟨rfl, HK3.out.bel⟩
      clear hsh
      have c_f_0 : w2.cell? ⟨w.heap.size, 0, none⟩ = some (.int .i64 op) := HK3.out.cell 1 rfl 0
      have c_f_1 : w2.cell? ⟨w.heap.size, 1, none⟩ = some (.int .i64 a) := HK3.out.cell 1 rfl 1
      have c_f_2 : w2.cell? ⟨w.heap.size, 2, none⟩ = some (.int .i64 b) := HK3.out.cell 1 rfl 2
      have c_f_3 : w2.cell? ⟨w.heap.size, 3, none⟩ = some (.string name) := HK3.out.cell 1 rfl 3
      have c_f_4 : w2.cell? ⟨w.heap.size, 4, none⟩ = some (.slice A n c) := HK3.out.cell 1 rfl 4
      have c_g_0 : w2.cell? ⟨w.heap.size + 1, 0, none⟩ = some (.int .i64 op2) := HK3.out.cell 0 rfl 0
      have c_g_1 : w2.cell? ⟨w.heap.size + 1, 1, none⟩ = some (.int .i64 a2) := HK3.out.cell 0 rfl 1
      have c_g_2 : w2.cell? ⟨w.heap.size + 1, 2, none⟩ = some (.int .i64 b2) := HK3.out.cell 0 rfl 2
      have c_g_3 : w2.cell? ⟨w.heap.size + 1, 3, none⟩ = some (.string name2) := HK3.out.cell 0 rfl 3
      have c_g_4 : w2.cell? ⟨w.heap.size + 1, 4, none⟩ = some (.slice A2 n2 c2) := HK3.out.cell 0 rfl 4
      go_wp2_with fail
      with_reducible refine (Short_c HU.out _ HK3.out.bel HK3.out.size).mono ?_
      rintro e w3 ⟨rfl, hb3⟩
      clear c_f_0 c_f_1 c_f_2 c_f_3 c_f_4 c_g_0 c_g_1 c_g_2 c_g_3 c_g_4
      have HK4 := Lib.hid (show Kept w w3 [(w.heap.size + 1, 24, #[.int .i64 op2, .int .i64 a2, .int .i64 b2, .string name2, .slice A2 n2 c2]), (w.heap.size, 24, #[.int .i64 op, .int .i64 a, .int .i64 b, .string name, .slice A n c])] from HK3.out.next hb3)
      clear HK3
      clear hb3
      cases hsh : shortF u
      · go_wp2
        go_ret
        exact ⟨rfl, HK4.out.bel⟩
      clear hsh
      by_cases hlen : 60 < nl
      · have d0 : decide ((60 : Int) < (nl : Int)) = true := by simp; omega
        go_wp2
        go_ret
        exact ⟨rfl, HK4.out.bel⟩
      have d0 : decide ((60 : Int) < (nl : Int)) = false := by simp; omega
      go_wp2_with fail
      with_reducible refine (Names_c Al nl cl w.heap.size evs _ (HR.out.below HK4.out.bel) HK4.out.size (by omega)).mono ?_
      rintro e w4 ⟨rfl, hb4⟩
      clear d0
      have HK5 := Lib.hid (show Kept w w4 [(w.heap.size + 1, 24, #[.int .i64 op2, .int .i64 a2, .int .i64 b2, .string name2, .slice A2 n2 c2]), (w.heap.size, 24, #[.int .i64 op, .int .i64 a, .int .i64 b, .string name, .slice A n c])] from HK4.out.next hb4)
      clear HK4
      clear hb4
      cases hsh : namesE evs
      · go_wp2
        go_ret
        exact ⟨rfl, HK5.out.bel⟩
      clear hsh
      have c_f_0 : w4.cell? ⟨w.heap.size, 0, none⟩ = some (.int .i64 op) := HK5.out.cell 1 rfl 0
      have c_f_1 : w4.cell? ⟨w.heap.size, 1, none⟩ = some (.int .i64 a) := HK5.out.cell 1 rfl 1
      have c_f_2 : w4.cell? ⟨w.heap.size, 2, none⟩ = some (.int .i64 b) := HK5.out.cell 1 rfl 2
      have c_f_3 : w4.cell? ⟨w.heap.size, 3, none⟩ = some (.string name) := HK5.out.cell 1 rfl 3
      have c_f_4 : w4.cell? ⟨w.heap.size, 4, none⟩ = some (.slice A n c) := HK5.out.cell 1 rfl 4
      go_wp2_with fail
      with_reducible refine (rRight_c HT.out _ HK5.out.bel HK5.out.size).mono ?_
      rintro e w5 ⟨rfl, hb5⟩
      rw [← right_same]
      clear c_f_0 c_f_1 c_f_2 c_f_3 c_f_4
      have HK6 := Lib.hid (show Kept w w5 [(w.heap.size + 1, 24, #[.int .i64 op2, .int .i64 a2, .int .i64 b2, .string name2, .slice A2 n2 c2]), (w.heap.size, 24, #[.int .i64 op, .int .i64 a, .int .i64 b, .string name, .slice A n c])] from HK5.out.next hb5)
      clear HK5
      clear hb5
      have c_f_0 : w5.cell? ⟨w.heap.size, 0, none⟩ = some (.int .i64 op) := HK6.out.cell 1 rfl 0
      have c_f_1 : w5.cell? ⟨w.heap.size, 1, none⟩ = some (.int .i64 a) := HK6.out.cell 1 rfl 1
      have c_f_2 : w5.cell? ⟨w.heap.size, 2, none⟩ = some (.int .i64 b) := HK6.out.cell 1 rfl 2
      have c_f_3 : w5.cell? ⟨w.heap.size, 3, none⟩ = some (.string name) := HK6.out.cell 1 rfl 3
      have c_f_4 : w5.cell? ⟨w.heap.size, 4, none⟩ = some (.slice A n c) := HK6.out.cell 1 rfl 4
      go_wp2_with fail
      with_reducible refine (Bytes_c HT.out _ HK6.out.bel HK6.out.size).mono ?_
      rintro e w6 ⟨v6, rfl, hown6, hb6⟩
      obtain ⟨A6, c6, rfl, _, _, _, hr6⟩ := own_reads hown6
      have HR6 := Lib.hid hr6
      clear hown6 hr6
      clear c_f_0 c_f_1 c_f_2 c_f_3 c_f_4
      have HK7 := Lib.hid (show Kept w w6 [(w.heap.size + 1, 24, #[.int .i64 op2, .int .i64 a2, .int .i64 b2, .string name2, .slice A2 n2 c2]), (w.heap.size, 24, #[.int .i64 op, .int .i64 a, .int .i64 b, .string name, .slice A n c])] from HK6.out.next hb6)
      clear HK6
      clear hb6
      cases hrt : rightT t
      · have HBy := Lib.hid (show bytesT t = [] from by unfold bytesT; rw [hrt]; rfl)
        rw [HBy.out] at HR6 ⊢
        simp only [List.length_nil] at HR6 ⊢
        have HRT := Lib.hid hrt
        clear hrt HBy
        go_wp2_with fail
        refine wp_region_noPanic ?_
        refine wp_region_held_drew (S := fun W' => Kept w W' [(w.heap.size + 1, 24, #[.int .i64 op2, .int .i64 a2, .int .i64 b2, .string name2, .slice A2 n2 c2]), (w.heap.size, 24, #[.int .i64 op, .int .i64 a, .int .i64 b, .string name, .slice A n c])] ∧ Reads W' w6.heap.size 1 A6 0 (byteCells [])) (by kernel_rfl) ⟨HK7.out.drew, HR6.out.drew⟩ (fun hHeld => ?_)
        have hz6 : w6.heap.size ≤ w6.drew.heap.size := Nat.le_refl _
        refine takeH 0 (v := ?v0u16) rfl (by kernel_rfl) (by kernel_rfl) (by kernel_rfl) rfl (fun _ _ _ h => h) (Or.inl ⟨by rfl, ?y0u16⟩) hHeld ?r0u16
        case y0u16 => (intro W hSW; (try dsimp only at hSW); have q0 := hSW.1.cell 1 rfl 0; have q1 := hSW.1.cell 1 rfl 1; have q2 := hSW.1.cell 1 rfl 2; have q3 := hSW.1.cell 1 rfl 3; have q4 := hSW.1.cell 1 rfl 4; simp only [List.getElem?_toArray, List.getElem?_cons_zero, List.getElem?_cons_succ] at q0 q1 q2 q3 q4; go_simp; try with_reducible rfl)
        simp only [Act.put, List.setIfInBounds_toArray, List.set_cons_zero, List.set_cons_succ]
        refine takeH 2 (v := ?v2u17) rfl (by kernel_rfl) (by kernel_rfl) (by kernel_rfl) rfl (fun _ _ _ h => h) (Or.inl ⟨by rfl, ?y2u17⟩) hHeld ?r2u17
        case y2u17 => (intro W hSW; (try dsimp only at hSW); go_simp; try with_reducible rfl)
        simp only [Act.put, List.setIfInBounds_toArray, List.set_cons_zero, List.set_cons_succ]
        refine wpAnyH_ready (rs := [1]) (by kernel_rfl) (by simp) ?_
        refine AllReadyH.cons rfl (fun K hK => ?_) AllReadyH.nil
        go_simp
        with_reducible refine (Right_c HT.out _ hHeld.1.bel hHeld.1.size).mono ?_
        rw [HRT.out]
        rintro e wn ⟨rfl, hbn⟩
        have hkn : Kept w wn _ ∧ Reads wn w6.heap.size 1 A6 0 (byteCells []) := ⟨hHeld.1.next hbn, hHeld.2.below (hbn.mono hz6)⟩
        have hz6 : w6.heap.size ≤ wn.heap.size := Nat.le_trans hz6 hbn.size
        clear hbn
        refine hK.out _ _ hkn (fun hHeld => ?_)
        clear hK K
        try simp only [Act.put, List.setIfInBounds_toArray, List.set_cons_zero, List.set_cons_succ]
        refine takeH 3 (v := ?v3u18) rfl (by kernel_rfl) (by kernel_rfl) (by kernel_rfl) rfl (fun _ _ _ h => h) (Or.inl ⟨by rfl, ?y3u18⟩) hHeld ?r3u18
        case y3u18 => (intro W hSW; (try dsimp only at hSW); go_simp; try with_reducible rfl)
        simp only [Act.put, List.setIfInBounds_toArray, List.set_cons_zero, List.set_cons_succ]
        refine takeH 4 (v := ?v4u19) rfl (by kernel_rfl) (by kernel_rfl) (by kernel_rfl) rfl (fun _ _ _ h => h) (Or.inl ⟨by rfl, ?y4u19⟩) hHeld ?r4u19
        case y4u19 => (intro W hSW; (try dsimp only at hSW); go_simp; try with_reducible rfl)
        simp only [Act.put, List.setIfInBounds_toArray, List.set_cons_zero, List.set_cons_succ]
        refine takeH 5 (v := ?v5u20) rfl (by kernel_rfl) (by kernel_rfl) (by kernel_rfl) rfl (fun _ _ _ h => h) (Or.inl ⟨by rfl, ?y5u20⟩) hHeld ?r5u20
        case y5u20 => (intro W hSW; (try dsimp only at hSW); go_simp; try with_reducible rfl)
        simp only [Act.put, List.setIfInBounds_toArray, List.set_cons_zero, List.set_cons_succ]
        refine takeH 6 (v := ?v6u21) rfl (by kernel_rfl) (by kernel_rfl) (by kernel_rfl) rfl (fun _ _ _ h => h) (Or.inl ⟨by rfl, ?y6u21⟩) hHeld ?r6u21
        case y6u21 => (intro W hSW; (try dsimp only at hSW); go_simp; try with_reducible rfl)
        simp only [Act.put, List.setIfInBounds_toArray, List.set_cons_zero, List.set_cons_succ]
        refine takeH 7 (v := undef) rfl (by kernel_rfl) (by kernel_rfl) (by kernel_rfl) rfl (fun _ _ _ h => h) (Or.inr ⟨by rfl, rfl⟩) hHeld ?_
        simp only [Act.put, List.setIfInBounds_toArray, List.set_cons_zero, List.set_cons_succ]
        refine takeH 8 (v := undef) rfl (by kernel_rfl) (by kernel_rfl) (by kernel_rfl) rfl (fun _ _ _ h => h) (Or.inr ⟨by rfl, rfl⟩) hHeld ?_
        simp only [Act.put, List.setIfInBounds_toArray, List.set_cons_zero, List.set_cons_succ]
        refine takeH 9 (v := undef) rfl (by kernel_rfl) (by kernel_rfl) (by kernel_rfl) rfl (fun _ _ _ h => h) (Or.inr ⟨by rfl, rfl⟩) hHeld ?_
        simp only [Act.put, List.setIfInBounds_toArray, List.set_cons_zero, List.set_cons_succ]
        refine takeH 10 (v := undef) rfl (by kernel_rfl) (by kernel_rfl) (by kernel_rfl) rfl (fun _ _ _ h => h) (Or.inr ⟨by rfl, rfl⟩) hHeld ?_
        simp only [Act.put, List.setIfInBounds_toArray, List.set_cons_zero, List.set_cons_succ]
        refine takeH 11 (v := undef) rfl (by kernel_rfl) (by kernel_rfl) (by kernel_rfl) rfl (fun _ _ _ h => h) (Or.inr ⟨by rfl, rfl⟩) hHeld ?_
        simp only [Act.put, List.setIfInBounds_toArray, List.set_cons_zero, List.set_cons_succ]
        refine takeH 12 (v := undef) rfl (by kernel_rfl) (by kernel_rfl) (by kernel_rfl) rfl (fun _ _ _ h => h) (Or.inr ⟨by rfl, rfl⟩) hHeld ?_
        simp only [Act.put, List.setIfInBounds_toArray, List.set_cons_zero, List.set_cons_succ]
        refine takeH 13 (v := ?v13u22) rfl (by kernel_rfl) (by kernel_rfl) (by kernel_rfl) rfl (fun _ _ _ h => h) (Or.inl ⟨by rfl, ?y13u22⟩) hHeld ?r13u22
        case y13u22 => (intro W hSW; (try dsimp only at hSW); go_simp; try with_reducible rfl)
        simp only [Act.put, List.setIfInBounds_toArray, List.set_cons_zero, List.set_cons_succ]
        refine takeH 14 (v := ?v14u23) rfl (by kernel_rfl) (by kernel_rfl) (by kernel_rfl) rfl (fun _ _ _ h => h) (Or.inl ⟨by rfl, ?y14u23⟩) hHeld ?r14u23
        case y14u23 => (intro W hSW; (try dsimp only at hSW); go_simp; try with_reducible rfl)
        simp only [Act.put, List.setIfInBounds_toArray, List.set_cons_zero, List.set_cons_succ]
        refine takeH 15 (v := ?v15u24) rfl (by kernel_rfl) (by kernel_rfl) (by kernel_rfl) rfl (fun _ _ _ h => h) (Or.inl ⟨by rfl, ?y15u24⟩) hHeld ?r15u24
        case y15u24 => (intro W hSW; (try dsimp only at hSW); go_simp; try with_reducible rfl)
        simp only [Act.put, List.setIfInBounds_toArray, List.set_cons_zero, List.set_cons_succ]
        refine takeH 16 (v := ?v16u25) rfl (by kernel_rfl) (by kernel_rfl) (by kernel_rfl) rfl (fun _ _ _ h => h) (Or.inl ⟨by rfl, ?y16u25⟩) hHeld ?r16u25
        case y16u25 => (intro W hSW; (try dsimp only at hSW); go_simp; try with_reducible rfl)
        simp only [Act.put, List.setIfInBounds_toArray, List.set_cons_zero, List.set_cons_succ]
        refine takeH 17 (v := ?v17u26) rfl (by kernel_rfl) (by kernel_rfl) (by kernel_rfl) rfl (fun _ _ _ h => h) (Or.inl ⟨by rfl, ?y17u26⟩) hHeld ?r17u26
        case y17u26 => (intro W hSW; (try dsimp only at hSW); go_simp; try with_reducible rfl)
        simp only [Act.put, List.setIfInBounds_toArray, List.set_cons_zero, List.set_cons_succ]
        refine takeH 18 (v := ?v18u27) rfl (by kernel_rfl) (by kernel_rfl) (by kernel_rfl) rfl (fun _ _ _ h => h) (Or.inl ⟨by rfl, ?y18u27⟩) hHeld ?r18u27
        case y18u27 => (intro W hSW; (try dsimp only at hSW); go_simp; try with_reducible rfl)
        simp only [Act.put, List.setIfInBounds_toArray, List.set_cons_zero, List.set_cons_succ]
        refine takeH 19 (v := ?v19u28) rfl (by kernel_rfl) (by kernel_rfl) (by kernel_rfl) rfl (fun _ _ _ h => h) (Or.inl ⟨by rfl, ?y19u28⟩) hHeld ?r19u28
        case y19u28 => (intro W hSW; (try dsimp only at hSW); go_simp; try with_reducible rfl)
        simp only [Act.put, List.setIfInBounds_toArray, List.set_cons_zero, List.set_cons_succ]
        refine takeH 20 (v := ?v20u29) rfl (by kernel_rfl) (by kernel_rfl) (by kernel_rfl) rfl (fun _ _ _ h => h) (Or.inl ⟨by rfl, ?y20u29⟩) hHeld ?r20u29
        case y20u29 => (intro W hSW; (try dsimp only at hSW); go_simp; try with_reducible rfl)
        simp only [Act.put, List.setIfInBounds_toArray, List.set_cons_zero, List.set_cons_succ]
        refine takeH 21 (v := ?v21u30) rfl (by kernel_rfl) (by kernel_rfl) (by kernel_rfl) rfl (fun _ _ _ h => h) (Or.inl ⟨by rfl, ?y21u30⟩) hHeld ?r21u30
        case y21u30 => (intro W hSW; (try dsimp only at hSW); go_simp; try with_reducible rfl)
        simp only [Act.put, List.setIfInBounds_toArray, List.set_cons_zero, List.set_cons_succ]
        refine takeH 22 (v := ?v22u31) rfl (by kernel_rfl) (by kernel_rfl) (by kernel_rfl) rfl (fun _ _ _ h => h) (Or.inl ⟨by rfl, ?y22u31⟩) hHeld ?r22u31
        case y22u31 => (intro W hSW; (try dsimp only at hSW); go_simp; try with_reducible rfl)
        simp only [Act.put, List.setIfInBounds_toArray, List.set_cons_zero, List.set_cons_succ]
        refine takeH 23 (v := ?v23u32) rfl (by kernel_rfl) (by kernel_rfl) (by kernel_rfl) rfl (fun _ _ _ h => h) (Or.inl ⟨by rfl, ?y23u32⟩) hHeld ?r23u32
        case y23u32 => (intro W hSW; (try dsimp only at hSW); go_simp; try with_reducible rfl)
        simp only [Act.put, List.setIfInBounds_toArray, List.set_cons_zero, List.set_cons_succ]
        refine wpAnyH_done (by kernel_rfl) ?_ _
        refine NoPanic.normal ?_
        have HKb := Lib.hid hHeld.1
        clear hHeld HK7 HR6 hz6
        go_wp2
        go_loopw [9] (fun i wr => ∃ (k : Nat), k ≤ nl ∧ i = .int .i64 k ∧ Hid (Kept w wr [(w.heap.size + 1, 24, #[.int .i64 op2, .int .i64 a2, .int .i64 b2, .string name2, .slice A2 n2 c2]), (w.heap.size, 24, #[.int .i64 op, .int .i64 a, .int .i64 b, .string name, .slice A n c])])) (fun i _ => nl - (intOf i).toNat)
        case atStart => exact ⟨0, Nat.zero_le _, rfl, HKb⟩
        case round =>
          clear HKb
          obtain ⟨k, hk, rfl, HKw⟩ := hrel
          by_cases hlt : k < nl
          · obtain ⟨ad, e, rfl, hb, he, d0, d1, d2, d3, d4, d5, d6⟩ := ev_in HR.out hlt
            have bl : (ad.add (k * 7)).block < w.heap.size := by rw [block_of_add]; exact hb
            clear he
            have i1 : (0 : Int) ≤ (k : Int) := by omega
            have i2 : (k : Int) < (nl : Int) := by omega
            go_wp2_with fail
            refine wp_region_noPanic ?_
            refine wp_region_held_drew (S := fun W' => Kept w W' [(w.heap.size + 1, 24, #[.int .i64 op2, .int .i64 a2, .int .i64 b2, .string name2, .slice A2 n2 c2]), (w.heap.size, 24, #[.int .i64 op, .int .i64 a, .int .i64 b, .string name, .slice A n c])]) (by kernel_rfl) HKw.out.drew (fun hHeld => ?_)
            refine takeH 0 (v := ?v0u33) rfl (by kernel_rfl) (by kernel_rfl) (by kernel_rfl) rfl (fun _ _ _ h => h) (Or.inl ⟨by rfl, ?y0u33⟩) hHeld ?r0u33
            case y0u33 => (intro W hSW; (try dsimp only at hSW); have q0 := hSW.cell 1 rfl 0; have q1 := hSW.cell 1 rfl 1; have q2 := hSW.cell 1 rfl 2; have q3 := hSW.cell 1 rfl 3; have q4 := hSW.cell 1 rfl 4; simp only [List.getElem?_toArray, List.getElem?_cons_zero, List.getElem?_cons_succ] at q0 q1 q2 q3 q4; go_simp; try with_reducible rfl)
            simp only [Act.put, List.setIfInBounds_toArray, List.set_cons_zero, List.set_cons_succ]
            refine takeH 1 (v := ?v1u34) rfl (by kernel_rfl) (by kernel_rfl) (by kernel_rfl) rfl (fun _ _ _ h => h) (Or.inl ⟨by rfl, ?y1u34⟩) hHeld ?r1u34
            case y1u34 => (intro W hSW; (try dsimp only at hSW); go_simp; try with_reducible rfl)
            simp only [Act.put, List.setIfInBounds_toArray, List.set_cons_zero, List.set_cons_succ]
            refine takeH 2 (v := ?v2u35) rfl (by kernel_rfl) (by kernel_rfl) (by kernel_rfl) rfl (fun _ _ _ h => h) (Or.inl ⟨by rfl, ?y2u35⟩) hHeld ?r2u35
            case y2u35 => (intro W hSW; (try dsimp only at hSW); go_simp; try with_reducible rfl)
            simp only [Act.put, List.setIfInBounds_toArray, List.set_cons_zero, List.set_cons_succ]
            refine takeH 3 (v := ?v3u36) rfl (by kernel_rfl) (by kernel_rfl) (by kernel_rfl) rfl (fun _ _ _ h => h) (Or.inl ⟨by rfl, ?y3u36⟩) hHeld ?r3u36
            case y3u36 => (intro W hSW; (try dsimp only at hSW); go_simp; try with_reducible rfl)
            simp only [Act.put, List.setIfInBounds_toArray, List.set_cons_zero, List.set_cons_succ]
            refine takeH 4 (v := ?v4u37) rfl (by kernel_rfl) (by kernel_rfl) (by kernel_rfl) rfl (fun _ _ _ h => h) (Or.inl ⟨by rfl, ?y4u37⟩) hHeld ?r4u37
            case y4u37 => (intro W hSW; (try dsimp only at hSW); have q0 := (hSW.bel.cell (p := (ad.add (k * 7))) bl).trans d0; have q1 := (hSW.bel.cell (p := ⟨(ad.add (k * 7)).block, (ad.add (k * 7)).off + 1, none⟩) bl).trans d1; have q2 := (hSW.bel.cell (p := ⟨(ad.add (k * 7)).block, (ad.add (k * 7)).off + 2, none⟩) bl).trans d2; have q3 := (hSW.bel.cell (p := ⟨(ad.add (k * 7)).block, (ad.add (k * 7)).off + 3, none⟩) bl).trans d3; have q4 := (hSW.bel.cell (p := ⟨(ad.add (k * 7)).block, (ad.add (k * 7)).off + 4, none⟩) bl).trans d4; have q5 := (hSW.bel.cell (p := ⟨(ad.add (k * 7)).block, (ad.add (k * 7)).off + 5, none⟩) bl).trans d5; have q6 := (hSW.bel.cell (p := ⟨(ad.add (k * 7)).block, (ad.add (k * 7)).off + 6, none⟩) bl).trans d6; go_simp; try with_reducible rfl)
            simp only [Act.put, List.setIfInBounds_toArray, List.set_cons_zero, List.set_cons_succ]
            refine takeH 6 (v := ?v6u38) rfl (by kernel_rfl) (by kernel_rfl) (by kernel_rfl) rfl (fun _ _ _ h => h) (Or.inl ⟨by rfl, ?y6u38⟩) hHeld ?r6u38
            case y6u38 => (intro W hSW; (try dsimp only at hSW); go_simp; try with_reducible rfl)
            simp only [Act.put, List.setIfInBounds_toArray, List.set_cons_zero, List.set_cons_succ]
            refine wpAnyH_ready (rs := [5]) (by kernel_rfl) (by simp) ?_
            refine AllReadyH.cons rfl (fun K hK => ?_) AllReadyH.nil
            go_simp
            with_reducible refine (Match_c HT.out e _ hHeld.bel hHeld.size).mono ?_
            rw [HRT.out]
            rintro e' wn ⟨rfl, hbn⟩
            have hkn := hHeld.next hbn
            clear hbn
            simp only [Bool.false_and]
            refine hK.out _ _ hkn (fun hHeld => ?_)
            clear hK K
            try simp only [Act.put, List.setIfInBounds_toArray, List.set_cons_zero, List.set_cons_succ]
            refine takeH 7 (v := ?v7u39) rfl (by kernel_rfl) (by kernel_rfl) (by kernel_rfl) rfl (fun _ _ _ h => h) (Or.inl ⟨by rfl, ?y7u39⟩) hHeld ?r7u39
            case y7u39 => (intro W hSW; (try dsimp only at hSW); go_simp; try with_reducible rfl)
            simp only [Act.put, List.setIfInBounds_toArray, List.set_cons_zero, List.set_cons_succ]
            refine takeH 8 (v := undef) rfl (by kernel_rfl) (by kernel_rfl) (by kernel_rfl) rfl (fun _ _ _ h => h) (Or.inr ⟨by rfl, rfl⟩) hHeld ?_
            simp only [Act.put, List.setIfInBounds_toArray, List.set_cons_zero, List.set_cons_succ]
            refine takeH 9 (v := undef) rfl (by kernel_rfl) (by kernel_rfl) (by kernel_rfl) rfl (fun _ _ _ h => h) (Or.inr ⟨by rfl, rfl⟩) hHeld ?_
            simp only [Act.put, List.setIfInBounds_toArray, List.set_cons_zero, List.set_cons_succ]
            refine takeH 10 (v := undef) rfl (by kernel_rfl) (by kernel_rfl) (by kernel_rfl) rfl (fun _ _ _ h => h) (Or.inr ⟨by rfl, rfl⟩) hHeld ?_
            simp only [Act.put, List.setIfInBounds_toArray, List.set_cons_zero, List.set_cons_succ]
            refine takeH 11 (v := undef) rfl (by kernel_rfl) (by kernel_rfl) (by kernel_rfl) rfl (fun _ _ _ h => h) (Or.inr ⟨by rfl, rfl⟩) hHeld ?_
            simp only [Act.put, List.setIfInBounds_toArray, List.set_cons_zero, List.set_cons_succ]
            refine takeH 12 (v := undef) rfl (by kernel_rfl) (by kernel_rfl) (by kernel_rfl) rfl (fun _ _ _ h => h) (Or.inr ⟨by rfl, rfl⟩) hHeld ?_
            simp only [Act.put, List.setIfInBounds_toArray, List.set_cons_zero, List.set_cons_succ]
            refine takeH 13 (v := undef) rfl (by kernel_rfl) (by kernel_rfl) (by kernel_rfl) rfl (fun _ _ _ h => h) (Or.inr ⟨by rfl, rfl⟩) hHeld ?_
            simp only [Act.put, List.setIfInBounds_toArray, List.set_cons_zero, List.set_cons_succ]
            refine takeH 14 (v := ?v14u40) rfl (by kernel_rfl) (by kernel_rfl) (by kernel_rfl) rfl (fun _ _ _ h => h) (Or.inl ⟨by rfl, ?y14u40⟩) hHeld ?r14u40
            case y14u40 => (intro W hSW; (try dsimp only at hSW); go_simp; try with_reducible rfl)
            simp only [Act.put, List.setIfInBounds_toArray, List.set_cons_zero, List.set_cons_succ]
            refine takeH 15 (v := ?v15u41) rfl (by kernel_rfl) (by kernel_rfl) (by kernel_rfl) rfl (fun _ _ _ h => h) (Or.inl ⟨by rfl, ?y15u41⟩) hHeld ?r15u41
            case y15u41 => (intro W hSW; (try dsimp only at hSW); go_simp; try with_reducible rfl)
            simp only [Act.put, List.setIfInBounds_toArray, List.set_cons_zero, List.set_cons_succ]
            refine wpAnyH_done (by kernel_rfl) ?_ _
            refine NoPanic.normal ?_
            have HKn := Lib.hid hHeld
            clear hHeld HKw d0 d1 d2 d3 d4 d5 d6
            go_wp2
            exact ⟨⟨k + 1, by omega, rfl, HKn⟩, by simp [intOf]; omega⟩
          · obtain rfl : nl = k := by omega
            go_wp2_with fail
            refine wp_region_noPanic ?_
            refine wp_region_held_drew (S := fun W' => Kept w W' [(w.heap.size + 1, 24, #[.int .i64 op2, .int .i64 a2, .int .i64 b2, .string name2, .slice A2 n2 c2]), (w.heap.size, 24, #[.int .i64 op, .int .i64 a, .int .i64 b, .string name, .slice A n c])]) (by kernel_rfl) HKw.out.drew (fun hHeld => ?_)
            generalize wr.drew = wd at hHeld ⊢
            clear HKw
            refine takeH 0 (v := ?v0u42) rfl (by kernel_rfl) (by kernel_rfl) (by kernel_rfl) rfl (fun _ _ _ h => h) (Or.inl ⟨by rfl, ?y0u42⟩) hHeld ?r0u42
            case y0u42 => (intro W hSW; (try dsimp only at hSW); have q0 := hSW.cell 1 rfl 0; have q1 := hSW.cell 1 rfl 1; have q2 := hSW.cell 1 rfl 2; have q3 := hSW.cell 1 rfl 3; have q4 := hSW.cell 1 rfl 4; simp only [List.getElem?_toArray, List.getElem?_cons_zero, List.getElem?_cons_succ] at q0 q1 q2 q3 q4; go_simp; try with_reducible rfl)
            simp only [Act.put, List.setIfInBounds_toArray, List.set_cons_zero, List.set_cons_succ]
            refine takeH 1 (v := ?v1u43) rfl (by kernel_rfl) (by kernel_rfl) (by kernel_rfl) rfl (fun _ _ _ h => h) (Or.inl ⟨by rfl, ?y1u43⟩) hHeld ?r1u43
            case y1u43 => (intro W hSW; (try dsimp only at hSW); go_simp; try with_reducible rfl)
            simp only [Act.put, List.setIfInBounds_toArray, List.set_cons_zero, List.set_cons_succ]
            refine takeH 3 (v := ?v3u44) rfl (by kernel_rfl) (by kernel_rfl) (by kernel_rfl) rfl (fun _ _ _ h => h) (Or.inl ⟨by rfl, ?y3u44⟩) hHeld ?r3u44
            case y3u44 => (intro W hSW; (try dsimp only at hSW); have q0 := hSW.cell 1 rfl 0; have q1 := hSW.cell 1 rfl 1; have q2 := hSW.cell 1 rfl 2; have q3 := hSW.cell 1 rfl 3; have q4 := hSW.cell 1 rfl 4; simp only [List.getElem?_toArray, List.getElem?_cons_zero, List.getElem?_cons_succ] at q0 q1 q2 q3 q4; go_simp; try with_reducible rfl)
            simp only [Act.put, List.setIfInBounds_toArray, List.set_cons_zero, List.set_cons_succ]
            refine takeH 4 (v := ?v4u45) rfl (by kernel_rfl) (by kernel_rfl) (by kernel_rfl) rfl (fun _ _ _ h => h) (Or.inl ⟨by rfl, ?y4u45⟩) hHeld ?r4u45
            case y4u45 => (intro W hSW; (try dsimp only at hSW); go_simp; try with_reducible rfl)
            simp only [Act.put, List.setIfInBounds_toArray, List.set_cons_zero, List.set_cons_succ]
            refine wpAnyH_ready (rs := [2]) (by kernel_rfl) (by simp) ?_
            refine AllReadyH.cons rfl (fun K hK => ?_) AllReadyH.nil
            go_simp
            with_reducible refine (Select_c HT.out _ hHeld.bel hHeld.size Al nl cl w.heap.size evs (HR.out.below hHeld.bel) hHeld.size (by omega)).mono ?_
            rintro e' wa ⟨va, rfl, howna, hba⟩
            obtain ⟨Aa, ca, rfl, _, _, hra⟩ := own_evs howna
            have HRa := Lib.hid hra
            have hkn := hHeld.next hba
            clear howna hra hba
            refine hK.out _ _ hkn (fun hHeld => ?_)
            clear hK K
            try simp only [Act.put, List.setIfInBounds_toArray, List.set_cons_zero, List.set_cons_succ]
            refine wpAnyH_ready (rs := [5]) (by kernel_rfl) (by simp) ?_
            refine AllReadyH.cons rfl (fun K hK => ?_) AllReadyH.nil
            go_simp
            with_reducible refine (rSelect_c HT.out _ hHeld.bel hHeld.size Al nl cl w.heap.size evs (HR.out.below hHeld.bel) hHeld.size (by omega)).mono ?_
            rintro e' wb ⟨vb, rfl, hownb, hbb⟩
            obtain ⟨Ab, cb, rfl, _, _, hrb⟩ := own_evs hownb
            have HRb := Lib.hid hrb
            have HRa2 := Lib.hid ((HRa.out.below hbb).more hbb.size)
            have hkn := hHeld.next hbb
            clear hownb hrb hbb HRa
            refine hK.out _ _ hkn (fun hHeld => ?_)
            clear hK K
            try simp only [Act.put, List.setIfInBounds_toArray, List.set_cons_zero, List.set_cons_succ]
            have hsm : (selT t evs).length ≤ 60 := by have h1 := selE_len t evs nl; rw [List.take_of_length_le (by rw [HL.out]; exact Nat.le_refl _)] at h1; unfold selT; split; omega; simp
            refine wpAnyH_ready (rs := [6]) (by kernel_rfl) (by simp) ?_
            refine AllReadyH.cons rfl (fun K hK => ?_) AllReadyH.nil
            go_simp
            with_reducible refine (EvSame_c Aa (selT t evs).length ca wb.heap.size (selT t evs) Ab (selT t evs).length cb (selT t evs) _ HRa2.out HRb.out (Nat.le_refl _) (by omega) (by omega)).mono ?_
            rintro e' wc ⟨r, rfl, hre, hbc⟩
            obtain rfl : r = true := hre.2 rfl
            have hkn := hHeld.next hbc
            clear hbc hre HRa2 HRb
            refine hK.out _ _ hkn (fun hHeld => ?_)
            clear hK K
            try simp only [Act.put, List.setIfInBounds_toArray, List.set_cons_zero, List.set_cons_succ]
            refine takeH 7 (v := ?v7u46) rfl (by kernel_rfl) (by kernel_rfl) (by kernel_rfl) rfl (fun _ _ _ h => h) (Or.inl ⟨by rfl, ?y7u46⟩) hHeld ?r7u46
            case y7u46 => (intro W hSW; (try dsimp only at hSW); go_simp; try with_reducible rfl)
            simp only [Act.put, List.setIfInBounds_toArray, List.set_cons_zero, List.set_cons_succ]
            refine takeH 8 (v := ?v8u47) rfl (by kernel_rfl) (by kernel_rfl) (by kernel_rfl) rfl (fun _ _ _ h => h) (Or.inl ⟨by rfl, ?y8u47⟩) hHeld ?r8u47
            case y8u47 => (intro W hSW; (try dsimp only at hSW); have q0 := hSW.cell 1 rfl 0; have q1 := hSW.cell 1 rfl 1; have q2 := hSW.cell 1 rfl 2; have q3 := hSW.cell 1 rfl 3; have q4 := hSW.cell 1 rfl 4; simp only [List.getElem?_toArray, List.getElem?_cons_zero, List.getElem?_cons_succ] at q0 q1 q2 q3 q4; go_simp; try with_reducible rfl)
            simp only [Act.put, List.setIfInBounds_toArray, List.set_cons_zero, List.set_cons_succ]
            refine takeH 9 (v := ?v9u48) rfl (by kernel_rfl) (by kernel_rfl) (by kernel_rfl) rfl (fun _ _ _ h => h) (Or.inl ⟨by rfl, ?y9u48⟩) hHeld ?r9u48
            case y9u48 => (intro W hSW; (try dsimp only at hSW); have q0 := hSW.cell 0 rfl 0; have q1 := hSW.cell 0 rfl 1; have q2 := hSW.cell 0 rfl 2; have q3 := hSW.cell 0 rfl 3; have q4 := hSW.cell 0 rfl 4; simp only [List.getElem?_toArray, List.getElem?_cons_zero, List.getElem?_cons_succ] at q0 q1 q2 q3 q4; go_simp; try with_reducible rfl)
            simp only [Act.put, List.setIfInBounds_toArray, List.set_cons_zero, List.set_cons_succ]
            refine takeH 11 (v := ?v11u49) rfl (by kernel_rfl) (by kernel_rfl) (by kernel_rfl) rfl (fun _ _ _ h => h) (Or.inl ⟨by rfl, ?y11u49⟩) hHeld ?r11u49
            case y11u49 => (intro W hSW; (try dsimp only at hSW); go_simp; try with_reducible rfl)
            simp only [Act.put, List.setIfInBounds_toArray, List.set_cons_zero, List.set_cons_succ]
            refine wpAnyH_ready (rs := [10]) (by kernel_rfl) (by simp) ?_
            refine AllReadyH.cons rfl (fun K hK => ?_) AllReadyH.nil
            go_simp
            with_reducible refine (fSame_c HT.out HU.out _ hHeld.bel hHeld.size).mono ?_
            rw [HRT.out]
            rintro e' wn ⟨rfl, hbn⟩
            have hkn := hHeld.next hbn
            clear hbn
            simp only [Bool.false_and]
            refine hK.out _ _ hkn (fun hHeld => ?_)
            clear hK K
            try simp only [Act.put, List.setIfInBounds_toArray, List.set_cons_zero, List.set_cons_succ]
            refine takeH 12 (v := ?v12u50) rfl (by kernel_rfl) (by kernel_rfl) (by kernel_rfl) rfl (fun _ _ _ h => h) (Or.inl ⟨by rfl, ?y12u50⟩) hHeld ?r12u50
            case y12u50 => (intro W hSW; (try dsimp only at hSW); go_simp; try with_reducible rfl)
            simp only [Act.put, List.setIfInBounds_toArray, List.set_cons_zero, List.set_cons_succ]
            refine takeH 13 (v := undef) rfl (by kernel_rfl) (by kernel_rfl) (by kernel_rfl) rfl (fun _ _ _ h => h) (Or.inr ⟨by rfl, rfl⟩) hHeld ?_
            simp only [Act.put, List.setIfInBounds_toArray, List.set_cons_zero, List.set_cons_succ]
            refine takeH 14 (v := undef) rfl (by kernel_rfl) (by kernel_rfl) (by kernel_rfl) rfl (fun _ _ _ h => h) (Or.inr ⟨by rfl, rfl⟩) hHeld ?_
            simp only [Act.put, List.setIfInBounds_toArray, List.set_cons_zero, List.set_cons_succ]
            refine takeH 15 (v := undef) rfl (by kernel_rfl) (by kernel_rfl) (by kernel_rfl) rfl (fun _ _ _ h => h) (Or.inr ⟨by rfl, rfl⟩) hHeld ?_
            simp only [Act.put, List.setIfInBounds_toArray, List.set_cons_zero, List.set_cons_succ]
            refine takeH 16 (v := ?v16u51) rfl (by kernel_rfl) (by kernel_rfl) (by kernel_rfl) rfl (fun _ _ _ h => h) (Or.inl ⟨by rfl, ?y16u51⟩) hHeld ?r16u51
            case y16u51 => (intro W hSW; (try dsimp only at hSW); go_simp; try with_reducible rfl)
            simp only [Act.put, List.setIfInBounds_toArray, List.set_cons_zero, List.set_cons_succ]
            refine takeH 17 (v := ?v17u52) rfl (by kernel_rfl) (by kernel_rfl) (by kernel_rfl) rfl (fun _ _ _ h => h) (Or.inl ⟨by rfl, ?y17u52⟩) hHeld ?r17u52
            case y17u52 => (intro W hSW; (try dsimp only at hSW); go_simp; try with_reducible rfl)
            simp only [Act.put, List.setIfInBounds_toArray, List.set_cons_zero, List.set_cons_succ]
            refine takeH 18 (v := ?v18u53) rfl (by kernel_rfl) (by kernel_rfl) (by kernel_rfl) rfl (fun _ _ _ h => h) (Or.inl ⟨by rfl, ?y18u53⟩) hHeld ?r18u53
            case y18u53 => (intro W hSW; (try dsimp only at hSW); go_simp; try with_reducible rfl)
            simp only [Act.put, List.setIfInBounds_toArray, List.set_cons_zero, List.set_cons_succ]
            refine takeH 19 (v := ?v19u54) rfl (by kernel_rfl) (by kernel_rfl) (by kernel_rfl) rfl (fun _ _ _ h => h) (Or.inl ⟨by rfl, ?y19u54⟩) hHeld ?r19u54
            case y19u54 => (intro W hSW; (try dsimp only at hSW); go_simp; try with_reducible rfl)
            simp only [Act.put, List.setIfInBounds_toArray, List.set_cons_zero, List.set_cons_succ]
            refine wpAnyH_done (by kernel_rfl) ?_ _
            refine NoPanic.normal ?_
            go_wp2
            go_ret
            exact ⟨rfl, hHeld.bel⟩
      · have HBy := Lib.hid (show bytesT t = encF t from by unfold bytesT; rw [hrt]; rfl)
        rw [HBy.out] at HR6 ⊢
        obtain ⟨hev, _, hct⟩ := right_facts t hrt
        have HEV := Lib.hid hev
        clear hev
        have HRT := Lib.hid hrt
        clear hrt HBy
        go_wp2_with fail
        refine wp_region_noPanic ?_
        refine wp_region_held_drew (S := fun W' => Kept w W' [(w.heap.size + 1, 24, #[.int .i64 op2, .int .i64 a2, .int .i64 b2, .string name2, .slice A2 n2 c2]), (w.heap.size, 24, #[.int .i64 op, .int .i64 a, .int .i64 b, .string name, .slice A n c])] ∧ Reads W' w6.heap.size 1 A6 (encF t).length (byteCells (encF t))) (by kernel_rfl) ⟨HK7.out.drew, HR6.out.drew⟩ (fun hHeld => ?_)
        have hz6 : w6.heap.size ≤ w6.drew.heap.size := Nat.le_refl _
        refine takeH 0 (v := ?v0u55) rfl (by kernel_rfl) (by kernel_rfl) (by kernel_rfl) rfl (fun _ _ _ h => h) (Or.inl ⟨by rfl, ?y0u55⟩) hHeld ?r0u55
        case y0u55 => (intro W hSW; (try dsimp only at hSW); have q0 := hSW.1.cell 1 rfl 0; have q1 := hSW.1.cell 1 rfl 1; have q2 := hSW.1.cell 1 rfl 2; have q3 := hSW.1.cell 1 rfl 3; have q4 := hSW.1.cell 1 rfl 4; simp only [List.getElem?_toArray, List.getElem?_cons_zero, List.getElem?_cons_succ] at q0 q1 q2 q3 q4; go_simp; try with_reducible rfl)
        simp only [Act.put, List.setIfInBounds_toArray, List.set_cons_zero, List.set_cons_succ]
        refine takeH 2 (v := ?v2u56) rfl (by kernel_rfl) (by kernel_rfl) (by kernel_rfl) rfl (fun _ _ _ h => h) (Or.inl ⟨by rfl, ?y2u56⟩) hHeld ?r2u56
        case y2u56 => (intro W hSW; (try dsimp only at hSW); go_simp; try with_reducible rfl)
        simp only [Act.put, List.setIfInBounds_toArray, List.set_cons_zero, List.set_cons_succ]
        refine wpAnyH_ready (rs := [1]) (by kernel_rfl) (by simp) ?_
        refine AllReadyH.cons rfl (fun K hK => ?_) AllReadyH.nil
        go_simp
        with_reducible refine (Right_c HT.out _ hHeld.1.bel hHeld.1.size).mono ?_
        rw [HRT.out]
        rintro e wn ⟨rfl, hbn⟩
        have hkn : Kept w wn _ ∧ Reads wn w6.heap.size 1 A6 (encF t).length (byteCells (encF t)) := ⟨hHeld.1.next hbn, hHeld.2.below (hbn.mono hz6)⟩
        have hz6 : w6.heap.size ≤ wn.heap.size := Nat.le_trans hz6 hbn.size
        clear hbn
        refine hK.out _ _ hkn (fun hHeld => ?_)
        clear hK K
        try simp only [Act.put, List.setIfInBounds_toArray, List.set_cons_zero, List.set_cons_succ]
        refine takeH 3 (v := ?v3u57) rfl (by kernel_rfl) (by kernel_rfl) (by kernel_rfl) rfl (fun _ _ _ h => h) (Or.inl ⟨by rfl, ?y3u57⟩) hHeld ?r3u57
        case y3u57 => (intro W hSW; (try dsimp only at hSW); go_simp; try with_reducible rfl)
        simp only [Act.put, List.setIfInBounds_toArray, List.set_cons_zero, List.set_cons_succ]
        refine takeH 4 (v := ?v4u58) rfl (by kernel_rfl) (by kernel_rfl) (by kernel_rfl) rfl (fun _ _ _ h => h) (Or.inl ⟨by rfl, ?y4u58⟩) hHeld ?r4u58
        case y4u58 => (intro W hSW; (try dsimp only at hSW); go_simp; try with_reducible rfl)
        simp only [Act.put, List.setIfInBounds_toArray, List.set_cons_zero, List.set_cons_succ]
        refine takeH 5 (v := ?v5u59) rfl (by kernel_rfl) (by kernel_rfl) (by kernel_rfl) rfl (fun _ _ _ h => h) (Or.inl ⟨by rfl, ?y5u59⟩) hHeld ?r5u59
        case y5u59 => (intro W hSW; (try dsimp only at hSW); go_simp; try with_reducible rfl)
        simp only [Act.put, List.setIfInBounds_toArray, List.set_cons_zero, List.set_cons_succ]
        refine takeH 6 (v := ?v6u60) rfl (by kernel_rfl) (by kernel_rfl) (by kernel_rfl) rfl (fun _ _ _ h => h) (Or.inl ⟨by rfl, ?y6u60⟩) hHeld ?r6u60
        case y6u60 => (intro W hSW; (try dsimp only at hSW); go_simp; try with_reducible rfl)
        simp only [Act.put, List.setIfInBounds_toArray, List.set_cons_zero, List.set_cons_succ]
        refine takeH 7 (v := ?v7u61) rfl (by kernel_rfl) (by kernel_rfl) (by kernel_rfl) rfl (fun _ _ _ h => h) (Or.inl ⟨by rfl, ?y7u61⟩) hHeld ?r7u61
        case y7u61 => (intro W hSW; (try dsimp only at hSW); go_simp; try with_reducible rfl)
        simp only [Act.put, List.setIfInBounds_toArray, List.set_cons_zero, List.set_cons_succ]
        refine takeH 8 (v := ?v8u62) rfl (by kernel_rfl) (by kernel_rfl) (by kernel_rfl) rfl (fun _ _ _ h => h) (Or.inl ⟨by rfl, ?y8u62⟩) hHeld ?r8u62
        case y8u62 => (intro W hSW; (try dsimp only at hSW); have cv := conv_reads hSW.2 c6; go_simp; try with_reducible rfl)
        simp only [Act.put, List.setIfInBounds_toArray, List.set_cons_zero, List.set_cons_succ]
        refine takeH 9 (v := ?v9u63) rfl (by kernel_rfl) (by kernel_rfl) (by kernel_rfl) rfl (fun _ _ _ h => h) (Or.inl ⟨by rfl, ?y9u63⟩) hHeld ?r9u63
        case y9u63 => (intro W hSW; (try dsimp only at hSW); have q0 := hSW.1.cell 1 rfl 0; have q1 := hSW.1.cell 1 rfl 1; have q2 := hSW.1.cell 1 rfl 2; have q3 := hSW.1.cell 1 rfl 3; have q4 := hSW.1.cell 1 rfl 4; simp only [List.getElem?_toArray, List.getElem?_cons_zero, List.getElem?_cons_succ] at q0 q1 q2 q3 q4; go_simp; try with_reducible rfl)
        simp only [Act.put, List.setIfInBounds_toArray, List.set_cons_zero, List.set_cons_succ]
        refine wpAnyH_ready (rs := [10]) (by kernel_rfl) (by simp) ?_
        refine AllReadyH.cons rfl (fun K hK => ?_) AllReadyH.nil
        go_simp
        with_reducible refine (rBytes_c HT.out HEV.out (by omega) _ hHeld.1.bel hHeld.1.size).mono ?_
        rintro e wn ⟨v7, rfl, hown7, hbn⟩
        rw [Nat.zero_add, List.nil_append] at hown7
        obtain ⟨A7, c7, rfl, _, _, _, hr7⟩ := own_reads hown7
        have HR7 := Lib.hid hr7
        clear hown7 hr7
        have hkn : Kept w wn _ ∧ Reads wn w6.heap.size 1 A6 (encF t).length (byteCells (encF t)) := ⟨hHeld.1.next hbn, hHeld.2.below (hbn.mono hz6)⟩
        have hz6 : w6.heap.size ≤ wn.heap.size := Nat.le_trans hz6 hbn.size
        clear hbn
        refine hK.out _ _ hkn (fun hHeld => ?_)
        clear hK K
        try simp only [Act.put, List.setIfInBounds_toArray, List.set_cons_zero, List.set_cons_succ]
        have cv := conv_reads HR7.out c7
        refine wpAnyH_ready (rs := [11]) (by kernel_rfl) (by simp) ?_
        refine AllReadyH.cons rfl (fun K hK => ?_) AllReadyH.nil
        go_simp
        refine hK.out _ _ hHeld (fun hHeld => ?_)
        clear hK K
        try simp only [Act.put, List.setIfInBounds_toArray, List.set_cons_zero, List.set_cons_succ]
        clear cv HR7
        refine takeH 12 (v := ?v12u64) rfl (by kernel_rfl) (by kernel_rfl) (by kernel_rfl) rfl (fun _ _ _ h => h) (Or.inl ⟨by rfl, ?y12u64⟩) hHeld ?r12u64
        case y12u64 => (intro W hSW; (try dsimp only at hSW); go_simp; try with_reducible rfl)
        simp only [Act.put, List.setIfInBounds_toArray, List.set_cons_zero, List.set_cons_succ]
        refine takeH 13 (v := ?v13u65) rfl (by kernel_rfl) (by kernel_rfl) (by kernel_rfl) rfl (fun _ _ _ h => h) (Or.inl ⟨by rfl, ?y13u65⟩) hHeld ?r13u65
        case y13u65 => (intro W hSW; (try dsimp only at hSW); go_simp; try with_reducible rfl)
        simp only [Act.put, List.setIfInBounds_toArray, List.set_cons_zero, List.set_cons_succ]
        refine takeH 14 (v := ?v14u66) rfl (by kernel_rfl) (by kernel_rfl) (by kernel_rfl) rfl (fun _ _ _ h => h) (Or.inl ⟨by rfl, ?y14u66⟩) hHeld ?r14u66
        case y14u66 => (intro W hSW; (try dsimp only at hSW); go_simp; try with_reducible rfl)
        simp only [Act.put, List.setIfInBounds_toArray, List.set_cons_zero, List.set_cons_succ]
        refine takeH 15 (v := ?v15u67) rfl (by kernel_rfl) (by kernel_rfl) (by kernel_rfl) rfl (fun _ _ _ h => h) (Or.inl ⟨by rfl, ?y15u67⟩) hHeld ?r15u67
        case y15u67 => (intro W hSW; (try dsimp only at hSW); go_simp; try with_reducible rfl)
        simp only [Act.put, List.setIfInBounds_toArray, List.set_cons_zero, List.set_cons_succ]
        refine takeH 16 (v := ?v16u68) rfl (by kernel_rfl) (by kernel_rfl) (by kernel_rfl) rfl (fun _ _ _ h => h) (Or.inl ⟨by rfl, ?y16u68⟩) hHeld ?r16u68
        case y16u68 => (intro W hSW; (try dsimp only at hSW); go_simp; try with_reducible rfl)
        simp only [Act.put, List.setIfInBounds_toArray, List.set_cons_zero, List.set_cons_succ]
        refine takeH 17 (v := ?v17u69) rfl (by kernel_rfl) (by kernel_rfl) (by kernel_rfl) rfl (fun _ _ _ h => h) (Or.inl ⟨by rfl, ?y17u69⟩) hHeld ?r17u69
        case y17u69 => (intro W hSW; (try dsimp only at hSW); go_simp; try with_reducible rfl)
        simp only [Act.put, List.setIfInBounds_toArray, List.set_cons_zero, List.set_cons_succ]
        refine takeH 18 (v := ?v18u70) rfl (by kernel_rfl) (by kernel_rfl) (by kernel_rfl) rfl (fun _ _ _ h => h) (Or.inl ⟨by rfl, ?y18u70⟩) hHeld ?r18u70
        case y18u70 => (intro W hSW; (try dsimp only at hSW); go_simp; try with_reducible rfl)
        simp only [Act.put, List.setIfInBounds_toArray, List.set_cons_zero, List.set_cons_succ]
        refine takeH 19 (v := undef) rfl (by kernel_rfl) (by kernel_rfl) (by kernel_rfl) rfl (fun _ _ _ h => h) (Or.inr ⟨by rfl, rfl⟩) hHeld ?_
        simp only [Act.put, List.setIfInBounds_toArray, List.set_cons_zero, List.set_cons_succ]
        refine takeH 20 (v := undef) rfl (by kernel_rfl) (by kernel_rfl) (by kernel_rfl) rfl (fun _ _ _ h => h) (Or.inr ⟨by rfl, rfl⟩) hHeld ?_
        simp only [Act.put, List.setIfInBounds_toArray, List.set_cons_zero, List.set_cons_succ]
        refine takeH 21 (v := undef) rfl (by kernel_rfl) (by kernel_rfl) (by kernel_rfl) rfl (fun _ _ _ h => h) (Or.inr ⟨by rfl, rfl⟩) hHeld ?_
        simp only [Act.put, List.setIfInBounds_toArray, List.set_cons_zero, List.set_cons_succ]
        refine takeH 22 (v := ?v22u71) rfl (by kernel_rfl) (by kernel_rfl) (by kernel_rfl) rfl (fun _ _ _ h => h) (Or.inl ⟨by rfl, ?y22u71⟩) hHeld ?r22u71
        case y22u71 => (intro W hSW; (try dsimp only at hSW); go_simp; try with_reducible rfl)
        simp only [Act.put, List.setIfInBounds_toArray, List.set_cons_zero, List.set_cons_succ]
        refine takeH 23 (v := ?v23u72) rfl (by kernel_rfl) (by kernel_rfl) (by kernel_rfl) rfl (fun _ _ _ h => h) (Or.inl ⟨by rfl, ?y23u72⟩) hHeld ?r23u72
        case y23u72 => (intro W hSW; (try dsimp only at hSW); go_simp; try with_reducible rfl)
        simp only [Act.put, List.setIfInBounds_toArray, List.set_cons_zero, List.set_cons_succ]
        refine wpAnyH_done (by kernel_rfl) ?_ _
        refine NoPanic.normal ?_
        have HKb := Lib.hid hHeld.1
        clear hHeld HK7 HR6 hz6
        go_wp2
        go_loopw [9] (fun i wr => ∃ (k : Nat), k ≤ nl ∧ i = .int .i64 k ∧ Hid (Kept w wr [(w.heap.size + 1, 24, #[.int .i64 op2, .int .i64 a2, .int .i64 b2, .string name2, .slice A2 n2 c2]), (w.heap.size, 24, #[.int .i64 op, .int .i64 a, .int .i64 b, .string name, .slice A n c])])) (fun i _ => nl - (intOf i).toNat)
        case atStart => exact ⟨0, Nat.zero_le _, rfl, HKb⟩
        case round =>
          clear HKb
          obtain ⟨k, hk, rfl, HKw⟩ := hrel
          by_cases hlt : k < nl
          · obtain ⟨ad, e, rfl, hb, he, d0, d1, d2, d3, d4, d5, d6⟩ := ev_in HR.out hlt
            have bl : (ad.add (k * 7)).block < w.heap.size := by rw [block_of_add]; exact hb
            clear he
            have i1 : (0 : Int) ≤ (k : Int) := by omega
            have i2 : (k : Int) < (nl : Int) := by omega
            go_wp2_with fail
            refine wp_region_noPanic ?_
            refine wp_region_held_drew (S := fun W' => Kept w W' [(w.heap.size + 1, 24, #[.int .i64 op2, .int .i64 a2, .int .i64 b2, .string name2, .slice A2 n2 c2]), (w.heap.size, 24, #[.int .i64 op, .int .i64 a, .int .i64 b, .string name, .slice A n c])]) (by kernel_rfl) HKw.out.drew (fun hHeld => ?_)
            refine takeH 0 (v := ?v0u73) rfl (by kernel_rfl) (by kernel_rfl) (by kernel_rfl) rfl (fun _ _ _ h => h) (Or.inl ⟨by rfl, ?y0u73⟩) hHeld ?r0u73
            case y0u73 => (intro W hSW; (try dsimp only at hSW); have q0 := hSW.cell 1 rfl 0; have q1 := hSW.cell 1 rfl 1; have q2 := hSW.cell 1 rfl 2; have q3 := hSW.cell 1 rfl 3; have q4 := hSW.cell 1 rfl 4; simp only [List.getElem?_toArray, List.getElem?_cons_zero, List.getElem?_cons_succ] at q0 q1 q2 q3 q4; go_simp; try with_reducible rfl)
            simp only [Act.put, List.setIfInBounds_toArray, List.set_cons_zero, List.set_cons_succ]
            refine takeH 1 (v := ?v1u74) rfl (by kernel_rfl) (by kernel_rfl) (by kernel_rfl) rfl (fun _ _ _ h => h) (Or.inl ⟨by rfl, ?y1u74⟩) hHeld ?r1u74
            case y1u74 => (intro W hSW; (try dsimp only at hSW); go_simp; try with_reducible rfl)
            simp only [Act.put, List.setIfInBounds_toArray, List.set_cons_zero, List.set_cons_succ]
            refine takeH 2 (v := ?v2u75) rfl (by kernel_rfl) (by kernel_rfl) (by kernel_rfl) rfl (fun _ _ _ h => h) (Or.inl ⟨by rfl, ?y2u75⟩) hHeld ?r2u75
            case y2u75 => (intro W hSW; (try dsimp only at hSW); go_simp; try with_reducible rfl)
            simp only [Act.put, List.setIfInBounds_toArray, List.set_cons_zero, List.set_cons_succ]
            refine takeH 3 (v := ?v3u76) rfl (by kernel_rfl) (by kernel_rfl) (by kernel_rfl) rfl (fun _ _ _ h => h) (Or.inl ⟨by rfl, ?y3u76⟩) hHeld ?r3u76
            case y3u76 => (intro W hSW; (try dsimp only at hSW); go_simp; try with_reducible rfl)
            simp only [Act.put, List.setIfInBounds_toArray, List.set_cons_zero, List.set_cons_succ]
            refine takeH 4 (v := ?v4u77) rfl (by kernel_rfl) (by kernel_rfl) (by kernel_rfl) rfl (fun _ _ _ h => h) (Or.inl ⟨by rfl, ?y4u77⟩) hHeld ?r4u77
            case y4u77 => (intro W hSW; (try dsimp only at hSW); have q0 := (hSW.bel.cell (p := (ad.add (k * 7))) bl).trans d0; have q1 := (hSW.bel.cell (p := ⟨(ad.add (k * 7)).block, (ad.add (k * 7)).off + 1, none⟩) bl).trans d1; have q2 := (hSW.bel.cell (p := ⟨(ad.add (k * 7)).block, (ad.add (k * 7)).off + 2, none⟩) bl).trans d2; have q3 := (hSW.bel.cell (p := ⟨(ad.add (k * 7)).block, (ad.add (k * 7)).off + 3, none⟩) bl).trans d3; have q4 := (hSW.bel.cell (p := ⟨(ad.add (k * 7)).block, (ad.add (k * 7)).off + 4, none⟩) bl).trans d4; have q5 := (hSW.bel.cell (p := ⟨(ad.add (k * 7)).block, (ad.add (k * 7)).off + 5, none⟩) bl).trans d5; have q6 := (hSW.bel.cell (p := ⟨(ad.add (k * 7)).block, (ad.add (k * 7)).off + 6, none⟩) bl).trans d6; go_simp; try with_reducible rfl)
            simp only [Act.put, List.setIfInBounds_toArray, List.set_cons_zero, List.set_cons_succ]
            refine takeH 6 (v := ?v6u78) rfl (by kernel_rfl) (by kernel_rfl) (by kernel_rfl) rfl (fun _ _ _ h => h) (Or.inl ⟨by rfl, ?y6u78⟩) hHeld ?r6u78
            case y6u78 => (intro W hSW; (try dsimp only at hSW); go_simp; try with_reducible rfl)
            simp only [Act.put, List.setIfInBounds_toArray, List.set_cons_zero, List.set_cons_succ]
            refine wpAnyH_ready (rs := [5]) (by kernel_rfl) (by simp) ?_
            refine AllReadyH.cons rfl (fun K hK => ?_) AllReadyH.nil
            go_simp
            with_reducible refine (Match_c HT.out e _ hHeld.bel hHeld.size).mono ?_
            rw [HRT.out]
            rintro e' wn ⟨rfl, hbn⟩
            have hkn := hHeld.next hbn
            clear hbn
            simp only [Bool.true_and]
            refine hK.out _ _ hkn (fun hHeld => ?_)
            clear hK K
            try simp only [Act.put, List.setIfInBounds_toArray, List.set_cons_zero, List.set_cons_succ]
            refine takeH 7 (v := ?v7u79) rfl (by kernel_rfl) (by kernel_rfl) (by kernel_rfl) rfl (fun _ _ _ h => h) (Or.inl ⟨by rfl, ?y7u79⟩) hHeld ?r7u79
            case y7u79 => (intro W hSW; (try dsimp only at hSW); go_simp; try with_reducible rfl)
            simp only [Act.put, List.setIfInBounds_toArray, List.set_cons_zero, List.set_cons_succ]
            refine takeH 8 (v := ?v8u80) rfl (by kernel_rfl) (by kernel_rfl) (by kernel_rfl) rfl (fun _ _ _ h => h) (Or.inl ⟨by rfl, ?y8u80⟩) hHeld ?r8u80
            case y8u80 => (intro W hSW; (try dsimp only at hSW); have q0 := hSW.cell 1 rfl 0; have q1 := hSW.cell 1 rfl 1; have q2 := hSW.cell 1 rfl 2; have q3 := hSW.cell 1 rfl 3; have q4 := hSW.cell 1 rfl 4; simp only [List.getElem?_toArray, List.getElem?_cons_zero, List.getElem?_cons_succ] at q0 q1 q2 q3 q4; go_simp; try with_reducible rfl)
            simp only [Act.put, List.setIfInBounds_toArray, List.set_cons_zero, List.set_cons_succ]
            refine takeH 9 (v := ?v9u81) rfl (by kernel_rfl) (by kernel_rfl) (by kernel_rfl) rfl (fun _ _ _ h => h) (Or.inl ⟨by rfl, ?y9u81⟩) hHeld ?r9u81
            case y9u81 => (intro W hSW; (try dsimp only at hSW); go_simp; try with_reducible rfl)
            simp only [Act.put, List.setIfInBounds_toArray, List.set_cons_zero, List.set_cons_succ]
            refine takeH 10 (v := ?v10u82) rfl (by kernel_rfl) (by kernel_rfl) (by kernel_rfl) rfl (fun _ _ _ h => h) (Or.inl ⟨by rfl, ?y10u82⟩) hHeld ?r10u82
            case y10u82 => (intro W hSW; (try dsimp only at hSW); go_simp; try with_reducible rfl)
            simp only [Act.put, List.setIfInBounds_toArray, List.set_cons_zero, List.set_cons_succ]
            refine takeH 11 (v := ?v11u83) rfl (by kernel_rfl) (by kernel_rfl) (by kernel_rfl) rfl (fun _ _ _ h => h) (Or.inl ⟨by rfl, ?y11u83⟩) hHeld ?r11u83
            case y11u83 => (intro W hSW; (try dsimp only at hSW); go_simp; try with_reducible rfl)
            simp only [Act.put, List.setIfInBounds_toArray, List.set_cons_zero, List.set_cons_succ]
            refine takeH 12 (v := ?v12u84) rfl (by kernel_rfl) (by kernel_rfl) (by kernel_rfl) rfl (fun _ _ _ h => h) (Or.inl ⟨by rfl, ?y12u84⟩) hHeld ?r12u84
            case y12u84 => (intro W hSW; (try dsimp only at hSW); have q0 := (hSW.bel.cell (p := (ad.add (k * 7))) bl).trans d0; have q1 := (hSW.bel.cell (p := ⟨(ad.add (k * 7)).block, (ad.add (k * 7)).off + 1, none⟩) bl).trans d1; have q2 := (hSW.bel.cell (p := ⟨(ad.add (k * 7)).block, (ad.add (k * 7)).off + 2, none⟩) bl).trans d2; have q3 := (hSW.bel.cell (p := ⟨(ad.add (k * 7)).block, (ad.add (k * 7)).off + 3, none⟩) bl).trans d3; have q4 := (hSW.bel.cell (p := ⟨(ad.add (k * 7)).block, (ad.add (k * 7)).off + 4, none⟩) bl).trans d4; have q5 := (hSW.bel.cell (p := ⟨(ad.add (k * 7)).block, (ad.add (k * 7)).off + 5, none⟩) bl).trans d5; have q6 := (hSW.bel.cell (p := ⟨(ad.add (k * 7)).block, (ad.add (k * 7)).off + 6, none⟩) bl).trans d6; go_simp; try with_reducible rfl)
            simp only [Act.put, List.setIfInBounds_toArray, List.set_cons_zero, List.set_cons_succ]
            refine wpAnyH_ready (rs := [13]) (by kernel_rfl) (by simp) ?_
            refine AllReadyH.cons rfl (fun K hK => ?_) AllReadyH.nil
            go_simp
            with_reducible refine (rMeans_c HT.out e HEV.out _ hHeld.bel hHeld.size).mono ?_
            rintro e' wn ⟨rfl, hbn⟩
            have hkn := hHeld.next hbn
            clear hbn
            refine hK.out _ _ hkn (fun hHeld => ?_)
            clear hK K
            try simp only [Act.put, List.setIfInBounds_toArray, List.set_cons_zero, List.set_cons_succ]
            refine takeH 14 (v := ?v14u85) rfl (by kernel_rfl) (by kernel_rfl) (by kernel_rfl) rfl (fun _ _ _ h => h) (Or.inl ⟨by rfl, ?y14u85⟩) hHeld ?r14u85
            case y14u85 => (intro W hSW; (try dsimp only at hSW); go_simp; try with_reducible rfl)
            simp only [Act.put, List.setIfInBounds_toArray, List.set_cons_zero, List.set_cons_succ]
            refine takeH 15 (v := ?v15u86) rfl (by kernel_rfl) (by kernel_rfl) (by kernel_rfl) rfl (fun _ _ _ h => h) (Or.inl ⟨by rfl, ?y15u86⟩) hHeld ?r15u86
            case y15u86 => (intro W hSW; (try dsimp only at hSW); go_simp; try with_reducible rfl)
            simp only [Act.put, List.setIfInBounds_toArray, List.set_cons_zero, List.set_cons_succ]
            refine wpAnyH_done (by kernel_rfl) ?_ _
            refine NoPanic.normal ?_
            have HKn := Lib.hid hHeld
            clear hHeld HKw d0 d1 d2 d3 d4 d5 d6
            go_wp2
            exact ⟨⟨k + 1, by omega, rfl, HKn⟩, by simp [intOf]; omega⟩
          · obtain rfl : nl = k := by omega
            go_wp2_with fail
            refine wp_region_noPanic ?_
            refine wp_region_held_drew (S := fun W' => Kept w W' [(w.heap.size + 1, 24, #[.int .i64 op2, .int .i64 a2, .int .i64 b2, .string name2, .slice A2 n2 c2]), (w.heap.size, 24, #[.int .i64 op, .int .i64 a, .int .i64 b, .string name, .slice A n c])]) (by kernel_rfl) HKw.out.drew (fun hHeld => ?_)
            generalize wr.drew = wd at hHeld ⊢
            clear HKw
            refine takeH 0 (v := ?v0u87) rfl (by kernel_rfl) (by kernel_rfl) (by kernel_rfl) rfl (fun _ _ _ h => h) (Or.inl ⟨by rfl, ?y0u87⟩) hHeld ?r0u87
            case y0u87 => (intro W hSW; (try dsimp only at hSW); have q0 := hSW.cell 1 rfl 0; have q1 := hSW.cell 1 rfl 1; have q2 := hSW.cell 1 rfl 2; have q3 := hSW.cell 1 rfl 3; have q4 := hSW.cell 1 rfl 4; simp only [List.getElem?_toArray, List.getElem?_cons_zero, List.getElem?_cons_succ] at q0 q1 q2 q3 q4; go_simp; try with_reducible rfl)
            simp only [Act.put, List.setIfInBounds_toArray, List.set_cons_zero, List.set_cons_succ]
            refine takeH 1 (v := ?v1u88) rfl (by kernel_rfl) (by kernel_rfl) (by kernel_rfl) rfl (fun _ _ _ h => h) (Or.inl ⟨by rfl, ?y1u88⟩) hHeld ?r1u88
            case y1u88 => (intro W hSW; (try dsimp only at hSW); go_simp; try with_reducible rfl)
            simp only [Act.put, List.setIfInBounds_toArray, List.set_cons_zero, List.set_cons_succ]
            refine takeH 3 (v := ?v3u89) rfl (by kernel_rfl) (by kernel_rfl) (by kernel_rfl) rfl (fun _ _ _ h => h) (Or.inl ⟨by rfl, ?y3u89⟩) hHeld ?r3u89
            case y3u89 => (intro W hSW; (try dsimp only at hSW); have q0 := hSW.cell 1 rfl 0; have q1 := hSW.cell 1 rfl 1; have q2 := hSW.cell 1 rfl 2; have q3 := hSW.cell 1 rfl 3; have q4 := hSW.cell 1 rfl 4; simp only [List.getElem?_toArray, List.getElem?_cons_zero, List.getElem?_cons_succ] at q0 q1 q2 q3 q4; go_simp; try with_reducible rfl)
            simp only [Act.put, List.setIfInBounds_toArray, List.set_cons_zero, List.set_cons_succ]
            refine takeH 4 (v := ?v4u90) rfl (by kernel_rfl) (by kernel_rfl) (by kernel_rfl) rfl (fun _ _ _ h => h) (Or.inl ⟨by rfl, ?y4u90⟩) hHeld ?r4u90
            case y4u90 => (intro W hSW; (try dsimp only at hSW); go_simp; try with_reducible rfl)
            simp only [Act.put, List.setIfInBounds_toArray, List.set_cons_zero, List.set_cons_succ]
            refine wpAnyH_ready (rs := [2]) (by kernel_rfl) (by simp) ?_
            refine AllReadyH.cons rfl (fun K hK => ?_) AllReadyH.nil
            go_simp
            with_reducible refine (Select_c HT.out _ hHeld.bel hHeld.size Al nl cl w.heap.size evs (HR.out.below hHeld.bel) hHeld.size (by omega)).mono ?_
            rintro e' wa ⟨va, rfl, howna, hba⟩
            obtain ⟨Aa, ca, rfl, _, _, hra⟩ := own_evs howna
            have HRa := Lib.hid hra
            have hkn := hHeld.next hba
            clear howna hra hba
            refine hK.out _ _ hkn (fun hHeld => ?_)
            clear hK K
            try simp only [Act.put, List.setIfInBounds_toArray, List.set_cons_zero, List.set_cons_succ]
            refine wpAnyH_ready (rs := [5]) (by kernel_rfl) (by simp) ?_
            refine AllReadyH.cons rfl (fun K hK => ?_) AllReadyH.nil
            go_simp
            with_reducible refine (rSelect_c HT.out _ hHeld.bel hHeld.size Al nl cl w.heap.size evs (HR.out.below hHeld.bel) hHeld.size (by omega)).mono ?_
            rintro e' wb ⟨vb, rfl, hownb, hbb⟩
            obtain ⟨Ab, cb, rfl, _, _, hrb⟩ := own_evs hownb
            have HRb := Lib.hid hrb
            have HRa2 := Lib.hid ((HRa.out.below hbb).more hbb.size)
            have hkn := hHeld.next hbb
            clear hownb hrb hbb HRa
            refine hK.out _ _ hkn (fun hHeld => ?_)
            clear hK K
            try simp only [Act.put, List.setIfInBounds_toArray, List.set_cons_zero, List.set_cons_succ]
            have hsm : (selT t evs).length ≤ 60 := by have h1 := selE_len t evs nl; rw [List.take_of_length_le (by rw [HL.out]; exact Nat.le_refl _)] at h1; unfold selT; split; omega; simp
            refine wpAnyH_ready (rs := [6]) (by kernel_rfl) (by simp) ?_
            refine AllReadyH.cons rfl (fun K hK => ?_) AllReadyH.nil
            go_simp
            with_reducible refine (EvSame_c Aa (selT t evs).length ca wb.heap.size (selT t evs) Ab (selT t evs).length cb (selT t evs) _ HRa2.out HRb.out (Nat.le_refl _) (by omega) (by omega)).mono ?_
            rintro e' wc ⟨r, rfl, hre, hbc⟩
            obtain rfl : r = true := hre.2 rfl
            have hkn := hHeld.next hbc
            clear hbc hre HRa2 HRb
            refine hK.out _ _ hkn (fun hHeld => ?_)
            clear hK K
            try simp only [Act.put, List.setIfInBounds_toArray, List.set_cons_zero, List.set_cons_succ]
            refine takeH 7 (v := ?v7u91) rfl (by kernel_rfl) (by kernel_rfl) (by kernel_rfl) rfl (fun _ _ _ h => h) (Or.inl ⟨by rfl, ?y7u91⟩) hHeld ?r7u91
            case y7u91 => (intro W hSW; (try dsimp only at hSW); go_simp; try with_reducible rfl)
            simp only [Act.put, List.setIfInBounds_toArray, List.set_cons_zero, List.set_cons_succ]
            refine takeH 8 (v := ?v8u92) rfl (by kernel_rfl) (by kernel_rfl) (by kernel_rfl) rfl (fun _ _ _ h => h) (Or.inl ⟨by rfl, ?y8u92⟩) hHeld ?r8u92
            case y8u92 => (intro W hSW; (try dsimp only at hSW); have q0 := hSW.cell 1 rfl 0; have q1 := hSW.cell 1 rfl 1; have q2 := hSW.cell 1 rfl 2; have q3 := hSW.cell 1 rfl 3; have q4 := hSW.cell 1 rfl 4; simp only [List.getElem?_toArray, List.getElem?_cons_zero, List.getElem?_cons_succ] at q0 q1 q2 q3 q4; go_simp; try with_reducible rfl)
            simp only [Act.put, List.setIfInBounds_toArray, List.set_cons_zero, List.set_cons_succ]
            refine takeH 9 (v := ?v9u93) rfl (by kernel_rfl) (by kernel_rfl) (by kernel_rfl) rfl (fun _ _ _ h => h) (Or.inl ⟨by rfl, ?y9u93⟩) hHeld ?r9u93
            case y9u93 => (intro W hSW; (try dsimp only at hSW); have q0 := hSW.cell 0 rfl 0; have q1 := hSW.cell 0 rfl 1; have q2 := hSW.cell 0 rfl 2; have q3 := hSW.cell 0 rfl 3; have q4 := hSW.cell 0 rfl 4; simp only [List.getElem?_toArray, List.getElem?_cons_zero, List.getElem?_cons_succ] at q0 q1 q2 q3 q4; go_simp; try with_reducible rfl)
            simp only [Act.put, List.setIfInBounds_toArray, List.set_cons_zero, List.set_cons_succ]
            refine takeH 11 (v := ?v11u94) rfl (by kernel_rfl) (by kernel_rfl) (by kernel_rfl) rfl (fun _ _ _ h => h) (Or.inl ⟨by rfl, ?y11u94⟩) hHeld ?r11u94
            case y11u94 => (intro W hSW; (try dsimp only at hSW); go_simp; try with_reducible rfl)
            simp only [Act.put, List.setIfInBounds_toArray, List.set_cons_zero, List.set_cons_succ]
            refine wpAnyH_ready (rs := [10]) (by kernel_rfl) (by simp) ?_
            refine AllReadyH.cons rfl (fun K hK => ?_) AllReadyH.nil
            go_simp
            with_reducible refine (fSame_c HT.out HU.out _ hHeld.bel hHeld.size).mono ?_
            rw [HRT.out]
            rintro e' wn ⟨rfl, hbn⟩
            have hkn := hHeld.next hbn
            clear hbn
            simp only [Bool.true_and]
            refine hK.out _ _ hkn (fun hHeld => ?_)
            clear hK K
            try simp only [Act.put, List.setIfInBounds_toArray, List.set_cons_zero, List.set_cons_succ]
            refine takeH 12 (v := ?v12u95) rfl (by kernel_rfl) (by kernel_rfl) (by kernel_rfl) rfl (fun _ _ _ h => h) (Or.inl ⟨by rfl, ?y12u95⟩) hHeld ?r12u95
            case y12u95 => (intro W hSW; (try dsimp only at hSW); go_simp; try with_reducible rfl)
            simp only [Act.put, List.setIfInBounds_toArray, List.set_cons_zero, List.set_cons_succ]
            refine takeH 13 (v := ?v13u96) rfl (by kernel_rfl) (by kernel_rfl) (by kernel_rfl) rfl (fun _ _ _ h => h) (Or.inl ⟨by rfl, ?y13u96⟩) hHeld ?r13u96
            case y13u96 => (intro W hSW; (try dsimp only at hSW); have q0 := hSW.cell 1 rfl 0; have q1 := hSW.cell 1 rfl 1; have q2 := hSW.cell 1 rfl 2; have q3 := hSW.cell 1 rfl 3; have q4 := hSW.cell 1 rfl 4; simp only [List.getElem?_toArray, List.getElem?_cons_zero, List.getElem?_cons_succ] at q0 q1 q2 q3 q4; go_simp; try with_reducible rfl)
            simp only [Act.put, List.setIfInBounds_toArray, List.set_cons_zero, List.set_cons_succ]
            refine takeH 14 (v := ?v14u97) rfl (by kernel_rfl) (by kernel_rfl) (by kernel_rfl) rfl (fun _ _ _ h => h) (Or.inl ⟨by rfl, ?y14u97⟩) hHeld ?r14u97
            case y14u97 => (intro W hSW; (try dsimp only at hSW); have q0 := hSW.cell 0 rfl 0; have q1 := hSW.cell 0 rfl 1; have q2 := hSW.cell 0 rfl 2; have q3 := hSW.cell 0 rfl 3; have q4 := hSW.cell 0 rfl 4; simp only [List.getElem?_toArray, List.getElem?_cons_zero, List.getElem?_cons_succ] at q0 q1 q2 q3 q4; go_simp; try with_reducible rfl)
            simp only [Act.put, List.setIfInBounds_toArray, List.set_cons_zero, List.set_cons_succ]
            refine wpAnyH_ready (rs := [15]) (by kernel_rfl) (by simp) ?_
            refine AllReadyH.cons rfl (fun K hK => ?_) AllReadyH.nil
            go_simp
            with_reducible refine (rEqual_c HT.out _ u HU.out _ hHeld.bel hHeld.size).mono ?_
            rintro e' wn ⟨rfl, hbn⟩
            have hkn := hHeld.next hbn
            clear hbn
            refine hK.out _ _ hkn (fun hHeld => ?_)
            clear hK K
            try simp only [Act.put, List.setIfInBounds_toArray, List.set_cons_zero, List.set_cons_succ]
            refine takeH 16 (v := ?v16u98) rfl (by kernel_rfl) (by kernel_rfl) (by kernel_rfl) rfl (fun _ _ _ h => h) (Or.inl ⟨by rfl, ?y16u98⟩) hHeld ?r16u98
            case y16u98 => (intro W hSW; (try dsimp only at hSW); go_simp; try with_reducible rfl)
            simp only [Act.put, List.setIfInBounds_toArray, List.set_cons_zero, List.set_cons_succ]
            refine takeH 17 (v := ?v17u99) rfl (by kernel_rfl) (by kernel_rfl) (by kernel_rfl) rfl (fun _ _ _ h => h) (Or.inl ⟨by rfl, ?y17u99⟩) hHeld ?r17u99
            case y17u99 => (intro W hSW; (try dsimp only at hSW); go_simp; try with_reducible rfl)
            simp only [Act.put, List.setIfInBounds_toArray, List.set_cons_zero, List.set_cons_succ]
            refine takeH 18 (v := ?v18u100) rfl (by kernel_rfl) (by kernel_rfl) (by kernel_rfl) rfl (fun _ _ _ h => h) (Or.inl ⟨by rfl, ?y18u100⟩) hHeld ?r18u100
            case y18u100 => (intro W hSW; (try dsimp only at hSW); go_simp; try with_reducible rfl)
            simp only [Act.put, List.setIfInBounds_toArray, List.set_cons_zero, List.set_cons_succ]
            refine takeH 19 (v := ?v19u101) rfl (by kernel_rfl) (by kernel_rfl) (by kernel_rfl) rfl (fun _ _ _ h => h) (Or.inl ⟨by rfl, ?y19u101⟩) hHeld ?r19u101
            case y19u101 => (intro W hSW; (try dsimp only at hSW); go_simp; try with_reducible rfl)
            simp only [Act.put, List.setIfInBounds_toArray, List.set_cons_zero, List.set_cons_succ]
            refine wpAnyH_done (by kernel_rfl) ?_ _
            refine NoPanic.normal ?_
            go_wp2
            go_ret
            exact ⟨rfl, hHeld.bel⟩
end Go.Proofs.Ytjkaklfhcefkcaa
