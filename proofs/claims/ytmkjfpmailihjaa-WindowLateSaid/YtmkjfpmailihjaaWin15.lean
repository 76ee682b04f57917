/- The walk of WindowRight. -/
import Derived.Test.YtmkjfpmailihjaaWin14
namespace Go.Proofs.Ytmkjfpmailihjaa
set_option linter.unusedVariables false
open Go.RowKit Go.ChangeShapes

theorem newR_len (wd k a : Int) : (newR wd k a).cs.length ≤ 16 := by
  unfold newR
  split
  · rename_i h
    unfold newB at h
    rw [decide_eq_true_eq] at h
    simp
    omega
  · simp
theorem moveR_len (wd sl : Int) (cs : List (Int × Int)) (a : Int) : (moveR wd sl cs a).cs.length = cs.length := by
  unfold moveR
  split
  · rfl
  · split
    · rfl
    · exact moved_length ..
theorem addR_len (wd sl : Int) (cs : List (Int × Int)) (a : Int) (ok : Bool) : (addR wd sl cs a ok).cs.length = cs.length := by
  unfold addR
  split
  · split
    · exact moveR_len ..
    · simp only [List.length_set]; exact moveR_len ..
  · exact moveR_len ..
theorem sameW_self (wd sl : Int) (cs : List (Int × Int)) : sameW wd sl cs wd sl cs = true := by unfold sameW; simp

set_option maxRecDepth 100000 in
set_option maxHeartbeats 8000000 in
theorem WindowRight_walk (wd sl : Int) (A : Option Addr) (n c : Nat) (cs : List (Int × Int)) (a : Int) (ok : Bool) (wi k : Int) (W : World) (h : CellArg W A n c cs) : Calls Try.prog 3 #[.agg (winA wd sl A n c), .int .i64 a, .bool ok, .int .i64 wi, .int .i64 k] W fun e w' => e = .returned (.bool true) ∧ Below W.heap.size W w' := by
  have hr := h.1
  clear h
  have hl := hr.cell_len
  have hln := newR_len wi k a
  obtain ⟨r1, hr1⟩ : ∃ r, newR wi k a = r := ⟨_, rfl⟩
  obtain ⟨r2, hr2⟩ : ∃ r, moveR wd sl cs a = r := ⟨_, rfl⟩
  obtain ⟨r3, hr3⟩ : ∃ r, addR wd sl cs a ok = r := ⟨_, rfl⟩
  have hl2 := moveR_len wd sl cs a
  have hl3 := addR_len wd sl cs a ok
  rw [hr1] at hln
  rw [hr2, hl] at hl2
  rw [hr3, hl] at hl3
  have R1 := Lib.hid hr1
  have R2 := Lib.hid hr2
  have R3 := Lib.hid hr3
  clear hr1 hr2 hr3
  obtain ⟨d1, s1, cs1, e1⟩ := r1
  obtain ⟨d2, s2, cs2, e2⟩ := r2
  obtain ⟨d3, s3, cs3, e3⟩ := r3
  dsimp only at hln hl2 hl3
  by_cases h99 : 99 < n
  · have dl : decide ((99 : Int) < (n : Int)) = true := by simp; omega
    have HK1 := Lib.hid (show Kept W (W.alloc (.cells #[.int .i64 wd, .int .i64 sl, .slice A n c] 24)) [(W.heap.size, 24, #[.int .i64 wd, .int .i64 sl, .slice A n c])] from ((Kept.start W).alloc_at 24 #[.int .i64 wd, .int .i64 sl, .slice A n c] (W.heap.size) (by simp)))
    go_enter Try.func3, Try.ntmps3
    go_wp2_with fail
    with_reducible refine (awake_c _).mono ?_
    rintro e w1 ⟨rfl, hb1⟩
    have HK2 := Lib.hid (show Kept W w1 [(W.heap.size, 24, #[.int .i64 wd, .int .i64 sl, .slice A n c])] from HK1.out.next hb1)
    clear HK1
    clear hb1
    have c_f_0 : w1.cell? ⟨W.heap.size, 0, none⟩ = some (.int .i64 wd) := HK2.out.cell 0 rfl 0
    have c_f_1 : w1.cell? ⟨W.heap.size, 1, none⟩ = some (.int .i64 sl) := HK2.out.cell 0 rfl 1
    have c_f_2 : w1.cell? ⟨W.heap.size, 2, none⟩ = some (.slice A n c) := HK2.out.cell 0 rfl 2
    go_wp2
    go_ret
    exact ⟨rfl, HK2.out.bel⟩
  have dl : decide ((99 : Int) < (n : Int)) = false := by simp; omega
  have HW0 := Lib.hid (show WinAt W [] A n cs from WinAt.start hr)
  clear hr
  have HK1 := Lib.hid (show Kept W (W.alloc (.cells #[.int .i64 wd, .int .i64 sl, .slice A n c] 24)) [(W.heap.size, 24, #[.int .i64 wd, .int .i64 sl, .slice A n c])] from ((Kept.start W).alloc_at 24 #[.int .i64 wd, .int .i64 sl, .slice A n c] (W.heap.size) (by simp)))
  have HWa := Lib.hid (show WinAt (W.alloc (.cells #[.int .i64 wd, .int .i64 sl, .slice A n c] 24)) [W.heap.size] A n cs from HW0.out.alloc _)
  clear HW0
  go_enter Try.func3, Try.ntmps3
  go_wp2_with fail
  with_reducible refine (awake_c _).mono ?_
  rintro e w1 ⟨rfl, hb1⟩
  have HW2 := Lib.hid (show WinAt w1 [W.heap.size] A n cs from HWa.out.next hb1)
  clear HWa
  have HK3 := Lib.hid (show Kept W w1 [(W.heap.size, 24, #[.int .i64 wd, .int .i64 sl, .slice A n c])] from HK1.out.next hb1)
  clear HK1
  clear hb1
  have c_f_0 : w1.cell? ⟨W.heap.size, 0, none⟩ = some (.int .i64 wd) := HK3.out.cell 0 rfl 0
  have c_f_1 : w1.cell? ⟨W.heap.size, 1, none⟩ = some (.int .i64 sl) := HK3.out.cell 0 rfl 1
  have c_f_2 : w1.cell? ⟨W.heap.size, 2, none⟩ = some (.slice A n c) := HK3.out.cell 0 rfl 2
  go_wp2_with fail
  with_reducible refine (New_c wi k a w1).mono ?_
  rw [R1.out]
  rintro e w2 ⟨A2, n2, c2, rfl, hr2, hb2, hlo2⟩
  dsimp only at hr2
  have hn2 := hr2.cell_len
  have HN2 := Lib.hid (show WinAt w2 [W.heap.size] A2 n2 cs1 from WinAt.new (w := w1) HW2.out.2.2 hb2.size hr2 hlo2)
  clear hr2 hlo2
  have HW4 := Lib.hid (show WinAt w2 [W.heap.size] A n cs from HW2.out.next hb2)
  clear HW2
  clear c_f_0 c_f_1 c_f_2
  have HK5 := Lib.hid (show Kept W w2 [(W.heap.size, 24, #[.int .i64 wd, .int .i64 sl, .slice A n c])] from HK3.out.next hb2)
  clear HK3
  clear hb2
  have c_f_0 : w2.cell? ⟨W.heap.size, 0, none⟩ = some (.int .i64 wd) := HK5.out.cell 0 rfl 0
  have c_f_1 : w2.cell? ⟨W.heap.size, 1, none⟩ = some (.int .i64 sl) := HK5.out.cell 0 rfl 1
  have c_f_2 : w2.cell? ⟨W.heap.size, 2, none⟩ = some (.slice A n c) := HK5.out.cell 0 rfl 2
  have hlt20 := HK5.out.lt 0 rfl
  go_wp2_with fail
  clear c_f_0 c_f_1 c_f_2
  have HK6 := Lib.hid (show Kept W (w2.alloc (.cells #[.int .i64 d1, .int .i64 s1, .slice A2 n2 c2] 24)) [(w2.heap.size, 24, #[.int .i64 d1, .int .i64 s1, .slice A2 n2 c2]), (W.heap.size, 24, #[.int .i64 wd, .int .i64 sl, .slice A n c])] from HK5.out.alloc 24 #[.int .i64 d1, .int .i64 s1, .slice A2 n2 c2])
  clear HK5
  have HW7 := Lib.hid (show WinAt (w2.alloc (.cells #[.int .i64 d1, .int .i64 s1, .slice A2 n2 c2] 24)) [w2.heap.size, W.heap.size] A n cs from HW4.out.alloc _)
  clear HW4
  have HW8 := Lib.hid (show WinAt (w2.alloc (.cells #[.int .i64 d1, .int .i64 s1, .slice A2 n2 c2] 24)) [w2.heap.size, W.heap.size] A2 n2 cs1 from HN2.out.alloc _)
  clear HN2
  generalize w2.alloc (.cells #[.int .i64 d1, .int .i64 s1, .slice A2 n2 c2] 24) = v2 at HK6 HW7 HW8 ⊢
  with_reducible refine (rNew_c wi k a v2).mono ?_
  rw [R1.out]
  rintro e w3 ⟨A3, n3, c3, rfl, hr3, hb3, hlo3⟩
  dsimp only at hr3
  have hn3 := hr3.cell_len
  have HN3 := Lib.hid (show WinAt w3 [w2.heap.size, W.heap.size] A3 n3 cs1 from WinAt.new (w := v2) HW7.out.2.2 hb3.size hr3 hlo3)
  clear hr3 hlo3
  have HW9 := Lib.hid (show WinAt w3 [w2.heap.size, W.heap.size] A n cs from HW7.out.next hb3)
  clear HW7
  have HW10 := Lib.hid (show WinAt w3 [w2.heap.size, W.heap.size] A2 n2 cs1 from HW8.out.next hb3)
  clear HW8
  have HK11 := Lib.hid (show Kept W w3 [(w2.heap.size, 24, #[.int .i64 d1, .int .i64 s1, .slice A2 n2 c2]), (W.heap.size, 24, #[.int .i64 wd, .int .i64 sl, .slice A n c])] from HK6.out.next hb3)
  clear HK6
  clear hb3
  have c_f_0 : w3.cell? ⟨W.heap.size, 0, none⟩ = some (.int .i64 wd) := HK11.out.cell 1 rfl 0
  have c_f_1 : w3.cell? ⟨W.heap.size, 1, none⟩ = some (.int .i64 sl) := HK11.out.cell 1 rfl 1
  have c_f_2 : w3.cell? ⟨W.heap.size, 2, none⟩ = some (.slice A n c) := HK11.out.cell 1 rfl 2
  have c_x_0 : w3.cell? ⟨w2.heap.size, 0, none⟩ = some (.int .i64 d1) := HK11.out.cell 0 rfl 0
  have c_x_1 : w3.cell? ⟨w2.heap.size, 1, none⟩ = some (.int .i64 s1) := HK11.out.cell 0 rfl 1
  have c_x_2 : w3.cell? ⟨w2.heap.size, 2, none⟩ = some (.slice A2 n2 c2) := HK11.out.cell 0 rfl 2
  have hlt30 := HK11.out.lt 0 rfl
  have hlt31 := HK11.out.lt 1 rfl
  go_wp2_with fail
  clear c_f_0 c_f_1 c_f_2 c_x_0 c_x_1 c_x_2
  have HK12 := Lib.hid (show Kept W (w3.alloc (.cells #[.int .i64 d1, .int .i64 s1, .slice A3 n3 c3] 24)) [(w3.heap.size, 24, #[.int .i64 d1, .int .i64 s1, .slice A3 n3 c3]), (w2.heap.size, 24, #[.int .i64 d1, .int .i64 s1, .slice A2 n2 c2]), (W.heap.size, 24, #[.int .i64 wd, .int .i64 sl, .slice A n c])] from HK11.out.alloc 24 #[.int .i64 d1, .int .i64 s1, .slice A3 n3 c3])
  clear HK11
  have HW13 := Lib.hid (show WinAt (w3.alloc (.cells #[.int .i64 d1, .int .i64 s1, .slice A3 n3 c3] 24)) [w3.heap.size, w2.heap.size, W.heap.size] A n cs from HW9.out.alloc _)
  clear HW9
  have HW14 := Lib.hid (show WinAt (w3.alloc (.cells #[.int .i64 d1, .int .i64 s1, .slice A3 n3 c3] 24)) [w3.heap.size, w2.heap.size, W.heap.size] A2 n2 cs1 from HW10.out.alloc _)
  clear HW10
  have HW15 := Lib.hid (show WinAt (w3.alloc (.cells #[.int .i64 d1, .int .i64 s1, .slice A3 n3 c3] 24)) [w3.heap.size, w2.heap.size, W.heap.size] A3 n3 cs1 from HN3.out.alloc _)
  clear HN3
  generalize w3.alloc (.cells #[.int .i64 d1, .int .i64 s1, .slice A3 n3 c3] 24) = v3 at HK12 HW13 HW14 HW15 ⊢
  refine wp_region_noPanic ?_
  refine wp_region_held_drew (S := fun W' => Kept W W' [(w3.heap.size, 24, #[.int .i64 d1, .int .i64 s1, .slice A3 n3 c3]), (w2.heap.size, 24, #[.int .i64 d1, .int .i64 s1, .slice A2 n2 c2]), (W.heap.size, 24, #[.int .i64 wd, .int .i64 sl, .slice A n c])]) (by kernel_rfl) HK12.out.drew (fun hHeld => ?_)
  have HW16 := Lib.hid (show WinAt v3.drew [w3.heap.size, w2.heap.size, W.heap.size] A n cs from HW13.out)
  clear HW13
  have HW17 := Lib.hid (show WinAt v3.drew [w3.heap.size, w2.heap.size, W.heap.size] A2 n2 cs1 from HW14.out)
  clear HW14
  have HW18 := Lib.hid (show WinAt v3.drew [w3.heap.size, w2.heap.size, W.heap.size] A3 n3 cs1 from HW15.out)
  clear HW15
  clear HK12
  generalize v3.drew = v4 at hHeld HW16 HW17 HW18 ⊢
  refine takeH 0 (v := ?v0u1) rfl (by kernel_rfl) (by kernel_rfl) (by kernel_rfl) rfl (fun _ _ _ h => h) (Or.inl ⟨by rfl, ?y0u1⟩) hHeld ?r0u1
  case y0u1 => (intro W hSW; (try dsimp only at hSW); go_simp; try with_reducible rfl)
  simp only [Act.put, List.setIfInBounds_toArray, List.set_cons_zero, List.set_cons_succ]
  refine takeH 1 (v := ?v1u2) rfl (by kernel_rfl) (by kernel_rfl) (by kernel_rfl) rfl (fun _ _ _ h => h) (Or.inl ⟨by rfl, ?y1u2⟩) hHeld ?r1u2
  case y1u2 => (intro W hSW; (try dsimp only at hSW); go_simp; try with_reducible rfl)
  simp only [Act.put, List.setIfInBounds_toArray, List.set_cons_zero, List.set_cons_succ]
  refine takeH 2 (v := ?v2u3) rfl (by kernel_rfl) (by kernel_rfl) (by kernel_rfl) rfl (fun _ _ _ h => h) (Or.inl ⟨by rfl, ?y2u3⟩) hHeld ?r2u3
  case y2u3 => (intro W hSW; (try dsimp only at hSW); go_simp; try with_reducible rfl)
  simp only [Act.put, List.setIfInBounds_toArray, List.set_cons_zero, List.set_cons_succ]
  refine takeH 3 (v := ?v3u4) rfl (by kernel_rfl) (by kernel_rfl) (by kernel_rfl) rfl (fun _ _ _ h => h) (Or.inl ⟨by rfl, ?y3u4⟩) hHeld ?r3u4
  case y3u4 => (intro W hSW; (try dsimp only at hSW); go_simp; try with_reducible rfl)
  simp only [Act.put, List.setIfInBounds_toArray, List.set_cons_zero, List.set_cons_succ]
  refine takeH 4 (v := ?v4u5) rfl (by kernel_rfl) (by kernel_rfl) (by kernel_rfl) rfl (fun _ _ _ h => h) (Or.inl ⟨by rfl, ?y4u5⟩) hHeld ?r4u5
  case y4u5 => (intro W hSW; (try dsimp only at hSW); have q0 := hSW.cell 1 rfl 0; have q1 := hSW.cell 1 rfl 1; have q2 := hSW.cell 1 rfl 2; simp only [List.getElem?_toArray, List.getElem?_cons_zero, List.getElem?_cons_succ] at q0 q1 q2; go_simp; try with_reducible rfl)
  simp only [Act.put, List.setIfInBounds_toArray, List.set_cons_zero, List.set_cons_succ]
  refine takeH 5 (v := ?v5u6) rfl (by kernel_rfl) (by kernel_rfl) (by kernel_rfl) rfl (fun _ _ _ h => h) (Or.inl ⟨by rfl, ?y5u6⟩) hHeld ?r5u6
  case y5u6 => (intro W hSW; (try dsimp only at hSW); have q0 := hSW.cell 0 rfl 0; have q1 := hSW.cell 0 rfl 1; have q2 := hSW.cell 0 rfl 2; simp only [List.getElem?_toArray, List.getElem?_cons_zero, List.getElem?_cons_succ] at q0 q1 q2; go_simp; try with_reducible rfl)
  simp only [Act.put, List.setIfInBounds_toArray, List.set_cons_zero, List.set_cons_succ]
  refine wpAnyH_ready (rs := [6]) (by kernel_rfl) (by simp) ?_
  refine AllReadyH.cons rfl (fun K hK => ?_) AllReadyH.nil
  go_simp
  with_reducible refine (wSame_c d1 s1 A2 n2 c2 cs1 d1 s1 A3 n3 c3 cs1 v4.heap.size _ HW17.out.rd HW18.out.rd (Nat.le_refl _) (by omega) (by omega)).mono ?_
  rintro e' w5 ⟨rfl, hbn⟩
  rw [sameW_self]
  have HW19 := Lib.hid (show WinAt w5 [w3.heap.size, w2.heap.size, W.heap.size] A n cs from HW16.out.next hbn)
  clear HW16
  have HW20 := Lib.hid (show WinAt w5 [w3.heap.size, w2.heap.size, W.heap.size] A2 n2 cs1 from HW17.out.next hbn)
  clear HW17
  have HW21 := Lib.hid (show WinAt w5 [w3.heap.size, w2.heap.size, W.heap.size] A3 n3 cs1 from HW18.out.next hbn)
  clear HW18
  have hkn := hHeld.next hbn
  clear hbn
  refine hK.out _ _ hkn (fun hHeld => ?_)
  clear hK K
  try simp only [Act.put, List.setIfInBounds_toArray, List.set_cons_zero, List.set_cons_succ]
  refine takeH 7 (v := ?v7u7) rfl (by kernel_rfl) (by kernel_rfl) (by kernel_rfl) rfl (fun _ _ _ h => h) (Or.inl ⟨by rfl, ?y7u7⟩) hHeld ?r7u7
  case y7u7 => (intro W hSW; (try dsimp only at hSW); go_simp; try with_reducible rfl)
  simp only [Act.put, List.setIfInBounds_toArray, List.set_cons_zero, List.set_cons_succ]
  refine takeH 8 (v := ?v8u8) rfl (by kernel_rfl) (by kernel_rfl) (by kernel_rfl) rfl (fun _ _ _ h => h) (Or.inl ⟨by rfl, ?y8u8⟩) hHeld ?r8u8
  case y8u8 => (intro W hSW; (try dsimp only at hSW); go_simp; try with_reducible rfl)
  simp only [Act.put, List.setIfInBounds_toArray, List.set_cons_zero, List.set_cons_succ]
  refine takeH 9 (v := ?v9u9) rfl (by kernel_rfl) (by kernel_rfl) (by kernel_rfl) rfl (fun _ _ _ h => h) (Or.inl ⟨by rfl, ?y9u9⟩) hHeld ?r9u9
  case y9u9 => (intro W hSW; (try dsimp only at hSW); go_simp; try with_reducible rfl)
  simp only [Act.put, List.setIfInBounds_toArray, List.set_cons_zero, List.set_cons_succ]
  refine takeH 10 (v := ?v10u10) rfl (by kernel_rfl) (by kernel_rfl) (by kernel_rfl) rfl (fun _ _ _ h => h) (Or.inl ⟨by rfl, ?y10u10⟩) hHeld ?r10u10
  case y10u10 => (intro W hSW; (try dsimp only at hSW); have q0 := hSW.cell 2 rfl 0; have q1 := hSW.cell 2 rfl 1; have q2 := hSW.cell 2 rfl 2; simp only [List.getElem?_toArray, List.getElem?_cons_zero, List.getElem?_cons_succ] at q0 q1 q2; go_simp; try with_reducible rfl)
  simp only [Act.put, List.setIfInBounds_toArray, List.set_cons_zero, List.set_cons_succ]
  refine takeH 12 (v := ?v12u11) rfl (by kernel_rfl) (by kernel_rfl) (by kernel_rfl) rfl (fun _ _ _ h => h) (Or.inl ⟨by rfl, ?y12u11⟩) hHeld ?r12u11
  case y12u11 => (intro W hSW; (try dsimp only at hSW); have q0 := hSW.cell 2 rfl 0; have q1 := hSW.cell 2 rfl 1; have q2 := hSW.cell 2 rfl 2; simp only [List.getElem?_toArray, List.getElem?_cons_zero, List.getElem?_cons_succ] at q0 q1 q2; go_simp; try with_reducible rfl)
  simp only [Act.put, List.setIfInBounds_toArray, List.set_cons_zero, List.set_cons_succ]
  refine wpAnyH_ready (rs := [11]) (by kernel_rfl) (by simp) ?_
  refine AllReadyH.cons rfl (fun K hK => ?_) AllReadyH.nil
  go_simp
  with_reducible refine (wRight_c wd sl A n c w5.heap.size cs _ HW19.out.rd (Nat.le_refl _) (by omega)).mono ?_
  rintro e' w6 ⟨rfl, hbn⟩
  have HW22 := Lib.hid (show WinAt w6 [w3.heap.size, w2.heap.size, W.heap.size] A n cs from HW19.out.next hbn)
  clear HW19
  have HW23 := Lib.hid (show WinAt w6 [w3.heap.size, w2.heap.size, W.heap.size] A2 n2 cs1 from HW20.out.next hbn)
  clear HW20
  have HW24 := Lib.hid (show WinAt w6 [w3.heap.size, w2.heap.size, W.heap.size] A3 n3 cs1 from HW21.out.next hbn)
  clear HW21
  have hkn := hHeld.next hbn
  clear hbn
  refine hK.out _ _ hkn (fun hHeld => ?_)
  clear hK K
  try simp only [Act.put, List.setIfInBounds_toArray, List.set_cons_zero, List.set_cons_succ]
  refine wpAnyH_ready (rs := [13]) (by kernel_rfl) (by simp) ?_
  refine AllReadyH.cons rfl (fun K hK => ?_) AllReadyH.nil
  go_simp
  with_reducible refine (rwRight_c wd sl A n c w6.heap.size cs _ HW22.out.rd (Nat.le_refl _) (by omega)).mono ?_
  rintro e' w7 ⟨rfl, hbn⟩
  have HW25 := Lib.hid (show WinAt w7 [w3.heap.size, w2.heap.size, W.heap.size] A n cs from HW22.out.next hbn)
  clear HW22
  have HW26 := Lib.hid (show WinAt w7 [w3.heap.size, w2.heap.size, W.heap.size] A2 n2 cs1 from HW23.out.next hbn)
  clear HW23
  have HW27 := Lib.hid (show WinAt w7 [w3.heap.size, w2.heap.size, W.heap.size] A3 n3 cs1 from HW24.out.next hbn)
  clear HW24
  have hkn := hHeld.next hbn
  clear hbn
  refine hK.out _ _ hkn (fun hHeld => ?_)
  clear hK K
  try simp only [Act.put, List.setIfInBounds_toArray, List.set_cons_zero, List.set_cons_succ]
  generalize rightW wd sl cs = rb
  refine takeH 14 (v := ?v14u12) rfl (by kernel_rfl) (by kernel_rfl) (by kernel_rfl) rfl (fun _ _ _ h => h) (Or.inl ⟨by rfl, ?y14u12⟩) hHeld ?r14u12
  case y14u12 => (intro W hSW; (try dsimp only at hSW); go_simp; try with_reducible rfl)
  simp only [Act.put, List.setIfInBounds_toArray, List.set_cons_zero, List.set_cons_succ]
  refine takeH 15 (v := ?v15u13) rfl (by kernel_rfl) (by kernel_rfl) (by kernel_rfl) rfl (fun _ _ _ h => h) (Or.inl ⟨by rfl, ?y15u13⟩) hHeld ?r15u13
  case y15u13 => (intro W hSW; (try dsimp only at hSW); go_simp; try with_reducible rfl)
  simp only [Act.put, List.setIfInBounds_toArray, List.set_cons_zero, List.set_cons_succ]
  refine wpAnyH_done (by kernel_rfl) ?_ _
  refine NoPanic.normal ?_
  have HK28 := Lib.hid hHeld
  clear hHeld
  have c_f_0 : w7.cell? ⟨W.heap.size, 0, none⟩ = some (.int .i64 wd) := HK28.out.cell 2 rfl 0
  have c_f_1 : w7.cell? ⟨W.heap.size, 1, none⟩ = some (.int .i64 sl) := HK28.out.cell 2 rfl 1
  have c_f_2 : w7.cell? ⟨W.heap.size, 2, none⟩ = some (.slice A n c) := HK28.out.cell 2 rfl 2
  go_wp2_with fail
  clear c_f_0 c_f_1 c_f_2
  with_reducible refine (Move_c wd sl A n c w7.heap.size cs a w7 HW25.out.rd (Nat.le_refl _) (by omega)).mono ?_
  rw [R2.out]
  rintro e w8 ⟨A8, n8, c8, rfl, hr8, hb8, hlo8⟩
  dsimp only at hr8
  have hn8 := hr8.cell_len
  have hx8 : n8 = n := by omega
  clear hn8
  subst n8
  have HN8 := Lib.hid (show WinAt w8 [w3.heap.size, w2.heap.size, W.heap.size] A8 n cs2 from HW25.out.res hb8.size hr8 hlo8 rfl)
  clear hr8 hlo8
  clear HW26
  have HW29 := Lib.hid (show WinAt w8 [w3.heap.size, w2.heap.size, W.heap.size] A n cs from HW25.out.next hb8)
  clear HW25
  have HW30 := Lib.hid (show WinAt w8 [w3.heap.size, w2.heap.size, W.heap.size] A3 n3 cs1 from HW27.out.next hb8)
  clear HW27
  have HK31 := Lib.hid (show Kept W w8 [(w3.heap.size, 24, #[.int .i64 d1, .int .i64 s1, .slice A3 n3 c3]), (w2.heap.size, 24, #[.int .i64 d1, .int .i64 s1, .slice A2 n2 c2]), (W.heap.size, 24, #[.int .i64 wd, .int .i64 sl, .slice A n c])] from HK28.out.next hb8)
  clear HK28
  clear hb8
  have c_f_0 : w8.cell? ⟨W.heap.size, 0, none⟩ = some (.int .i64 wd) := HK31.out.cell 2 rfl 0
  have c_f_1 : w8.cell? ⟨W.heap.size, 1, none⟩ = some (.int .i64 sl) := HK31.out.cell 2 rfl 1
  have c_f_2 : w8.cell? ⟨W.heap.size, 2, none⟩ = some (.slice A n c) := HK31.out.cell 2 rfl 2
  have c_x_0 : w8.cell? ⟨w2.heap.size, 0, none⟩ = some (.int .i64 d1) := HK31.out.cell 1 rfl 0
  have z_x_0 : w8.frozen? ⟨w2.heap.size, 0, none⟩ = false := HK31.out.frozen 1 rfl 0
  have c_x_1 : w8.cell? ⟨w2.heap.size, 1, none⟩ = some (.int .i64 s1) := HK31.out.cell 1 rfl 1
  have z_x_1 : w8.frozen? ⟨w2.heap.size, 1, none⟩ = false := HK31.out.frozen 1 rfl 1
  have c_x_2 : w8.cell? ⟨w2.heap.size, 2, none⟩ = some (.slice A2 n2 c2) := HK31.out.cell 1 rfl 2
  have z_x_2 : w8.frozen? ⟨w2.heap.size, 2, none⟩ = false := HK31.out.frozen 1 rfl 2
  go_wp2_with fail
  clear c_f_0 c_f_1 c_f_2 c_x_0 z_x_0 c_x_1 z_x_1 c_x_2 z_x_2
  have HK32 := Lib.hid (show Kept W (w8.setCell ⟨w2.heap.size, 0, none⟩ (.int .i64 d2)) [(w3.heap.size, 24, #[.int .i64 d1, .int .i64 s1, .slice A3 n3 c3]), (w2.heap.size, 24, #[.int .i64 d2, .int .i64 s1, .slice A2 n2 c2]), (W.heap.size, 24, #[.int .i64 wd, .int .i64 sl, .slice A n c])] from HK31.out.set_ 1 rfl 0 (.int .i64 d2))
  clear HK31
  have HK33 := Lib.hid (show Kept W ((w8.setCell ⟨w2.heap.size, 0, none⟩ (.int .i64 d2)).setCell ⟨w2.heap.size, 1, none⟩ (.int .i64 s2)) [(w3.heap.size, 24, #[.int .i64 d1, .int .i64 s1, .slice A3 n3 c3]), (w2.heap.size, 24, #[.int .i64 d2, .int .i64 s2, .slice A2 n2 c2]), (W.heap.size, 24, #[.int .i64 wd, .int .i64 sl, .slice A n c])] from HK32.out.set_ 1 rfl 1 (.int .i64 s2))
  clear HK32
  have HK34 := Lib.hid (show Kept W (((w8.setCell ⟨w2.heap.size, 0, none⟩ (.int .i64 d2)).setCell ⟨w2.heap.size, 1, none⟩ (.int .i64 s2)).setCell ⟨w2.heap.size, 2, none⟩ (.slice A8 n c8)) [(w3.heap.size, 24, #[.int .i64 d1, .int .i64 s1, .slice A3 n3 c3]), (w2.heap.size, 24, #[.int .i64 d2, .int .i64 s2, .slice A8 n c8]), (W.heap.size, 24, #[.int .i64 wd, .int .i64 sl, .slice A n c])] from HK33.out.set_ 1 rfl 2 (.slice A8 n c8))
  clear HK33
  have HW35 := Lib.hid (show WinAt (((w8.setCell ⟨w2.heap.size, 0, none⟩ (.int .i64 d2)).setCell ⟨w2.heap.size, 1, none⟩ (.int .i64 s2)).setCell ⟨w2.heap.size, 2, none⟩ (.slice A8 n c8)) [w3.heap.size, w2.heap.size, W.heap.size] A n cs from HW29.out.put3 (by simp))
  clear HW29
  have HW36 := Lib.hid (show WinAt (((w8.setCell ⟨w2.heap.size, 0, none⟩ (.int .i64 d2)).setCell ⟨w2.heap.size, 1, none⟩ (.int .i64 s2)).setCell ⟨w2.heap.size, 2, none⟩ (.slice A8 n c8)) [w3.heap.size, w2.heap.size, W.heap.size] A3 n3 cs1 from HW30.out.put3 (by simp))
  clear HW30
  have HW37 := Lib.hid (show WinAt (((w8.setCell ⟨w2.heap.size, 0, none⟩ (.int .i64 d2)).setCell ⟨w2.heap.size, 1, none⟩ (.int .i64 s2)).setCell ⟨w2.heap.size, 2, none⟩ (.slice A8 n c8)) [w3.heap.size, w2.heap.size, W.heap.size] A8 n cs2 from HN8.out.put3 (by simp))
  clear HN8
  generalize ((w8.setCell ⟨w2.heap.size, 0, none⟩ (.int .i64 d2)).setCell ⟨w2.heap.size, 1, none⟩ (.int .i64 s2)).setCell ⟨w2.heap.size, 2, none⟩ (.slice A8 n c8) = v8 at HK34 HW35 HW36 HW37 ⊢
  with_reducible refine (rMove_c wd sl A n c v8.heap.size cs a v8 HW35.out.rd (Nat.le_refl _) (by omega)).mono ?_
  rw [R2.out]
  rintro e w9 ⟨A9, n9, c9, rfl, hr9, hb9, hlo9⟩
  dsimp only at hr9
  have hn9 := hr9.cell_len
  have hx9 : n9 = n := by omega
  clear hn9
  subst n9
  have HN9 := Lib.hid (show WinAt w9 [w3.heap.size, w2.heap.size, W.heap.size] A9 n cs2 from HW35.out.res hb9.size hr9 hlo9 rfl)
  clear hr9 hlo9
  clear HW36
  have HW38 := Lib.hid (show WinAt w9 [w3.heap.size, w2.heap.size, W.heap.size] A n cs from HW35.out.next hb9)
  clear HW35
  have HW39 := Lib.hid (show WinAt w9 [w3.heap.size, w2.heap.size, W.heap.size] A8 n cs2 from HW37.out.next hb9)
  clear HW37
  have HK40 := Lib.hid (show Kept W w9 [(w3.heap.size, 24, #[.int .i64 d1, .int .i64 s1, .slice A3 n3 c3]), (w2.heap.size, 24, #[.int .i64 d2, .int .i64 s2, .slice A8 n c8]), (W.heap.size, 24, #[.int .i64 wd, .int .i64 sl, .slice A n c])] from HK34.out.next hb9)
  clear HK34
  clear hb9
  have c_f_0 : w9.cell? ⟨W.heap.size, 0, none⟩ = some (.int .i64 wd) := HK40.out.cell 2 rfl 0
  have c_f_1 : w9.cell? ⟨W.heap.size, 1, none⟩ = some (.int .i64 sl) := HK40.out.cell 2 rfl 1
  have c_f_2 : w9.cell? ⟨W.heap.size, 2, none⟩ = some (.slice A n c) := HK40.out.cell 2 rfl 2
  have c_x_0 : w9.cell? ⟨w2.heap.size, 0, none⟩ = some (.int .i64 d2) := HK40.out.cell 1 rfl 0
  have c_x_1 : w9.cell? ⟨w2.heap.size, 1, none⟩ = some (.int .i64 s2) := HK40.out.cell 1 rfl 1
  have c_x_2 : w9.cell? ⟨w2.heap.size, 2, none⟩ = some (.slice A8 n c8) := HK40.out.cell 1 rfl 2
  have c_y_0 : w9.cell? ⟨w3.heap.size, 0, none⟩ = some (.int .i64 d1) := HK40.out.cell 0 rfl 0
  have z_y_0 : w9.frozen? ⟨w3.heap.size, 0, none⟩ = false := HK40.out.frozen 0 rfl 0
  have c_y_1 : w9.cell? ⟨w3.heap.size, 1, none⟩ = some (.int .i64 s1) := HK40.out.cell 0 rfl 1
  have z_y_1 : w9.frozen? ⟨w3.heap.size, 1, none⟩ = false := HK40.out.frozen 0 rfl 1
  have c_y_2 : w9.cell? ⟨w3.heap.size, 2, none⟩ = some (.slice A3 n3 c3) := HK40.out.cell 0 rfl 2
  have z_y_2 : w9.frozen? ⟨w3.heap.size, 2, none⟩ = false := HK40.out.frozen 0 rfl 2
  go_wp2_with fail
  clear c_f_0 c_f_1 c_f_2 c_x_0 c_x_1 c_x_2 c_y_0 z_y_0 c_y_1 z_y_1 c_y_2 z_y_2
  have HK41 := Lib.hid (show Kept W (w9.setCell ⟨w3.heap.size, 0, none⟩ (.int .i64 d2)) [(w3.heap.size, 24, #[.int .i64 d2, .int .i64 s1, .slice A3 n3 c3]), (w2.heap.size, 24, #[.int .i64 d2, .int .i64 s2, .slice A8 n c8]), (W.heap.size, 24, #[.int .i64 wd, .int .i64 sl, .slice A n c])] from HK40.out.set_ 0 rfl 0 (.int .i64 d2))
  clear HK40
  have HK42 := Lib.hid (show Kept W ((w9.setCell ⟨w3.heap.size, 0, none⟩ (.int .i64 d2)).setCell ⟨w3.heap.size, 1, none⟩ (.int .i64 s2)) [(w3.heap.size, 24, #[.int .i64 d2, .int .i64 s2, .slice A3 n3 c3]), (w2.heap.size, 24, #[.int .i64 d2, .int .i64 s2, .slice A8 n c8]), (W.heap.size, 24, #[.int .i64 wd, .int .i64 sl, .slice A n c])] from HK41.out.set_ 0 rfl 1 (.int .i64 s2))
  clear HK41
  have HK43 := Lib.hid (show Kept W (((w9.setCell ⟨w3.heap.size, 0, none⟩ (.int .i64 d2)).setCell ⟨w3.heap.size, 1, none⟩ (.int .i64 s2)).setCell ⟨w3.heap.size, 2, none⟩ (.slice A9 n c9)) [(w3.heap.size, 24, #[.int .i64 d2, .int .i64 s2, .slice A9 n c9]), (w2.heap.size, 24, #[.int .i64 d2, .int .i64 s2, .slice A8 n c8]), (W.heap.size, 24, #[.int .i64 wd, .int .i64 sl, .slice A n c])] from HK42.out.set_ 0 rfl 2 (.slice A9 n c9))
  clear HK42
  have HW44 := Lib.hid (show WinAt (((w9.setCell ⟨w3.heap.size, 0, none⟩ (.int .i64 d2)).setCell ⟨w3.heap.size, 1, none⟩ (.int .i64 s2)).setCell ⟨w3.heap.size, 2, none⟩ (.slice A9 n c9)) [w3.heap.size, w2.heap.size, W.heap.size] A n cs from HW38.out.put3 (by simp))
  clear HW38
  have HW45 := Lib.hid (show WinAt (((w9.setCell ⟨w3.heap.size, 0, none⟩ (.int .i64 d2)).setCell ⟨w3.heap.size, 1, none⟩ (.int .i64 s2)).setCell ⟨w3.heap.size, 2, none⟩ (.slice A9 n c9)) [w3.heap.size, w2.heap.size, W.heap.size] A8 n cs2 from HW39.out.put3 (by simp))
  clear HW39
  have HW46 := Lib.hid (show WinAt (((w9.setCell ⟨w3.heap.size, 0, none⟩ (.int .i64 d2)).setCell ⟨w3.heap.size, 1, none⟩ (.int .i64 s2)).setCell ⟨w3.heap.size, 2, none⟩ (.slice A9 n c9)) [w3.heap.size, w2.heap.size, W.heap.size] A9 n cs2 from HN9.out.put3 (by simp))
  clear HN9
  generalize ((w9.setCell ⟨w3.heap.size, 0, none⟩ (.int .i64 d2)).setCell ⟨w3.heap.size, 1, none⟩ (.int .i64 s2)).setCell ⟨w3.heap.size, 2, none⟩ (.slice A9 n c9) = v9 at HK43 HW44 HW45 HW46 ⊢
  with_reducible refine (wSame_c d2 s2 A8 n c8 cs2 d2 s2 A9 n c9 cs2 v9.heap.size _ HW45.out.rd HW46.out.rd (Nat.le_refl _) (by omega) (by omega)).mono ?_
  rw [sameW_self]
  rintro e w10 ⟨rfl, hb10⟩
  have HW47 := Lib.hid (show WinAt w10 [w3.heap.size, w2.heap.size, W.heap.size] A n cs from HW44.out.next hb10)
  clear HW44
  have HW48 := Lib.hid (show WinAt w10 [w3.heap.size, w2.heap.size, W.heap.size] A8 n cs2 from HW45.out.next hb10)
  clear HW45
  have HW49 := Lib.hid (show WinAt w10 [w3.heap.size, w2.heap.size, W.heap.size] A9 n cs2 from HW46.out.next hb10)
  clear HW46
  have HK50 := Lib.hid (show Kept W w10 [(w3.heap.size, 24, #[.int .i64 d2, .int .i64 s2, .slice A9 n c9]), (w2.heap.size, 24, #[.int .i64 d2, .int .i64 s2, .slice A8 n c8]), (W.heap.size, 24, #[.int .i64 wd, .int .i64 sl, .slice A n c])] from HK43.out.next hb10)
  clear HK43
  clear hb10
  have c_f_0 : w10.cell? ⟨W.heap.size, 0, none⟩ = some (.int .i64 wd) := HK50.out.cell 2 rfl 0
  have c_f_1 : w10.cell? ⟨W.heap.size, 1, none⟩ = some (.int .i64 sl) := HK50.out.cell 2 rfl 1
  have c_f_2 : w10.cell? ⟨W.heap.size, 2, none⟩ = some (.slice A n c) := HK50.out.cell 2 rfl 2
  go_wp2_with fail
  clear c_f_0 c_f_1 c_f_2
  with_reducible refine (Add_c wd sl A n c w10.heap.size cs a ok w10 HW47.out.rd (Nat.le_refl _) (by omega)).mono ?_
  rw [R3.out]
  rintro e w11 ⟨A11, n11, c11, rfl, hr11, hb11, hlo11⟩
  dsimp only at hr11
  have hn11 := hr11.cell_len
  have hx11 : n11 = n := by omega
  clear hn11
  subst n11
  have HN11 := Lib.hid (show WinAt w11 [w3.heap.size, w2.heap.size, W.heap.size] A11 n cs3 from HW47.out.res hb11.size hr11 hlo11 rfl)
  clear hr11 hlo11
  clear HW48
  have HW51 := Lib.hid (show WinAt w11 [w3.heap.size, w2.heap.size, W.heap.size] A n cs from HW47.out.next hb11)
  clear HW47
  have HW52 := Lib.hid (show WinAt w11 [w3.heap.size, w2.heap.size, W.heap.size] A9 n cs2 from HW49.out.next hb11)
  clear HW49
  have HK53 := Lib.hid (show Kept W w11 [(w3.heap.size, 24, #[.int .i64 d2, .int .i64 s2, .slice A9 n c9]), (w2.heap.size, 24, #[.int .i64 d2, .int .i64 s2, .slice A8 n c8]), (W.heap.size, 24, #[.int .i64 wd, .int .i64 sl, .slice A n c])] from HK50.out.next hb11)
  clear HK50
  clear hb11
  have c_f_0 : w11.cell? ⟨W.heap.size, 0, none⟩ = some (.int .i64 wd) := HK53.out.cell 2 rfl 0
  have c_f_1 : w11.cell? ⟨W.heap.size, 1, none⟩ = some (.int .i64 sl) := HK53.out.cell 2 rfl 1
  have c_f_2 : w11.cell? ⟨W.heap.size, 2, none⟩ = some (.slice A n c) := HK53.out.cell 2 rfl 2
  have c_x_0 : w11.cell? ⟨w2.heap.size, 0, none⟩ = some (.int .i64 d2) := HK53.out.cell 1 rfl 0
  have z_x_0 : w11.frozen? ⟨w2.heap.size, 0, none⟩ = false := HK53.out.frozen 1 rfl 0
  have c_x_1 : w11.cell? ⟨w2.heap.size, 1, none⟩ = some (.int .i64 s2) := HK53.out.cell 1 rfl 1
  have z_x_1 : w11.frozen? ⟨w2.heap.size, 1, none⟩ = false := HK53.out.frozen 1 rfl 1
  have c_x_2 : w11.cell? ⟨w2.heap.size, 2, none⟩ = some (.slice A8 n c8) := HK53.out.cell 1 rfl 2
  have z_x_2 : w11.frozen? ⟨w2.heap.size, 2, none⟩ = false := HK53.out.frozen 1 rfl 2
  go_wp2_with fail
  clear c_f_0 c_f_1 c_f_2 c_x_0 z_x_0 c_x_1 z_x_1 c_x_2 z_x_2
  have HK54 := Lib.hid (show Kept W (w11.setCell ⟨w2.heap.size, 0, none⟩ (.int .i64 d3)) [(w3.heap.size, 24, #[.int .i64 d2, .int .i64 s2, .slice A9 n c9]), (w2.heap.size, 24, #[.int .i64 d3, .int .i64 s2, .slice A8 n c8]), (W.heap.size, 24, #[.int .i64 wd, .int .i64 sl, .slice A n c])] from HK53.out.set_ 1 rfl 0 (.int .i64 d3))
  clear HK53
  have HK55 := Lib.hid (show Kept W ((w11.setCell ⟨w2.heap.size, 0, none⟩ (.int .i64 d3)).setCell ⟨w2.heap.size, 1, none⟩ (.int .i64 s3)) [(w3.heap.size, 24, #[.int .i64 d2, .int .i64 s2, .slice A9 n c9]), (w2.heap.size, 24, #[.int .i64 d3, .int .i64 s3, .slice A8 n c8]), (W.heap.size, 24, #[.int .i64 wd, .int .i64 sl, .slice A n c])] from HK54.out.set_ 1 rfl 1 (.int .i64 s3))
  clear HK54
  have HK56 := Lib.hid (show Kept W (((w11.setCell ⟨w2.heap.size, 0, none⟩ (.int .i64 d3)).setCell ⟨w2.heap.size, 1, none⟩ (.int .i64 s3)).setCell ⟨w2.heap.size, 2, none⟩ (.slice A11 n c11)) [(w3.heap.size, 24, #[.int .i64 d2, .int .i64 s2, .slice A9 n c9]), (w2.heap.size, 24, #[.int .i64 d3, .int .i64 s3, .slice A11 n c11]), (W.heap.size, 24, #[.int .i64 wd, .int .i64 sl, .slice A n c])] from HK55.out.set_ 1 rfl 2 (.slice A11 n c11))
  clear HK55
  have HW57 := Lib.hid (show WinAt (((w11.setCell ⟨w2.heap.size, 0, none⟩ (.int .i64 d3)).setCell ⟨w2.heap.size, 1, none⟩ (.int .i64 s3)).setCell ⟨w2.heap.size, 2, none⟩ (.slice A11 n c11)) [w3.heap.size, w2.heap.size, W.heap.size] A n cs from HW51.out.put3 (by simp))
  clear HW51
  have HW58 := Lib.hid (show WinAt (((w11.setCell ⟨w2.heap.size, 0, none⟩ (.int .i64 d3)).setCell ⟨w2.heap.size, 1, none⟩ (.int .i64 s3)).setCell ⟨w2.heap.size, 2, none⟩ (.slice A11 n c11)) [w3.heap.size, w2.heap.size, W.heap.size] A9 n cs2 from HW52.out.put3 (by simp))
  clear HW52
  have HW59 := Lib.hid (show WinAt (((w11.setCell ⟨w2.heap.size, 0, none⟩ (.int .i64 d3)).setCell ⟨w2.heap.size, 1, none⟩ (.int .i64 s3)).setCell ⟨w2.heap.size, 2, none⟩ (.slice A11 n c11)) [w3.heap.size, w2.heap.size, W.heap.size] A11 n cs3 from HN11.out.put3 (by simp))
  clear HN11
  generalize ((w11.setCell ⟨w2.heap.size, 0, none⟩ (.int .i64 d3)).setCell ⟨w2.heap.size, 1, none⟩ (.int .i64 s3)).setCell ⟨w2.heap.size, 2, none⟩ (.slice A11 n c11) = v11 at HK56 HW57 HW58 HW59 ⊢
  with_reducible refine (rAdd_c wd sl A n c v11.heap.size cs a ok v11 HW57.out.rd (Nat.le_refl _) (by omega)).mono ?_
  rw [R3.out]
  rintro e w12 ⟨A12, n12, c12, rfl, hr12, hb12, hlo12⟩
  dsimp only at hr12
  have hn12 := hr12.cell_len
  have hx12 : n12 = n := by omega
  clear hn12
  subst n12
  have HN12 := Lib.hid (show WinAt w12 [w3.heap.size, w2.heap.size, W.heap.size] A12 n cs3 from HW57.out.res hb12.size hr12 hlo12 rfl)
  clear hr12 hlo12
  clear HW58
  have HW60 := Lib.hid (show WinAt w12 [w3.heap.size, w2.heap.size, W.heap.size] A n cs from HW57.out.next hb12)
  clear HW57
  have HW61 := Lib.hid (show WinAt w12 [w3.heap.size, w2.heap.size, W.heap.size] A11 n cs3 from HW59.out.next hb12)
  clear HW59
  have HK62 := Lib.hid (show Kept W w12 [(w3.heap.size, 24, #[.int .i64 d2, .int .i64 s2, .slice A9 n c9]), (w2.heap.size, 24, #[.int .i64 d3, .int .i64 s3, .slice A11 n c11]), (W.heap.size, 24, #[.int .i64 wd, .int .i64 sl, .slice A n c])] from HK56.out.next hb12)
  clear HK56
  clear hb12
  have c_f_0 : w12.cell? ⟨W.heap.size, 0, none⟩ = some (.int .i64 wd) := HK62.out.cell 2 rfl 0
  have c_f_1 : w12.cell? ⟨W.heap.size, 1, none⟩ = some (.int .i64 sl) := HK62.out.cell 2 rfl 1
  have c_f_2 : w12.cell? ⟨W.heap.size, 2, none⟩ = some (.slice A n c) := HK62.out.cell 2 rfl 2
  have c_x_0 : w12.cell? ⟨w2.heap.size, 0, none⟩ = some (.int .i64 d3) := HK62.out.cell 1 rfl 0
  have c_x_1 : w12.cell? ⟨w2.heap.size, 1, none⟩ = some (.int .i64 s3) := HK62.out.cell 1 rfl 1
  have c_x_2 : w12.cell? ⟨w2.heap.size, 2, none⟩ = some (.slice A11 n c11) := HK62.out.cell 1 rfl 2
  have c_y_0 : w12.cell? ⟨w3.heap.size, 0, none⟩ = some (.int .i64 d2) := HK62.out.cell 0 rfl 0
  have z_y_0 : w12.frozen? ⟨w3.heap.size, 0, none⟩ = false := HK62.out.frozen 0 rfl 0
  have c_y_1 : w12.cell? ⟨w3.heap.size, 1, none⟩ = some (.int .i64 s2) := HK62.out.cell 0 rfl 1
  have z_y_1 : w12.frozen? ⟨w3.heap.size, 1, none⟩ = false := HK62.out.frozen 0 rfl 1
  have c_y_2 : w12.cell? ⟨w3.heap.size, 2, none⟩ = some (.slice A9 n c9) := HK62.out.cell 0 rfl 2
  have z_y_2 : w12.frozen? ⟨w3.heap.size, 2, none⟩ = false := HK62.out.frozen 0 rfl 2
  go_wp2_with fail
  clear c_f_0 c_f_1 c_f_2 c_x_0 c_x_1 c_x_2 c_y_0 z_y_0 c_y_1 z_y_1 c_y_2 z_y_2
  have HK63 := Lib.hid (show Kept W (w12.setCell ⟨w3.heap.size, 0, none⟩ (.int .i64 d3)) [(w3.heap.size, 24, #[.int .i64 d3, .int .i64 s2, .slice A9 n c9]), (w2.heap.size, 24, #[.int .i64 d3, .int .i64 s3, .slice A11 n c11]), (W.heap.size, 24, #[.int .i64 wd, .int .i64 sl, .slice A n c])] from HK62.out.set_ 0 rfl 0 (.int .i64 d3))
  clear HK62
  have HK64 := Lib.hid (show Kept W ((w12.setCell ⟨w3.heap.size, 0, none⟩ (.int .i64 d3)).setCell ⟨w3.heap.size, 1, none⟩ (.int .i64 s3)) [(w3.heap.size, 24, #[.int .i64 d3, .int .i64 s3, .slice A9 n c9]), (w2.heap.size, 24, #[.int .i64 d3, .int .i64 s3, .slice A11 n c11]), (W.heap.size, 24, #[.int .i64 wd, .int .i64 sl, .slice A n c])] from HK63.out.set_ 0 rfl 1 (.int .i64 s3))
  clear HK63
  have HK65 := Lib.hid (show Kept W (((w12.setCell ⟨w3.heap.size, 0, none⟩ (.int .i64 d3)).setCell ⟨w3.heap.size, 1, none⟩ (.int .i64 s3)).setCell ⟨w3.heap.size, 2, none⟩ (.slice A12 n c12)) [(w3.heap.size, 24, #[.int .i64 d3, .int .i64 s3, .slice A12 n c12]), (w2.heap.size, 24, #[.int .i64 d3, .int .i64 s3, .slice A11 n c11]), (W.heap.size, 24, #[.int .i64 wd, .int .i64 sl, .slice A n c])] from HK64.out.set_ 0 rfl 2 (.slice A12 n c12))
  clear HK64
  have HW66 := Lib.hid (show WinAt (((w12.setCell ⟨w3.heap.size, 0, none⟩ (.int .i64 d3)).setCell ⟨w3.heap.size, 1, none⟩ (.int .i64 s3)).setCell ⟨w3.heap.size, 2, none⟩ (.slice A12 n c12)) [w3.heap.size, w2.heap.size, W.heap.size] A n cs from HW60.out.put3 (by simp))
  clear HW60
  have HW67 := Lib.hid (show WinAt (((w12.setCell ⟨w3.heap.size, 0, none⟩ (.int .i64 d3)).setCell ⟨w3.heap.size, 1, none⟩ (.int .i64 s3)).setCell ⟨w3.heap.size, 2, none⟩ (.slice A12 n c12)) [w3.heap.size, w2.heap.size, W.heap.size] A11 n cs3 from HW61.out.put3 (by simp))
  clear HW61
  have HW68 := Lib.hid (show WinAt (((w12.setCell ⟨w3.heap.size, 0, none⟩ (.int .i64 d3)).setCell ⟨w3.heap.size, 1, none⟩ (.int .i64 s3)).setCell ⟨w3.heap.size, 2, none⟩ (.slice A12 n c12)) [w3.heap.size, w2.heap.size, W.heap.size] A12 n cs3 from HN12.out.put3 (by simp))
  clear HN12
  generalize ((w12.setCell ⟨w3.heap.size, 0, none⟩ (.int .i64 d3)).setCell ⟨w3.heap.size, 1, none⟩ (.int .i64 s3)).setCell ⟨w3.heap.size, 2, none⟩ (.slice A12 n c12) = v12 at HK65 HW66 HW67 HW68 ⊢
  with_reducible refine (wSame_c d3 s3 A11 n c11 cs3 d3 s3 A12 n c12 cs3 v12.heap.size _ HW67.out.rd HW68.out.rd (Nat.le_refl _) (by omega) (by omega)).mono ?_
  rw [sameW_self]
  rintro e w13 ⟨rfl, hb13⟩
  have HW69 := Lib.hid (show WinAt w13 [w3.heap.size, w2.heap.size, W.heap.size] A n cs from HW66.out.next hb13)
  clear HW66
  have HW70 := Lib.hid (show WinAt w13 [w3.heap.size, w2.heap.size, W.heap.size] A11 n cs3 from HW67.out.next hb13)
  clear HW67
  have HW71 := Lib.hid (show WinAt w13 [w3.heap.size, w2.heap.size, W.heap.size] A12 n cs3 from HW68.out.next hb13)
  clear HW68
  have HK72 := Lib.hid (show Kept W w13 [(w3.heap.size, 24, #[.int .i64 d3, .int .i64 s3, .slice A12 n c12]), (w2.heap.size, 24, #[.int .i64 d3, .int .i64 s3, .slice A11 n c11]), (W.heap.size, 24, #[.int .i64 wd, .int .i64 sl, .slice A n c])] from HK65.out.next hb13)
  clear HK65
  clear hb13
  have c_f_0 : w13.cell? ⟨W.heap.size, 0, none⟩ = some (.int .i64 wd) := HK72.out.cell 2 rfl 0
  have c_f_1 : w13.cell? ⟨W.heap.size, 1, none⟩ = some (.int .i64 sl) := HK72.out.cell 2 rfl 1
  have c_f_2 : w13.cell? ⟨W.heap.size, 2, none⟩ = some (.slice A n c) := HK72.out.cell 2 rfl 2
  go_wp2_with fail
  clear c_f_0 c_f_1 c_f_2
  with_reducible refine (wBeat_c wd sl A n c w13.heap.size cs _ HW69.out.rd (Nat.le_refl _) (by omega)).mono ?_
  rintro e w14 ⟨rfl, hb14⟩
  have HW73 := Lib.hid (show WinAt w14 [w3.heap.size, w2.heap.size, W.heap.size] A n cs from HW69.out.next hb14)
  clear HW69
  have HW74 := Lib.hid (show WinAt w14 [w3.heap.size, w2.heap.size, W.heap.size] A11 n cs3 from HW70.out.next hb14)
  clear HW70
  have HW75 := Lib.hid (show WinAt w14 [w3.heap.size, w2.heap.size, W.heap.size] A12 n cs3 from HW71.out.next hb14)
  clear HW71
  have HK76 := Lib.hid (show Kept W w14 [(w3.heap.size, 24, #[.int .i64 d3, .int .i64 s3, .slice A12 n c12]), (w2.heap.size, 24, #[.int .i64 d3, .int .i64 s3, .slice A11 n c11]), (W.heap.size, 24, #[.int .i64 wd, .int .i64 sl, .slice A n c])] from HK72.out.next hb14)
  clear HK72
  clear hb14
  have c_f_0 : w14.cell? ⟨W.heap.size, 0, none⟩ = some (.int .i64 wd) := HK76.out.cell 2 rfl 0
  have c_f_1 : w14.cell? ⟨W.heap.size, 1, none⟩ = some (.int .i64 sl) := HK76.out.cell 2 rfl 1
  have c_f_2 : w14.cell? ⟨W.heap.size, 2, none⟩ = some (.slice A n c) := HK76.out.cell 2 rfl 2
  go_wp2_with fail
  clear c_f_0 c_f_1 c_f_2
  with_reducible refine (rwBeat_c wd sl A n c w14.heap.size cs _ HW73.out.rd (Nat.le_refl _) (by omega)).mono ?_
  rintro e w15 ⟨rfl, hb15⟩
  have HW77 := Lib.hid (show WinAt w15 [w3.heap.size, w2.heap.size, W.heap.size] A n cs from HW73.out.next hb15)
  clear HW73
  have HW78 := Lib.hid (show WinAt w15 [w3.heap.size, w2.heap.size, W.heap.size] A11 n cs3 from HW74.out.next hb15)
  clear HW74
  have HW79 := Lib.hid (show WinAt w15 [w3.heap.size, w2.heap.size, W.heap.size] A12 n cs3 from HW75.out.next hb15)
  clear HW75
  have HK80 := Lib.hid (show Kept W w15 [(w3.heap.size, 24, #[.int .i64 d3, .int .i64 s3, .slice A12 n c12]), (w2.heap.size, 24, #[.int .i64 d3, .int .i64 s3, .slice A11 n c11]), (W.heap.size, 24, #[.int .i64 wd, .int .i64 sl, .slice A n c])] from HK76.out.next hb15)
  clear HK76
  clear hb15
  have c_f_0 : w15.cell? ⟨W.heap.size, 0, none⟩ = some (.int .i64 wd) := HK80.out.cell 2 rfl 0
  have c_f_1 : w15.cell? ⟨W.heap.size, 1, none⟩ = some (.int .i64 sl) := HK80.out.cell 2 rfl 1
  have c_f_2 : w15.cell? ⟨W.heap.size, 2, none⟩ = some (.slice A n c) := HK80.out.cell 2 rfl 2
  go_wp2_with fail
  clear c_f_0 c_f_1 c_f_2
  generalize beatW wd sl cs = bt
  refine wp_region_noPanic ?_
  refine wp_region_held_drew (S := fun W' => Kept W W' [(w3.heap.size, 24, #[.int .i64 d3, .int .i64 s3, .slice A12 n c12]), (w2.heap.size, 24, #[.int .i64 d3, .int .i64 s3, .slice A11 n c11]), (W.heap.size, 24, #[.int .i64 wd, .int .i64 sl, .slice A n c])]) (by kernel_rfl) HK80.out.drew (fun hHeld => ?_)
  have HW81 := Lib.hid (show WinAt w15.drew [w3.heap.size, w2.heap.size, W.heap.size] A n cs from HW77.out)
  clear HW77
  have HW82 := Lib.hid (show WinAt w15.drew [w3.heap.size, w2.heap.size, W.heap.size] A11 n cs3 from HW78.out)
  clear HW78
  have HW83 := Lib.hid (show WinAt w15.drew [w3.heap.size, w2.heap.size, W.heap.size] A12 n cs3 from HW79.out)
  clear HW79
  clear HK80
  generalize w15.drew = v16 at hHeld HW81 HW82 HW83 ⊢
  refine takeH 0 (v := ?v0u14) rfl (by kernel_rfl) (by kernel_rfl) (by kernel_rfl) rfl (fun _ _ _ h => h) (Or.inl ⟨by rfl, ?y0u14⟩) hHeld ?r0u14
  case y0u14 => (intro W hSW; (try dsimp only at hSW); go_simp; try with_reducible rfl)
  simp only [Act.put, List.setIfInBounds_toArray, List.set_cons_zero, List.set_cons_succ]
  refine takeH 1 (v := ?v1u15) rfl (by kernel_rfl) (by kernel_rfl) (by kernel_rfl) rfl (fun _ _ _ h => h) (Or.inl ⟨by rfl, ?y1u15⟩) hHeld ?r1u15
  case y1u15 => (intro W hSW; (try dsimp only at hSW); go_simp; try with_reducible rfl)
  simp only [Act.put, List.setIfInBounds_toArray, List.set_cons_zero, List.set_cons_succ]
  refine takeH 2 (v := ?v2u16) rfl (by kernel_rfl) (by kernel_rfl) (by kernel_rfl) rfl (fun _ _ _ h => h) (Or.inl ⟨by rfl, ?y2u16⟩) hHeld ?r2u16
  case y2u16 => (intro W hSW; (try dsimp only at hSW); go_simp; try with_reducible rfl)
  simp only [Act.put, List.setIfInBounds_toArray, List.set_cons_zero, List.set_cons_succ]
  refine takeH 3 (v := ?v3u17) rfl (by kernel_rfl) (by kernel_rfl) (by kernel_rfl) rfl (fun _ _ _ h => h) (Or.inl ⟨by rfl, ?y3u17⟩) hHeld ?r3u17
  case y3u17 => (intro W hSW; (try dsimp only at hSW); go_simp; try with_reducible rfl)
  simp only [Act.put, List.setIfInBounds_toArray, List.set_cons_zero, List.set_cons_succ]
  refine takeH 4 (v := ?v4u18) rfl (by kernel_rfl) (by kernel_rfl) (by kernel_rfl) rfl (fun _ _ _ h => h) (Or.inl ⟨by rfl, ?y4u18⟩) hHeld ?r4u18
  case y4u18 => (intro W hSW; (try dsimp only at hSW); go_simp; try with_reducible rfl)
  simp only [Act.put, List.setIfInBounds_toArray, List.set_cons_zero, List.set_cons_succ]
  refine takeH 5 (v := ?v5u19) rfl (by kernel_rfl) (by kernel_rfl) (by kernel_rfl) rfl (fun _ _ _ h => h) (Or.inl ⟨by rfl, ?y5u19⟩) hHeld ?r5u19
  case y5u19 => (intro W hSW; (try dsimp only at hSW); go_simp; try with_reducible rfl)
  simp only [Act.put, List.setIfInBounds_toArray, List.set_cons_zero, List.set_cons_succ]
  refine takeH 6 (v := ?v6u20) rfl (by kernel_rfl) (by kernel_rfl) (by kernel_rfl) rfl (fun _ _ _ h => h) (Or.inl ⟨by rfl, ?y6u20⟩) hHeld ?r6u20
  case y6u20 => (intro W hSW; (try dsimp only at hSW); go_simp; try with_reducible rfl)
  simp only [Act.put, List.setIfInBounds_toArray, List.set_cons_zero, List.set_cons_succ]
  refine takeH 7 (v := ?v7u21) rfl (by kernel_rfl) (by kernel_rfl) (by kernel_rfl) rfl (fun _ _ _ h => h) (Or.inl ⟨by rfl, ?y7u21⟩) hHeld ?r7u21
  case y7u21 => (intro W hSW; (try dsimp only at hSW); go_simp; try with_reducible rfl)
  simp only [Act.put, List.setIfInBounds_toArray, List.set_cons_zero, List.set_cons_succ]
  refine takeH 8 (v := ?v8u22) rfl (by kernel_rfl) (by kernel_rfl) (by kernel_rfl) rfl (fun _ _ _ h => h) (Or.inl ⟨by rfl, ?y8u22⟩) hHeld ?r8u22
  case y8u22 => (intro W hSW; (try dsimp only at hSW); go_simp; try with_reducible rfl)
  simp only [Act.put, List.setIfInBounds_toArray, List.set_cons_zero, List.set_cons_succ]
  refine takeH 9 (v := ?v9u23) rfl (by kernel_rfl) (by kernel_rfl) (by kernel_rfl) rfl (fun _ _ _ h => h) (Or.inl ⟨by rfl, ?y9u23⟩) hHeld ?r9u23
  case y9u23 => (intro W hSW; (try dsimp only at hSW); have q0 := hSW.cell 2 rfl 0; have q1 := hSW.cell 2 rfl 1; have q2 := hSW.cell 2 rfl 2; simp only [List.getElem?_toArray, List.getElem?_cons_zero, List.getElem?_cons_succ] at q0 q1 q2; go_simp; try with_reducible rfl)
  simp only [Act.put, List.setIfInBounds_toArray, List.set_cons_zero, List.set_cons_succ]
  refine takeH 11 (v := ?v11u24) rfl (by kernel_rfl) (by kernel_rfl) (by kernel_rfl) rfl (fun _ _ _ h => h) (Or.inl ⟨by rfl, ?y11u24⟩) hHeld ?r11u24
  case y11u24 => (intro W hSW; (try dsimp only at hSW); have q0 := hSW.cell 2 rfl 0; have q1 := hSW.cell 2 rfl 1; have q2 := hSW.cell 2 rfl 2; simp only [List.getElem?_toArray, List.getElem?_cons_zero, List.getElem?_cons_succ] at q0 q1 q2; go_simp; try with_reducible rfl)
  simp only [Act.put, List.setIfInBounds_toArray, List.set_cons_zero, List.set_cons_succ]
  refine wpAnyH_ready (rs := [10]) (by kernel_rfl) (by simp) ?_
  refine AllReadyH.cons rfl (fun K hK => ?_) AllReadyH.nil
  go_simp
  with_reducible refine (wSum_c wd sl A n c v16.heap.size cs _ HW81.out.rd (Nat.le_refl _) (by omega)).mono ?_
  rintro e' w17 ⟨rfl, hbn⟩
  have HW84 := Lib.hid (show WinAt w17 [w3.heap.size, w2.heap.size, W.heap.size] A n cs from HW81.out.next hbn)
  clear HW81
  have HW85 := Lib.hid (show WinAt w17 [w3.heap.size, w2.heap.size, W.heap.size] A11 n cs3 from HW82.out.next hbn)
  clear HW82
  have HW86 := Lib.hid (show WinAt w17 [w3.heap.size, w2.heap.size, W.heap.size] A12 n cs3 from HW83.out.next hbn)
  clear HW83
  have hkn := hHeld.next hbn
  clear hbn
  refine hK.out _ _ hkn (fun hHeld => ?_)
  clear hK K
  try simp only [Act.put, List.setIfInBounds_toArray, List.set_cons_zero, List.set_cons_succ]
  refine wpAnyH_ready (rs := [12]) (by kernel_rfl) (by simp) ?_
  refine AllReadyH.cons rfl (fun K hK => ?_) AllReadyH.nil
  go_simp
  with_reducible refine (rwSum_c wd sl A n c w17.heap.size cs _ HW84.out.rd (Nat.le_refl _) (by omega)).mono ?_
  rintro e' w18 ⟨rfl, hbn⟩
  have HW87 := Lib.hid (show WinAt w18 [w3.heap.size, w2.heap.size, W.heap.size] A n cs from HW84.out.next hbn)
  clear HW84
  have HW88 := Lib.hid (show WinAt w18 [w3.heap.size, w2.heap.size, W.heap.size] A11 n cs3 from HW85.out.next hbn)
  clear HW85
  have HW89 := Lib.hid (show WinAt w18 [w3.heap.size, w2.heap.size, W.heap.size] A12 n cs3 from HW86.out.next hbn)
  clear HW86
  have hkn := hHeld.next hbn
  clear hbn
  refine hK.out _ _ hkn (fun hHeld => ?_)
  clear hK K
  try simp only [Act.put, List.setIfInBounds_toArray, List.set_cons_zero, List.set_cons_succ]
  refine takeH 13 (v := ?v13u25) rfl (by kernel_rfl) (by kernel_rfl) (by kernel_rfl) rfl (fun _ _ _ h => h) (Or.inl ⟨by rfl, ?y13u25⟩) hHeld ?r13u25
  case y13u25 => (intro W hSW; (try dsimp only at hSW); go_simp; try with_reducible rfl)
  simp only [Act.put, List.setIfInBounds_toArray, List.set_cons_zero, List.set_cons_succ]
  refine takeH 14 (v := ?v14u26) rfl (by kernel_rfl) (by kernel_rfl) (by kernel_rfl) rfl (fun _ _ _ h => h) (Or.inl ⟨by rfl, ?y14u26⟩) hHeld ?r14u26
  case y14u26 => (intro W hSW; (try dsimp only at hSW); go_simp; try with_reducible rfl)
  simp only [Act.put, List.setIfInBounds_toArray, List.set_cons_zero, List.set_cons_succ]
  refine takeH 15 (v := ?v15u27) rfl (by kernel_rfl) (by kernel_rfl) (by kernel_rfl) rfl (fun _ _ _ h => h) (Or.inl ⟨by rfl, ?y15u27⟩) hHeld ?r15u27
  case y15u27 => (intro W hSW; (try dsimp only at hSW); go_simp; try with_reducible rfl)
  simp only [Act.put, List.setIfInBounds_toArray, List.set_cons_zero, List.set_cons_succ]
  refine takeH 16 (v := ?v16u28) rfl (by kernel_rfl) (by kernel_rfl) (by kernel_rfl) rfl (fun _ _ _ h => h) (Or.inl ⟨by rfl, ?y16u28⟩) hHeld ?r16u28
  case y16u28 => (intro W hSW; (try dsimp only at hSW); have q0 := hSW.cell 2 rfl 0; have q1 := hSW.cell 2 rfl 1; have q2 := hSW.cell 2 rfl 2; simp only [List.getElem?_toArray, List.getElem?_cons_zero, List.getElem?_cons_succ] at q0 q1 q2; go_simp; try with_reducible rfl)
  simp only [Act.put, List.setIfInBounds_toArray, List.set_cons_zero, List.set_cons_succ]
  refine takeH 18 (v := ?v18u29) rfl (by kernel_rfl) (by kernel_rfl) (by kernel_rfl) rfl (fun _ _ _ h => h) (Or.inl ⟨by rfl, ?y18u29⟩) hHeld ?r18u29
  case y18u29 => (intro W hSW; (try dsimp only at hSW); have q0 := hSW.cell 2 rfl 0; have q1 := hSW.cell 2 rfl 1; have q2 := hSW.cell 2 rfl 2; simp only [List.getElem?_toArray, List.getElem?_cons_zero, List.getElem?_cons_succ] at q0 q1 q2; go_simp; try with_reducible rfl)
  simp only [Act.put, List.setIfInBounds_toArray, List.set_cons_zero, List.set_cons_succ]
  refine wpAnyH_ready (rs := [17]) (by kernel_rfl) (by simp) ?_
  refine AllReadyH.cons rfl (fun K hK => ?_) AllReadyH.nil
  go_simp
  with_reducible refine (wPart_c wd sl A n c w18.heap.size cs _ HW87.out.rd (Nat.le_refl _) (by omega)).mono ?_
  rintro e' w19 ⟨rfl, hbn⟩
  have HW90 := Lib.hid (show WinAt w19 [w3.heap.size, w2.heap.size, W.heap.size] A n cs from HW87.out.next hbn)
  clear HW87
  have HW91 := Lib.hid (show WinAt w19 [w3.heap.size, w2.heap.size, W.heap.size] A11 n cs3 from HW88.out.next hbn)
  clear HW88
  have HW92 := Lib.hid (show WinAt w19 [w3.heap.size, w2.heap.size, W.heap.size] A12 n cs3 from HW89.out.next hbn)
  clear HW89
  have hkn := hHeld.next hbn
  clear hbn
  refine hK.out _ _ hkn (fun hHeld => ?_)
  clear hK K
  try simp only [Act.put, List.setIfInBounds_toArray, List.set_cons_zero, List.set_cons_succ]
  refine wpAnyH_ready (rs := [19]) (by kernel_rfl) (by simp) ?_
  refine AllReadyH.cons rfl (fun K hK => ?_) AllReadyH.nil
  go_simp
  with_reducible refine (rwPart_c wd sl A n c w19.heap.size cs _ HW90.out.rd (Nat.le_refl _) (by omega)).mono ?_
  rintro e' w20 ⟨rfl, hbn⟩
  have HW93 := Lib.hid (show WinAt w20 [w3.heap.size, w2.heap.size, W.heap.size] A n cs from HW90.out.next hbn)
  clear HW90
  have HW94 := Lib.hid (show WinAt w20 [w3.heap.size, w2.heap.size, W.heap.size] A11 n cs3 from HW91.out.next hbn)
  clear HW91
  have HW95 := Lib.hid (show WinAt w20 [w3.heap.size, w2.heap.size, W.heap.size] A12 n cs3 from HW92.out.next hbn)
  clear HW92
  have hkn := hHeld.next hbn
  clear hbn
  refine hK.out _ _ hkn (fun hHeld => ?_)
  clear hK K
  try simp only [Act.put, List.setIfInBounds_toArray, List.set_cons_zero, List.set_cons_succ]
  refine takeH 20 (v := ?v20u30) rfl (by kernel_rfl) (by kernel_rfl) (by kernel_rfl) rfl (fun _ _ _ h => h) (Or.inl ⟨by rfl, ?y20u30⟩) hHeld ?r20u30
  case y20u30 => (intro W hSW; (try dsimp only at hSW); go_simp; try with_reducible rfl)
  simp only [Act.put, List.setIfInBounds_toArray, List.set_cons_zero, List.set_cons_succ]
  refine takeH 21 (v := ?v21u31) rfl (by kernel_rfl) (by kernel_rfl) (by kernel_rfl) rfl (fun _ _ _ h => h) (Or.inl ⟨by rfl, ?y21u31⟩) hHeld ?r21u31
  case y21u31 => (intro W hSW; (try dsimp only at hSW); go_simp; try with_reducible rfl)
  simp only [Act.put, List.setIfInBounds_toArray, List.set_cons_zero, List.set_cons_succ]
  refine takeH 22 (v := ?v22u32) rfl (by kernel_rfl) (by kernel_rfl) (by kernel_rfl) rfl (fun _ _ _ h => h) (Or.inl ⟨by rfl, ?y22u32⟩) hHeld ?r22u32
  case y22u32 => (intro W hSW; (try dsimp only at hSW); go_simp; try with_reducible rfl)
  simp only [Act.put, List.setIfInBounds_toArray, List.set_cons_zero, List.set_cons_succ]
  refine wpAnyH_done (by kernel_rfl) ?_ _
  refine NoPanic.normal ?_
  have HK96 := Lib.hid hHeld
  clear hHeld
  go_wp2
  go_ret
  exact ⟨rfl, HK96.out.bel⟩
end Go.Proofs.Ytmkjfpmailihjaa
