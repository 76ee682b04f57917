/- The walk of SpanRight. -/
import Derived.Test.YtgbcgkhcmellfaaLawSpan
import Derived.Test.YtgbcgkhcmellfaaKept
namespace Go.Proofs.Ytgbcgkhcmellfaa
set_option linter.unusedVariables false
open Go.RowKit Go.ChangeShapes

set_option maxHeartbeats 4000000 in
set_option maxRecDepth 100000 in
theorem SpanRight_walk (cs : List Value) (t : FT) (nm f l r tt sz : Int) (sd : Bool) (pf pl pr pt : Int) (q a k : Int) (cm : ByteArray) (x y z : Int) (w : World) (h : FTr w w.heap.size cs t)
    (hs : (Lit.int .i64 nm).wf = true ∧ (Lit.int .i64 f).wf = true ∧ (Lit.int .i64 l).wf = true ∧ (Lit.int .i64 r).wf = true ∧ (Lit.int .i64 tt).wf = true ∧ (Lit.int .i64 sz).wf = true) :
    Calls Try.prog 3 #[.agg cs.toArray, .agg #[.int .i64 nm, .int .i64 f, .int .i64 l, .int .i64 r, .int .i64 tt, .int .i64 sz, .bool sd], .agg #[.int .i64 pf, .int .i64 pl, .int .i64 pr, .int .i64 pt], .agg #[.int .i64 q, .int .i64 a, .int .i64 k, .string cm, .int .i64 x, .int .i64 y, .int .i64 z]] w fun e w' => e = .returned (.bool true) ∧ Below w.heap.size w w' := by
  have HT := Lib.hid h
  have f1 := bounds_i64 hs.2.1
  have l1 := bounds_i64 hs.2.2.1
  clear hs
  obtain ⟨f1, f2⟩ := f1
  obtain ⟨l1, l2⟩ := l1
  have HRS := Lib.hid (right_same t)
  cases h with
  | mk op fa fb name A n c vs ks hop ha hb hnm hn hv hnc hcm hr hk =>
    clear hop ha hb hn hv hr hk hnm hnc hcm
    generalize FT.mk op fa fb name ks = t at HT HRS
    have HK1 := Lib.hid (show Kept w ((((w.alloc (.cells #[.int .i64 op, .int .i64 fa, .int .i64 fb, .string name, .slice A n c] 24)).alloc (.cells #[.int .i64 nm, .int .i64 f, .int .i64 l, .int .i64 r, .int .i64 tt, .int .i64 sz, .bool sd] 26)).alloc (.cells #[.int .i64 pf, .int .i64 pl, .int .i64 pr, .int .i64 pt] 28)).alloc (.cells #[.int .i64 q, .int .i64 a, .int .i64 k, .string cm, .int .i64 x, .int .i64 y, .int .i64 z] 30)) [(w.heap.size + 3, 30, #[.int .i64 q, .int .i64 a, .int .i64 k, .string cm, .int .i64 x, .int .i64 y, .int .i64 z]), (w.heap.size + 2, 28, #[.int .i64 pf, .int .i64 pl, .int .i64 pr, .int .i64 pt]), (w.heap.size + 1, 26, #[.int .i64 nm, .int .i64 f, .int .i64 l, .int .i64 r, .int .i64 tt, .int .i64 sz, .bool sd]), (w.heap.size, 24, #[.int .i64 op, .int .i64 fa, .int .i64 fb, .string name, .slice A n c])] from (((((Kept.start w).alloc_at 24 #[.int .i64 op, .int .i64 fa, .int .i64 fb, .string name, .slice A n c] (w.heap.size) (by simp)).alloc_at 26 #[.int .i64 nm, .int .i64 f, .int .i64 l, .int .i64 r, .int .i64 tt, .int .i64 sz, .bool sd] (w.heap.size + 1) (by simp)).alloc_at 28 #[.int .i64 pf, .int .i64 pl, .int .i64 pr, .int .i64 pt] (w.heap.size + 2) (by simp)).alloc_at 30 #[.int .i64 q, .int .i64 a, .int .i64 k, .string cm, .int .i64 x, .int .i64 y, .int .i64 z] (w.heap.size + 3) (by simp)))
    go_enter Try.func3, Try.ntmps3
    go_wp2_with fail
    with_reducible refine (awake_c _).mono ?_
    rintro e w1 ⟨rfl, hb1⟩
    have HK2 := Lib.hid (show Kept w w1 [(w.heap.size + 3, 30, #[.int .i64 q, .int .i64 a, .int .i64 k, .string cm, .int .i64 x, .int .i64 y, .int .i64 z]), (w.heap.size + 2, 28, #[.int .i64 pf, .int .i64 pl, .int .i64 pr, .int .i64 pt]), (w.heap.size + 1, 26, #[.int .i64 nm, .int .i64 f, .int .i64 l, .int .i64 r, .int .i64 tt, .int .i64 sz, .bool sd]), (w.heap.size, 24, #[.int .i64 op, .int .i64 fa, .int .i64 fb, .string name, .slice A n c])] from HK1.out.next hb1)
    clear HK1
    clear hb1
    have c_f_0 : w1.cell? ⟨w.heap.size, 0, none⟩ = some (.int .i64 op) := HK2.out.cell 3 rfl 0
    have c_f_1 : w1.cell? ⟨w.heap.size, 1, none⟩ = some (.int .i64 fa) := HK2.out.cell 3 rfl 1
    have c_f_2 : w1.cell? ⟨w.heap.size, 2, none⟩ = some (.int .i64 fb) := HK2.out.cell 3 rfl 2
    have c_f_3 : w1.cell? ⟨w.heap.size, 3, none⟩ = some (.string name) := HK2.out.cell 3 rfl 3
    have c_f_4 : w1.cell? ⟨w.heap.size, 4, none⟩ = some (.slice A n c) := HK2.out.cell 3 rfl 4
    go_wp2_with fail
    with_reducible refine (Short_c HT.out _ HK2.out.bel HK2.out.size).mono ?_
    rintro e w2 ⟨rfl, hb2⟩
    clear c_f_0 c_f_1 c_f_2 c_f_3 c_f_4
    have HK3 := Lib.hid (show Kept w w2 [(w.heap.size + 3, 30, #[.int .i64 q, .int .i64 a, .int .i64 k, .string cm, .int .i64 x, .int .i64 y, .int .i64 z]), (w.heap.size + 2, 28, #[.int .i64 pf, .int .i64 pl, .int .i64 pr, .int .i64 pt]), (w.heap.size + 1, 26, #[.int .i64 nm, .int .i64 f, .int .i64 l, .int .i64 r, .int .i64 tt, .int .i64 sz, .bool sd]), (w.heap.size, 24, #[.int .i64 op, .int .i64 fa, .int .i64 fb, .string name, .slice A n c])] from HK2.out.next hb2)
    clear HK2
    clear hb2
    cases hsh : shortF t
    · go_wp2
      go_ret
      exact ⟨rfl, HK3.out.bel⟩
    clear hsh
    cases hrr : rightR t
    · have HO := Lib.hid (Of_c HT.out w2 HK3.out.bel HK3.out.size)
      rw [show OfP t = ⟨0, 0, 0, 0⟩ from by unfold OfP; rw [HRS.out, hrr]; simp, show OfE t = 1 from by unfold OfE; rw [HRS.out, hrr]; simp] at HO
      have c_f_0 : w2.cell? ⟨w.heap.size, 0, none⟩ = some (.int .i64 op) := HK3.out.cell 3 rfl 0
      have c_f_1 : w2.cell? ⟨w.heap.size, 1, none⟩ = some (.int .i64 fa) := HK3.out.cell 3 rfl 1
      have c_f_2 : w2.cell? ⟨w.heap.size, 2, none⟩ = some (.int .i64 fb) := HK3.out.cell 3 rfl 2
      have c_f_3 : w2.cell? ⟨w.heap.size, 3, none⟩ = some (.string name) := HK3.out.cell 3 rfl 3
      have c_f_4 : w2.cell? ⟨w.heap.size, 4, none⟩ = some (.slice A n c) := HK3.out.cell 3 rfl 4
      go_wp2_with fail
      with_reducible refine HO.out.mono ?_
      rintro e w3 ⟨rfl, hb3⟩
      clear HO
      clear c_f_0 c_f_1 c_f_2 c_f_3 c_f_4
      have HK4 := Lib.hid (show Kept w w3 [(w.heap.size + 3, 30, #[.int .i64 q, .int .i64 a, .int .i64 k, .string cm, .int .i64 x, .int .i64 y, .int .i64 z]), (w.heap.size + 2, 28, #[.int .i64 pf, .int .i64 pl, .int .i64 pr, .int .i64 pt]), (w.heap.size + 1, 26, #[.int .i64 nm, .int .i64 f, .int .i64 l, .int .i64 r, .int .i64 tt, .int .i64 sz, .bool sd]), (w.heap.size, 24, #[.int .i64 op, .int .i64 fa, .int .i64 fb, .string name, .slice A n c])] from HK3.out.next hb3)
      clear HK3
      clear hb3
      have HK5 := Lib.hid (show Kept w (w3.alloc (.cells #[.int .i64 0, .int .i64 0, .int .i64 0, .int .i64 0] 28)) [(w3.heap.size, 28, #[.int .i64 0, .int .i64 0, .int .i64 0, .int .i64 0]), (w.heap.size + 3, 30, #[.int .i64 q, .int .i64 a, .int .i64 k, .string cm, .int .i64 x, .int .i64 y, .int .i64 z]), (w.heap.size + 2, 28, #[.int .i64 pf, .int .i64 pl, .int .i64 pr, .int .i64 pt]), (w.heap.size + 1, 26, #[.int .i64 nm, .int .i64 f, .int .i64 l, .int .i64 r, .int .i64 tt, .int .i64 sz, .bool sd]), (w.heap.size, 24, #[.int .i64 op, .int .i64 fa, .int .i64 fb, .string name, .slice A n c])] from HK4.out.alloc 28 #[.int .i64 0, .int .i64 0, .int .i64 0, .int .i64 0])
      clear HK4
      have c_f_0 : (w3.alloc (.cells #[.int .i64 0, .int .i64 0, .int .i64 0, .int .i64 0] 28)).cell? ⟨w.heap.size, 0, none⟩ = some (.int .i64 op) := HK5.out.cell 4 rfl 0
      have c_f_1 : (w3.alloc (.cells #[.int .i64 0, .int .i64 0, .int .i64 0, .int .i64 0] 28)).cell? ⟨w.heap.size, 1, none⟩ = some (.int .i64 fa) := HK5.out.cell 4 rfl 1
      have c_f_2 : (w3.alloc (.cells #[.int .i64 0, .int .i64 0, .int .i64 0, .int .i64 0] 28)).cell? ⟨w.heap.size, 2, none⟩ = some (.int .i64 fb) := HK5.out.cell 4 rfl 2
      have c_f_3 : (w3.alloc (.cells #[.int .i64 0, .int .i64 0, .int .i64 0, .int .i64 0] 28)).cell? ⟨w.heap.size, 3, none⟩ = some (.string name) := HK5.out.cell 4 rfl 3
      have c_f_4 : (w3.alloc (.cells #[.int .i64 0, .int .i64 0, .int .i64 0, .int .i64 0] 28)).cell? ⟨w.heap.size, 4, none⟩ = some (.slice A n c) := HK5.out.cell 4 rfl 4
      go_wp2_with fail
      with_reducible refine (rRight_c HT.out _ HK5.out.bel HK5.out.size).mono ?_
      rw [hrr]
      rintro e w4 ⟨rfl, hb4⟩
      clear c_f_0 c_f_1 c_f_2 c_f_3 c_f_4
      have HK6 := Lib.hid (show Kept w w4 [(w3.heap.size, 28, #[.int .i64 0, .int .i64 0, .int .i64 0, .int .i64 0]), (w.heap.size + 3, 30, #[.int .i64 q, .int .i64 a, .int .i64 k, .string cm, .int .i64 x, .int .i64 y, .int .i64 z]), (w.heap.size + 2, 28, #[.int .i64 pf, .int .i64 pl, .int .i64 pr, .int .i64 pt]), (w.heap.size + 1, 26, #[.int .i64 nm, .int .i64 f, .int .i64 l, .int .i64 r, .int .i64 tt, .int .i64 sz, .bool sd]), (w.heap.size, 24, #[.int .i64 op, .int .i64 fa, .int .i64 fb, .string name, .slice A n c])] from HK5.out.next hb4)
      clear HK5
      clear hb4
      generalize w3.heap.size = gq at HK6 ⊢
      by_cases g0 : ¬ (pf ≤ q)
      · have d0 : decide (pf ≤ q) = false := by simpa using g0
        have HWI := Lib.hid (show withinF q a ⟨pf, pl, pr, pt⟩ = false from by unfold withinF; rw [decide_eq_false_iff_not]; simp only; omega)
        clear g0
        have c_e_0 : w4.cell? ⟨w.heap.size + 3, 0, none⟩ = some (.int .i64 q) := HK6.out.cell 1 rfl 0
        have c_e_1 : w4.cell? ⟨w.heap.size + 3, 1, none⟩ = some (.int .i64 a) := HK6.out.cell 1 rfl 1
        have c_e_2 : w4.cell? ⟨w.heap.size + 3, 2, none⟩ = some (.int .i64 k) := HK6.out.cell 1 rfl 2
        have c_e_3 : w4.cell? ⟨w.heap.size + 3, 3, none⟩ = some (.string cm) := HK6.out.cell 1 rfl 3
        have c_e_4 : w4.cell? ⟨w.heap.size + 3, 4, none⟩ = some (.int .i64 x) := HK6.out.cell 1 rfl 4
        have c_e_5 : w4.cell? ⟨w.heap.size + 3, 5, none⟩ = some (.int .i64 y) := HK6.out.cell 1 rfl 5
        have c_e_6 : w4.cell? ⟨w.heap.size + 3, 6, none⟩ = some (.int .i64 z) := HK6.out.cell 1 rfl 6
        have c_p_0 : w4.cell? ⟨w.heap.size + 2, 0, none⟩ = some (.int .i64 pf) := HK6.out.cell 2 rfl 0
        have c_p_1 : w4.cell? ⟨w.heap.size + 2, 1, none⟩ = some (.int .i64 pl) := HK6.out.cell 2 rfl 1
        have c_p_2 : w4.cell? ⟨w.heap.size + 2, 2, none⟩ = some (.int .i64 pr) := HK6.out.cell 2 rfl 2
        have c_p_3 : w4.cell? ⟨w.heap.size + 2, 3, none⟩ = some (.int .i64 pt) := HK6.out.cell 2 rfl 3
        have c_q_0 : w4.cell? ⟨gq, 0, none⟩ = some (.int .i64 0) := HK6.out.cell 0 rfl 0
        have c_q_1 : w4.cell? ⟨gq, 1, none⟩ = some (.int .i64 0) := HK6.out.cell 0 rfl 1
        have c_q_2 : w4.cell? ⟨gq, 2, none⟩ = some (.int .i64 0) := HK6.out.cell 0 rfl 2
        have c_q_3 : w4.cell? ⟨gq, 3, none⟩ = some (.int .i64 0) := HK6.out.cell 0 rfl 3
        go_wp2_with fail
        clear c_e_0 c_e_1 c_e_2 c_e_3 c_e_4 c_e_5 c_e_6 c_p_0 c_p_1 c_p_2 c_p_3 c_q_0 c_q_1 c_q_2 c_q_3
        refine wp_region_noPanic ?_
        refine wp_region_held_drew (S := fun W' => Kept w W' [(gq, 28, #[.int .i64 0, .int .i64 0, .int .i64 0, .int .i64 0]), (w.heap.size + 3, 30, #[.int .i64 q, .int .i64 a, .int .i64 k, .string cm, .int .i64 x, .int .i64 y, .int .i64 z]), (w.heap.size + 2, 28, #[.int .i64 pf, .int .i64 pl, .int .i64 pr, .int .i64 pt]), (w.heap.size + 1, 26, #[.int .i64 nm, .int .i64 f, .int .i64 l, .int .i64 r, .int .i64 tt, .int .i64 sz, .bool sd]), (w.heap.size, 24, #[.int .i64 op, .int .i64 fa, .int .i64 fb, .string name, .slice A n c])]) (by kernel_rfl) HK6.out.drew (fun hHeld => ?_)
        refine takeH 0 (v := ?v0u1) rfl (by kernel_rfl) (by kernel_rfl) (by kernel_rfl) rfl (fun _ _ _ h => h) (Or.inl ⟨by rfl, ?y0u1⟩) hHeld ?r0u1
        case y0u1 => (intro W hSW; (try dsimp only at hSW); have q0 := hSW.cell 3 rfl 0; have q1 := hSW.cell 3 rfl 1; have q2 := hSW.cell 3 rfl 2; have q3 := hSW.cell 3 rfl 3; have q4 := hSW.cell 3 rfl 4; have q5 := hSW.cell 3 rfl 5; have q6 := hSW.cell 3 rfl 6; simp only [List.getElem?_toArray, List.getElem?_cons_zero, List.getElem?_cons_succ] at q0 q1 q2 q3 q4 q5 q6; go_simp; try with_reducible rfl)
        simp only [Act.put, List.setIfInBounds_toArray, List.set_cons_zero, List.set_cons_succ]
        refine takeH 1 (v := ?v1u2) rfl (by kernel_rfl) (by kernel_rfl) (by kernel_rfl) rfl (fun _ _ _ h => h) (Or.inl ⟨by rfl, ?y1u2⟩) hHeld ?r1u2
        case y1u2 => (intro W hSW; (try dsimp only at hSW); have q0 := hSW.cell 2 rfl 0; have q1 := hSW.cell 2 rfl 1; have q2 := hSW.cell 2 rfl 2; have q3 := hSW.cell 2 rfl 3; simp only [List.getElem?_toArray, List.getElem?_cons_zero, List.getElem?_cons_succ] at q0 q1 q2 q3; go_simp; try with_reducible rfl)
        simp only [Act.put, List.setIfInBounds_toArray, List.set_cons_zero, List.set_cons_succ]
        refine takeH 3 (v := ?v3u3) rfl (by kernel_rfl) (by kernel_rfl) (by kernel_rfl) rfl (fun _ _ _ h => h) (Or.inl ⟨by rfl, ?y3u3⟩) hHeld ?r3u3
        case y3u3 => (intro W hSW; (try dsimp only at hSW); have q0 := hSW.cell 3 rfl 0; have q1 := hSW.cell 3 rfl 1; have q2 := hSW.cell 3 rfl 2; have q3 := hSW.cell 3 rfl 3; have q4 := hSW.cell 3 rfl 4; have q5 := hSW.cell 3 rfl 5; have q6 := hSW.cell 3 rfl 6; simp only [List.getElem?_toArray, List.getElem?_cons_zero, List.getElem?_cons_succ] at q0 q1 q2 q3 q4 q5 q6; go_simp; try with_reducible rfl)
        simp only [Act.put, List.setIfInBounds_toArray, List.set_cons_zero, List.set_cons_succ]
        refine takeH 4 (v := ?v4u4) rfl (by kernel_rfl) (by kernel_rfl) (by kernel_rfl) rfl (fun _ _ _ h => h) (Or.inl ⟨by rfl, ?y4u4⟩) hHeld ?r4u4
        case y4u4 => (intro W hSW; (try dsimp only at hSW); have q0 := hSW.cell 2 rfl 0; have q1 := hSW.cell 2 rfl 1; have q2 := hSW.cell 2 rfl 2; have q3 := hSW.cell 2 rfl 3; simp only [List.getElem?_toArray, List.getElem?_cons_zero, List.getElem?_cons_succ] at q0 q1 q2 q3; go_simp; try with_reducible rfl)
        simp only [Act.put, List.setIfInBounds_toArray, List.set_cons_zero, List.set_cons_succ]
        refine wpAnyH_ready (rs := [2]) (by kernel_rfl) (by simp) ?_
        refine AllReadyH.cons rfl (fun K hK => ?_) AllReadyH.nil
        go_simp
        with_reducible refine (Meets_c nm f l r tt sz sd ⟨pf, pl, pr, pt⟩ f1 l2 _).mono ?_
        rintro e wn ⟨rfl, hbn⟩
        have hkn := hHeld.next hbn
        clear hbn
        refine hK.out _ _ hkn (fun hHeld => ?_)
        clear hK K
        try simp only [Act.put, List.setIfInBounds_toArray, List.set_cons_zero, List.set_cons_succ]
        refine wpAnyH_ready (rs := [5]) (by kernel_rfl) (by simp) ?_
        refine AllReadyH.cons rfl (fun K hK => ?_) AllReadyH.nil
        go_simp
        with_reducible refine (rMeets_c nm f l r tt sz sd ⟨pf, pl, pr, pt⟩ _).mono ?_
        rintro e wn ⟨rfl, hbn⟩
        have hkn := hHeld.next hbn
        clear hbn
        refine hK.out _ _ hkn (fun hHeld => ?_)
        clear hK K
        try simp only [Act.put, List.setIfInBounds_toArray, List.set_cons_zero, List.set_cons_succ]
        generalize meetsF f l r tt ⟨pf, pl, pr, pt⟩ = mm
        refine takeH 6 (v := ?v6u5) rfl (by kernel_rfl) (by kernel_rfl) (by kernel_rfl) rfl (fun _ _ _ h => h) (Or.inl ⟨by rfl, ?y6u5⟩) hHeld ?r6u5
        case y6u5 => (intro W hSW; (try dsimp only at hSW); go_simp; try with_reducible rfl)
        simp only [Act.put, List.setIfInBounds_toArray, List.set_cons_zero, List.set_cons_succ]
        refine takeH 7 (v := ?v7u6) rfl (by kernel_rfl) (by kernel_rfl) (by kernel_rfl) rfl (fun _ _ _ h => h) (Or.inl ⟨by rfl, ?y7u6⟩) hHeld ?r7u6
        case y7u6 => (intro W hSW; (try dsimp only at hSW); go_simp; try with_reducible rfl)
        simp only [Act.put, List.setIfInBounds_toArray, List.set_cons_zero, List.set_cons_succ]
        refine takeH 8 (v := ?v8u7) rfl (by kernel_rfl) (by kernel_rfl) (by kernel_rfl) rfl (fun _ _ _ h => h) (Or.inl ⟨by rfl, ?y8u7⟩) hHeld ?r8u7
        case y8u7 => (intro W hSW; (try dsimp only at hSW); have q0 := hSW.cell 1 rfl 0; have q1 := hSW.cell 1 rfl 1; have q2 := hSW.cell 1 rfl 2; have q3 := hSW.cell 1 rfl 3; have q4 := hSW.cell 1 rfl 4; have q5 := hSW.cell 1 rfl 5; have q6 := hSW.cell 1 rfl 6; simp only [List.getElem?_toArray, List.getElem?_cons_zero, List.getElem?_cons_succ] at q0 q1 q2 q3 q4 q5 q6; go_simp; try with_reducible rfl)
        simp only [Act.put, List.setIfInBounds_toArray, List.set_cons_zero, List.set_cons_succ]
        refine takeH 9 (v := ?v9u8) rfl (by kernel_rfl) (by kernel_rfl) (by kernel_rfl) rfl (fun _ _ _ h => h) (Or.inl ⟨by rfl, ?y9u8⟩) hHeld ?r9u8
        case y9u8 => (intro W hSW; (try dsimp only at hSW); have q0 := hSW.cell 2 rfl 0; have q1 := hSW.cell 2 rfl 1; have q2 := hSW.cell 2 rfl 2; have q3 := hSW.cell 2 rfl 3; simp only [List.getElem?_toArray, List.getElem?_cons_zero, List.getElem?_cons_succ] at q0 q1 q2 q3; go_simp; try with_reducible rfl)
        simp only [Act.put, List.setIfInBounds_toArray, List.set_cons_zero, List.set_cons_succ]
        refine takeH 11 (v := ?v11u9) rfl (by kernel_rfl) (by kernel_rfl) (by kernel_rfl) rfl (fun _ _ _ h => h) (Or.inl ⟨by rfl, ?y11u9⟩) hHeld ?r11u9
        case y11u9 => (intro W hSW; (try dsimp only at hSW); go_simp; try with_reducible rfl)
        simp only [Act.put, List.setIfInBounds_toArray, List.set_cons_zero, List.set_cons_succ]
        refine wpAnyH_ready (rs := [10]) (by kernel_rfl) (by simp) ?_
        refine AllReadyH.cons rfl (fun K hK => ?_) AllReadyH.nil
        go_simp
        with_reducible refine (Within_c q a k cm x y z ⟨pf, pl, pr, pt⟩ _).mono ?_
        rw [HWI.out]
        rintro e wn ⟨rfl, hbn⟩
        have hkn := hHeld.next hbn
        clear hbn
        refine hK.out _ _ hkn (fun hHeld => ?_)
        clear hK K
        try simp only [Act.put, List.setIfInBounds_toArray, List.set_cons_zero, List.set_cons_succ]
        refine takeH 12 (v := ?v12u10) rfl (by kernel_rfl) (by kernel_rfl) (by kernel_rfl) rfl (fun _ _ _ h => h) (Or.inl ⟨by rfl, ?y12u10⟩) hHeld ?r12u10
        case y12u10 => (intro W hSW; (try dsimp only at hSW); go_simp; try with_reducible rfl)
        simp only [Act.put, List.setIfInBounds_toArray, List.set_cons_zero, List.set_cons_succ]
        refine takeH 13 (v := ?v13u11) rfl (by kernel_rfl) (by kernel_rfl) (by kernel_rfl) rfl (fun _ _ _ h => h) (Or.inl ⟨by rfl, ?y13u11⟩) hHeld ?r13u11
        case y13u11 => (intro W hSW; (try dsimp only at hSW); go_simp; try with_reducible rfl)
        simp only [Act.put, List.setIfInBounds_toArray, List.set_cons_zero, List.set_cons_succ]
        refine takeH 14 (v := ?v14u12) rfl (by kernel_rfl) (by kernel_rfl) (by kernel_rfl) rfl (fun _ _ _ h => h) (Or.inl ⟨by rfl, ?y14u12⟩) hHeld ?r14u12
        case y14u12 => (intro W hSW; (try dsimp only at hSW); go_simp; try with_reducible rfl)
        simp only [Act.put, List.setIfInBounds_toArray, List.set_cons_zero, List.set_cons_succ]
        refine wpAnyH_done (by kernel_rfl) ?_ _
        refine NoPanic.normal ?_
        go_wp2
        go_ret
        exact ⟨rfl, hHeld.bel⟩
      replace g0 := Decidable.not_not.1 g0
      by_cases g1 : ¬ (q ≤ pl)
      · have d0 : decide (pf ≤ q) = true := by simpa using g0
        have d1 : decide (q ≤ pl) = false := by simpa using g1
        have HWI := Lib.hid (show withinF q a ⟨pf, pl, pr, pt⟩ = false from by unfold withinF; rw [decide_eq_false_iff_not]; simp only; omega)
        clear g0 g1
        have c_e_0 : w4.cell? ⟨w.heap.size + 3, 0, none⟩ = some (.int .i64 q) := HK6.out.cell 1 rfl 0
        have c_e_1 : w4.cell? ⟨w.heap.size + 3, 1, none⟩ = some (.int .i64 a) := HK6.out.cell 1 rfl 1
        have c_e_2 : w4.cell? ⟨w.heap.size + 3, 2, none⟩ = some (.int .i64 k) := HK6.out.cell 1 rfl 2
        have c_e_3 : w4.cell? ⟨w.heap.size + 3, 3, none⟩ = some (.string cm) := HK6.out.cell 1 rfl 3
        have c_e_4 : w4.cell? ⟨w.heap.size + 3, 4, none⟩ = some (.int .i64 x) := HK6.out.cell 1 rfl 4
        have c_e_5 : w4.cell? ⟨w.heap.size + 3, 5, none⟩ = some (.int .i64 y) := HK6.out.cell 1 rfl 5
        have c_e_6 : w4.cell? ⟨w.heap.size + 3, 6, none⟩ = some (.int .i64 z) := HK6.out.cell 1 rfl 6
        have c_p_0 : w4.cell? ⟨w.heap.size + 2, 0, none⟩ = some (.int .i64 pf) := HK6.out.cell 2 rfl 0
        have c_p_1 : w4.cell? ⟨w.heap.size + 2, 1, none⟩ = some (.int .i64 pl) := HK6.out.cell 2 rfl 1
        have c_p_2 : w4.cell? ⟨w.heap.size + 2, 2, none⟩ = some (.int .i64 pr) := HK6.out.cell 2 rfl 2
        have c_p_3 : w4.cell? ⟨w.heap.size + 2, 3, none⟩ = some (.int .i64 pt) := HK6.out.cell 2 rfl 3
        have c_q_0 : w4.cell? ⟨gq, 0, none⟩ = some (.int .i64 0) := HK6.out.cell 0 rfl 0
        have c_q_1 : w4.cell? ⟨gq, 1, none⟩ = some (.int .i64 0) := HK6.out.cell 0 rfl 1
        have c_q_2 : w4.cell? ⟨gq, 2, none⟩ = some (.int .i64 0) := HK6.out.cell 0 rfl 2
        have c_q_3 : w4.cell? ⟨gq, 3, none⟩ = some (.int .i64 0) := HK6.out.cell 0 rfl 3
        go_wp2_with fail
        clear c_e_0 c_e_1 c_e_2 c_e_3 c_e_4 c_e_5 c_e_6 c_p_0 c_p_1 c_p_2 c_p_3 c_q_0 c_q_1 c_q_2 c_q_3
        refine wp_region_noPanic ?_
        refine wp_region_held_drew (S := fun W' => Kept w W' [(gq, 28, #[.int .i64 0, .int .i64 0, .int .i64 0, .int .i64 0]), (w.heap.size + 3, 30, #[.int .i64 q, .int .i64 a, .int .i64 k, .string cm, .int .i64 x, .int .i64 y, .int .i64 z]), (w.heap.size + 2, 28, #[.int .i64 pf, .int .i64 pl, .int .i64 pr, .int .i64 pt]), (w.heap.size + 1, 26, #[.int .i64 nm, .int .i64 f, .int .i64 l, .int .i64 r, .int .i64 tt, .int .i64 sz, .bool sd]), (w.heap.size, 24, #[.int .i64 op, .int .i64 fa, .int .i64 fb, .string name, .slice A n c])]) (by kernel_rfl) HK6.out.drew (fun hHeld => ?_)
        refine takeH 0 (v := ?v0u13) rfl (by kernel_rfl) (by kernel_rfl) (by kernel_rfl) rfl (fun _ _ _ h => h) (Or.inl ⟨by rfl, ?y0u13⟩) hHeld ?r0u13
        case y0u13 => (intro W hSW; (try dsimp only at hSW); have q0 := hSW.cell 3 rfl 0; have q1 := hSW.cell 3 rfl 1; have q2 := hSW.cell 3 rfl 2; have q3 := hSW.cell 3 rfl 3; have q4 := hSW.cell 3 rfl 4; have q5 := hSW.cell 3 rfl 5; have q6 := hSW.cell 3 rfl 6; simp only [List.getElem?_toArray, List.getElem?_cons_zero, List.getElem?_cons_succ] at q0 q1 q2 q3 q4 q5 q6; go_simp; try with_reducible rfl)
        simp only [Act.put, List.setIfInBounds_toArray, List.set_cons_zero, List.set_cons_succ]
        refine takeH 1 (v := ?v1u14) rfl (by kernel_rfl) (by kernel_rfl) (by kernel_rfl) rfl (fun _ _ _ h => h) (Or.inl ⟨by rfl, ?y1u14⟩) hHeld ?r1u14
        case y1u14 => (intro W hSW; (try dsimp only at hSW); have q0 := hSW.cell 2 rfl 0; have q1 := hSW.cell 2 rfl 1; have q2 := hSW.cell 2 rfl 2; have q3 := hSW.cell 2 rfl 3; simp only [List.getElem?_toArray, List.getElem?_cons_zero, List.getElem?_cons_succ] at q0 q1 q2 q3; go_simp; try with_reducible rfl)
        simp only [Act.put, List.setIfInBounds_toArray, List.set_cons_zero, List.set_cons_succ]
        refine takeH 3 (v := ?v3u15) rfl (by kernel_rfl) (by kernel_rfl) (by kernel_rfl) rfl (fun _ _ _ h => h) (Or.inl ⟨by rfl, ?y3u15⟩) hHeld ?r3u15
        case y3u15 => (intro W hSW; (try dsimp only at hSW); have q0 := hSW.cell 3 rfl 0; have q1 := hSW.cell 3 rfl 1; have q2 := hSW.cell 3 rfl 2; have q3 := hSW.cell 3 rfl 3; have q4 := hSW.cell 3 rfl 4; have q5 := hSW.cell 3 rfl 5; have q6 := hSW.cell 3 rfl 6; simp only [List.getElem?_toArray, List.getElem?_cons_zero, List.getElem?_cons_succ] at q0 q1 q2 q3 q4 q5 q6; go_simp; try with_reducible rfl)
        simp only [Act.put, List.setIfInBounds_toArray, List.set_cons_zero, List.set_cons_succ]
        refine takeH 4 (v := ?v4u16) rfl (by kernel_rfl) (by kernel_rfl) (by kernel_rfl) rfl (fun _ _ _ h => h) (Or.inl ⟨by rfl, ?y4u16⟩) hHeld ?r4u16
        case y4u16 => (intro W hSW; (try dsimp only at hSW); have q0 := hSW.cell 2 rfl 0; have q1 := hSW.cell 2 rfl 1; have q2 := hSW.cell 2 rfl 2; have q3 := hSW.cell 2 rfl 3; simp only [List.getElem?_toArray, List.getElem?_cons_zero, List.getElem?_cons_succ] at q0 q1 q2 q3; go_simp; try with_reducible rfl)
        simp only [Act.put, List.setIfInBounds_toArray, List.set_cons_zero, List.set_cons_succ]
        refine wpAnyH_ready (rs := [2]) (by kernel_rfl) (by simp) ?_
        refine AllReadyH.cons rfl (fun K hK => ?_) AllReadyH.nil
        go_simp
        with_reducible refine (Meets_c nm f l r tt sz sd ⟨pf, pl, pr, pt⟩ f1 l2 _).mono ?_
        rintro e wn ⟨rfl, hbn⟩
        have hkn := hHeld.next hbn
        clear hbn
        refine hK.out _ _ hkn (fun hHeld => ?_)
        clear hK K
        try simp only [Act.put, List.setIfInBounds_toArray, List.set_cons_zero, List.set_cons_succ]
        refine wpAnyH_ready (rs := [5]) (by kernel_rfl) (by simp) ?_
        refine AllReadyH.cons rfl (fun K hK => ?_) AllReadyH.nil
        go_simp
        with_reducible refine (rMeets_c nm f l r tt sz sd ⟨pf, pl, pr, pt⟩ _).mono ?_
        rintro e wn ⟨rfl, hbn⟩
        have hkn := hHeld.next hbn
        clear hbn
        refine hK.out _ _ hkn (fun hHeld => ?_)
        clear hK K
        try simp only [Act.put, List.setIfInBounds_toArray, List.set_cons_zero, List.set_cons_succ]
        generalize meetsF f l r tt ⟨pf, pl, pr, pt⟩ = mm
        refine takeH 6 (v := ?v6u17) rfl (by kernel_rfl) (by kernel_rfl) (by kernel_rfl) rfl (fun _ _ _ h => h) (Or.inl ⟨by rfl, ?y6u17⟩) hHeld ?r6u17
        case y6u17 => (intro W hSW; (try dsimp only at hSW); go_simp; try with_reducible rfl)
        simp only [Act.put, List.setIfInBounds_toArray, List.set_cons_zero, List.set_cons_succ]
        refine takeH 7 (v := ?v7u18) rfl (by kernel_rfl) (by kernel_rfl) (by kernel_rfl) rfl (fun _ _ _ h => h) (Or.inl ⟨by rfl, ?y7u18⟩) hHeld ?r7u18
        case y7u18 => (intro W hSW; (try dsimp only at hSW); go_simp; try with_reducible rfl)
        simp only [Act.put, List.setIfInBounds_toArray, List.set_cons_zero, List.set_cons_succ]
        refine takeH 8 (v := ?v8u19) rfl (by kernel_rfl) (by kernel_rfl) (by kernel_rfl) rfl (fun _ _ _ h => h) (Or.inl ⟨by rfl, ?y8u19⟩) hHeld ?r8u19
        case y8u19 => (intro W hSW; (try dsimp only at hSW); have q0 := hSW.cell 1 rfl 0; have q1 := hSW.cell 1 rfl 1; have q2 := hSW.cell 1 rfl 2; have q3 := hSW.cell 1 rfl 3; have q4 := hSW.cell 1 rfl 4; have q5 := hSW.cell 1 rfl 5; have q6 := hSW.cell 1 rfl 6; simp only [List.getElem?_toArray, List.getElem?_cons_zero, List.getElem?_cons_succ] at q0 q1 q2 q3 q4 q5 q6; go_simp; try with_reducible rfl)
        simp only [Act.put, List.setIfInBounds_toArray, List.set_cons_zero, List.set_cons_succ]
        refine takeH 9 (v := ?v9u20) rfl (by kernel_rfl) (by kernel_rfl) (by kernel_rfl) rfl (fun _ _ _ h => h) (Or.inl ⟨by rfl, ?y9u20⟩) hHeld ?r9u20
        case y9u20 => (intro W hSW; (try dsimp only at hSW); have q0 := hSW.cell 2 rfl 0; have q1 := hSW.cell 2 rfl 1; have q2 := hSW.cell 2 rfl 2; have q3 := hSW.cell 2 rfl 3; simp only [List.getElem?_toArray, List.getElem?_cons_zero, List.getElem?_cons_succ] at q0 q1 q2 q3; go_simp; try with_reducible rfl)
        simp only [Act.put, List.setIfInBounds_toArray, List.set_cons_zero, List.set_cons_succ]
        refine takeH 11 (v := ?v11u21) rfl (by kernel_rfl) (by kernel_rfl) (by kernel_rfl) rfl (fun _ _ _ h => h) (Or.inl ⟨by rfl, ?y11u21⟩) hHeld ?r11u21
        case y11u21 => (intro W hSW; (try dsimp only at hSW); go_simp; try with_reducible rfl)
        simp only [Act.put, List.setIfInBounds_toArray, List.set_cons_zero, List.set_cons_succ]
        refine wpAnyH_ready (rs := [10]) (by kernel_rfl) (by simp) ?_
        refine AllReadyH.cons rfl (fun K hK => ?_) AllReadyH.nil
        go_simp
        with_reducible refine (Within_c q a k cm x y z ⟨pf, pl, pr, pt⟩ _).mono ?_
        rw [HWI.out]
        rintro e wn ⟨rfl, hbn⟩
        have hkn := hHeld.next hbn
        clear hbn
        refine hK.out _ _ hkn (fun hHeld => ?_)
        clear hK K
        try simp only [Act.put, List.setIfInBounds_toArray, List.set_cons_zero, List.set_cons_succ]
        refine takeH 12 (v := ?v12u22) rfl (by kernel_rfl) (by kernel_rfl) (by kernel_rfl) rfl (fun _ _ _ h => h) (Or.inl ⟨by rfl, ?y12u22⟩) hHeld ?r12u22
        case y12u22 => (intro W hSW; (try dsimp only at hSW); go_simp; try with_reducible rfl)
        simp only [Act.put, List.setIfInBounds_toArray, List.set_cons_zero, List.set_cons_succ]
        refine takeH 13 (v := ?v13u23) rfl (by kernel_rfl) (by kernel_rfl) (by kernel_rfl) rfl (fun _ _ _ h => h) (Or.inl ⟨by rfl, ?y13u23⟩) hHeld ?r13u23
        case y13u23 => (intro W hSW; (try dsimp only at hSW); go_simp; try with_reducible rfl)
        simp only [Act.put, List.setIfInBounds_toArray, List.set_cons_zero, List.set_cons_succ]
        refine takeH 14 (v := ?v14u24) rfl (by kernel_rfl) (by kernel_rfl) (by kernel_rfl) rfl (fun _ _ _ h => h) (Or.inl ⟨by rfl, ?y14u24⟩) hHeld ?r14u24
        case y14u24 => (intro W hSW; (try dsimp only at hSW); go_simp; try with_reducible rfl)
        simp only [Act.put, List.setIfInBounds_toArray, List.set_cons_zero, List.set_cons_succ]
        refine wpAnyH_done (by kernel_rfl) ?_ _
        refine NoPanic.normal ?_
        go_wp2
        go_ret
        exact ⟨rfl, hHeld.bel⟩
      replace g1 := Decidable.not_not.1 g1
      by_cases g2 : ¬ (pr ≤ a)
      · have d0 : decide (pf ≤ q) = true := by simpa using g0
        have d1 : decide (q ≤ pl) = true := by simpa using g1
        have d2 : decide (pr ≤ a) = false := by simpa using g2
        have HWI := Lib.hid (show withinF q a ⟨pf, pl, pr, pt⟩ = false from by unfold withinF; rw [decide_eq_false_iff_not]; simp only; omega)
        clear g0 g1 g2
        have c_e_0 : w4.cell? ⟨w.heap.size + 3, 0, none⟩ = some (.int .i64 q) := HK6.out.cell 1 rfl 0
        have c_e_1 : w4.cell? ⟨w.heap.size + 3, 1, none⟩ = some (.int .i64 a) := HK6.out.cell 1 rfl 1
        have c_e_2 : w4.cell? ⟨w.heap.size + 3, 2, none⟩ = some (.int .i64 k) := HK6.out.cell 1 rfl 2
        have c_e_3 : w4.cell? ⟨w.heap.size + 3, 3, none⟩ = some (.string cm) := HK6.out.cell 1 rfl 3
        have c_e_4 : w4.cell? ⟨w.heap.size + 3, 4, none⟩ = some (.int .i64 x) := HK6.out.cell 1 rfl 4
        have c_e_5 : w4.cell? ⟨w.heap.size + 3, 5, none⟩ = some (.int .i64 y) := HK6.out.cell 1 rfl 5
        have c_e_6 : w4.cell? ⟨w.heap.size + 3, 6, none⟩ = some (.int .i64 z) := HK6.out.cell 1 rfl 6
        have c_p_0 : w4.cell? ⟨w.heap.size + 2, 0, none⟩ = some (.int .i64 pf) := HK6.out.cell 2 rfl 0
        have c_p_1 : w4.cell? ⟨w.heap.size + 2, 1, none⟩ = some (.int .i64 pl) := HK6.out.cell 2 rfl 1
        have c_p_2 : w4.cell? ⟨w.heap.size + 2, 2, none⟩ = some (.int .i64 pr) := HK6.out.cell 2 rfl 2
        have c_p_3 : w4.cell? ⟨w.heap.size + 2, 3, none⟩ = some (.int .i64 pt) := HK6.out.cell 2 rfl 3
        have c_q_0 : w4.cell? ⟨gq, 0, none⟩ = some (.int .i64 0) := HK6.out.cell 0 rfl 0
        have c_q_1 : w4.cell? ⟨gq, 1, none⟩ = some (.int .i64 0) := HK6.out.cell 0 rfl 1
        have c_q_2 : w4.cell? ⟨gq, 2, none⟩ = some (.int .i64 0) := HK6.out.cell 0 rfl 2
        have c_q_3 : w4.cell? ⟨gq, 3, none⟩ = some (.int .i64 0) := HK6.out.cell 0 rfl 3
        go_wp2_with fail
        clear c_e_0 c_e_1 c_e_2 c_e_3 c_e_4 c_e_5 c_e_6 c_p_0 c_p_1 c_p_2 c_p_3 c_q_0 c_q_1 c_q_2 c_q_3
        refine wp_region_noPanic ?_
        refine wp_region_held_drew (S := fun W' => Kept w W' [(gq, 28, #[.int .i64 0, .int .i64 0, .int .i64 0, .int .i64 0]), (w.heap.size + 3, 30, #[.int .i64 q, .int .i64 a, .int .i64 k, .string cm, .int .i64 x, .int .i64 y, .int .i64 z]), (w.heap.size + 2, 28, #[.int .i64 pf, .int .i64 pl, .int .i64 pr, .int .i64 pt]), (w.heap.size + 1, 26, #[.int .i64 nm, .int .i64 f, .int .i64 l, .int .i64 r, .int .i64 tt, .int .i64 sz, .bool sd]), (w.heap.size, 24, #[.int .i64 op, .int .i64 fa, .int .i64 fb, .string name, .slice A n c])]) (by kernel_rfl) HK6.out.drew (fun hHeld => ?_)
        refine takeH 0 (v := ?v0u25) rfl (by kernel_rfl) (by kernel_rfl) (by kernel_rfl) rfl (fun _ _ _ h => h) (Or.inl ⟨by rfl, ?y0u25⟩) hHeld ?r0u25
        case y0u25 => (intro W hSW; (try dsimp only at hSW); have q0 := hSW.cell 3 rfl 0; have q1 := hSW.cell 3 rfl 1; have q2 := hSW.cell 3 rfl 2; have q3 := hSW.cell 3 rfl 3; have q4 := hSW.cell 3 rfl 4; have q5 := hSW.cell 3 rfl 5; have q6 := hSW.cell 3 rfl 6; simp only [List.getElem?_toArray, List.getElem?_cons_zero, List.getElem?_cons_succ] at q0 q1 q2 q3 q4 q5 q6; go_simp; try with_reducible rfl)
        simp only [Act.put, List.setIfInBounds_toArray, List.set_cons_zero, List.set_cons_succ]
        refine takeH 1 (v := ?v1u26) rfl (by kernel_rfl) (by kernel_rfl) (by kernel_rfl) rfl (fun _ _ _ h => h) (Or.inl ⟨by rfl, ?y1u26⟩) hHeld ?r1u26
        case y1u26 => (intro W hSW; (try dsimp only at hSW); have q0 := hSW.cell 2 rfl 0; have q1 := hSW.cell 2 rfl 1; have q2 := hSW.cell 2 rfl 2; have q3 := hSW.cell 2 rfl 3; simp only [List.getElem?_toArray, List.getElem?_cons_zero, List.getElem?_cons_succ] at q0 q1 q2 q3; go_simp; try with_reducible rfl)
        simp only [Act.put, List.setIfInBounds_toArray, List.set_cons_zero, List.set_cons_succ]
        refine takeH 3 (v := ?v3u27) rfl (by kernel_rfl) (by kernel_rfl) (by kernel_rfl) rfl (fun _ _ _ h => h) (Or.inl ⟨by rfl, ?y3u27⟩) hHeld ?r3u27
        case y3u27 => (intro W hSW; (try dsimp only at hSW); have q0 := hSW.cell 3 rfl 0; have q1 := hSW.cell 3 rfl 1; have q2 := hSW.cell 3 rfl 2; have q3 := hSW.cell 3 rfl 3; have q4 := hSW.cell 3 rfl 4; have q5 := hSW.cell 3 rfl 5; have q6 := hSW.cell 3 rfl 6; simp only [List.getElem?_toArray, List.getElem?_cons_zero, List.getElem?_cons_succ] at q0 q1 q2 q3 q4 q5 q6; go_simp; try with_reducible rfl)
        simp only [Act.put, List.setIfInBounds_toArray, List.set_cons_zero, List.set_cons_succ]
        refine takeH 4 (v := ?v4u28) rfl (by kernel_rfl) (by kernel_rfl) (by kernel_rfl) rfl (fun _ _ _ h => h) (Or.inl ⟨by rfl, ?y4u28⟩) hHeld ?r4u28
        case y4u28 => (intro W hSW; (try dsimp only at hSW); have q0 := hSW.cell 2 rfl 0; have q1 := hSW.cell 2 rfl 1; have q2 := hSW.cell 2 rfl 2; have q3 := hSW.cell 2 rfl 3; simp only [List.getElem?_toArray, List.getElem?_cons_zero, List.getElem?_cons_succ] at q0 q1 q2 q3; go_simp; try with_reducible rfl)
        simp only [Act.put, List.setIfInBounds_toArray, List.set_cons_zero, List.set_cons_succ]
        refine wpAnyH_ready (rs := [2]) (by kernel_rfl) (by simp) ?_
        refine AllReadyH.cons rfl (fun K hK => ?_) AllReadyH.nil
        go_simp
        with_reducible refine (Meets_c nm f l r tt sz sd ⟨pf, pl, pr, pt⟩ f1 l2 _).mono ?_
        rintro e wn ⟨rfl, hbn⟩
        have hkn := hHeld.next hbn
        clear hbn
        refine hK.out _ _ hkn (fun hHeld => ?_)
        clear hK K
        try simp only [Act.put, List.setIfInBounds_toArray, List.set_cons_zero, List.set_cons_succ]
        refine wpAnyH_ready (rs := [5]) (by kernel_rfl) (by simp) ?_
        refine AllReadyH.cons rfl (fun K hK => ?_) AllReadyH.nil
        go_simp
        with_reducible refine (rMeets_c nm f l r tt sz sd ⟨pf, pl, pr, pt⟩ _).mono ?_
        rintro e wn ⟨rfl, hbn⟩
        have hkn := hHeld.next hbn
        clear hbn
        refine hK.out _ _ hkn (fun hHeld => ?_)
        clear hK K
        try simp only [Act.put, List.setIfInBounds_toArray, List.set_cons_zero, List.set_cons_succ]
        generalize meetsF f l r tt ⟨pf, pl, pr, pt⟩ = mm
        refine takeH 6 (v := ?v6u29) rfl (by kernel_rfl) (by kernel_rfl) (by kernel_rfl) rfl (fun _ _ _ h => h) (Or.inl ⟨by rfl, ?y6u29⟩) hHeld ?r6u29
        case y6u29 => (intro W hSW; (try dsimp only at hSW); go_simp; try with_reducible rfl)
        simp only [Act.put, List.setIfInBounds_toArray, List.set_cons_zero, List.set_cons_succ]
        refine takeH 7 (v := ?v7u30) rfl (by kernel_rfl) (by kernel_rfl) (by kernel_rfl) rfl (fun _ _ _ h => h) (Or.inl ⟨by rfl, ?y7u30⟩) hHeld ?r7u30
        case y7u30 => (intro W hSW; (try dsimp only at hSW); go_simp; try with_reducible rfl)
        simp only [Act.put, List.setIfInBounds_toArray, List.set_cons_zero, List.set_cons_succ]
        refine takeH 8 (v := ?v8u31) rfl (by kernel_rfl) (by kernel_rfl) (by kernel_rfl) rfl (fun _ _ _ h => h) (Or.inl ⟨by rfl, ?y8u31⟩) hHeld ?r8u31
        case y8u31 => (intro W hSW; (try dsimp only at hSW); have q0 := hSW.cell 1 rfl 0; have q1 := hSW.cell 1 rfl 1; have q2 := hSW.cell 1 rfl 2; have q3 := hSW.cell 1 rfl 3; have q4 := hSW.cell 1 rfl 4; have q5 := hSW.cell 1 rfl 5; have q6 := hSW.cell 1 rfl 6; simp only [List.getElem?_toArray, List.getElem?_cons_zero, List.getElem?_cons_succ] at q0 q1 q2 q3 q4 q5 q6; go_simp; try with_reducible rfl)
        simp only [Act.put, List.setIfInBounds_toArray, List.set_cons_zero, List.set_cons_succ]
        refine takeH 9 (v := ?v9u32) rfl (by kernel_rfl) (by kernel_rfl) (by kernel_rfl) rfl (fun _ _ _ h => h) (Or.inl ⟨by rfl, ?y9u32⟩) hHeld ?r9u32
        case y9u32 => (intro W hSW; (try dsimp only at hSW); have q0 := hSW.cell 2 rfl 0; have q1 := hSW.cell 2 rfl 1; have q2 := hSW.cell 2 rfl 2; have q3 := hSW.cell 2 rfl 3; simp only [List.getElem?_toArray, List.getElem?_cons_zero, List.getElem?_cons_succ] at q0 q1 q2 q3; go_simp; try with_reducible rfl)
        simp only [Act.put, List.setIfInBounds_toArray, List.set_cons_zero, List.set_cons_succ]
        refine takeH 11 (v := ?v11u33) rfl (by kernel_rfl) (by kernel_rfl) (by kernel_rfl) rfl (fun _ _ _ h => h) (Or.inl ⟨by rfl, ?y11u33⟩) hHeld ?r11u33
        case y11u33 => (intro W hSW; (try dsimp only at hSW); go_simp; try with_reducible rfl)
        simp only [Act.put, List.setIfInBounds_toArray, List.set_cons_zero, List.set_cons_succ]
        refine wpAnyH_ready (rs := [10]) (by kernel_rfl) (by simp) ?_
        refine AllReadyH.cons rfl (fun K hK => ?_) AllReadyH.nil
        go_simp
        with_reducible refine (Within_c q a k cm x y z ⟨pf, pl, pr, pt⟩ _).mono ?_
        rw [HWI.out]
        rintro e wn ⟨rfl, hbn⟩
        have hkn := hHeld.next hbn
        clear hbn
        refine hK.out _ _ hkn (fun hHeld => ?_)
        clear hK K
        try simp only [Act.put, List.setIfInBounds_toArray, List.set_cons_zero, List.set_cons_succ]
        refine takeH 12 (v := ?v12u34) rfl (by kernel_rfl) (by kernel_rfl) (by kernel_rfl) rfl (fun _ _ _ h => h) (Or.inl ⟨by rfl, ?y12u34⟩) hHeld ?r12u34
        case y12u34 => (intro W hSW; (try dsimp only at hSW); go_simp; try with_reducible rfl)
        simp only [Act.put, List.setIfInBounds_toArray, List.set_cons_zero, List.set_cons_succ]
        refine takeH 13 (v := ?v13u35) rfl (by kernel_rfl) (by kernel_rfl) (by kernel_rfl) rfl (fun _ _ _ h => h) (Or.inl ⟨by rfl, ?y13u35⟩) hHeld ?r13u35
        case y13u35 => (intro W hSW; (try dsimp only at hSW); go_simp; try with_reducible rfl)
        simp only [Act.put, List.setIfInBounds_toArray, List.set_cons_zero, List.set_cons_succ]
        refine takeH 14 (v := ?v14u36) rfl (by kernel_rfl) (by kernel_rfl) (by kernel_rfl) rfl (fun _ _ _ h => h) (Or.inl ⟨by rfl, ?y14u36⟩) hHeld ?r14u36
        case y14u36 => (intro W hSW; (try dsimp only at hSW); go_simp; try with_reducible rfl)
        simp only [Act.put, List.setIfInBounds_toArray, List.set_cons_zero, List.set_cons_succ]
        refine wpAnyH_done (by kernel_rfl) ?_ _
        refine NoPanic.normal ?_
        go_wp2
        go_ret
        exact ⟨rfl, hHeld.bel⟩
      replace g2 := Decidable.not_not.1 g2
      by_cases g3 : ¬ (a ≤ pt)
      · have d0 : decide (pf ≤ q) = true := by simpa using g0
        have d1 : decide (q ≤ pl) = true := by simpa using g1
        have d2 : decide (pr ≤ a) = true := by simpa using g2
        have d3 : decide (a ≤ pt) = false := by simpa using g3
        have HWI := Lib.hid (show withinF q a ⟨pf, pl, pr, pt⟩ = false from by unfold withinF; rw [decide_eq_false_iff_not]; simp only; omega)
        clear g0 g1 g2 g3
        have c_e_0 : w4.cell? ⟨w.heap.size + 3, 0, none⟩ = some (.int .i64 q) := HK6.out.cell 1 rfl 0
        have c_e_1 : w4.cell? ⟨w.heap.size + 3, 1, none⟩ = some (.int .i64 a) := HK6.out.cell 1 rfl 1
        have c_e_2 : w4.cell? ⟨w.heap.size + 3, 2, none⟩ = some (.int .i64 k) := HK6.out.cell 1 rfl 2
        have c_e_3 : w4.cell? ⟨w.heap.size + 3, 3, none⟩ = some (.string cm) := HK6.out.cell 1 rfl 3
        have c_e_4 : w4.cell? ⟨w.heap.size + 3, 4, none⟩ = some (.int .i64 x) := HK6.out.cell 1 rfl 4
        have c_e_5 : w4.cell? ⟨w.heap.size + 3, 5, none⟩ = some (.int .i64 y) := HK6.out.cell 1 rfl 5
        have c_e_6 : w4.cell? ⟨w.heap.size + 3, 6, none⟩ = some (.int .i64 z) := HK6.out.cell 1 rfl 6
        have c_p_0 : w4.cell? ⟨w.heap.size + 2, 0, none⟩ = some (.int .i64 pf) := HK6.out.cell 2 rfl 0
        have c_p_1 : w4.cell? ⟨w.heap.size + 2, 1, none⟩ = some (.int .i64 pl) := HK6.out.cell 2 rfl 1
        have c_p_2 : w4.cell? ⟨w.heap.size + 2, 2, none⟩ = some (.int .i64 pr) := HK6.out.cell 2 rfl 2
        have c_p_3 : w4.cell? ⟨w.heap.size + 2, 3, none⟩ = some (.int .i64 pt) := HK6.out.cell 2 rfl 3
        have c_q_0 : w4.cell? ⟨gq, 0, none⟩ = some (.int .i64 0) := HK6.out.cell 0 rfl 0
        have c_q_1 : w4.cell? ⟨gq, 1, none⟩ = some (.int .i64 0) := HK6.out.cell 0 rfl 1
        have c_q_2 : w4.cell? ⟨gq, 2, none⟩ = some (.int .i64 0) := HK6.out.cell 0 rfl 2
        have c_q_3 : w4.cell? ⟨gq, 3, none⟩ = some (.int .i64 0) := HK6.out.cell 0 rfl 3
        go_wp2_with fail
        clear c_e_0 c_e_1 c_e_2 c_e_3 c_e_4 c_e_5 c_e_6 c_p_0 c_p_1 c_p_2 c_p_3 c_q_0 c_q_1 c_q_2 c_q_3
        refine wp_region_noPanic ?_
        refine wp_region_held_drew (S := fun W' => Kept w W' [(gq, 28, #[.int .i64 0, .int .i64 0, .int .i64 0, .int .i64 0]), (w.heap.size + 3, 30, #[.int .i64 q, .int .i64 a, .int .i64 k, .string cm, .int .i64 x, .int .i64 y, .int .i64 z]), (w.heap.size + 2, 28, #[.int .i64 pf, .int .i64 pl, .int .i64 pr, .int .i64 pt]), (w.heap.size + 1, 26, #[.int .i64 nm, .int .i64 f, .int .i64 l, .int .i64 r, .int .i64 tt, .int .i64 sz, .bool sd]), (w.heap.size, 24, #[.int .i64 op, .int .i64 fa, .int .i64 fb, .string name, .slice A n c])]) (by kernel_rfl) HK6.out.drew (fun hHeld => ?_)
        refine takeH 0 (v := ?v0u37) rfl (by kernel_rfl) (by kernel_rfl) (by kernel_rfl) rfl (fun _ _ _ h => h) (Or.inl ⟨by rfl, ?y0u37⟩) hHeld ?r0u37
        case y0u37 => (intro W hSW; (try dsimp only at hSW); have q0 := hSW.cell 3 rfl 0; have q1 := hSW.cell 3 rfl 1; have q2 := hSW.cell 3 rfl 2; have q3 := hSW.cell 3 rfl 3; have q4 := hSW.cell 3 rfl 4; have q5 := hSW.cell 3 rfl 5; have q6 := hSW.cell 3 rfl 6; simp only [List.getElem?_toArray, List.getElem?_cons_zero, List.getElem?_cons_succ] at q0 q1 q2 q3 q4 q5 q6; go_simp; try with_reducible rfl)
        simp only [Act.put, List.setIfInBounds_toArray, List.set_cons_zero, List.set_cons_succ]
        refine takeH 1 (v := ?v1u38) rfl (by kernel_rfl) (by kernel_rfl) (by kernel_rfl) rfl (fun _ _ _ h => h) (Or.inl ⟨by rfl, ?y1u38⟩) hHeld ?r1u38
        case y1u38 => (intro W hSW; (try dsimp only at hSW); have q0 := hSW.cell 2 rfl 0; have q1 := hSW.cell 2 rfl 1; have q2 := hSW.cell 2 rfl 2; have q3 := hSW.cell 2 rfl 3; simp only [List.getElem?_toArray, List.getElem?_cons_zero, List.getElem?_cons_succ] at q0 q1 q2 q3; go_simp; try with_reducible rfl)
        simp only [Act.put, List.setIfInBounds_toArray, List.set_cons_zero, List.set_cons_succ]
        refine takeH 3 (v := ?v3u39) rfl (by kernel_rfl) (by kernel_rfl) (by kernel_rfl) rfl (fun _ _ _ h => h) (Or.inl ⟨by rfl, ?y3u39⟩) hHeld ?r3u39
        case y3u39 => (intro W hSW; (try dsimp only at hSW); have q0 := hSW.cell 3 rfl 0; have q1 := hSW.cell 3 rfl 1; have q2 := hSW.cell 3 rfl 2; have q3 := hSW.cell 3 rfl 3; have q4 := hSW.cell 3 rfl 4; have q5 := hSW.cell 3 rfl 5; have q6 := hSW.cell 3 rfl 6; simp only [List.getElem?_toArray, List.getElem?_cons_zero, List.getElem?_cons_succ] at q0 q1 q2 q3 q4 q5 q6; go_simp; try with_reducible rfl)
        simp only [Act.put, List.setIfInBounds_toArray, List.set_cons_zero, List.set_cons_succ]
        refine takeH 4 (v := ?v4u40) rfl (by kernel_rfl) (by kernel_rfl) (by kernel_rfl) rfl (fun _ _ _ h => h) (Or.inl ⟨by rfl, ?y4u40⟩) hHeld ?r4u40
        case y4u40 => (intro W hSW; (try dsimp only at hSW); have q0 := hSW.cell 2 rfl 0; have q1 := hSW.cell 2 rfl 1; have q2 := hSW.cell 2 rfl 2; have q3 := hSW.cell 2 rfl 3; simp only [List.getElem?_toArray, List.getElem?_cons_zero, List.getElem?_cons_succ] at q0 q1 q2 q3; go_simp; try with_reducible rfl)
        simp only [Act.put, List.setIfInBounds_toArray, List.set_cons_zero, List.set_cons_succ]
        refine wpAnyH_ready (rs := [2]) (by kernel_rfl) (by simp) ?_
        refine AllReadyH.cons rfl (fun K hK => ?_) AllReadyH.nil
        go_simp
        with_reducible refine (Meets_c nm f l r tt sz sd ⟨pf, pl, pr, pt⟩ f1 l2 _).mono ?_
        rintro e wn ⟨rfl, hbn⟩
        have hkn := hHeld.next hbn
        clear hbn
        refine hK.out _ _ hkn (fun hHeld => ?_)
        clear hK K
        try simp only [Act.put, List.setIfInBounds_toArray, List.set_cons_zero, List.set_cons_succ]
        refine wpAnyH_ready (rs := [5]) (by kernel_rfl) (by simp) ?_
        refine AllReadyH.cons rfl (fun K hK => ?_) AllReadyH.nil
        go_simp
        with_reducible refine (rMeets_c nm f l r tt sz sd ⟨pf, pl, pr, pt⟩ _).mono ?_
        rintro e wn ⟨rfl, hbn⟩
        have hkn := hHeld.next hbn
        clear hbn
        refine hK.out _ _ hkn (fun hHeld => ?_)
        clear hK K
        try simp only [Act.put, List.setIfInBounds_toArray, List.set_cons_zero, List.set_cons_succ]
        generalize meetsF f l r tt ⟨pf, pl, pr, pt⟩ = mm
        refine takeH 6 (v := ?v6u41) rfl (by kernel_rfl) (by kernel_rfl) (by kernel_rfl) rfl (fun _ _ _ h => h) (Or.inl ⟨by rfl, ?y6u41⟩) hHeld ?r6u41
        case y6u41 => (intro W hSW; (try dsimp only at hSW); go_simp; try with_reducible rfl)
        simp only [Act.put, List.setIfInBounds_toArray, List.set_cons_zero, List.set_cons_succ]
        refine takeH 7 (v := ?v7u42) rfl (by kernel_rfl) (by kernel_rfl) (by kernel_rfl) rfl (fun _ _ _ h => h) (Or.inl ⟨by rfl, ?y7u42⟩) hHeld ?r7u42
        case y7u42 => (intro W hSW; (try dsimp only at hSW); go_simp; try with_reducible rfl)
        simp only [Act.put, List.setIfInBounds_toArray, List.set_cons_zero, List.set_cons_succ]
        refine takeH 8 (v := ?v8u43) rfl (by kernel_rfl) (by kernel_rfl) (by kernel_rfl) rfl (fun _ _ _ h => h) (Or.inl ⟨by rfl, ?y8u43⟩) hHeld ?r8u43
        case y8u43 => (intro W hSW; (try dsimp only at hSW); have q0 := hSW.cell 1 rfl 0; have q1 := hSW.cell 1 rfl 1; have q2 := hSW.cell 1 rfl 2; have q3 := hSW.cell 1 rfl 3; have q4 := hSW.cell 1 rfl 4; have q5 := hSW.cell 1 rfl 5; have q6 := hSW.cell 1 rfl 6; simp only [List.getElem?_toArray, List.getElem?_cons_zero, List.getElem?_cons_succ] at q0 q1 q2 q3 q4 q5 q6; go_simp; try with_reducible rfl)
        simp only [Act.put, List.setIfInBounds_toArray, List.set_cons_zero, List.set_cons_succ]
        refine takeH 9 (v := ?v9u44) rfl (by kernel_rfl) (by kernel_rfl) (by kernel_rfl) rfl (fun _ _ _ h => h) (Or.inl ⟨by rfl, ?y9u44⟩) hHeld ?r9u44
        case y9u44 => (intro W hSW; (try dsimp only at hSW); have q0 := hSW.cell 2 rfl 0; have q1 := hSW.cell 2 rfl 1; have q2 := hSW.cell 2 rfl 2; have q3 := hSW.cell 2 rfl 3; simp only [List.getElem?_toArray, List.getElem?_cons_zero, List.getElem?_cons_succ] at q0 q1 q2 q3; go_simp; try with_reducible rfl)
        simp only [Act.put, List.setIfInBounds_toArray, List.set_cons_zero, List.set_cons_succ]
        refine takeH 11 (v := ?v11u45) rfl (by kernel_rfl) (by kernel_rfl) (by kernel_rfl) rfl (fun _ _ _ h => h) (Or.inl ⟨by rfl, ?y11u45⟩) hHeld ?r11u45
        case y11u45 => (intro W hSW; (try dsimp only at hSW); go_simp; try with_reducible rfl)
        simp only [Act.put, List.setIfInBounds_toArray, List.set_cons_zero, List.set_cons_succ]
        refine wpAnyH_ready (rs := [10]) (by kernel_rfl) (by simp) ?_
        refine AllReadyH.cons rfl (fun K hK => ?_) AllReadyH.nil
        go_simp
        with_reducible refine (Within_c q a k cm x y z ⟨pf, pl, pr, pt⟩ _).mono ?_
        rw [HWI.out]
        rintro e wn ⟨rfl, hbn⟩
        have hkn := hHeld.next hbn
        clear hbn
        refine hK.out _ _ hkn (fun hHeld => ?_)
        clear hK K
        try simp only [Act.put, List.setIfInBounds_toArray, List.set_cons_zero, List.set_cons_succ]
        refine takeH 12 (v := ?v12u46) rfl (by kernel_rfl) (by kernel_rfl) (by kernel_rfl) rfl (fun _ _ _ h => h) (Or.inl ⟨by rfl, ?y12u46⟩) hHeld ?r12u46
        case y12u46 => (intro W hSW; (try dsimp only at hSW); go_simp; try with_reducible rfl)
        simp only [Act.put, List.setIfInBounds_toArray, List.set_cons_zero, List.set_cons_succ]
        refine takeH 13 (v := ?v13u47) rfl (by kernel_rfl) (by kernel_rfl) (by kernel_rfl) rfl (fun _ _ _ h => h) (Or.inl ⟨by rfl, ?y13u47⟩) hHeld ?r13u47
        case y13u47 => (intro W hSW; (try dsimp only at hSW); go_simp; try with_reducible rfl)
        simp only [Act.put, List.setIfInBounds_toArray, List.set_cons_zero, List.set_cons_succ]
        refine takeH 14 (v := ?v14u48) rfl (by kernel_rfl) (by kernel_rfl) (by kernel_rfl) rfl (fun _ _ _ h => h) (Or.inl ⟨by rfl, ?y14u48⟩) hHeld ?r14u48
        case y14u48 => (intro W hSW; (try dsimp only at hSW); go_simp; try with_reducible rfl)
        simp only [Act.put, List.setIfInBounds_toArray, List.set_cons_zero, List.set_cons_succ]
        refine wpAnyH_done (by kernel_rfl) ?_ _
        refine NoPanic.normal ?_
        go_wp2
        go_ret
        exact ⟨rfl, hHeld.bel⟩
      replace g3 := Decidable.not_not.1 g3
      have d0 : decide (pf ≤ q) = true := by simpa using g0
      have d1 : decide (q ≤ pl) = true := by simpa using g1
      have d2 : decide (pr ≤ a) = true := by simpa using g2
      have d3 : decide (a ≤ pt) = true := by simpa using g3
      have HWI := Lib.hid (show withinF q a ⟨pf, pl, pr, pt⟩ = true from by unfold withinF; rw [decide_eq_true_eq]; simp only; omega)
      clear g0 g1 g2 g3
      have c_e_0 : w4.cell? ⟨w.heap.size + 3, 0, none⟩ = some (.int .i64 q) := HK6.out.cell 1 rfl 0
      have c_e_1 : w4.cell? ⟨w.heap.size + 3, 1, none⟩ = some (.int .i64 a) := HK6.out.cell 1 rfl 1
      have c_e_2 : w4.cell? ⟨w.heap.size + 3, 2, none⟩ = some (.int .i64 k) := HK6.out.cell 1 rfl 2
      have c_e_3 : w4.cell? ⟨w.heap.size + 3, 3, none⟩ = some (.string cm) := HK6.out.cell 1 rfl 3
      have c_e_4 : w4.cell? ⟨w.heap.size + 3, 4, none⟩ = some (.int .i64 x) := HK6.out.cell 1 rfl 4
      have c_e_5 : w4.cell? ⟨w.heap.size + 3, 5, none⟩ = some (.int .i64 y) := HK6.out.cell 1 rfl 5
      have c_e_6 : w4.cell? ⟨w.heap.size + 3, 6, none⟩ = some (.int .i64 z) := HK6.out.cell 1 rfl 6
      have c_p_0 : w4.cell? ⟨w.heap.size + 2, 0, none⟩ = some (.int .i64 pf) := HK6.out.cell 2 rfl 0
      have c_p_1 : w4.cell? ⟨w.heap.size + 2, 1, none⟩ = some (.int .i64 pl) := HK6.out.cell 2 rfl 1
      have c_p_2 : w4.cell? ⟨w.heap.size + 2, 2, none⟩ = some (.int .i64 pr) := HK6.out.cell 2 rfl 2
      have c_p_3 : w4.cell? ⟨w.heap.size + 2, 3, none⟩ = some (.int .i64 pt) := HK6.out.cell 2 rfl 3
      have c_q_0 : w4.cell? ⟨gq, 0, none⟩ = some (.int .i64 0) := HK6.out.cell 0 rfl 0
      have c_q_1 : w4.cell? ⟨gq, 1, none⟩ = some (.int .i64 0) := HK6.out.cell 0 rfl 1
      have c_q_2 : w4.cell? ⟨gq, 2, none⟩ = some (.int .i64 0) := HK6.out.cell 0 rfl 2
      have c_q_3 : w4.cell? ⟨gq, 3, none⟩ = some (.int .i64 0) := HK6.out.cell 0 rfl 3
      go_wp2_with fail
      clear c_e_0 c_e_1 c_e_2 c_e_3 c_e_4 c_e_5 c_e_6 c_p_0 c_p_1 c_p_2 c_p_3 c_q_0 c_q_1 c_q_2 c_q_3
      refine wp_region_noPanic ?_
      refine wp_region_held_drew (S := fun W' => Kept w W' [(gq, 28, #[.int .i64 0, .int .i64 0, .int .i64 0, .int .i64 0]), (w.heap.size + 3, 30, #[.int .i64 q, .int .i64 a, .int .i64 k, .string cm, .int .i64 x, .int .i64 y, .int .i64 z]), (w.heap.size + 2, 28, #[.int .i64 pf, .int .i64 pl, .int .i64 pr, .int .i64 pt]), (w.heap.size + 1, 26, #[.int .i64 nm, .int .i64 f, .int .i64 l, .int .i64 r, .int .i64 tt, .int .i64 sz, .bool sd]), (w.heap.size, 24, #[.int .i64 op, .int .i64 fa, .int .i64 fb, .string name, .slice A n c])]) (by kernel_rfl) HK6.out.drew (fun hHeld => ?_)
      refine takeH 0 (v := ?v0u49) rfl (by kernel_rfl) (by kernel_rfl) (by kernel_rfl) rfl (fun _ _ _ h => h) (Or.inl ⟨by rfl, ?y0u49⟩) hHeld ?r0u49
      case y0u49 => (intro W hSW; (try dsimp only at hSW); have q0 := hSW.cell 3 rfl 0; have q1 := hSW.cell 3 rfl 1; have q2 := hSW.cell 3 rfl 2; have q3 := hSW.cell 3 rfl 3; have q4 := hSW.cell 3 rfl 4; have q5 := hSW.cell 3 rfl 5; have q6 := hSW.cell 3 rfl 6; simp only [List.getElem?_toArray, List.getElem?_cons_zero, List.getElem?_cons_succ] at q0 q1 q2 q3 q4 q5 q6; go_simp; try with_reducible rfl)
      simp only [Act.put, List.setIfInBounds_toArray, List.set_cons_zero, List.set_cons_succ]
      refine takeH 1 (v := ?v1u50) rfl (by kernel_rfl) (by kernel_rfl) (by kernel_rfl) rfl (fun _ _ _ h => h) (Or.inl ⟨by rfl, ?y1u50⟩) hHeld ?r1u50
      case y1u50 => (intro W hSW; (try dsimp only at hSW); have q0 := hSW.cell 2 rfl 0; have q1 := hSW.cell 2 rfl 1; have q2 := hSW.cell 2 rfl 2; have q3 := hSW.cell 2 rfl 3; simp only [List.getElem?_toArray, List.getElem?_cons_zero, List.getElem?_cons_succ] at q0 q1 q2 q3; go_simp; try with_reducible rfl)
      simp only [Act.put, List.setIfInBounds_toArray, List.set_cons_zero, List.set_cons_succ]
      refine takeH 3 (v := ?v3u51) rfl (by kernel_rfl) (by kernel_rfl) (by kernel_rfl) rfl (fun _ _ _ h => h) (Or.inl ⟨by rfl, ?y3u51⟩) hHeld ?r3u51
      case y3u51 => (intro W hSW; (try dsimp only at hSW); have q0 := hSW.cell 3 rfl 0; have q1 := hSW.cell 3 rfl 1; have q2 := hSW.cell 3 rfl 2; have q3 := hSW.cell 3 rfl 3; have q4 := hSW.cell 3 rfl 4; have q5 := hSW.cell 3 rfl 5; have q6 := hSW.cell 3 rfl 6; simp only [List.getElem?_toArray, List.getElem?_cons_zero, List.getElem?_cons_succ] at q0 q1 q2 q3 q4 q5 q6; go_simp; try with_reducible rfl)
      simp only [Act.put, List.setIfInBounds_toArray, List.set_cons_zero, List.set_cons_succ]
      refine takeH 4 (v := ?v4u52) rfl (by kernel_rfl) (by kernel_rfl) (by kernel_rfl) rfl (fun _ _ _ h => h) (Or.inl ⟨by rfl, ?y4u52⟩) hHeld ?r4u52
      case y4u52 => (intro W hSW; (try dsimp only at hSW); have q0 := hSW.cell 2 rfl 0; have q1 := hSW.cell 2 rfl 1; have q2 := hSW.cell 2 rfl 2; have q3 := hSW.cell 2 rfl 3; simp only [List.getElem?_toArray, List.getElem?_cons_zero, List.getElem?_cons_succ] at q0 q1 q2 q3; go_simp; try with_reducible rfl)
      simp only [Act.put, List.setIfInBounds_toArray, List.set_cons_zero, List.set_cons_succ]
      refine wpAnyH_ready (rs := [2]) (by kernel_rfl) (by simp) ?_
      refine AllReadyH.cons rfl (fun K hK => ?_) AllReadyH.nil
      go_simp
      with_reducible refine (Meets_c nm f l r tt sz sd ⟨pf, pl, pr, pt⟩ f1 l2 _).mono ?_
      rintro e wn ⟨rfl, hbn⟩
      have hkn := hHeld.next hbn
      clear hbn
      refine hK.out _ _ hkn (fun hHeld => ?_)
      clear hK K
      try simp only [Act.put, List.setIfInBounds_toArray, List.set_cons_zero, List.set_cons_succ]
      refine wpAnyH_ready (rs := [5]) (by kernel_rfl) (by simp) ?_
      refine AllReadyH.cons rfl (fun K hK => ?_) AllReadyH.nil
      go_simp
      with_reducible refine (rMeets_c nm f l r tt sz sd ⟨pf, pl, pr, pt⟩ _).mono ?_
      rintro e wn ⟨rfl, hbn⟩
      have hkn := hHeld.next hbn
      clear hbn
      refine hK.out _ _ hkn (fun hHeld => ?_)
      clear hK K
      try simp only [Act.put, List.setIfInBounds_toArray, List.set_cons_zero, List.set_cons_succ]
      generalize meetsF f l r tt ⟨pf, pl, pr, pt⟩ = mm
      refine takeH 6 (v := ?v6u53) rfl (by kernel_rfl) (by kernel_rfl) (by kernel_rfl) rfl (fun _ _ _ h => h) (Or.inl ⟨by rfl, ?y6u53⟩) hHeld ?r6u53
      case y6u53 => (intro W hSW; (try dsimp only at hSW); go_simp; try with_reducible rfl)
      simp only [Act.put, List.setIfInBounds_toArray, List.set_cons_zero, List.set_cons_succ]
      refine takeH 7 (v := ?v7u54) rfl (by kernel_rfl) (by kernel_rfl) (by kernel_rfl) rfl (fun _ _ _ h => h) (Or.inl ⟨by rfl, ?y7u54⟩) hHeld ?r7u54
      case y7u54 => (intro W hSW; (try dsimp only at hSW); go_simp; try with_reducible rfl)
      simp only [Act.put, List.setIfInBounds_toArray, List.set_cons_zero, List.set_cons_succ]
      refine takeH 8 (v := ?v8u55) rfl (by kernel_rfl) (by kernel_rfl) (by kernel_rfl) rfl (fun _ _ _ h => h) (Or.inl ⟨by rfl, ?y8u55⟩) hHeld ?r8u55
      case y8u55 => (intro W hSW; (try dsimp only at hSW); have q0 := hSW.cell 1 rfl 0; have q1 := hSW.cell 1 rfl 1; have q2 := hSW.cell 1 rfl 2; have q3 := hSW.cell 1 rfl 3; have q4 := hSW.cell 1 rfl 4; have q5 := hSW.cell 1 rfl 5; have q6 := hSW.cell 1 rfl 6; simp only [List.getElem?_toArray, List.getElem?_cons_zero, List.getElem?_cons_succ] at q0 q1 q2 q3 q4 q5 q6; go_simp; try with_reducible rfl)
      simp only [Act.put, List.setIfInBounds_toArray, List.set_cons_zero, List.set_cons_succ]
      refine takeH 9 (v := ?v9u56) rfl (by kernel_rfl) (by kernel_rfl) (by kernel_rfl) rfl (fun _ _ _ h => h) (Or.inl ⟨by rfl, ?y9u56⟩) hHeld ?r9u56
      case y9u56 => (intro W hSW; (try dsimp only at hSW); have q0 := hSW.cell 2 rfl 0; have q1 := hSW.cell 2 rfl 1; have q2 := hSW.cell 2 rfl 2; have q3 := hSW.cell 2 rfl 3; simp only [List.getElem?_toArray, List.getElem?_cons_zero, List.getElem?_cons_succ] at q0 q1 q2 q3; go_simp; try with_reducible rfl)
      simp only [Act.put, List.setIfInBounds_toArray, List.set_cons_zero, List.set_cons_succ]
      refine takeH 11 (v := ?v11u57) rfl (by kernel_rfl) (by kernel_rfl) (by kernel_rfl) rfl (fun _ _ _ h => h) (Or.inl ⟨by rfl, ?y11u57⟩) hHeld ?r11u57
      case y11u57 => (intro W hSW; (try dsimp only at hSW); go_simp; try with_reducible rfl)
      simp only [Act.put, List.setIfInBounds_toArray, List.set_cons_zero, List.set_cons_succ]
      refine wpAnyH_ready (rs := [10]) (by kernel_rfl) (by simp) ?_
      refine AllReadyH.cons rfl (fun K hK => ?_) AllReadyH.nil
      go_simp
      with_reducible refine (Within_c q a k cm x y z ⟨pf, pl, pr, pt⟩ _).mono ?_
      rw [HWI.out]
      rintro e wn ⟨rfl, hbn⟩
      have hkn := hHeld.next hbn
      clear hbn
      refine hK.out _ _ hkn (fun hHeld => ?_)
      clear hK K
      try simp only [Act.put, List.setIfInBounds_toArray, List.set_cons_zero, List.set_cons_succ]
      refine takeH 12 (v := ?v12u58) rfl (by kernel_rfl) (by kernel_rfl) (by kernel_rfl) rfl (fun _ _ _ h => h) (Or.inl ⟨by rfl, ?y12u58⟩) hHeld ?r12u58
      case y12u58 => (intro W hSW; (try dsimp only at hSW); go_simp; try with_reducible rfl)
      simp only [Act.put, List.setIfInBounds_toArray, List.set_cons_zero, List.set_cons_succ]
      refine takeH 13 (v := ?v13u59) rfl (by kernel_rfl) (by kernel_rfl) (by kernel_rfl) rfl (fun _ _ _ h => h) (Or.inl ⟨by rfl, ?y13u59⟩) hHeld ?r13u59
      case y13u59 => (intro W hSW; (try dsimp only at hSW); go_simp; try with_reducible rfl)
      simp only [Act.put, List.setIfInBounds_toArray, List.set_cons_zero, List.set_cons_succ]
      refine takeH 14 (v := ?v14u60) rfl (by kernel_rfl) (by kernel_rfl) (by kernel_rfl) rfl (fun _ _ _ h => h) (Or.inl ⟨by rfl, ?y14u60⟩) hHeld ?r14u60
      case y14u60 => (intro W hSW; (try dsimp only at hSW); go_simp; try with_reducible rfl)
      simp only [Act.put, List.setIfInBounds_toArray, List.set_cons_zero, List.set_cons_succ]
      refine wpAnyH_done (by kernel_rfl) ?_ _
      refine NoPanic.normal ?_
      go_wp2
      go_ret
      exact ⟨rfl, hHeld.bel⟩
    · have HO := Lib.hid (Of_c HT.out w2 HK3.out.bel HK3.out.size)
      rw [show OfP t = (ofF t) from by unfold OfP; rw [HRS.out, hrr]; simp, show OfE t = 0 from by unfold OfE; rw [HRS.out, hrr]; simp] at HO
      generalize hof : ofF t = sp at HO
      have c_f_0 : w2.cell? ⟨w.heap.size, 0, none⟩ = some (.int .i64 op) := HK3.out.cell 3 rfl 0
      have c_f_1 : w2.cell? ⟨w.heap.size, 1, none⟩ = some (.int .i64 fa) := HK3.out.cell 3 rfl 1
      have c_f_2 : w2.cell? ⟨w.heap.size, 2, none⟩ = some (.int .i64 fb) := HK3.out.cell 3 rfl 2
      have c_f_3 : w2.cell? ⟨w.heap.size, 3, none⟩ = some (.string name) := HK3.out.cell 3 rfl 3
      have c_f_4 : w2.cell? ⟨w.heap.size, 4, none⟩ = some (.slice A n c) := HK3.out.cell 3 rfl 4
      go_wp2_with fail
      with_reducible refine HO.out.mono ?_
      rintro e w3 ⟨rfl, hb3⟩
      clear HO
      clear c_f_0 c_f_1 c_f_2 c_f_3 c_f_4
      have HK4 := Lib.hid (show Kept w w3 [(w.heap.size + 3, 30, #[.int .i64 q, .int .i64 a, .int .i64 k, .string cm, .int .i64 x, .int .i64 y, .int .i64 z]), (w.heap.size + 2, 28, #[.int .i64 pf, .int .i64 pl, .int .i64 pr, .int .i64 pt]), (w.heap.size + 1, 26, #[.int .i64 nm, .int .i64 f, .int .i64 l, .int .i64 r, .int .i64 tt, .int .i64 sz, .bool sd]), (w.heap.size, 24, #[.int .i64 op, .int .i64 fa, .int .i64 fb, .string name, .slice A n c])] from HK3.out.next hb3)
      clear HK3
      clear hb3
      have HK5 := Lib.hid (show Kept w (w3.alloc (.cells #[.int .i64 sp.f, .int .i64 sp.l, .int .i64 sp.r, .int .i64 sp.t] 28)) [(w3.heap.size, 28, #[.int .i64 sp.f, .int .i64 sp.l, .int .i64 sp.r, .int .i64 sp.t]), (w.heap.size + 3, 30, #[.int .i64 q, .int .i64 a, .int .i64 k, .string cm, .int .i64 x, .int .i64 y, .int .i64 z]), (w.heap.size + 2, 28, #[.int .i64 pf, .int .i64 pl, .int .i64 pr, .int .i64 pt]), (w.heap.size + 1, 26, #[.int .i64 nm, .int .i64 f, .int .i64 l, .int .i64 r, .int .i64 tt, .int .i64 sz, .bool sd]), (w.heap.size, 24, #[.int .i64 op, .int .i64 fa, .int .i64 fb, .string name, .slice A n c])] from HK4.out.alloc 28 #[.int .i64 sp.f, .int .i64 sp.l, .int .i64 sp.r, .int .i64 sp.t])
      clear HK4
      have c_f_0 : (w3.alloc (.cells #[.int .i64 sp.f, .int .i64 sp.l, .int .i64 sp.r, .int .i64 sp.t] 28)).cell? ⟨w.heap.size, 0, none⟩ = some (.int .i64 op) := HK5.out.cell 4 rfl 0
      have c_f_1 : (w3.alloc (.cells #[.int .i64 sp.f, .int .i64 sp.l, .int .i64 sp.r, .int .i64 sp.t] 28)).cell? ⟨w.heap.size, 1, none⟩ = some (.int .i64 fa) := HK5.out.cell 4 rfl 1
      have c_f_2 : (w3.alloc (.cells #[.int .i64 sp.f, .int .i64 sp.l, .int .i64 sp.r, .int .i64 sp.t] 28)).cell? ⟨w.heap.size, 2, none⟩ = some (.int .i64 fb) := HK5.out.cell 4 rfl 2
      have c_f_3 : (w3.alloc (.cells #[.int .i64 sp.f, .int .i64 sp.l, .int .i64 sp.r, .int .i64 sp.t] 28)).cell? ⟨w.heap.size, 3, none⟩ = some (.string name) := HK5.out.cell 4 rfl 3
      have c_f_4 : (w3.alloc (.cells #[.int .i64 sp.f, .int .i64 sp.l, .int .i64 sp.r, .int .i64 sp.t] 28)).cell? ⟨w.heap.size, 4, none⟩ = some (.slice A n c) := HK5.out.cell 4 rfl 4
      go_wp2_with fail
      with_reducible refine (rRight_c HT.out _ HK5.out.bel HK5.out.size).mono ?_
      rw [hrr]
      rintro e w4 ⟨rfl, hb4⟩
      clear c_f_0 c_f_1 c_f_2 c_f_3 c_f_4
      have HK6 := Lib.hid (show Kept w w4 [(w3.heap.size, 28, #[.int .i64 sp.f, .int .i64 sp.l, .int .i64 sp.r, .int .i64 sp.t]), (w.heap.size + 3, 30, #[.int .i64 q, .int .i64 a, .int .i64 k, .string cm, .int .i64 x, .int .i64 y, .int .i64 z]), (w.heap.size + 2, 28, #[.int .i64 pf, .int .i64 pl, .int .i64 pr, .int .i64 pt]), (w.heap.size + 1, 26, #[.int .i64 nm, .int .i64 f, .int .i64 l, .int .i64 r, .int .i64 tt, .int .i64 sz, .bool sd]), (w.heap.size, 24, #[.int .i64 op, .int .i64 fa, .int .i64 fb, .string name, .slice A n c])] from HK5.out.next hb4)
      clear HK5
      clear hb4
      generalize w3.heap.size = gq at HK6 ⊢
      go_wp2_with fail
      refine wp_region_noPanic ?_
      refine wp_region_held_drew (S := fun W' => Kept w W' [(gq, 28, #[.int .i64 sp.f, .int .i64 sp.l, .int .i64 sp.r, .int .i64 sp.t]), (w.heap.size + 3, 30, #[.int .i64 q, .int .i64 a, .int .i64 k, .string cm, .int .i64 x, .int .i64 y, .int .i64 z]), (w.heap.size + 2, 28, #[.int .i64 pf, .int .i64 pl, .int .i64 pr, .int .i64 pt]), (w.heap.size + 1, 26, #[.int .i64 nm, .int .i64 f, .int .i64 l, .int .i64 r, .int .i64 tt, .int .i64 sz, .bool sd]), (w.heap.size, 24, #[.int .i64 op, .int .i64 fa, .int .i64 fb, .string name, .slice A n c])]) (by kernel_rfl) HK6.out.drew (fun hHeld => ?_)
      refine takeH 0 (v := ?v0u61) rfl (by kernel_rfl) (by kernel_rfl) (by kernel_rfl) rfl (fun _ _ _ h => h) (Or.inl ⟨by rfl, ?y0u61⟩) hHeld ?r0u61
      case y0u61 => (intro W hSW; (try dsimp only at hSW); go_simp; try with_reducible rfl)
      simp only [Act.put, List.setIfInBounds_toArray, List.set_cons_zero, List.set_cons_succ]
      refine takeH 1 (v := ?v1u62) rfl (by kernel_rfl) (by kernel_rfl) (by kernel_rfl) rfl (fun _ _ _ h => h) (Or.inl ⟨by rfl, ?y1u62⟩) hHeld ?r1u62
      case y1u62 => (intro W hSW; (try dsimp only at hSW); go_simp; try with_reducible rfl)
      simp only [Act.put, List.setIfInBounds_toArray, List.set_cons_zero, List.set_cons_succ]
      refine takeH 2 (v := ?v2u63) rfl (by kernel_rfl) (by kernel_rfl) (by kernel_rfl) rfl (fun _ _ _ h => h) (Or.inl ⟨by rfl, ?y2u63⟩) hHeld ?r2u63
      case y2u63 => (intro W hSW; (try dsimp only at hSW); go_simp; try with_reducible rfl)
      simp only [Act.put, List.setIfInBounds_toArray, List.set_cons_zero, List.set_cons_succ]
      refine takeH 3 (v := ?v3u64) rfl (by kernel_rfl) (by kernel_rfl) (by kernel_rfl) rfl (fun _ _ _ h => h) (Or.inl ⟨by rfl, ?y3u64⟩) hHeld ?r3u64
      case y3u64 => (intro W hSW; (try dsimp only at hSW); have q0 := hSW.cell 0 rfl 0; have q1 := hSW.cell 0 rfl 1; have q2 := hSW.cell 0 rfl 2; have q3 := hSW.cell 0 rfl 3; simp only [List.getElem?_toArray, List.getElem?_cons_zero, List.getElem?_cons_succ] at q0 q1 q2 q3; go_simp; try with_reducible rfl)
      simp only [Act.put, List.setIfInBounds_toArray, List.set_cons_zero, List.set_cons_succ]
      refine takeH 4 (v := ?v4u65) rfl (by kernel_rfl) (by kernel_rfl) (by kernel_rfl) rfl (fun _ _ _ h => h) (Or.inl ⟨by rfl, ?y4u65⟩) hHeld ?r4u65
      case y4u65 => (intro W hSW; (try dsimp only at hSW); have q0 := hSW.cell 4 rfl 0; have q1 := hSW.cell 4 rfl 1; have q2 := hSW.cell 4 rfl 2; have q3 := hSW.cell 4 rfl 3; have q4 := hSW.cell 4 rfl 4; simp only [List.getElem?_toArray, List.getElem?_cons_zero, List.getElem?_cons_succ] at q0 q1 q2 q3 q4; go_simp; try with_reducible rfl)
      simp only [Act.put, List.setIfInBounds_toArray, List.set_cons_zero, List.set_cons_succ]
      refine wpAnyH_ready (rs := [5]) (by kernel_rfl) (by simp) ?_
      refine AllReadyH.cons rfl (fun K hK => ?_) AllReadyH.nil
      go_simp
      with_reducible refine (rOf_c HT.out _ hHeld.bel hHeld.size).mono ?_
      unfold OfOk
      rw [hof]
      rintro e wn ⟨rfl, hbn⟩
      have hkn := hHeld.next hbn
      clear hbn
      refine hK.out _ _ hkn (fun hHeld => ?_)
      clear hK K
      try simp only [Act.put, List.setIfInBounds_toArray, List.set_cons_zero, List.set_cons_succ]
      refine takeH 6 (v := ?v6u66) rfl (by kernel_rfl) (by kernel_rfl) (by kernel_rfl) rfl (fun _ _ _ h => h) (Or.inl ⟨by rfl, ?y6u66⟩) hHeld ?r6u66
      case y6u66 => (intro W hSW; (try dsimp only at hSW); go_simp; try with_reducible rfl)
      simp only [Act.put, List.setIfInBounds_toArray, List.set_cons_zero, List.set_cons_succ]
      refine takeH 7 (v := ?v7u67) rfl (by kernel_rfl) (by kernel_rfl) (by kernel_rfl) rfl (fun _ _ _ h => h) (Or.inl ⟨by rfl, ?y7u67⟩) hHeld ?r7u67
      case y7u67 => (intro W hSW; (try dsimp only at hSW); go_simp; try with_reducible rfl)
      simp only [Act.put, List.setIfInBounds_toArray, List.set_cons_zero, List.set_cons_succ]
      refine wpAnyH_done (by kernel_rfl) ?_ _
      refine NoPanic.normal ?_
      have HK7 := Lib.hid hHeld
      clear hHeld HK6
      by_cases g0 : ¬ (pf ≤ q)
      · have d0 : decide (pf ≤ q) = false := by simpa using g0
        have HWI := Lib.hid (show withinF q a ⟨pf, pl, pr, pt⟩ = false from by unfold withinF; rw [decide_eq_false_iff_not]; simp only; omega)
        clear g0
        have c_e_0 : wn.cell? ⟨w.heap.size + 3, 0, none⟩ = some (.int .i64 q) := HK7.out.cell 1 rfl 0
        have c_e_1 : wn.cell? ⟨w.heap.size + 3, 1, none⟩ = some (.int .i64 a) := HK7.out.cell 1 rfl 1
        have c_e_2 : wn.cell? ⟨w.heap.size + 3, 2, none⟩ = some (.int .i64 k) := HK7.out.cell 1 rfl 2
        have c_e_3 : wn.cell? ⟨w.heap.size + 3, 3, none⟩ = some (.string cm) := HK7.out.cell 1 rfl 3
        have c_e_4 : wn.cell? ⟨w.heap.size + 3, 4, none⟩ = some (.int .i64 x) := HK7.out.cell 1 rfl 4
        have c_e_5 : wn.cell? ⟨w.heap.size + 3, 5, none⟩ = some (.int .i64 y) := HK7.out.cell 1 rfl 5
        have c_e_6 : wn.cell? ⟨w.heap.size + 3, 6, none⟩ = some (.int .i64 z) := HK7.out.cell 1 rfl 6
        have c_p_0 : wn.cell? ⟨w.heap.size + 2, 0, none⟩ = some (.int .i64 pf) := HK7.out.cell 2 rfl 0
        have c_p_1 : wn.cell? ⟨w.heap.size + 2, 1, none⟩ = some (.int .i64 pl) := HK7.out.cell 2 rfl 1
        have c_p_2 : wn.cell? ⟨w.heap.size + 2, 2, none⟩ = some (.int .i64 pr) := HK7.out.cell 2 rfl 2
        have c_p_3 : wn.cell? ⟨w.heap.size + 2, 3, none⟩ = some (.int .i64 pt) := HK7.out.cell 2 rfl 3
        go_wp2_with fail
        clear c_e_0 c_e_1 c_e_2 c_e_3 c_e_4 c_e_5 c_e_6 c_p_0 c_p_1 c_p_2 c_p_3
        refine wp_region_noPanic ?_
        refine wp_region_held_drew (S := fun W' => Kept w W' [(gq, 28, #[.int .i64 sp.f, .int .i64 sp.l, .int .i64 sp.r, .int .i64 sp.t]), (w.heap.size + 3, 30, #[.int .i64 q, .int .i64 a, .int .i64 k, .string cm, .int .i64 x, .int .i64 y, .int .i64 z]), (w.heap.size + 2, 28, #[.int .i64 pf, .int .i64 pl, .int .i64 pr, .int .i64 pt]), (w.heap.size + 1, 26, #[.int .i64 nm, .int .i64 f, .int .i64 l, .int .i64 r, .int .i64 tt, .int .i64 sz, .bool sd]), (w.heap.size, 24, #[.int .i64 op, .int .i64 fa, .int .i64 fb, .string name, .slice A n c])]) (by kernel_rfl) HK7.out.drew (fun hHeld => ?_)
        refine takeH 0 (v := ?v0u68) rfl (by kernel_rfl) (by kernel_rfl) (by kernel_rfl) rfl (fun _ _ _ h => h) (Or.inl ⟨by rfl, ?y0u68⟩) hHeld ?r0u68
        case y0u68 => (intro W hSW; (try dsimp only at hSW); have q0 := hSW.cell 3 rfl 0; have q1 := hSW.cell 3 rfl 1; have q2 := hSW.cell 3 rfl 2; have q3 := hSW.cell 3 rfl 3; have q4 := hSW.cell 3 rfl 4; have q5 := hSW.cell 3 rfl 5; have q6 := hSW.cell 3 rfl 6; simp only [List.getElem?_toArray, List.getElem?_cons_zero, List.getElem?_cons_succ] at q0 q1 q2 q3 q4 q5 q6; go_simp; try with_reducible rfl)
        simp only [Act.put, List.setIfInBounds_toArray, List.set_cons_zero, List.set_cons_succ]
        refine takeH 1 (v := ?v1u69) rfl (by kernel_rfl) (by kernel_rfl) (by kernel_rfl) rfl (fun _ _ _ h => h) (Or.inl ⟨by rfl, ?y1u69⟩) hHeld ?r1u69
        case y1u69 => (intro W hSW; (try dsimp only at hSW); have q0 := hSW.cell 2 rfl 0; have q1 := hSW.cell 2 rfl 1; have q2 := hSW.cell 2 rfl 2; have q3 := hSW.cell 2 rfl 3; simp only [List.getElem?_toArray, List.getElem?_cons_zero, List.getElem?_cons_succ] at q0 q1 q2 q3; go_simp; try with_reducible rfl)
        simp only [Act.put, List.setIfInBounds_toArray, List.set_cons_zero, List.set_cons_succ]
        refine takeH 3 (v := ?v3u70) rfl (by kernel_rfl) (by kernel_rfl) (by kernel_rfl) rfl (fun _ _ _ h => h) (Or.inl ⟨by rfl, ?y3u70⟩) hHeld ?r3u70
        case y3u70 => (intro W hSW; (try dsimp only at hSW); have q0 := hSW.cell 3 rfl 0; have q1 := hSW.cell 3 rfl 1; have q2 := hSW.cell 3 rfl 2; have q3 := hSW.cell 3 rfl 3; have q4 := hSW.cell 3 rfl 4; have q5 := hSW.cell 3 rfl 5; have q6 := hSW.cell 3 rfl 6; simp only [List.getElem?_toArray, List.getElem?_cons_zero, List.getElem?_cons_succ] at q0 q1 q2 q3 q4 q5 q6; go_simp; try with_reducible rfl)
        simp only [Act.put, List.setIfInBounds_toArray, List.set_cons_zero, List.set_cons_succ]
        refine takeH 4 (v := ?v4u71) rfl (by kernel_rfl) (by kernel_rfl) (by kernel_rfl) rfl (fun _ _ _ h => h) (Or.inl ⟨by rfl, ?y4u71⟩) hHeld ?r4u71
        case y4u71 => (intro W hSW; (try dsimp only at hSW); have q0 := hSW.cell 2 rfl 0; have q1 := hSW.cell 2 rfl 1; have q2 := hSW.cell 2 rfl 2; have q3 := hSW.cell 2 rfl 3; simp only [List.getElem?_toArray, List.getElem?_cons_zero, List.getElem?_cons_succ] at q0 q1 q2 q3; go_simp; try with_reducible rfl)
        simp only [Act.put, List.setIfInBounds_toArray, List.set_cons_zero, List.set_cons_succ]
        refine wpAnyH_ready (rs := [2]) (by kernel_rfl) (by simp) ?_
        refine AllReadyH.cons rfl (fun K hK => ?_) AllReadyH.nil
        go_simp
        with_reducible refine (Meets_c nm f l r tt sz sd ⟨pf, pl, pr, pt⟩ f1 l2 _).mono ?_
        rintro e wn ⟨rfl, hbn⟩
        have hkn := hHeld.next hbn
        clear hbn
        refine hK.out _ _ hkn (fun hHeld => ?_)
        clear hK K
        try simp only [Act.put, List.setIfInBounds_toArray, List.set_cons_zero, List.set_cons_succ]
        refine wpAnyH_ready (rs := [5]) (by kernel_rfl) (by simp) ?_
        refine AllReadyH.cons rfl (fun K hK => ?_) AllReadyH.nil
        go_simp
        with_reducible refine (rMeets_c nm f l r tt sz sd ⟨pf, pl, pr, pt⟩ _).mono ?_
        rintro e wn ⟨rfl, hbn⟩
        have hkn := hHeld.next hbn
        clear hbn
        refine hK.out _ _ hkn (fun hHeld => ?_)
        clear hK K
        try simp only [Act.put, List.setIfInBounds_toArray, List.set_cons_zero, List.set_cons_succ]
        generalize meetsF f l r tt ⟨pf, pl, pr, pt⟩ = mm
        refine takeH 6 (v := ?v6u72) rfl (by kernel_rfl) (by kernel_rfl) (by kernel_rfl) rfl (fun _ _ _ h => h) (Or.inl ⟨by rfl, ?y6u72⟩) hHeld ?r6u72
        case y6u72 => (intro W hSW; (try dsimp only at hSW); go_simp; try with_reducible rfl)
        simp only [Act.put, List.setIfInBounds_toArray, List.set_cons_zero, List.set_cons_succ]
        refine takeH 7 (v := ?v7u73) rfl (by kernel_rfl) (by kernel_rfl) (by kernel_rfl) rfl (fun _ _ _ h => h) (Or.inl ⟨by rfl, ?y7u73⟩) hHeld ?r7u73
        case y7u73 => (intro W hSW; (try dsimp only at hSW); go_simp; try with_reducible rfl)
        simp only [Act.put, List.setIfInBounds_toArray, List.set_cons_zero, List.set_cons_succ]
        refine takeH 8 (v := ?v8u74) rfl (by kernel_rfl) (by kernel_rfl) (by kernel_rfl) rfl (fun _ _ _ h => h) (Or.inl ⟨by rfl, ?y8u74⟩) hHeld ?r8u74
        case y8u74 => (intro W hSW; (try dsimp only at hSW); have q0 := hSW.cell 1 rfl 0; have q1 := hSW.cell 1 rfl 1; have q2 := hSW.cell 1 rfl 2; have q3 := hSW.cell 1 rfl 3; have q4 := hSW.cell 1 rfl 4; have q5 := hSW.cell 1 rfl 5; have q6 := hSW.cell 1 rfl 6; simp only [List.getElem?_toArray, List.getElem?_cons_zero, List.getElem?_cons_succ] at q0 q1 q2 q3 q4 q5 q6; go_simp; try with_reducible rfl)
        simp only [Act.put, List.setIfInBounds_toArray, List.set_cons_zero, List.set_cons_succ]
        refine takeH 9 (v := ?v9u75) rfl (by kernel_rfl) (by kernel_rfl) (by kernel_rfl) rfl (fun _ _ _ h => h) (Or.inl ⟨by rfl, ?y9u75⟩) hHeld ?r9u75
        case y9u75 => (intro W hSW; (try dsimp only at hSW); have q0 := hSW.cell 2 rfl 0; have q1 := hSW.cell 2 rfl 1; have q2 := hSW.cell 2 rfl 2; have q3 := hSW.cell 2 rfl 3; simp only [List.getElem?_toArray, List.getElem?_cons_zero, List.getElem?_cons_succ] at q0 q1 q2 q3; go_simp; try with_reducible rfl)
        simp only [Act.put, List.setIfInBounds_toArray, List.set_cons_zero, List.set_cons_succ]
        refine takeH 11 (v := ?v11u76) rfl (by kernel_rfl) (by kernel_rfl) (by kernel_rfl) rfl (fun _ _ _ h => h) (Or.inl ⟨by rfl, ?y11u76⟩) hHeld ?r11u76
        case y11u76 => (intro W hSW; (try dsimp only at hSW); go_simp; try with_reducible rfl)
        simp only [Act.put, List.setIfInBounds_toArray, List.set_cons_zero, List.set_cons_succ]
        refine wpAnyH_ready (rs := [10]) (by kernel_rfl) (by simp) ?_
        refine AllReadyH.cons rfl (fun K hK => ?_) AllReadyH.nil
        go_simp
        with_reducible refine (Within_c q a k cm x y z ⟨pf, pl, pr, pt⟩ _).mono ?_
        rw [HWI.out]
        rintro e wn ⟨rfl, hbn⟩
        have hkn := hHeld.next hbn
        clear hbn
        refine hK.out _ _ hkn (fun hHeld => ?_)
        clear hK K
        try simp only [Act.put, List.setIfInBounds_toArray, List.set_cons_zero, List.set_cons_succ]
        refine takeH 12 (v := ?v12u77) rfl (by kernel_rfl) (by kernel_rfl) (by kernel_rfl) rfl (fun _ _ _ h => h) (Or.inl ⟨by rfl, ?y12u77⟩) hHeld ?r12u77
        case y12u77 => (intro W hSW; (try dsimp only at hSW); go_simp; try with_reducible rfl)
        simp only [Act.put, List.setIfInBounds_toArray, List.set_cons_zero, List.set_cons_succ]
        refine takeH 13 (v := ?v13u78) rfl (by kernel_rfl) (by kernel_rfl) (by kernel_rfl) rfl (fun _ _ _ h => h) (Or.inl ⟨by rfl, ?y13u78⟩) hHeld ?r13u78
        case y13u78 => (intro W hSW; (try dsimp only at hSW); go_simp; try with_reducible rfl)
        simp only [Act.put, List.setIfInBounds_toArray, List.set_cons_zero, List.set_cons_succ]
        refine takeH 14 (v := ?v14u79) rfl (by kernel_rfl) (by kernel_rfl) (by kernel_rfl) rfl (fun _ _ _ h => h) (Or.inl ⟨by rfl, ?y14u79⟩) hHeld ?r14u79
        case y14u79 => (intro W hSW; (try dsimp only at hSW); go_simp; try with_reducible rfl)
        simp only [Act.put, List.setIfInBounds_toArray, List.set_cons_zero, List.set_cons_succ]
        refine wpAnyH_done (by kernel_rfl) ?_ _
        refine NoPanic.normal ?_
        go_wp2
        go_ret
        exact ⟨rfl, hHeld.bel⟩
      replace g0 := Decidable.not_not.1 g0
      by_cases g1 : ¬ (q ≤ pl)
      · have d0 : decide (pf ≤ q) = true := by simpa using g0
        have d1 : decide (q ≤ pl) = false := by simpa using g1
        have HWI := Lib.hid (show withinF q a ⟨pf, pl, pr, pt⟩ = false from by unfold withinF; rw [decide_eq_false_iff_not]; simp only; omega)
        clear g0 g1
        have c_e_0 : wn.cell? ⟨w.heap.size + 3, 0, none⟩ = some (.int .i64 q) := HK7.out.cell 1 rfl 0
        have c_e_1 : wn.cell? ⟨w.heap.size + 3, 1, none⟩ = some (.int .i64 a) := HK7.out.cell 1 rfl 1
        have c_e_2 : wn.cell? ⟨w.heap.size + 3, 2, none⟩ = some (.int .i64 k) := HK7.out.cell 1 rfl 2
        have c_e_3 : wn.cell? ⟨w.heap.size + 3, 3, none⟩ = some (.string cm) := HK7.out.cell 1 rfl 3
        have c_e_4 : wn.cell? ⟨w.heap.size + 3, 4, none⟩ = some (.int .i64 x) := HK7.out.cell 1 rfl 4
        have c_e_5 : wn.cell? ⟨w.heap.size + 3, 5, none⟩ = some (.int .i64 y) := HK7.out.cell 1 rfl 5
        have c_e_6 : wn.cell? ⟨w.heap.size + 3, 6, none⟩ = some (.int .i64 z) := HK7.out.cell 1 rfl 6
        have c_p_0 : wn.cell? ⟨w.heap.size + 2, 0, none⟩ = some (.int .i64 pf) := HK7.out.cell 2 rfl 0
        have c_p_1 : wn.cell? ⟨w.heap.size + 2, 1, none⟩ = some (.int .i64 pl) := HK7.out.cell 2 rfl 1
        have c_p_2 : wn.cell? ⟨w.heap.size + 2, 2, none⟩ = some (.int .i64 pr) := HK7.out.cell 2 rfl 2
        have c_p_3 : wn.cell? ⟨w.heap.size + 2, 3, none⟩ = some (.int .i64 pt) := HK7.out.cell 2 rfl 3
        go_wp2_with fail
        clear c_e_0 c_e_1 c_e_2 c_e_3 c_e_4 c_e_5 c_e_6 c_p_0 c_p_1 c_p_2 c_p_3
        refine wp_region_noPanic ?_
        refine wp_region_held_drew (S := fun W' => Kept w W' [(gq, 28, #[.int .i64 sp.f, .int .i64 sp.l, .int .i64 sp.r, .int .i64 sp.t]), (w.heap.size + 3, 30, #[.int .i64 q, .int .i64 a, .int .i64 k, .string cm, .int .i64 x, .int .i64 y, .int .i64 z]), (w.heap.size + 2, 28, #[.int .i64 pf, .int .i64 pl, .int .i64 pr, .int .i64 pt]), (w.heap.size + 1, 26, #[.int .i64 nm, .int .i64 f, .int .i64 l, .int .i64 r, .int .i64 tt, .int .i64 sz, .bool sd]), (w.heap.size, 24, #[.int .i64 op, .int .i64 fa, .int .i64 fb, .string name, .slice A n c])]) (by kernel_rfl) HK7.out.drew (fun hHeld => ?_)
        refine takeH 0 (v := ?v0u80) rfl (by kernel_rfl) (by kernel_rfl) (by kernel_rfl) rfl (fun _ _ _ h => h) (Or.inl ⟨by rfl, ?y0u80⟩) hHeld ?r0u80
        case y0u80 => (intro W hSW; (try dsimp only at hSW); have q0 := hSW.cell 3 rfl 0; have q1 := hSW.cell 3 rfl 1; have q2 := hSW.cell 3 rfl 2; have q3 := hSW.cell 3 rfl 3; have q4 := hSW.cell 3 rfl 4; have q5 := hSW.cell 3 rfl 5; have q6 := hSW.cell 3 rfl 6; simp only [List.getElem?_toArray, List.getElem?_cons_zero, List.getElem?_cons_succ] at q0 q1 q2 q3 q4 q5 q6; go_simp; try with_reducible rfl)
        simp only [Act.put, List.setIfInBounds_toArray, List.set_cons_zero, List.set_cons_succ]
        refine takeH 1 (v := ?v1u81) rfl (by kernel_rfl) (by kernel_rfl) (by kernel_rfl) rfl (fun _ _ _ h => h) (Or.inl ⟨by rfl, ?y1u81⟩) hHeld ?r1u81
        case y1u81 => (intro W hSW; (try dsimp only at hSW); have q0 := hSW.cell 2 rfl 0; have q1 := hSW.cell 2 rfl 1; have q2 := hSW.cell 2 rfl 2; have q3 := hSW.cell 2 rfl 3; simp only [List.getElem?_toArray, List.getElem?_cons_zero, List.getElem?_cons_succ] at q0 q1 q2 q3; go_simp; try with_reducible rfl)
        simp only [Act.put, List.setIfInBounds_toArray, List.set_cons_zero, List.set_cons_succ]
        refine takeH 3 (v := ?v3u82) rfl (by kernel_rfl) (by kernel_rfl) (by kernel_rfl) rfl (fun _ _ _ h => h) (Or.inl ⟨by rfl, ?y3u82⟩) hHeld ?r3u82
        case y3u82 => (intro W hSW; (try dsimp only at hSW); have q0 := hSW.cell 3 rfl 0; have q1 := hSW.cell 3 rfl 1; have q2 := hSW.cell 3 rfl 2; have q3 := hSW.cell 3 rfl 3; have q4 := hSW.cell 3 rfl 4; have q5 := hSW.cell 3 rfl 5; have q6 := hSW.cell 3 rfl 6; simp only [List.getElem?_toArray, List.getElem?_cons_zero, List.getElem?_cons_succ] at q0 q1 q2 q3 q4 q5 q6; go_simp; try with_reducible rfl)
        simp only [Act.put, List.setIfInBounds_toArray, List.set_cons_zero, List.set_cons_succ]
        refine takeH 4 (v := ?v4u83) rfl (by kernel_rfl) (by kernel_rfl) (by kernel_rfl) rfl (fun _ _ _ h => h) (Or.inl ⟨by rfl, ?y4u83⟩) hHeld ?r4u83
        case y4u83 => (intro W hSW; (try dsimp only at hSW); have q0 := hSW.cell 2 rfl 0; have q1 := hSW.cell 2 rfl 1; have q2 := hSW.cell 2 rfl 2; have q3 := hSW.cell 2 rfl 3; simp only [List.getElem?_toArray, List.getElem?_cons_zero, List.getElem?_cons_succ] at q0 q1 q2 q3; go_simp; try with_reducible rfl)
        simp only [Act.put, List.setIfInBounds_toArray, List.set_cons_zero, List.set_cons_succ]
        refine wpAnyH_ready (rs := [2]) (by kernel_rfl) (by simp) ?_
        refine AllReadyH.cons rfl (fun K hK => ?_) AllReadyH.nil
        go_simp
        with_reducible refine (Meets_c nm f l r tt sz sd ⟨pf, pl, pr, pt⟩ f1 l2 _).mono ?_
        rintro e wn ⟨rfl, hbn⟩
        have hkn := hHeld.next hbn
        clear hbn
        refine hK.out _ _ hkn (fun hHeld => ?_)
        clear hK K
        try simp only [Act.put, List.setIfInBounds_toArray, List.set_cons_zero, List.set_cons_succ]
        refine wpAnyH_ready (rs := [5]) (by kernel_rfl) (by simp) ?_
        refine AllReadyH.cons rfl (fun K hK => ?_) AllReadyH.nil
        go_simp
        with_reducible refine (rMeets_c nm f l r tt sz sd ⟨pf, pl, pr, pt⟩ _).mono ?_
        rintro e wn ⟨rfl, hbn⟩
        have hkn := hHeld.next hbn
        clear hbn
        refine hK.out _ _ hkn (fun hHeld => ?_)
        clear hK K
        try simp only [Act.put, List.setIfInBounds_toArray, List.set_cons_zero, List.set_cons_succ]
        generalize meetsF f l r tt ⟨pf, pl, pr, pt⟩ = mm
        refine takeH 6 (v := ?v6u84) rfl (by kernel_rfl) (by kernel_rfl) (by kernel_rfl) rfl (fun _ _ _ h => h) (Or.inl ⟨by rfl, ?y6u84⟩) hHeld ?r6u84
        case y6u84 => (intro W hSW; (try dsimp only at hSW); go_simp; try with_reducible rfl)
        simp only [Act.put, List.setIfInBounds_toArray, List.set_cons_zero, List.set_cons_succ]
        refine takeH 7 (v := ?v7u85) rfl (by kernel_rfl) (by kernel_rfl) (by kernel_rfl) rfl (fun _ _ _ h => h) (Or.inl ⟨by rfl, ?y7u85⟩) hHeld ?r7u85
        case y7u85 => (intro W hSW; (try dsimp only at hSW); go_simp; try with_reducible rfl)
        simp only [Act.put, List.setIfInBounds_toArray, List.set_cons_zero, List.set_cons_succ]
        refine takeH 8 (v := ?v8u86) rfl (by kernel_rfl) (by kernel_rfl) (by kernel_rfl) rfl (fun _ _ _ h => h) (Or.inl ⟨by rfl, ?y8u86⟩) hHeld ?r8u86
        case y8u86 => (intro W hSW; (try dsimp only at hSW); have q0 := hSW.cell 1 rfl 0; have q1 := hSW.cell 1 rfl 1; have q2 := hSW.cell 1 rfl 2; have q3 := hSW.cell 1 rfl 3; have q4 := hSW.cell 1 rfl 4; have q5 := hSW.cell 1 rfl 5; have q6 := hSW.cell 1 rfl 6; simp only [List.getElem?_toArray, List.getElem?_cons_zero, List.getElem?_cons_succ] at q0 q1 q2 q3 q4 q5 q6; go_simp; try with_reducible rfl)
        simp only [Act.put, List.setIfInBounds_toArray, List.set_cons_zero, List.set_cons_succ]
        refine takeH 9 (v := ?v9u87) rfl (by kernel_rfl) (by kernel_rfl) (by kernel_rfl) rfl (fun _ _ _ h => h) (Or.inl ⟨by rfl, ?y9u87⟩) hHeld ?r9u87
        case y9u87 => (intro W hSW; (try dsimp only at hSW); have q0 := hSW.cell 2 rfl 0; have q1 := hSW.cell 2 rfl 1; have q2 := hSW.cell 2 rfl 2; have q3 := hSW.cell 2 rfl 3; simp only [List.getElem?_toArray, List.getElem?_cons_zero, List.getElem?_cons_succ] at q0 q1 q2 q3; go_simp; try with_reducible rfl)
        simp only [Act.put, List.setIfInBounds_toArray, List.set_cons_zero, List.set_cons_succ]
        refine takeH 11 (v := ?v11u88) rfl (by kernel_rfl) (by kernel_rfl) (by kernel_rfl) rfl (fun _ _ _ h => h) (Or.inl ⟨by rfl, ?y11u88⟩) hHeld ?r11u88
        case y11u88 => (intro W hSW; (try dsimp only at hSW); go_simp; try with_reducible rfl)
        simp only [Act.put, List.setIfInBounds_toArray, List.set_cons_zero, List.set_cons_succ]
        refine wpAnyH_ready (rs := [10]) (by kernel_rfl) (by simp) ?_
        refine AllReadyH.cons rfl (fun K hK => ?_) AllReadyH.nil
        go_simp
        with_reducible refine (Within_c q a k cm x y z ⟨pf, pl, pr, pt⟩ _).mono ?_
        rw [HWI.out]
        rintro e wn ⟨rfl, hbn⟩
        have hkn := hHeld.next hbn
        clear hbn
        refine hK.out _ _ hkn (fun hHeld => ?_)
        clear hK K
        try simp only [Act.put, List.setIfInBounds_toArray, List.set_cons_zero, List.set_cons_succ]
        refine takeH 12 (v := ?v12u89) rfl (by kernel_rfl) (by kernel_rfl) (by kernel_rfl) rfl (fun _ _ _ h => h) (Or.inl ⟨by rfl, ?y12u89⟩) hHeld ?r12u89
        case y12u89 => (intro W hSW; (try dsimp only at hSW); go_simp; try with_reducible rfl)
        simp only [Act.put, List.setIfInBounds_toArray, List.set_cons_zero, List.set_cons_succ]
        refine takeH 13 (v := ?v13u90) rfl (by kernel_rfl) (by kernel_rfl) (by kernel_rfl) rfl (fun _ _ _ h => h) (Or.inl ⟨by rfl, ?y13u90⟩) hHeld ?r13u90
        case y13u90 => (intro W hSW; (try dsimp only at hSW); go_simp; try with_reducible rfl)
        simp only [Act.put, List.setIfInBounds_toArray, List.set_cons_zero, List.set_cons_succ]
        refine takeH 14 (v := ?v14u91) rfl (by kernel_rfl) (by kernel_rfl) (by kernel_rfl) rfl (fun _ _ _ h => h) (Or.inl ⟨by rfl, ?y14u91⟩) hHeld ?r14u91
        case y14u91 => (intro W hSW; (try dsimp only at hSW); go_simp; try with_reducible rfl)
        simp only [Act.put, List.setIfInBounds_toArray, List.set_cons_zero, List.set_cons_succ]
        refine wpAnyH_done (by kernel_rfl) ?_ _
        refine NoPanic.normal ?_
        go_wp2
        go_ret
        exact ⟨rfl, hHeld.bel⟩
      replace g1 := Decidable.not_not.1 g1
      by_cases g2 : ¬ (pr ≤ a)
      · have d0 : decide (pf ≤ q) = true := by simpa using g0
        have d1 : decide (q ≤ pl) = true := by simpa using g1
        have d2 : decide (pr ≤ a) = false := by simpa using g2
        have HWI := Lib.hid (show withinF q a ⟨pf, pl, pr, pt⟩ = false from by unfold withinF; rw [decide_eq_false_iff_not]; simp only; omega)
        clear g0 g1 g2
        have c_e_0 : wn.cell? ⟨w.heap.size + 3, 0, none⟩ = some (.int .i64 q) := HK7.out.cell 1 rfl 0
        have c_e_1 : wn.cell? ⟨w.heap.size + 3, 1, none⟩ = some (.int .i64 a) := HK7.out.cell 1 rfl 1
        have c_e_2 : wn.cell? ⟨w.heap.size + 3, 2, none⟩ = some (.int .i64 k) := HK7.out.cell 1 rfl 2
        have c_e_3 : wn.cell? ⟨w.heap.size + 3, 3, none⟩ = some (.string cm) := HK7.out.cell 1 rfl 3
        have c_e_4 : wn.cell? ⟨w.heap.size + 3, 4, none⟩ = some (.int .i64 x) := HK7.out.cell 1 rfl 4
        have c_e_5 : wn.cell? ⟨w.heap.size + 3, 5, none⟩ = some (.int .i64 y) := HK7.out.cell 1 rfl 5
        have c_e_6 : wn.cell? ⟨w.heap.size + 3, 6, none⟩ = some (.int .i64 z) := HK7.out.cell 1 rfl 6
        have c_p_0 : wn.cell? ⟨w.heap.size + 2, 0, none⟩ = some (.int .i64 pf) := HK7.out.cell 2 rfl 0
        have c_p_1 : wn.cell? ⟨w.heap.size + 2, 1, none⟩ = some (.int .i64 pl) := HK7.out.cell 2 rfl 1
        have c_p_2 : wn.cell? ⟨w.heap.size + 2, 2, none⟩ = some (.int .i64 pr) := HK7.out.cell 2 rfl 2
        have c_p_3 : wn.cell? ⟨w.heap.size + 2, 3, none⟩ = some (.int .i64 pt) := HK7.out.cell 2 rfl 3
        go_wp2_with fail
        clear c_e_0 c_e_1 c_e_2 c_e_3 c_e_4 c_e_5 c_e_6 c_p_0 c_p_1 c_p_2 c_p_3
        refine wp_region_noPanic ?_
        refine wp_region_held_drew (S := fun W' => Kept w W' [(gq, 28, #[.int .i64 sp.f, .int .i64 sp.l, .int .i64 sp.r, .int .i64 sp.t]), (w.heap.size + 3, 30, #[.int .i64 q, .int .i64 a, .int .i64 k, .string cm, .int .i64 x, .int .i64 y, .int .i64 z]), (w.heap.size + 2, 28, #[.int .i64 pf, .int .i64 pl, .int .i64 pr, .int .i64 pt]), (w.heap.size + 1, 26, #[.int .i64 nm, .int .i64 f, .int .i64 l, .int .i64 r, .int .i64 tt, .int .i64 sz, .bool sd]), (w.heap.size, 24, #[.int .i64 op, .int .i64 fa, .int .i64 fb, .string name, .slice A n c])]) (by kernel_rfl) HK7.out.drew (fun hHeld => ?_)
        refine takeH 0 (v := ?v0u92) rfl (by kernel_rfl) (by kernel_rfl) (by kernel_rfl) rfl (fun _ _ _ h => h) (Or.inl ⟨by rfl, ?y0u92⟩) hHeld ?r0u92
        case y0u92 => (intro W hSW; (try dsimp only at hSW); have q0 := hSW.cell 3 rfl 0; have q1 := hSW.cell 3 rfl 1; have q2 := hSW.cell 3 rfl 2; have q3 := hSW.cell 3 rfl 3; have q4 := hSW.cell 3 rfl 4; have q5 := hSW.cell 3 rfl 5; have q6 := hSW.cell 3 rfl 6; simp only [List.getElem?_toArray, List.getElem?_cons_zero, List.getElem?_cons_succ] at q0 q1 q2 q3 q4 q5 q6; go_simp; try with_reducible rfl)
        simp only [Act.put, List.setIfInBounds_toArray, List.set_cons_zero, List.set_cons_succ]
        refine takeH 1 (v := ?v1u93) rfl (by kernel_rfl) (by kernel_rfl) (by kernel_rfl) rfl (fun _ _ _ h => h) (Or.inl ⟨by rfl, ?y1u93⟩) hHeld ?r1u93
        case y1u93 => (intro W hSW; (try dsimp only at hSW); have q0 := hSW.cell 2 rfl 0; have q1 := hSW.cell 2 rfl 1; have q2 := hSW.cell 2 rfl 2; have q3 := hSW.cell 2 rfl 3; simp only [List.getElem?_toArray, List.getElem?_cons_zero, List.getElem?_cons_succ] at q0 q1 q2 q3; go_simp; try with_reducible rfl)
        simp only [Act.put, List.setIfInBounds_toArray, List.set_cons_zero, List.set_cons_succ]
        refine takeH 3 (v := ?v3u94) rfl (by kernel_rfl) (by kernel_rfl) (by kernel_rfl) rfl (fun _ _ _ h => h) (Or.inl ⟨by rfl, ?y3u94⟩) hHeld ?r3u94
        case y3u94 => (intro W hSW; (try dsimp only at hSW); have q0 := hSW.cell 3 rfl 0; have q1 := hSW.cell 3 rfl 1; have q2 := hSW.cell 3 rfl 2; have q3 := hSW.cell 3 rfl 3; have q4 := hSW.cell 3 rfl 4; have q5 := hSW.cell 3 rfl 5; have q6 := hSW.cell 3 rfl 6; simp only [List.getElem?_toArray, List.getElem?_cons_zero, List.getElem?_cons_succ] at q0 q1 q2 q3 q4 q5 q6; go_simp; try with_reducible rfl)
        simp only [Act.put, List.setIfInBounds_toArray, List.set_cons_zero, List.set_cons_succ]
        refine takeH 4 (v := ?v4u95) rfl (by kernel_rfl) (by kernel_rfl) (by kernel_rfl) rfl (fun _ _ _ h => h) (Or.inl ⟨by rfl, ?y4u95⟩) hHeld ?r4u95
        case y4u95 => (intro W hSW; (try dsimp only at hSW); have q0 := hSW.cell 2 rfl 0; have q1 := hSW.cell 2 rfl 1; have q2 := hSW.cell 2 rfl 2; have q3 := hSW.cell 2 rfl 3; simp only [List.getElem?_toArray, List.getElem?_cons_zero, List.getElem?_cons_succ] at q0 q1 q2 q3; go_simp; try with_reducible rfl)
        simp only [Act.put, List.setIfInBounds_toArray, List.set_cons_zero, List.set_cons_succ]
        refine wpAnyH_ready (rs := [2]) (by kernel_rfl) (by simp) ?_
        refine AllReadyH.cons rfl (fun K hK => ?_) AllReadyH.nil
        go_simp
        with_reducible refine (Meets_c nm f l r tt sz sd ⟨pf, pl, pr, pt⟩ f1 l2 _).mono ?_
        rintro e wn ⟨rfl, hbn⟩
        have hkn := hHeld.next hbn
        clear hbn
        refine hK.out _ _ hkn (fun hHeld => ?_)
        clear hK K
        try simp only [Act.put, List.setIfInBounds_toArray, List.set_cons_zero, List.set_cons_succ]
        refine wpAnyH_ready (rs := [5]) (by kernel_rfl) (by simp) ?_
        refine AllReadyH.cons rfl (fun K hK => ?_) AllReadyH.nil
        go_simp
        with_reducible refine (rMeets_c nm f l r tt sz sd ⟨pf, pl, pr, pt⟩ _).mono ?_
        rintro e wn ⟨rfl, hbn⟩
        have hkn := hHeld.next hbn
        clear hbn
        refine hK.out _ _ hkn (fun hHeld => ?_)
        clear hK K
        try simp only [Act.put, List.setIfInBounds_toArray, List.set_cons_zero, List.set_cons_succ]
        generalize meetsF f l r tt ⟨pf, pl, pr, pt⟩ = mm
        refine takeH 6 (v := ?v6u96) rfl (by kernel_rfl) (by kernel_rfl) (by kernel_rfl) rfl (fun _ _ _ h => h) (Or.inl ⟨by rfl, ?y6u96⟩) hHeld ?r6u96
        case y6u96 => (intro W hSW; (try dsimp only at hSW); go_simp; try with_reducible rfl)
        simp only [Act.put, List.setIfInBounds_toArray, List.set_cons_zero, List.set_cons_succ]
        refine takeH 7 (v := ?v7u97) rfl (by kernel_rfl) (by kernel_rfl) (by kernel_rfl) rfl (fun _ _ _ h => h) (Or.inl ⟨by rfl, ?y7u97⟩) hHeld ?r7u97
        case y7u97 => (intro W hSW; (try dsimp only at hSW); go_simp; try with_reducible rfl)
        simp only [Act.put, List.setIfInBounds_toArray, List.set_cons_zero, List.set_cons_succ]
        refine takeH 8 (v := ?v8u98) rfl (by kernel_rfl) (by kernel_rfl) (by kernel_rfl) rfl (fun _ _ _ h => h) (Or.inl ⟨by rfl, ?y8u98⟩) hHeld ?r8u98
        case y8u98 => (intro W hSW; (try dsimp only at hSW); have q0 := hSW.cell 1 rfl 0; have q1 := hSW.cell 1 rfl 1; have q2 := hSW.cell 1 rfl 2; have q3 := hSW.cell 1 rfl 3; have q4 := hSW.cell 1 rfl 4; have q5 := hSW.cell 1 rfl 5; have q6 := hSW.cell 1 rfl 6; simp only [List.getElem?_toArray, List.getElem?_cons_zero, List.getElem?_cons_succ] at q0 q1 q2 q3 q4 q5 q6; go_simp; try with_reducible rfl)
        simp only [Act.put, List.setIfInBounds_toArray, List.set_cons_zero, List.set_cons_succ]
        refine takeH 9 (v := ?v9u99) rfl (by kernel_rfl) (by kernel_rfl) (by kernel_rfl) rfl (fun _ _ _ h => h) (Or.inl ⟨by rfl, ?y9u99⟩) hHeld ?r9u99
        case y9u99 => (intro W hSW; (try dsimp only at hSW); have q0 := hSW.cell 2 rfl 0; have q1 := hSW.cell 2 rfl 1; have q2 := hSW.cell 2 rfl 2; have q3 := hSW.cell 2 rfl 3; simp only [List.getElem?_toArray, List.getElem?_cons_zero, List.getElem?_cons_succ] at q0 q1 q2 q3; go_simp; try with_reducible rfl)
        simp only [Act.put, List.setIfInBounds_toArray, List.set_cons_zero, List.set_cons_succ]
        refine takeH 11 (v := ?v11u100) rfl (by kernel_rfl) (by kernel_rfl) (by kernel_rfl) rfl (fun _ _ _ h => h) (Or.inl ⟨by rfl, ?y11u100⟩) hHeld ?r11u100
        case y11u100 => (intro W hSW; (try dsimp only at hSW); go_simp; try with_reducible rfl)
        simp only [Act.put, List.setIfInBounds_toArray, List.set_cons_zero, List.set_cons_succ]
        refine wpAnyH_ready (rs := [10]) (by kernel_rfl) (by simp) ?_
        refine AllReadyH.cons rfl (fun K hK => ?_) AllReadyH.nil
        go_simp
        with_reducible refine (Within_c q a k cm x y z ⟨pf, pl, pr, pt⟩ _).mono ?_
        rw [HWI.out]
        rintro e wn ⟨rfl, hbn⟩
        have hkn := hHeld.next hbn
        clear hbn
        refine hK.out _ _ hkn (fun hHeld => ?_)
        clear hK K
        try simp only [Act.put, List.setIfInBounds_toArray, List.set_cons_zero, List.set_cons_succ]
        refine takeH 12 (v := ?v12u101) rfl (by kernel_rfl) (by kernel_rfl) (by kernel_rfl) rfl (fun _ _ _ h => h) (Or.inl ⟨by rfl, ?y12u101⟩) hHeld ?r12u101
        case y12u101 => (intro W hSW; (try dsimp only at hSW); go_simp; try with_reducible rfl)
        simp only [Act.put, List.setIfInBounds_toArray, List.set_cons_zero, List.set_cons_succ]
        refine takeH 13 (v := ?v13u102) rfl (by kernel_rfl) (by kernel_rfl) (by kernel_rfl) rfl (fun _ _ _ h => h) (Or.inl ⟨by rfl, ?y13u102⟩) hHeld ?r13u102
        case y13u102 => (intro W hSW; (try dsimp only at hSW); go_simp; try with_reducible rfl)
        simp only [Act.put, List.setIfInBounds_toArray, List.set_cons_zero, List.set_cons_succ]
        refine takeH 14 (v := ?v14u103) rfl (by kernel_rfl) (by kernel_rfl) (by kernel_rfl) rfl (fun _ _ _ h => h) (Or.inl ⟨by rfl, ?y14u103⟩) hHeld ?r14u103
        case y14u103 => (intro W hSW; (try dsimp only at hSW); go_simp; try with_reducible rfl)
        simp only [Act.put, List.setIfInBounds_toArray, List.set_cons_zero, List.set_cons_succ]
        refine wpAnyH_done (by kernel_rfl) ?_ _
        refine NoPanic.normal ?_
        go_wp2
        go_ret
        exact ⟨rfl, hHeld.bel⟩
      replace g2 := Decidable.not_not.1 g2
      by_cases g3 : ¬ (a ≤ pt)
      · have d0 : decide (pf ≤ q) = true := by simpa using g0
        have d1 : decide (q ≤ pl) = true := by simpa using g1
        have d2 : decide (pr ≤ a) = true := by simpa using g2
        have d3 : decide (a ≤ pt) = false := by simpa using g3
        have HWI := Lib.hid (show withinF q a ⟨pf, pl, pr, pt⟩ = false from by unfold withinF; rw [decide_eq_false_iff_not]; simp only; omega)
        clear g0 g1 g2 g3
        have c_e_0 : wn.cell? ⟨w.heap.size + 3, 0, none⟩ = some (.int .i64 q) := HK7.out.cell 1 rfl 0
        have c_e_1 : wn.cell? ⟨w.heap.size + 3, 1, none⟩ = some (.int .i64 a) := HK7.out.cell 1 rfl 1
        have c_e_2 : wn.cell? ⟨w.heap.size + 3, 2, none⟩ = some (.int .i64 k) := HK7.out.cell 1 rfl 2
        have c_e_3 : wn.cell? ⟨w.heap.size + 3, 3, none⟩ = some (.string cm) := HK7.out.cell 1 rfl 3
        have c_e_4 : wn.cell? ⟨w.heap.size + 3, 4, none⟩ = some (.int .i64 x) := HK7.out.cell 1 rfl 4
        have c_e_5 : wn.cell? ⟨w.heap.size + 3, 5, none⟩ = some (.int .i64 y) := HK7.out.cell 1 rfl 5
        have c_e_6 : wn.cell? ⟨w.heap.size + 3, 6, none⟩ = some (.int .i64 z) := HK7.out.cell 1 rfl 6
        have c_p_0 : wn.cell? ⟨w.heap.size + 2, 0, none⟩ = some (.int .i64 pf) := HK7.out.cell 2 rfl 0
        have c_p_1 : wn.cell? ⟨w.heap.size + 2, 1, none⟩ = some (.int .i64 pl) := HK7.out.cell 2 rfl 1
        have c_p_2 : wn.cell? ⟨w.heap.size + 2, 2, none⟩ = some (.int .i64 pr) := HK7.out.cell 2 rfl 2
        have c_p_3 : wn.cell? ⟨w.heap.size + 2, 3, none⟩ = some (.int .i64 pt) := HK7.out.cell 2 rfl 3
        go_wp2_with fail
        clear c_e_0 c_e_1 c_e_2 c_e_3 c_e_4 c_e_5 c_e_6 c_p_0 c_p_1 c_p_2 c_p_3
        refine wp_region_noPanic ?_
        refine wp_region_held_drew (S := fun W' => Kept w W' [(gq, 28, #[.int .i64 sp.f, .int .i64 sp.l, .int .i64 sp.r, .int .i64 sp.t]), (w.heap.size + 3, 30, #[.int .i64 q, .int .i64 a, .int .i64 k, .string cm, .int .i64 x, .int .i64 y, .int .i64 z]), (w.heap.size + 2, 28, #[.int .i64 pf, .int .i64 pl, .int .i64 pr, .int .i64 pt]), (w.heap.size + 1, 26, #[.int .i64 nm, .int .i64 f, .int .i64 l, .int .i64 r, .int .i64 tt, .int .i64 sz, .bool sd]), (w.heap.size, 24, #[.int .i64 op, .int .i64 fa, .int .i64 fb, .string name, .slice A n c])]) (by kernel_rfl) HK7.out.drew (fun hHeld => ?_)
        refine takeH 0 (v := ?v0u104) rfl (by kernel_rfl) (by kernel_rfl) (by kernel_rfl) rfl (fun _ _ _ h => h) (Or.inl ⟨by rfl, ?y0u104⟩) hHeld ?r0u104
        case y0u104 => (intro W hSW; (try dsimp only at hSW); have q0 := hSW.cell 3 rfl 0; have q1 := hSW.cell 3 rfl 1; have q2 := hSW.cell 3 rfl 2; have q3 := hSW.cell 3 rfl 3; have q4 := hSW.cell 3 rfl 4; have q5 := hSW.cell 3 rfl 5; have q6 := hSW.cell 3 rfl 6; simp only [List.getElem?_toArray, List.getElem?_cons_zero, List.getElem?_cons_succ] at q0 q1 q2 q3 q4 q5 q6; go_simp; try with_reducible rfl)
        simp only [Act.put, List.setIfInBounds_toArray, List.set_cons_zero, List.set_cons_succ]
        refine takeH 1 (v := ?v1u105) rfl (by kernel_rfl) (by kernel_rfl) (by kernel_rfl) rfl (fun _ _ _ h => h) (Or.inl ⟨by rfl, ?y1u105⟩) hHeld ?r1u105
        case y1u105 => (intro W hSW; (try dsimp only at hSW); have q0 := hSW.cell 2 rfl 0; have q1 := hSW.cell 2 rfl 1; have q2 := hSW.cell 2 rfl 2; have q3 := hSW.cell 2 rfl 3; simp only [List.getElem?_toArray, List.getElem?_cons_zero, List.getElem?_cons_succ] at q0 q1 q2 q3; go_simp; try with_reducible rfl)
        simp only [Act.put, List.setIfInBounds_toArray, List.set_cons_zero, List.set_cons_succ]
        refine takeH 3 (v := ?v3u106) rfl (by kernel_rfl) (by kernel_rfl) (by kernel_rfl) rfl (fun _ _ _ h => h) (Or.inl ⟨by rfl, ?y3u106⟩) hHeld ?r3u106
        case y3u106 => (intro W hSW; (try dsimp only at hSW); have q0 := hSW.cell 3 rfl 0; have q1 := hSW.cell 3 rfl 1; have q2 := hSW.cell 3 rfl 2; have q3 := hSW.cell 3 rfl 3; have q4 := hSW.cell 3 rfl 4; have q5 := hSW.cell 3 rfl 5; have q6 := hSW.cell 3 rfl 6; simp only [List.getElem?_toArray, List.getElem?_cons_zero, List.getElem?_cons_succ] at q0 q1 q2 q3 q4 q5 q6; go_simp; try with_reducible rfl)
        simp only [Act.put, List.setIfInBounds_toArray, List.set_cons_zero, List.set_cons_succ]
        refine takeH 4 (v := ?v4u107) rfl (by kernel_rfl) (by kernel_rfl) (by kernel_rfl) rfl (fun _ _ _ h => h) (Or.inl ⟨by rfl, ?y4u107⟩) hHeld ?r4u107
        case y4u107 => (intro W hSW; (try dsimp only at hSW); have q0 := hSW.cell 2 rfl 0; have q1 := hSW.cell 2 rfl 1; have q2 := hSW.cell 2 rfl 2; have q3 := hSW.cell 2 rfl 3; simp only [List.getElem?_toArray, List.getElem?_cons_zero, List.getElem?_cons_succ] at q0 q1 q2 q3; go_simp; try with_reducible rfl)
        simp only [Act.put, List.setIfInBounds_toArray, List.set_cons_zero, List.set_cons_succ]
        refine wpAnyH_ready (rs := [2]) (by kernel_rfl) (by simp) ?_
        refine AllReadyH.cons rfl (fun K hK => ?_) AllReadyH.nil
        go_simp
        with_reducible refine (Meets_c nm f l r tt sz sd ⟨pf, pl, pr, pt⟩ f1 l2 _).mono ?_
        rintro e wn ⟨rfl, hbn⟩
        have hkn := hHeld.next hbn
        clear hbn
        refine hK.out _ _ hkn (fun hHeld => ?_)
        clear hK K
        try simp only [Act.put, List.setIfInBounds_toArray, List.set_cons_zero, List.set_cons_succ]
        refine wpAnyH_ready (rs := [5]) (by kernel_rfl) (by simp) ?_
        refine AllReadyH.cons rfl (fun K hK => ?_) AllReadyH.nil
        go_simp
        with_reducible refine (rMeets_c nm f l r tt sz sd ⟨pf, pl, pr, pt⟩ _).mono ?_
        rintro e wn ⟨rfl, hbn⟩
        have hkn := hHeld.next hbn
        clear hbn
        refine hK.out _ _ hkn (fun hHeld => ?_)
        clear hK K
        try simp only [Act.put, List.setIfInBounds_toArray, List.set_cons_zero, List.set_cons_succ]
        generalize meetsF f l r tt ⟨pf, pl, pr, pt⟩ = mm
        refine takeH 6 (v := ?v6u108) rfl (by kernel_rfl) (by kernel_rfl) (by kernel_rfl) rfl (fun _ _ _ h => h) (Or.inl ⟨by rfl, ?y6u108⟩) hHeld ?r6u108
        case y6u108 => (intro W hSW; (try dsimp only at hSW); go_simp; try with_reducible rfl)
        simp only [Act.put, List.setIfInBounds_toArray, List.set_cons_zero, List.set_cons_succ]
        refine takeH 7 (v := ?v7u109) rfl (by kernel_rfl) (by kernel_rfl) (by kernel_rfl) rfl (fun _ _ _ h => h) (Or.inl ⟨by rfl, ?y7u109⟩) hHeld ?r7u109
        case y7u109 => (intro W hSW; (try dsimp only at hSW); go_simp; try with_reducible rfl)
        simp only [Act.put, List.setIfInBounds_toArray, List.set_cons_zero, List.set_cons_succ]
        refine takeH 8 (v := ?v8u110) rfl (by kernel_rfl) (by kernel_rfl) (by kernel_rfl) rfl (fun _ _ _ h => h) (Or.inl ⟨by rfl, ?y8u110⟩) hHeld ?r8u110
        case y8u110 => (intro W hSW; (try dsimp only at hSW); have q0 := hSW.cell 1 rfl 0; have q1 := hSW.cell 1 rfl 1; have q2 := hSW.cell 1 rfl 2; have q3 := hSW.cell 1 rfl 3; have q4 := hSW.cell 1 rfl 4; have q5 := hSW.cell 1 rfl 5; have q6 := hSW.cell 1 rfl 6; simp only [List.getElem?_toArray, List.getElem?_cons_zero, List.getElem?_cons_succ] at q0 q1 q2 q3 q4 q5 q6; go_simp; try with_reducible rfl)
        simp only [Act.put, List.setIfInBounds_toArray, List.set_cons_zero, List.set_cons_succ]
        refine takeH 9 (v := ?v9u111) rfl (by kernel_rfl) (by kernel_rfl) (by kernel_rfl) rfl (fun _ _ _ h => h) (Or.inl ⟨by rfl, ?y9u111⟩) hHeld ?r9u111
        case y9u111 => (intro W hSW; (try dsimp only at hSW); have q0 := hSW.cell 2 rfl 0; have q1 := hSW.cell 2 rfl 1; have q2 := hSW.cell 2 rfl 2; have q3 := hSW.cell 2 rfl 3; simp only [List.getElem?_toArray, List.getElem?_cons_zero, List.getElem?_cons_succ] at q0 q1 q2 q3; go_simp; try with_reducible rfl)
        simp only [Act.put, List.setIfInBounds_toArray, List.set_cons_zero, List.set_cons_succ]
        refine takeH 11 (v := ?v11u112) rfl (by kernel_rfl) (by kernel_rfl) (by kernel_rfl) rfl (fun _ _ _ h => h) (Or.inl ⟨by rfl, ?y11u112⟩) hHeld ?r11u112
        case y11u112 => (intro W hSW; (try dsimp only at hSW); go_simp; try with_reducible rfl)
        simp only [Act.put, List.setIfInBounds_toArray, List.set_cons_zero, List.set_cons_succ]
        refine wpAnyH_ready (rs := [10]) (by kernel_rfl) (by simp) ?_
        refine AllReadyH.cons rfl (fun K hK => ?_) AllReadyH.nil
        go_simp
        with_reducible refine (Within_c q a k cm x y z ⟨pf, pl, pr, pt⟩ _).mono ?_
        rw [HWI.out]
        rintro e wn ⟨rfl, hbn⟩
        have hkn := hHeld.next hbn
        clear hbn
        refine hK.out _ _ hkn (fun hHeld => ?_)
        clear hK K
        try simp only [Act.put, List.setIfInBounds_toArray, List.set_cons_zero, List.set_cons_succ]
        refine takeH 12 (v := ?v12u113) rfl (by kernel_rfl) (by kernel_rfl) (by kernel_rfl) rfl (fun _ _ _ h => h) (Or.inl ⟨by rfl, ?y12u113⟩) hHeld ?r12u113
        case y12u113 => (intro W hSW; (try dsimp only at hSW); go_simp; try with_reducible rfl)
        simp only [Act.put, List.setIfInBounds_toArray, List.set_cons_zero, List.set_cons_succ]
        refine takeH 13 (v := ?v13u114) rfl (by kernel_rfl) (by kernel_rfl) (by kernel_rfl) rfl (fun _ _ _ h => h) (Or.inl ⟨by rfl, ?y13u114⟩) hHeld ?r13u114
        case y13u114 => (intro W hSW; (try dsimp only at hSW); go_simp; try with_reducible rfl)
        simp only [Act.put, List.setIfInBounds_toArray, List.set_cons_zero, List.set_cons_succ]
        refine takeH 14 (v := ?v14u115) rfl (by kernel_rfl) (by kernel_rfl) (by kernel_rfl) rfl (fun _ _ _ h => h) (Or.inl ⟨by rfl, ?y14u115⟩) hHeld ?r14u115
        case y14u115 => (intro W hSW; (try dsimp only at hSW); go_simp; try with_reducible rfl)
        simp only [Act.put, List.setIfInBounds_toArray, List.set_cons_zero, List.set_cons_succ]
        refine wpAnyH_done (by kernel_rfl) ?_ _
        refine NoPanic.normal ?_
        go_wp2
        go_ret
        exact ⟨rfl, hHeld.bel⟩
      replace g3 := Decidable.not_not.1 g3
      have d0 : decide (pf ≤ q) = true := by simpa using g0
      have d1 : decide (q ≤ pl) = true := by simpa using g1
      have d2 : decide (pr ≤ a) = true := by simpa using g2
      have d3 : decide (a ≤ pt) = true := by simpa using g3
      have HWI := Lib.hid (show withinF q a ⟨pf, pl, pr, pt⟩ = true from by unfold withinF; rw [decide_eq_true_eq]; simp only; omega)
      clear g0 g1 g2 g3
      have c_e_0 : wn.cell? ⟨w.heap.size + 3, 0, none⟩ = some (.int .i64 q) := HK7.out.cell 1 rfl 0
      have c_e_1 : wn.cell? ⟨w.heap.size + 3, 1, none⟩ = some (.int .i64 a) := HK7.out.cell 1 rfl 1
      have c_e_2 : wn.cell? ⟨w.heap.size + 3, 2, none⟩ = some (.int .i64 k) := HK7.out.cell 1 rfl 2
      have c_e_3 : wn.cell? ⟨w.heap.size + 3, 3, none⟩ = some (.string cm) := HK7.out.cell 1 rfl 3
      have c_e_4 : wn.cell? ⟨w.heap.size + 3, 4, none⟩ = some (.int .i64 x) := HK7.out.cell 1 rfl 4
      have c_e_5 : wn.cell? ⟨w.heap.size + 3, 5, none⟩ = some (.int .i64 y) := HK7.out.cell 1 rfl 5
      have c_e_6 : wn.cell? ⟨w.heap.size + 3, 6, none⟩ = some (.int .i64 z) := HK7.out.cell 1 rfl 6
      have c_p_0 : wn.cell? ⟨w.heap.size + 2, 0, none⟩ = some (.int .i64 pf) := HK7.out.cell 2 rfl 0
      have c_p_1 : wn.cell? ⟨w.heap.size + 2, 1, none⟩ = some (.int .i64 pl) := HK7.out.cell 2 rfl 1
      have c_p_2 : wn.cell? ⟨w.heap.size + 2, 2, none⟩ = some (.int .i64 pr) := HK7.out.cell 2 rfl 2
      have c_p_3 : wn.cell? ⟨w.heap.size + 2, 3, none⟩ = some (.int .i64 pt) := HK7.out.cell 2 rfl 3
      go_wp2_with fail
      clear c_e_0 c_e_1 c_e_2 c_e_3 c_e_4 c_e_5 c_e_6 c_p_0 c_p_1 c_p_2 c_p_3
      refine wp_region_noPanic ?_
      refine wp_region_held_drew (S := fun W' => Kept w W' [(gq, 28, #[.int .i64 sp.f, .int .i64 sp.l, .int .i64 sp.r, .int .i64 sp.t]), (w.heap.size + 3, 30, #[.int .i64 q, .int .i64 a, .int .i64 k, .string cm, .int .i64 x, .int .i64 y, .int .i64 z]), (w.heap.size + 2, 28, #[.int .i64 pf, .int .i64 pl, .int .i64 pr, .int .i64 pt]), (w.heap.size + 1, 26, #[.int .i64 nm, .int .i64 f, .int .i64 l, .int .i64 r, .int .i64 tt, .int .i64 sz, .bool sd]), (w.heap.size, 24, #[.int .i64 op, .int .i64 fa, .int .i64 fb, .string name, .slice A n c])]) (by kernel_rfl) HK7.out.drew (fun hHeld => ?_)
      refine takeH 0 (v := ?v0u116) rfl (by kernel_rfl) (by kernel_rfl) (by kernel_rfl) rfl (fun _ _ _ h => h) (Or.inl ⟨by rfl, ?y0u116⟩) hHeld ?r0u116
      case y0u116 => (intro W hSW; (try dsimp only at hSW); have q0 := hSW.cell 3 rfl 0; have q1 := hSW.cell 3 rfl 1; have q2 := hSW.cell 3 rfl 2; have q3 := hSW.cell 3 rfl 3; have q4 := hSW.cell 3 rfl 4; have q5 := hSW.cell 3 rfl 5; have q6 := hSW.cell 3 rfl 6; simp only [List.getElem?_toArray, List.getElem?_cons_zero, List.getElem?_cons_succ] at q0 q1 q2 q3 q4 q5 q6; go_simp; try with_reducible rfl)
      simp only [Act.put, List.setIfInBounds_toArray, List.set_cons_zero, List.set_cons_succ]
      refine takeH 1 (v := ?v1u117) rfl (by kernel_rfl) (by kernel_rfl) (by kernel_rfl) rfl (fun _ _ _ h => h) (Or.inl ⟨by rfl, ?y1u117⟩) hHeld ?r1u117
      case y1u117 => (intro W hSW; (try dsimp only at hSW); have q0 := hSW.cell 2 rfl 0; have q1 := hSW.cell 2 rfl 1; have q2 := hSW.cell 2 rfl 2; have q3 := hSW.cell 2 rfl 3; simp only [List.getElem?_toArray, List.getElem?_cons_zero, List.getElem?_cons_succ] at q0 q1 q2 q3; go_simp; try with_reducible rfl)
      simp only [Act.put, List.setIfInBounds_toArray, List.set_cons_zero, List.set_cons_succ]
      refine takeH 3 (v := ?v3u118) rfl (by kernel_rfl) (by kernel_rfl) (by kernel_rfl) rfl (fun _ _ _ h => h) (Or.inl ⟨by rfl, ?y3u118⟩) hHeld ?r3u118
      case y3u118 => (intro W hSW; (try dsimp only at hSW); have q0 := hSW.cell 3 rfl 0; have q1 := hSW.cell 3 rfl 1; have q2 := hSW.cell 3 rfl 2; have q3 := hSW.cell 3 rfl 3; have q4 := hSW.cell 3 rfl 4; have q5 := hSW.cell 3 rfl 5; have q6 := hSW.cell 3 rfl 6; simp only [List.getElem?_toArray, List.getElem?_cons_zero, List.getElem?_cons_succ] at q0 q1 q2 q3 q4 q5 q6; go_simp; try with_reducible rfl)
      simp only [Act.put, List.setIfInBounds_toArray, List.set_cons_zero, List.set_cons_succ]
      refine takeH 4 (v := ?v4u119) rfl (by kernel_rfl) (by kernel_rfl) (by kernel_rfl) rfl (fun _ _ _ h => h) (Or.inl ⟨by rfl, ?y4u119⟩) hHeld ?r4u119
      case y4u119 => (intro W hSW; (try dsimp only at hSW); have q0 := hSW.cell 2 rfl 0; have q1 := hSW.cell 2 rfl 1; have q2 := hSW.cell 2 rfl 2; have q3 := hSW.cell 2 rfl 3; simp only [List.getElem?_toArray, List.getElem?_cons_zero, List.getElem?_cons_succ] at q0 q1 q2 q3; go_simp; try with_reducible rfl)
      simp only [Act.put, List.setIfInBounds_toArray, List.set_cons_zero, List.set_cons_succ]
      refine wpAnyH_ready (rs := [2]) (by kernel_rfl) (by simp) ?_
      refine AllReadyH.cons rfl (fun K hK => ?_) AllReadyH.nil
      go_simp
      with_reducible refine (Meets_c nm f l r tt sz sd ⟨pf, pl, pr, pt⟩ f1 l2 _).mono ?_
      rintro e wn ⟨rfl, hbn⟩
      have hkn := hHeld.next hbn
      clear hbn
      refine hK.out _ _ hkn (fun hHeld => ?_)
      clear hK K
      try simp only [Act.put, List.setIfInBounds_toArray, List.set_cons_zero, List.set_cons_succ]
      refine wpAnyH_ready (rs := [5]) (by kernel_rfl) (by simp) ?_
      refine AllReadyH.cons rfl (fun K hK => ?_) AllReadyH.nil
      go_simp
      with_reducible refine (rMeets_c nm f l r tt sz sd ⟨pf, pl, pr, pt⟩ _).mono ?_
      rintro e wn ⟨rfl, hbn⟩
      have hkn := hHeld.next hbn
      clear hbn
      refine hK.out _ _ hkn (fun hHeld => ?_)
      clear hK K
      try simp only [Act.put, List.setIfInBounds_toArray, List.set_cons_zero, List.set_cons_succ]
      generalize meetsF f l r tt ⟨pf, pl, pr, pt⟩ = mm
      refine takeH 6 (v := ?v6u120) rfl (by kernel_rfl) (by kernel_rfl) (by kernel_rfl) rfl (fun _ _ _ h => h) (Or.inl ⟨by rfl, ?y6u120⟩) hHeld ?r6u120
      case y6u120 => (intro W hSW; (try dsimp only at hSW); go_simp; try with_reducible rfl)
      simp only [Act.put, List.setIfInBounds_toArray, List.set_cons_zero, List.set_cons_succ]
      refine takeH 7 (v := ?v7u121) rfl (by kernel_rfl) (by kernel_rfl) (by kernel_rfl) rfl (fun _ _ _ h => h) (Or.inl ⟨by rfl, ?y7u121⟩) hHeld ?r7u121
      case y7u121 => (intro W hSW; (try dsimp only at hSW); go_simp; try with_reducible rfl)
      simp only [Act.put, List.setIfInBounds_toArray, List.set_cons_zero, List.set_cons_succ]
      refine takeH 8 (v := ?v8u122) rfl (by kernel_rfl) (by kernel_rfl) (by kernel_rfl) rfl (fun _ _ _ h => h) (Or.inl ⟨by rfl, ?y8u122⟩) hHeld ?r8u122
      case y8u122 => (intro W hSW; (try dsimp only at hSW); have q0 := hSW.cell 1 rfl 0; have q1 := hSW.cell 1 rfl 1; have q2 := hSW.cell 1 rfl 2; have q3 := hSW.cell 1 rfl 3; have q4 := hSW.cell 1 rfl 4; have q5 := hSW.cell 1 rfl 5; have q6 := hSW.cell 1 rfl 6; simp only [List.getElem?_toArray, List.getElem?_cons_zero, List.getElem?_cons_succ] at q0 q1 q2 q3 q4 q5 q6; go_simp; try with_reducible rfl)
      simp only [Act.put, List.setIfInBounds_toArray, List.set_cons_zero, List.set_cons_succ]
      refine takeH 9 (v := ?v9u123) rfl (by kernel_rfl) (by kernel_rfl) (by kernel_rfl) rfl (fun _ _ _ h => h) (Or.inl ⟨by rfl, ?y9u123⟩) hHeld ?r9u123
      case y9u123 => (intro W hSW; (try dsimp only at hSW); have q0 := hSW.cell 2 rfl 0; have q1 := hSW.cell 2 rfl 1; have q2 := hSW.cell 2 rfl 2; have q3 := hSW.cell 2 rfl 3; simp only [List.getElem?_toArray, List.getElem?_cons_zero, List.getElem?_cons_succ] at q0 q1 q2 q3; go_simp; try with_reducible rfl)
      simp only [Act.put, List.setIfInBounds_toArray, List.set_cons_zero, List.set_cons_succ]
      refine takeH 11 (v := ?v11u124) rfl (by kernel_rfl) (by kernel_rfl) (by kernel_rfl) rfl (fun _ _ _ h => h) (Or.inl ⟨by rfl, ?y11u124⟩) hHeld ?r11u124
      case y11u124 => (intro W hSW; (try dsimp only at hSW); go_simp; try with_reducible rfl)
      simp only [Act.put, List.setIfInBounds_toArray, List.set_cons_zero, List.set_cons_succ]
      refine wpAnyH_ready (rs := [10]) (by kernel_rfl) (by simp) ?_
      refine AllReadyH.cons rfl (fun K hK => ?_) AllReadyH.nil
      go_simp
      with_reducible refine (Within_c q a k cm x y z ⟨pf, pl, pr, pt⟩ _).mono ?_
      rw [HWI.out]
      rintro e wn ⟨rfl, hbn⟩
      have hkn := hHeld.next hbn
      clear hbn
      refine hK.out _ _ hkn (fun hHeld => ?_)
      clear hK K
      try simp only [Act.put, List.setIfInBounds_toArray, List.set_cons_zero, List.set_cons_succ]
      refine takeH 12 (v := ?v12u125) rfl (by kernel_rfl) (by kernel_rfl) (by kernel_rfl) rfl (fun _ _ _ h => h) (Or.inl ⟨by rfl, ?y12u125⟩) hHeld ?r12u125
      case y12u125 => (intro W hSW; (try dsimp only at hSW); go_simp; try with_reducible rfl)
      simp only [Act.put, List.setIfInBounds_toArray, List.set_cons_zero, List.set_cons_succ]
      refine takeH 13 (v := ?v13u126) rfl (by kernel_rfl) (by kernel_rfl) (by kernel_rfl) rfl (fun _ _ _ h => h) (Or.inl ⟨by rfl, ?y13u126⟩) hHeld ?r13u126
      case y13u126 => (intro W hSW; (try dsimp only at hSW); go_simp; try with_reducible rfl)
      simp only [Act.put, List.setIfInBounds_toArray, List.set_cons_zero, List.set_cons_succ]
      refine takeH 14 (v := ?v14u127) rfl (by kernel_rfl) (by kernel_rfl) (by kernel_rfl) rfl (fun _ _ _ h => h) (Or.inl ⟨by rfl, ?y14u127⟩) hHeld ?r14u127
      case y14u127 => (intro W hSW; (try dsimp only at hSW); go_simp; try with_reducible rfl)
      simp only [Act.put, List.setIfInBounds_toArray, List.set_cons_zero, List.set_cons_succ]
      refine wpAnyH_done (by kernel_rfl) ?_ _
      refine NoPanic.normal ?_
      go_wp2
      go_ret
      exact ⟨rfl, hHeld.bel⟩
end Go.Proofs.Ytgbcgkhcmellfaa
