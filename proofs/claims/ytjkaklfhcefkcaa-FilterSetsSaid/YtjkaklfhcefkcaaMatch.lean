/- The contract of filter.Match. -/
import Derived.Test.YtjkaklfhcefkcaaMeans
namespace Go.Proofs.Ytjkaklfhcefkcaa
set_option linter.unusedVariables false
open Go.RowKit Go.ChangeShapes

theorem right_facts (t : FT) (h : rightT t = true) : everyF t = true ∧ dpF t ≤ 16 ∧ cntF t ≤ 64 := by
  by_cases g : everyF t = true ∧ 1 + dpF t ≤ 17 ∧ cntF t ≤ 64
  · exact ⟨g.1, by omega, g.2.2⟩
  · have := (rightF_sem t 1 64).2 g
    unfold rightT at h
    rw [h] at this
    cases this

set_option maxHeartbeats 4000000 in
theorem Match_c {w : World} {B : Nat} {cs : List Value} {t : FT} (h : FTr w B cs t) (ev : Evt) (W : World) (hB : Below B w W) (hBW : B ≤ W.heap.size) : Calls Try.prog 13 #[.agg cs.toArray, .agg (evA ev)] W fun e w' => e = .returned (.bool (rightT t && meansF t ev)) ∧ Below W.heap.size W w' := by
  have HT := Lib.hid h
  have HB := Lib.hid hB
  clear hB
  cases h with
  | mk op a b name A n c vs ks hop ha hb hnm hn hv hnc hcm hr hk =>
    clear hop ha hb hn hv hr hk hnm hnc hcm
    generalize FT.mk op a b name ks = t at HT ⊢
    have HK1 := Lib.hid (show Kept W ((W.alloc (.cells #[.int .i64 op, .int .i64 a, .int .i64 b, .string name, .slice A n c] 24)).alloc (.cells #[.int .i64 ev.q, .int .i64 ev.a, .int .i64 ev.k, .string ev.cm, .int .i64 ev.x, .int .i64 ev.y, .int .i64 ev.z] 33)) [(W.heap.size + 1, 33, #[.int .i64 ev.q, .int .i64 ev.a, .int .i64 ev.k, .string ev.cm, .int .i64 ev.x, .int .i64 ev.y, .int .i64 ev.z]), (W.heap.size, 24, #[.int .i64 op, .int .i64 a, .int .i64 b, .string name, .slice A n c])] from (((Kept.start W).alloc_at 24 #[.int .i64 op, .int .i64 a, .int .i64 b, .string name, .slice A n c] (W.heap.size) (by simp)).alloc_at 33 #[.int .i64 ev.q, .int .i64 ev.a, .int .i64 ev.k, .string ev.cm, .int .i64 ev.x, .int .i64 ev.y, .int .i64 ev.z] (W.heap.size + 1) (by simp)))
    go_enter Try.func13, Try.ntmps13
    go_wp2_with fail
    refine wp_region_noPanic ?_
    refine wp_region_held_drew (S := fun W' => Kept W W' [(W.heap.size + 1, 33, #[.int .i64 ev.q, .int .i64 ev.a, .int .i64 ev.k, .string ev.cm, .int .i64 ev.x, .int .i64 ev.y, .int .i64 ev.z]), (W.heap.size, 24, #[.int .i64 op, .int .i64 a, .int .i64 b, .string name, .slice A n c])]) (by kernel_rfl) HK1.out.drew (fun hHeld => ?_)
    refine takeH 0 (v := ?v0u6) rfl (by kernel_rfl) (by kernel_rfl) (by kernel_rfl) rfl (fun _ _ _ h => h) (Or.inl ⟨by rfl, ?y0u6⟩) hHeld ?r0u6
    case y0u6 => (intro W hSW; (try dsimp only at hSW); have q0 := hSW.cell 1 rfl 0; have q1 := hSW.cell 1 rfl 1; have q2 := hSW.cell 1 rfl 2; have q3 := hSW.cell 1 rfl 3; have q4 := hSW.cell 1 rfl 4; simp only [List.getElem?_toArray, List.getElem?_cons_zero, List.getElem?_cons_succ] at q0 q1 q2 q3 q4; go_simp; try with_reducible rfl)
    simp only [Act.put, List.setIfInBounds_toArray, List.set_cons_zero, List.set_cons_succ]
    refine wpAnyH_ready (rs := [1]) (by kernel_rfl) (by simp) ?_
    refine AllReadyH.cons rfl (fun K hK => ?_) AllReadyH.nil
    go_simp
    with_reducible refine (Right_c HT.out _ (HB.out.trans (hHeld.bel.mono hBW)) (Nat.le_trans hBW hHeld.size)).mono ?_
    rintro e wn ⟨rfl, hbn⟩
    have hkn := hHeld.next hbn
    clear hbn
    refine hK.out _ _ hkn (fun hHeld => ?_)
    clear hK K
    try simp only [Act.put, List.setIfInBounds_toArray, List.set_cons_zero, List.set_cons_succ]
    cases hrt : rightT t
    · refine takeH 2 (v := ?v2u7) rfl (by kernel_rfl) (by kernel_rfl) (by kernel_rfl) rfl (fun _ _ _ h => h) (Or.inl ⟨by rfl, ?y2u7⟩) hHeld ?r2u7
      case y2u7 => (intro W hSW; (try dsimp only at hSW); go_simp; try with_reducible rfl)
      simp only [Act.put, List.setIfInBounds_toArray, List.set_cons_zero, List.set_cons_succ]
      refine takeH 3 (v := undef) rfl (by kernel_rfl) (by kernel_rfl) (by kernel_rfl) rfl (fun _ _ _ h => h) (Or.inr ⟨by rfl, rfl⟩) hHeld ?_
      simp only [Act.put, List.setIfInBounds_toArray, List.set_cons_zero, List.set_cons_succ]
      refine takeH 4 (v := undef) rfl (by kernel_rfl) (by kernel_rfl) (by kernel_rfl) rfl (fun _ _ _ h => h) (Or.inr ⟨by rfl, rfl⟩) hHeld ?_
      simp only [Act.put, List.setIfInBounds_toArray, List.set_cons_zero, List.set_cons_succ]
      refine takeH 5 (v := undef) rfl (by kernel_rfl) (by kernel_rfl) (by kernel_rfl) rfl (fun _ _ _ h => h) (Or.inr ⟨by rfl, rfl⟩) hHeld ?_
      simp only [Act.put, List.setIfInBounds_toArray, List.set_cons_zero, List.set_cons_succ]
      refine takeH 6 (v := undef) rfl (by kernel_rfl) (by kernel_rfl) (by kernel_rfl) rfl (fun _ _ _ h => h) (Or.inr ⟨by rfl, rfl⟩) hHeld ?_
      simp only [Act.put, List.setIfInBounds_toArray, List.set_cons_zero, List.set_cons_succ]
      refine takeH 7 (v := ?v7u8) rfl (by kernel_rfl) (by kernel_rfl) (by kernel_rfl) rfl (fun _ _ _ h => h) (Or.inl ⟨by rfl, ?y7u8⟩) hHeld ?r7u8
      case y7u8 => (intro W hSW; (try dsimp only at hSW); go_simp; try with_reducible rfl)
      simp only [Act.put, List.setIfInBounds_toArray, List.set_cons_zero, List.set_cons_succ]
      refine takeH 8 (v := ?v8u9) rfl (by kernel_rfl) (by kernel_rfl) (by kernel_rfl) rfl (fun _ _ _ h => h) (Or.inl ⟨by rfl, ?y8u9⟩) hHeld ?r8u9
      case y8u9 => (intro W hSW; (try dsimp only at hSW); go_simp; try with_reducible rfl)
      simp only [Act.put, List.setIfInBounds_toArray, List.set_cons_zero, List.set_cons_succ]
      refine wpAnyH_done (by kernel_rfl) ?_ _
      refine NoPanic.normal ?_
      go_wp2
      go_ret
      exact ⟨ret_bool (by rw [hrt]; rfl), hHeld.bel⟩
    · refine takeH 2 (v := ?v2u10) rfl (by kernel_rfl) (by kernel_rfl) (by kernel_rfl) rfl (fun _ _ _ h => h) (Or.inl ⟨by rfl, ?y2u10⟩) hHeld ?r2u10
      case y2u10 => (intro W hSW; (try dsimp only at hSW); go_simp; try with_reducible rfl)
      simp only [Act.put, List.setIfInBounds_toArray, List.set_cons_zero, List.set_cons_succ]
      refine takeH 3 (v := ?v3u11) rfl (by kernel_rfl) (by kernel_rfl) (by kernel_rfl) rfl (fun _ _ _ h => h) (Or.inl ⟨by rfl, ?y3u11⟩) hHeld ?r3u11
      case y3u11 => (intro W hSW; (try dsimp only at hSW); have q0 := hSW.cell 1 rfl 0; have q1 := hSW.cell 1 rfl 1; have q2 := hSW.cell 1 rfl 2; have q3 := hSW.cell 1 rfl 3; have q4 := hSW.cell 1 rfl 4; simp only [List.getElem?_toArray, List.getElem?_cons_zero, List.getElem?_cons_succ] at q0 q1 q2 q3 q4; go_simp; try with_reducible rfl)
      simp only [Act.put, List.setIfInBounds_toArray, List.set_cons_zero, List.set_cons_succ]
      refine takeH 5 (v := ?v5u12) rfl (by kernel_rfl) (by kernel_rfl) (by kernel_rfl) rfl (fun _ _ _ h => h) (Or.inl ⟨by rfl, ?y5u12⟩) hHeld ?r5u12
      case y5u12 => (intro W hSW; (try dsimp only at hSW); have q0 := hSW.cell 0 rfl 0; have q1 := hSW.cell 0 rfl 1; have q2 := hSW.cell 0 rfl 2; have q3 := hSW.cell 0 rfl 3; have q4 := hSW.cell 0 rfl 4; have q5 := hSW.cell 0 rfl 5; have q6 := hSW.cell 0 rfl 6; simp only [List.getElem?_toArray, List.getElem?_cons_zero, List.getElem?_cons_succ] at q0 q1 q2 q3 q4 q5 q6; go_simp; try with_reducible rfl)
      simp only [Act.put, List.setIfInBounds_toArray, List.set_cons_zero, List.set_cons_succ]
      obtain ⟨hev, _, hct⟩ := right_facts t hrt
      refine wpAnyH_ready (rs := [4]) (by kernel_rfl) (by simp) ?_
      refine AllReadyH.cons rfl (fun K hK => ?_) AllReadyH.nil
      go_simp
      with_reducible refine (grow_c HT.out hev (by omega) _ (HB.out.trans (hHeld.bel.mono hBW)) (Nat.le_trans hBW hHeld.size)).mono ?_
      rintro e wn ⟨x, rfl, hx, hbn⟩
      have hkn := hHeld.next hbn
      have HX := Lib.hid hx
      obtain ⟨ty, u, rfl⟩ := hx.iface
      clear hbn hx
      refine hK.out _ _ hkn (fun hHeld => ?_)
      clear hK K
      try simp only [Act.put, List.setIfInBounds_toArray, List.set_cons_zero, List.set_cons_succ]
      refine wpAnyH_ready (rs := [6]) (by kernel_rfl) (by simp) ?_
      refine AllReadyH.cons rfl (fun K hK => ?_) AllReadyH.nil
      go_simp
      with_reducible refine (means_c HX.out ev _ (fun _ _ => rfl) (fun b' hb' => hb'.2)).mono ?_
      rintro e wn ⟨rfl, hbn⟩
      have hkn := hHeld.next hbn
      clear hbn
      refine hK.out _ _ hkn (fun hHeld => ?_)
      clear hK K
      try simp only [Act.put, List.setIfInBounds_toArray, List.set_cons_zero, List.set_cons_succ]
      refine takeH 7 (v := ?v7u13) rfl (by kernel_rfl) (by kernel_rfl) (by kernel_rfl) rfl (fun _ _ _ h => h) (Or.inl ⟨by rfl, ?y7u13⟩) hHeld ?r7u13
      case y7u13 => (intro W hSW; (try dsimp only at hSW); go_simp; try with_reducible rfl)
      simp only [Act.put, List.setIfInBounds_toArray, List.set_cons_zero, List.set_cons_succ]
      refine takeH 8 (v := ?v8u14) rfl (by kernel_rfl) (by kernel_rfl) (by kernel_rfl) rfl (fun _ _ _ h => h) (Or.inl ⟨by rfl, ?y8u14⟩) hHeld ?r8u14
      case y8u14 => (intro W hSW; (try dsimp only at hSW); go_simp; try with_reducible rfl)
      simp only [Act.put, List.setIfInBounds_toArray, List.set_cons_zero, List.set_cons_succ]
      refine wpAnyH_done (by kernel_rfl) ?_ _
      refine NoPanic.normal ?_
      go_wp2
      go_ret
      exact ⟨ret_bool (by rw [hrt]; rfl), hHeld.bel⟩
end Go.Proofs.Ytjkaklfhcefkcaa
