/- The contract of span.of. -/
import Derived.Test.YtgbcgkhcmellfaaSpan3
namespace Go.Proofs.Ytgbcgkhcmellfaa
set_option linter.unusedVariables false
open Go.RowKit Go.ChangeShapes

theorem of_res {W : World} {g : Nat} {x0 x1 x2 x3 : Value} (h : Blk W g 28 #[x0, x1, x2, x3]) (tmps : Array Value) (ht : tmps[2]?.getD undef = .pointer (some ⟨g, 0, none⟩)) : (results Try.f18 tmps).run Try.prog W = .ok (.agg #[x0, x1, x2, x3]) W := by
  have c0 : W.cell? ⟨g, 0, none⟩ = some x0 := h.cell 0
  have c1 : W.cell? ⟨g, 1, none⟩ = some x1 := h.cell 1
  have c2 : W.cell? ⟨g, 2, none⟩ = some x2 := h.cell 2
  have c3 : W.cell? ⟨g, 3, none⟩ = some x3 := h.cell 3
  simp [results, Try.results18, go_sem, ht, c0, c1, c2, c3]

set_option maxHeartbeats 4000000 in
theorem of_c {w : World} {B : Nat} {cs : List Value} {t : FT} (h : FTr w B cs t) : ∀ W, Below B w W → B ≤ W.heap.size → Calls Try.prog 18 #[.agg cs.toArray] W (OfOk t W) := by
  induction h with
  | mk op a b name A n c vs ks hop ha hb hnm hn hv hnc hcm hr hk ih =>
    intro W hB hBW
    have HM := Lib.hid (joinedM_c (c := c) hn hv hr hk (by unfold maxLen at hcm; omega) ih)
    have HL := Lib.hid (joinedL_c (c := c) hn hv hr hk (by unfold maxLen at hcm; omega) ih)
    have HB := Lib.hid hB
    clear hr hk ih hB hn hv hop ha hb hnm hnc hcm
    have HC := Lib.hid ((Blk.new W 24 #[.int .i64 op, .int .i64 a, .int .i64 b, .string name, .slice A n c]).alloc (.cells #[.int .i64 0, .int .i64 0, .int .i64 0, .int .i64 0] 28))
    have HR := Lib.hid (blk_at (W.alloc (.cells #[.int .i64 op, .int .i64 a, .int .i64 b, .string name, .slice A n c] 24)) 28 #[.int .i64 0, .int .i64 0, .int .i64 0, .int .i64 0] (W.heap.size + 1) (by simp))
    have HW := Lib.hid (((Below.refl W.heap.size W).alloc (Nat.le_refl _) (.cells #[.int .i64 op, .int .i64 a, .int .i64 b, .string name, .slice A n c] 24)).alloc (by simp) (.cells #[.int .i64 0, .int .i64 0, .int .i64 0, .int .i64 0] 28))
    unfold OfOk
    go_enter Try.func18, Try.ntmps18
    go_wp2_with fail
    with_reducible refine (whole_c _).mono ?_
    rintro e w1 ⟨rfl, hb1⟩
    have hz1 := hb1.size
    have hgp : W.heap.size + 1 < w1.heap.size := by simp at hz1; omega
    have HC1 := Lib.hid (HC.out.below hb1 HC.out.lt)
    have HC2 := Lib.hid (HC1.out.alloc (.cells #[.int .i64 0, .int .i64 4294967296, .int .i64 0, .int .i64 1099511627776] 28))
    have HR2 := Lib.hid ((HR.out.below hb1 HR.out.lt).alloc (.cells #[.int .i64 0, .int .i64 4294967296, .int .i64 0, .int .i64 1099511627776] 28))
    have HW2 := Lib.hid ((HW.out.trans (hb1.mono HW.out.size)).alloc (by omega) (.cells #[.int .i64 0, .int .i64 4294967296, .int .i64 0, .int .i64 1099511627776] 28))
    have HP2 := Lib.hid (Blk.new w1 28 #[.int .i64 0, .int .i64 4294967296, .int .i64 0, .int .i64 1099511627776])
    clear hb1 hz1 HC HR HW
    have r0 : (w1.alloc (.cells #[.int .i64 0, .int .i64 4294967296, .int .i64 0, .int .i64 1099511627776] 28)).cell? ⟨W.heap.size, 0, none⟩ = some (.int .i64 op) := HC2.out.cell 0
    have r1 : (w1.alloc (.cells #[.int .i64 0, .int .i64 4294967296, .int .i64 0, .int .i64 1099511627776] 28)).cell? ⟨W.heap.size, 1, none⟩ = some (.int .i64 a) := HC2.out.cell 1
    have r2 : (w1.alloc (.cells #[.int .i64 0, .int .i64 4294967296, .int .i64 0, .int .i64 1099511627776] 28)).cell? ⟨W.heap.size, 2, none⟩ = some (.int .i64 b) := HC2.out.cell 2
    have r3 : (w1.alloc (.cells #[.int .i64 0, .int .i64 4294967296, .int .i64 0, .int .i64 1099511627776] 28)).cell? ⟨W.heap.size, 3, none⟩ = some (.string name) := HC2.out.cell 3
    have r4 : (w1.alloc (.cells #[.int .i64 0, .int .i64 4294967296, .int .i64 0, .int .i64 1099511627776] 28)).cell? ⟨W.heap.size, 4, none⟩ = some (.slice A n c) := HC2.out.cell 4
    by_cases h2 : op = 2
    · subst h2
      go_wp2
      generalize hw2 : w1.alloc (.cells #[.int .i64 0, .int .i64 4294967296, .int .i64 0, .int .i64 1099511627776] 28) = w2 at HC2 HR2 HP2 HW2 ⊢
      clear hw2
      clear r0 r1 r2 r3 r4 HC1
      generalize w1.heap.size = gp at HP2 hgp ⊢
      refine wp_region_noPanic ?_
      refine wp_region_held_drew (S := fun W' => Blk W' W.heap.size 24 #[.int .i64 2, .int .i64 a, .int .i64 b, .string name, .slice A n c]) (by kernel_rfl) HC2.out.drew (fun hHeld => ?_)
      have HR3 := Lib.hid HR2.out.drew
      have HP3 := Lib.hid HP2.out.drew
      have HW3 := Lib.hid HW2.out.drew
      clear HR2 HP2 HW2 HC2
      generalize w2.drew = wd at HR3 HP3 HW3 hHeld ⊢
      have p0 : wd.cell? ⟨gp, 0, none⟩ = some ((.int .i64 0)) := HP3.out.cell 0
      have pf0 : wd.frozen? ⟨gp, 0, none⟩ = false := HP3.out.frozen 0
      have p1 : wd.cell? ⟨gp, 1, none⟩ = some ((.int .i64 4294967296)) := HP3.out.cell 1
      have pf1 : wd.frozen? ⟨gp, 1, none⟩ = false := HP3.out.frozen 1
      have p2 : wd.cell? ⟨gp, 2, none⟩ = some ((.int .i64 0)) := HP3.out.cell 2
      have pf2 : wd.frozen? ⟨gp, 2, none⟩ = false := HP3.out.frozen 2
      have p3 : wd.cell? ⟨gp, 3, none⟩ = some ((.int .i64 1099511627776)) := HP3.out.cell 3
      have pf3 : wd.frozen? ⟨gp, 3, none⟩ = false := HP3.out.frozen 3
      refine takeH 0 (v := ?v0u1) rfl (by kernel_rfl) (by kernel_rfl) (by kernel_rfl) rfl (fun _ _ _ h => h) (Or.inl ⟨by rfl, ?y0u1⟩) hHeld ?r0u1
      case y0u1 => (intro W hSW; (try dsimp only at hSW); go_simp; try with_reducible rfl)
      simp only [Act.put, List.setIfInBounds_toArray, List.set_cons_zero, List.set_cons_succ]
      refine takeH 1 (v := ?v1u2) rfl (by kernel_rfl) (by kernel_rfl) (by kernel_rfl) rfl (fun _ _ _ h => h) (Or.inl ⟨by rfl, ?y1u2⟩) hHeld ?r1u2
      case y1u2 => (intro W hSW; (try dsimp only at hSW); have q1 := hSW.cell 1; have q2 := hSW.cell 2; simp only [List.getElem?_toArray, List.getElem?_cons_zero, List.getElem?_cons_succ] at q1 q2; go_simp; try with_reducible rfl)
      simp only [Act.put, List.setIfInBounds_toArray, List.set_cons_zero, List.set_cons_succ]
      refine takeH 2 (v := ?v2u3) rfl (by kernel_rfl) (by kernel_rfl) (by kernel_rfl) rfl (fun _ _ _ h => h) (Or.inl ⟨by rfl, ?y2u3⟩) hHeld ?r2u3
      case y2u3 => (intro W hSW; (try dsimp only at hSW); go_simp; try with_reducible rfl)
      simp only [Act.put, List.setIfInBounds_toArray, List.set_cons_zero, List.set_cons_succ]
      refine takeH 3 (v := ?v3u4) rfl (by kernel_rfl) (by kernel_rfl) (by kernel_rfl) rfl (fun _ _ _ h => h) (Or.inl ⟨by rfl, ?y3u4⟩) hHeld ?r3u4
      case y3u4 => (intro W hSW; (try dsimp only at hSW); have q1 := hSW.cell 1; have q2 := hSW.cell 2; simp only [List.getElem?_toArray, List.getElem?_cons_zero, List.getElem?_cons_succ] at q1 q2; go_simp; try with_reducible rfl)
      simp only [Act.put, List.setIfInBounds_toArray, List.set_cons_zero, List.set_cons_succ]
      refine takeH 4 (v := ?v4u5) rfl (by kernel_rfl) (by kernel_rfl) (by kernel_rfl) rfl (fun _ _ _ h => h) (Or.inl ⟨by rfl, ?y4u5⟩) hHeld ?r4u5
      case y4u5 => (intro W hSW; (try dsimp only at hSW); go_simp; try with_reducible rfl)
      simp only [Act.put, List.setIfInBounds_toArray, List.set_cons_zero, List.set_cons_succ]
      refine wpAnyH_ready (rs := [5]) (by kernel_rfl) (by simp) ?_
      refine AllReadyH.cons rfl (fun K hK => ?_) AllReadyH.nil
      go_simp
      refine hK.out _ _ (hHeld.far (by simp; omega) _) (fun hHeld => ?_)
      clear hK K
      try simp only [Act.put, List.setIfInBounds_toArray, List.set_cons_zero, List.set_cons_succ]
      refine takeH 6 (v := ?v6u6) rfl (by kernel_rfl) (by kernel_rfl) (by kernel_rfl) rfl (fun _ _ _ h => h) (Or.inl ⟨by rfl, ?y6u6⟩) hHeld ?r6u6
      case y6u6 => (intro W hSW; (try dsimp only at hSW); go_simp; try with_reducible rfl)
      simp only [Act.put, List.setIfInBounds_toArray, List.set_cons_zero, List.set_cons_succ]
      refine wpAnyH_ready (rs := [7]) (by kernel_rfl) (by simp) ?_
      refine AllReadyH.cons rfl (fun K hK => ?_) AllReadyH.nil
      go_simp
      refine hK.out _ _ (hHeld.far (by simp; omega) _) (fun hHeld => ?_)
      clear hK K
      try simp only [Act.put, List.setIfInBounds_toArray, List.set_cons_zero, List.set_cons_succ]
      refine wpAnyH_done (by kernel_rfl) ?_ _
      refine NoPanic.normal ?_
      have HP6 := Lib.hid ((HP3.out.set_ 2 (.int .i64 a)).set_ 3 (.int .i64 b))
      have HR6 := Lib.hid ((HR3.out.far (by simp; omega) (.int .i64 a) (p := ⟨gp, 2, none⟩)).far (by simp; omega) (.int .i64 b) (p := ⟨gp, 3, none⟩))
      have HW6 := Lib.hid ((HW3.out.setCell (p := ⟨gp, 2, none⟩) (by simp; omega) (.int .i64 a)).setCell (p := ⟨gp, 3, none⟩) (by simp; omega) (.int .i64 b))
      clear HP3 HR3 HW3 hHeld
      go_wp2_with fail
      with_reducible refine (void_c ⟨0, 4294967296, a, b⟩ _).mono ?_
      rintro e w4 ⟨rfl, hb4⟩
      have HP4 := Lib.hid (HP6.out.below hb4 HP6.out.lt)
      have HR4 := Lib.hid (HR6.out.below hb4 HR6.out.lt)
      have HW4 := Lib.hid (HW6.out.trans (hb4.mono HW6.out.size))
      clear hb4 HP6 HR6 HW6
      have z0 : w4.cell? ⟨W.heap.size + 1, 0, none⟩ = some ((.int .i64 0)) := HR4.out.cell 0
      have zf0 : w4.frozen? ⟨W.heap.size + 1, 0, none⟩ = false := HR4.out.frozen 0
      have z1 : w4.cell? ⟨W.heap.size + 1, 1, none⟩ = some ((.int .i64 0)) := HR4.out.cell 1
      have zf1 : w4.frozen? ⟨W.heap.size + 1, 1, none⟩ = false := HR4.out.frozen 1
      have z2 : w4.cell? ⟨W.heap.size + 1, 2, none⟩ = some ((.int .i64 0)) := HR4.out.cell 2
      have zf2 : w4.frozen? ⟨W.heap.size + 1, 2, none⟩ = false := HR4.out.frozen 2
      have z3 : w4.cell? ⟨W.heap.size + 1, 3, none⟩ = some ((.int .i64 0)) := HR4.out.cell 3
      have zf3 : w4.frozen? ⟨W.heap.size + 1, 3, none⟩ = false := HR4.out.frozen 3
      cases hvd : Sp.void ⟨0, 4294967296, a, b⟩
      · have HE := Lib.hid (show ofF (.mk 2 a b name ks) = ⟨0, 4294967296, a, b⟩ from by unfold ofF; rw [if_pos rfl]; unfold Sp.norm; rw [hvd]; rfl)
        clear hvd
        have HP5 := Lib.hid (show Blk w4 gp 28 (spc ⟨0, 4294967296, a, b⟩) from HP4.out)
        have p0 : w4.cell? ⟨gp, 0, none⟩ = some ((.int .i64 (⟨0, 4294967296, a, b⟩ : Sp).f)) := HP5.out.cell 0
        have p1 : w4.cell? ⟨gp, 1, none⟩ = some ((.int .i64 (⟨0, 4294967296, a, b⟩ : Sp).l)) := HP5.out.cell 1
        have p2 : w4.cell? ⟨gp, 2, none⟩ = some ((.int .i64 (⟨0, 4294967296, a, b⟩ : Sp).r)) := HP5.out.cell 2
        have p3 : w4.cell? ⟨gp, 3, none⟩ = some ((.int .i64 (⟨0, 4294967296, a, b⟩ : Sp).t)) := HP5.out.cell 3
        go_wp2
        exact bodyPost_ret (of_res (put4 HR4.out) _ rfl) rfl ⟨by rw [HE.out], put4_below HW4.out (by omega)⟩
      · have HE := Lib.hid (show ofF (.mk 2 a b name ks) = .empty from by unfold ofF; rw [if_pos rfl]; unfold Sp.norm; rw [hvd]; rfl)
        clear hvd
        clear z0 z1 z2 z3 zf0 zf1 zf2 zf3
        go_wp2_with fail
        with_reducible refine (empty_c _).mono ?_
        rintro e w5 ⟨rfl, hb5⟩
        have HR5 := Lib.hid (HR4.out.below hb5 HR4.out.lt)
        have HW5 := Lib.hid (HW4.out.trans (hb5.mono HW4.out.size))
        clear hb5 HR4 HW4
        have z0 : w5.cell? ⟨W.heap.size + 1, 0, none⟩ = some ((.int .i64 0)) := HR5.out.cell 0
        have zf0 : w5.frozen? ⟨W.heap.size + 1, 0, none⟩ = false := HR5.out.frozen 0
        have z1 : w5.cell? ⟨W.heap.size + 1, 1, none⟩ = some ((.int .i64 0)) := HR5.out.cell 1
        have zf1 : w5.frozen? ⟨W.heap.size + 1, 1, none⟩ = false := HR5.out.frozen 1
        have z2 : w5.cell? ⟨W.heap.size + 1, 2, none⟩ = some ((.int .i64 0)) := HR5.out.cell 2
        have zf2 : w5.frozen? ⟨W.heap.size + 1, 2, none⟩ = false := HR5.out.frozen 2
        have z3 : w5.cell? ⟨W.heap.size + 1, 3, none⟩ = some ((.int .i64 0)) := HR5.out.cell 3
        have zf3 : w5.frozen? ⟨W.heap.size + 1, 3, none⟩ = false := HR5.out.frozen 3
        go_wp2
        exact bodyPost_ret (of_res (put4 HR5.out) _ rfl) rfl ⟨by rw [HE.out]; rfl, put4_below HW5.out (by omega)⟩
    by_cases h3 : op = 3
    · subst h3
      go_wp2
      generalize hw2 : w1.alloc (.cells #[.int .i64 0, .int .i64 4294967296, .int .i64 0, .int .i64 1099511627776] 28) = w2 at HC2 HR2 HP2 HW2 ⊢
      clear hw2
      clear r0 r1 r2 r3 r4 HC1
      generalize w1.heap.size = gp at HP2 hgp ⊢
      refine wp_region_noPanic ?_
      refine wp_region_held_drew (S := fun W' => Blk W' W.heap.size 24 #[.int .i64 3, .int .i64 a, .int .i64 b, .string name, .slice A n c]) (by kernel_rfl) HC2.out.drew (fun hHeld => ?_)
      have HR3 := Lib.hid HR2.out.drew
      have HP3 := Lib.hid HP2.out.drew
      have HW3 := Lib.hid HW2.out.drew
      clear HR2 HP2 HW2 HC2
      generalize w2.drew = wd at HR3 HP3 HW3 hHeld ⊢
      have p0 : wd.cell? ⟨gp, 0, none⟩ = some ((.int .i64 0)) := HP3.out.cell 0
      have pf0 : wd.frozen? ⟨gp, 0, none⟩ = false := HP3.out.frozen 0
      have p1 : wd.cell? ⟨gp, 1, none⟩ = some ((.int .i64 4294967296)) := HP3.out.cell 1
      have pf1 : wd.frozen? ⟨gp, 1, none⟩ = false := HP3.out.frozen 1
      have p2 : wd.cell? ⟨gp, 2, none⟩ = some ((.int .i64 0)) := HP3.out.cell 2
      have pf2 : wd.frozen? ⟨gp, 2, none⟩ = false := HP3.out.frozen 2
      have p3 : wd.cell? ⟨gp, 3, none⟩ = some ((.int .i64 1099511627776)) := HP3.out.cell 3
      have pf3 : wd.frozen? ⟨gp, 3, none⟩ = false := HP3.out.frozen 3
      refine takeH 0 (v := ?v0u7) rfl (by kernel_rfl) (by kernel_rfl) (by kernel_rfl) rfl (fun _ _ _ h => h) (Or.inl ⟨by rfl, ?y0u7⟩) hHeld ?r0u7
      case y0u7 => (intro W hSW; (try dsimp only at hSW); go_simp; try with_reducible rfl)
      simp only [Act.put, List.setIfInBounds_toArray, List.set_cons_zero, List.set_cons_succ]
      refine takeH 1 (v := ?v1u8) rfl (by kernel_rfl) (by kernel_rfl) (by kernel_rfl) rfl (fun _ _ _ h => h) (Or.inl ⟨by rfl, ?y1u8⟩) hHeld ?r1u8
      case y1u8 => (intro W hSW; (try dsimp only at hSW); have q1 := hSW.cell 1; have q2 := hSW.cell 2; simp only [List.getElem?_toArray, List.getElem?_cons_zero, List.getElem?_cons_succ] at q1 q2; go_simp; try with_reducible rfl)
      simp only [Act.put, List.setIfInBounds_toArray, List.set_cons_zero, List.set_cons_succ]
      refine takeH 2 (v := ?v2u9) rfl (by kernel_rfl) (by kernel_rfl) (by kernel_rfl) rfl (fun _ _ _ h => h) (Or.inl ⟨by rfl, ?y2u9⟩) hHeld ?r2u9
      case y2u9 => (intro W hSW; (try dsimp only at hSW); go_simp; try with_reducible rfl)
      simp only [Act.put, List.setIfInBounds_toArray, List.set_cons_zero, List.set_cons_succ]
      refine takeH 3 (v := ?v3u10) rfl (by kernel_rfl) (by kernel_rfl) (by kernel_rfl) rfl (fun _ _ _ h => h) (Or.inl ⟨by rfl, ?y3u10⟩) hHeld ?r3u10
      case y3u10 => (intro W hSW; (try dsimp only at hSW); have q1 := hSW.cell 1; have q2 := hSW.cell 2; simp only [List.getElem?_toArray, List.getElem?_cons_zero, List.getElem?_cons_succ] at q1 q2; go_simp; try with_reducible rfl)
      simp only [Act.put, List.setIfInBounds_toArray, List.set_cons_zero, List.set_cons_succ]
      refine takeH 4 (v := ?v4u11) rfl (by kernel_rfl) (by kernel_rfl) (by kernel_rfl) rfl (fun _ _ _ h => h) (Or.inl ⟨by rfl, ?y4u11⟩) hHeld ?r4u11
      case y4u11 => (intro W hSW; (try dsimp only at hSW); go_simp; try with_reducible rfl)
      simp only [Act.put, List.setIfInBounds_toArray, List.set_cons_zero, List.set_cons_succ]
      refine wpAnyH_ready (rs := [5]) (by kernel_rfl) (by simp) ?_
      refine AllReadyH.cons rfl (fun K hK => ?_) AllReadyH.nil
      go_simp
      refine hK.out _ _ (hHeld.far (by simp; omega) _) (fun hHeld => ?_)
      clear hK K
      try simp only [Act.put, List.setIfInBounds_toArray, List.set_cons_zero, List.set_cons_succ]
      refine takeH 6 (v := ?v6u12) rfl (by kernel_rfl) (by kernel_rfl) (by kernel_rfl) rfl (fun _ _ _ h => h) (Or.inl ⟨by rfl, ?y6u12⟩) hHeld ?r6u12
      case y6u12 => (intro W hSW; (try dsimp only at hSW); go_simp; try with_reducible rfl)
      simp only [Act.put, List.setIfInBounds_toArray, List.set_cons_zero, List.set_cons_succ]
      refine wpAnyH_ready (rs := [7]) (by kernel_rfl) (by simp) ?_
      refine AllReadyH.cons rfl (fun K hK => ?_) AllReadyH.nil
      go_simp
      refine hK.out _ _ (hHeld.far (by simp; omega) _) (fun hHeld => ?_)
      clear hK K
      try simp only [Act.put, List.setIfInBounds_toArray, List.set_cons_zero, List.set_cons_succ]
      refine wpAnyH_done (by kernel_rfl) ?_ _
      refine NoPanic.normal ?_
      have HP6 := Lib.hid ((HP3.out.set_ 0 (.int .i64 a)).set_ 1 (.int .i64 b))
      have HR6 := Lib.hid ((HR3.out.far (by simp; omega) (.int .i64 a) (p := ⟨gp, 0, none⟩)).far (by simp; omega) (.int .i64 b) (p := ⟨gp, 1, none⟩))
      have HW6 := Lib.hid ((HW3.out.setCell (p := ⟨gp, 0, none⟩) (by simp; omega) (.int .i64 a)).setCell (p := ⟨gp, 1, none⟩) (by simp; omega) (.int .i64 b))
      clear HP3 HR3 HW3 hHeld
      go_wp2_with fail
      with_reducible refine (void_c ⟨a, b, 0, 1099511627776⟩ _).mono ?_
      rintro e w4 ⟨rfl, hb4⟩
      have HP4 := Lib.hid (HP6.out.below hb4 HP6.out.lt)
      have HR4 := Lib.hid (HR6.out.below hb4 HR6.out.lt)
      have HW4 := Lib.hid (HW6.out.trans (hb4.mono HW6.out.size))
      clear hb4 HP6 HR6 HW6
      have z0 : w4.cell? ⟨W.heap.size + 1, 0, none⟩ = some ((.int .i64 0)) := HR4.out.cell 0
      have zf0 : w4.frozen? ⟨W.heap.size + 1, 0, none⟩ = false := HR4.out.frozen 0
      have z1 : w4.cell? ⟨W.heap.size + 1, 1, none⟩ = some ((.int .i64 0)) := HR4.out.cell 1
      have zf1 : w4.frozen? ⟨W.heap.size + 1, 1, none⟩ = false := HR4.out.frozen 1
      have z2 : w4.cell? ⟨W.heap.size + 1, 2, none⟩ = some ((.int .i64 0)) := HR4.out.cell 2
      have zf2 : w4.frozen? ⟨W.heap.size + 1, 2, none⟩ = false := HR4.out.frozen 2
      have z3 : w4.cell? ⟨W.heap.size + 1, 3, none⟩ = some ((.int .i64 0)) := HR4.out.cell 3
      have zf3 : w4.frozen? ⟨W.heap.size + 1, 3, none⟩ = false := HR4.out.frozen 3
      cases hvd : Sp.void ⟨a, b, 0, 1099511627776⟩
      · have HE := Lib.hid (show ofF (.mk 3 a b name ks) = ⟨a, b, 0, 1099511627776⟩ from by unfold ofF; rw [if_neg (by decide), if_pos rfl]; unfold Sp.norm; rw [hvd]; rfl)
        clear hvd
        have HP5 := Lib.hid (show Blk w4 gp 28 (spc ⟨a, b, 0, 1099511627776⟩) from HP4.out)
        have p0 : w4.cell? ⟨gp, 0, none⟩ = some ((.int .i64 (⟨a, b, 0, 1099511627776⟩ : Sp).f)) := HP5.out.cell 0
        have p1 : w4.cell? ⟨gp, 1, none⟩ = some ((.int .i64 (⟨a, b, 0, 1099511627776⟩ : Sp).l)) := HP5.out.cell 1
        have p2 : w4.cell? ⟨gp, 2, none⟩ = some ((.int .i64 (⟨a, b, 0, 1099511627776⟩ : Sp).r)) := HP5.out.cell 2
        have p3 : w4.cell? ⟨gp, 3, none⟩ = some ((.int .i64 (⟨a, b, 0, 1099511627776⟩ : Sp).t)) := HP5.out.cell 3
        go_wp2
        exact bodyPost_ret (of_res (put4 HR4.out) _ rfl) rfl ⟨by rw [HE.out], put4_below HW4.out (by omega)⟩
      · have HE := Lib.hid (show ofF (.mk 3 a b name ks) = .empty from by unfold ofF; rw [if_neg (by decide), if_pos rfl]; unfold Sp.norm; rw [hvd]; rfl)
        clear hvd
        clear z0 z1 z2 z3 zf0 zf1 zf2 zf3
        go_wp2_with fail
        with_reducible refine (empty_c _).mono ?_
        rintro e w5 ⟨rfl, hb5⟩
        have HR5 := Lib.hid (HR4.out.below hb5 HR4.out.lt)
        have HW5 := Lib.hid (HW4.out.trans (hb5.mono HW4.out.size))
        clear hb5 HR4 HW4
        have z0 : w5.cell? ⟨W.heap.size + 1, 0, none⟩ = some ((.int .i64 0)) := HR5.out.cell 0
        have zf0 : w5.frozen? ⟨W.heap.size + 1, 0, none⟩ = false := HR5.out.frozen 0
        have z1 : w5.cell? ⟨W.heap.size + 1, 1, none⟩ = some ((.int .i64 0)) := HR5.out.cell 1
        have zf1 : w5.frozen? ⟨W.heap.size + 1, 1, none⟩ = false := HR5.out.frozen 1
        have z2 : w5.cell? ⟨W.heap.size + 1, 2, none⟩ = some ((.int .i64 0)) := HR5.out.cell 2
        have zf2 : w5.frozen? ⟨W.heap.size + 1, 2, none⟩ = false := HR5.out.frozen 2
        have z3 : w5.cell? ⟨W.heap.size + 1, 3, none⟩ = some ((.int .i64 0)) := HR5.out.cell 3
        have zf3 : w5.frozen? ⟨W.heap.size + 1, 3, none⟩ = false := HR5.out.frozen 3
        go_wp2
        exact bodyPost_ret (of_res (put4 HR5.out) _ rfl) rfl ⟨by rw [HE.out]; rfl, put4_below HW5.out (by omega)⟩
    by_cases h6 : op = 6
    · subst h6
      go_wp2_with fail
      generalize hw2 : w1.alloc (.cells #[.int .i64 0, .int .i64 4294967296, .int .i64 0, .int .i64 1099511627776] 28) = w2 at HC2 HR2 HP2 HW2 ⊢
      clear hw2
      clear r0 r1 r2 r3 r4 HC1
      generalize w1.heap.size = gp at HP2 hgp ⊢
      have hjb := HB.out.trans (HW2.out.mono hBW)
      have hjz : B ≤ w2.heap.size := by have := HW2.out.size; omega
      with_reducible refine (HM.out _ hjb hjz).mono ?_
      rintro e w3 ⟨rfl, hb3⟩
      have HP3 := Lib.hid (HP2.out.below hb3 HP2.out.lt)
      have HR3 := Lib.hid (HR2.out.below hb3 HR2.out.lt)
      have HW3 := Lib.hid (HW2.out.trans (hb3.mono HW2.out.size))
      clear hb3 HP2 HR2 HW2 HC2 hjb hjz HM HL HB
      have p0 : w3.cell? ⟨gp, 0, none⟩ = some ((.int .i64 0)) := HP3.out.cell 0
      have pf0 : w3.frozen? ⟨gp, 0, none⟩ = false := HP3.out.frozen 0
      have p1 : w3.cell? ⟨gp, 1, none⟩ = some ((.int .i64 4294967296)) := HP3.out.cell 1
      have pf1 : w3.frozen? ⟨gp, 1, none⟩ = false := HP3.out.frozen 1
      have p2 : w3.cell? ⟨gp, 2, none⟩ = some ((.int .i64 0)) := HP3.out.cell 2
      have pf2 : w3.frozen? ⟨gp, 2, none⟩ = false := HP3.out.frozen 2
      have p3 : w3.cell? ⟨gp, 3, none⟩ = some ((.int .i64 1099511627776)) := HP3.out.cell 3
      have pf3 : w3.frozen? ⟨gp, 3, none⟩ = false := HP3.out.frozen 3
      have hne : (W.heap.size + 1) ≠ gp := by omega
      generalize hs : foldM ks Sp.whole = s
      go_wp2_with fail
      have HP6 := Lib.hid (put4 (a' := .int .i64 s.f) (b' := .int .i64 s.l) (c' := .int .i64 s.r) (d' := .int .i64 s.t) HP3.out)
      have HR6 := Lib.hid (far4 (a' := .int .i64 s.f) (b' := .int .i64 s.l) (c' := .int .i64 s.r) (d' := .int .i64 s.t) HR3.out hne)
      have HW6 := Lib.hid (put4_below (g := gp) (a' := .int .i64 s.f) (b' := .int .i64 s.l) (c' := .int .i64 s.r) (d' := .int .i64 s.t) HW3.out (by omega))
      clear HP3 HR3 HW3
      with_reducible refine (void_c s _).mono ?_
      rintro e w4 ⟨rfl, hb4⟩
      have HP4 := Lib.hid (HP6.out.below hb4 HP6.out.lt)
      have HR4 := Lib.hid (HR6.out.below hb4 HR6.out.lt)
      have HW4 := Lib.hid (HW6.out.trans (hb4.mono HW6.out.size))
      clear hb4 HP6 HR6 HW6
      have z0 : w4.cell? ⟨W.heap.size + 1, 0, none⟩ = some ((.int .i64 0)) := HR4.out.cell 0
      have zf0 : w4.frozen? ⟨W.heap.size + 1, 0, none⟩ = false := HR4.out.frozen 0
      have z1 : w4.cell? ⟨W.heap.size + 1, 1, none⟩ = some ((.int .i64 0)) := HR4.out.cell 1
      have zf1 : w4.frozen? ⟨W.heap.size + 1, 1, none⟩ = false := HR4.out.frozen 1
      have z2 : w4.cell? ⟨W.heap.size + 1, 2, none⟩ = some ((.int .i64 0)) := HR4.out.cell 2
      have zf2 : w4.frozen? ⟨W.heap.size + 1, 2, none⟩ = false := HR4.out.frozen 2
      have z3 : w4.cell? ⟨W.heap.size + 1, 3, none⟩ = some ((.int .i64 0)) := HR4.out.cell 3
      have zf3 : w4.frozen? ⟨W.heap.size + 1, 3, none⟩ = false := HR4.out.frozen 3
      cases hvd : Sp.void s
      · have HE := Lib.hid (show ofF (.mk 6 a b name ks) = s from by unfold ofF; rw [if_neg (by decide), if_neg (by decide), if_pos rfl, hs]; unfold Sp.norm; rw [hvd]; rfl)
        clear hvd
        have HP5 := Lib.hid (show Blk w4 gp 28 (spc s) from HP4.out)
        have p0 : w4.cell? ⟨gp, 0, none⟩ = some ((.int .i64 (s : Sp).f)) := HP5.out.cell 0
        have p1 : w4.cell? ⟨gp, 1, none⟩ = some ((.int .i64 (s : Sp).l)) := HP5.out.cell 1
        have p2 : w4.cell? ⟨gp, 2, none⟩ = some ((.int .i64 (s : Sp).r)) := HP5.out.cell 2
        have p3 : w4.cell? ⟨gp, 3, none⟩ = some ((.int .i64 (s : Sp).t)) := HP5.out.cell 3
        go_wp2
        exact bodyPost_ret (of_res (put4 HR4.out) _ rfl) rfl ⟨by rw [HE.out], put4_below HW4.out (by omega)⟩
      · have HE := Lib.hid (show ofF (.mk 6 a b name ks) = .empty from by unfold ofF; rw [if_neg (by decide), if_neg (by decide), if_pos rfl, hs]; unfold Sp.norm; rw [hvd]; rfl)
        clear hvd
        clear z0 z1 z2 z3 zf0 zf1 zf2 zf3
        go_wp2_with fail
        with_reducible refine (empty_c _).mono ?_
        rintro e w5 ⟨rfl, hb5⟩
        have HR5 := Lib.hid (HR4.out.below hb5 HR4.out.lt)
        have HW5 := Lib.hid (HW4.out.trans (hb5.mono HW4.out.size))
        clear hb5 HR4 HW4
        have z0 : w5.cell? ⟨W.heap.size + 1, 0, none⟩ = some ((.int .i64 0)) := HR5.out.cell 0
        have zf0 : w5.frozen? ⟨W.heap.size + 1, 0, none⟩ = false := HR5.out.frozen 0
        have z1 : w5.cell? ⟨W.heap.size + 1, 1, none⟩ = some ((.int .i64 0)) := HR5.out.cell 1
        have zf1 : w5.frozen? ⟨W.heap.size + 1, 1, none⟩ = false := HR5.out.frozen 1
        have z2 : w5.cell? ⟨W.heap.size + 1, 2, none⟩ = some ((.int .i64 0)) := HR5.out.cell 2
        have zf2 : w5.frozen? ⟨W.heap.size + 1, 2, none⟩ = false := HR5.out.frozen 2
        have z3 : w5.cell? ⟨W.heap.size + 1, 3, none⟩ = some ((.int .i64 0)) := HR5.out.cell 3
        have zf3 : w5.frozen? ⟨W.heap.size + 1, 3, none⟩ = false := HR5.out.frozen 3
        go_wp2
        exact bodyPost_ret (of_res (put4 HR5.out) _ rfl) rfl ⟨by rw [HE.out]; rfl, put4_below HW5.out (by omega)⟩
    by_cases h7 : op = 7
    · subst h7
      go_wp2_with fail
      generalize hw2 : w1.alloc (.cells #[.int .i64 0, .int .i64 4294967296, .int .i64 0, .int .i64 1099511627776] 28) = w2 at HC2 HR2 HP2 HW2 ⊢
      clear hw2
      clear r0 r1 r2 r3 r4 HC1
      generalize w1.heap.size = gp at HP2 hgp ⊢
      have hjb := HB.out.trans (HW2.out.mono hBW)
      have hjz : B ≤ w2.heap.size := by have := HW2.out.size; omega
      with_reducible refine (HL.out _ hjb hjz).mono ?_
      rintro e w3 ⟨rfl, hb3⟩
      have HP3 := Lib.hid (HP2.out.below hb3 HP2.out.lt)
      have HR3 := Lib.hid (HR2.out.below hb3 HR2.out.lt)
      have HW3 := Lib.hid (HW2.out.trans (hb3.mono HW2.out.size))
      clear hb3 HP2 HR2 HW2 HC2 hjb hjz HM HL HB
      have p0 : w3.cell? ⟨gp, 0, none⟩ = some ((.int .i64 0)) := HP3.out.cell 0
      have pf0 : w3.frozen? ⟨gp, 0, none⟩ = false := HP3.out.frozen 0
      have p1 : w3.cell? ⟨gp, 1, none⟩ = some ((.int .i64 4294967296)) := HP3.out.cell 1
      have pf1 : w3.frozen? ⟨gp, 1, none⟩ = false := HP3.out.frozen 1
      have p2 : w3.cell? ⟨gp, 2, none⟩ = some ((.int .i64 0)) := HP3.out.cell 2
      have pf2 : w3.frozen? ⟨gp, 2, none⟩ = false := HP3.out.frozen 2
      have p3 : w3.cell? ⟨gp, 3, none⟩ = some ((.int .i64 1099511627776)) := HP3.out.cell 3
      have pf3 : w3.frozen? ⟨gp, 3, none⟩ = false := HP3.out.frozen 3
      have hne : (W.heap.size + 1) ≠ gp := by omega
      generalize hs : foldL ks Sp.empty = s
      go_wp2_with fail
      have HP6 := Lib.hid (put4 (a' := .int .i64 s.f) (b' := .int .i64 s.l) (c' := .int .i64 s.r) (d' := .int .i64 s.t) HP3.out)
      have HR6 := Lib.hid (far4 (a' := .int .i64 s.f) (b' := .int .i64 s.l) (c' := .int .i64 s.r) (d' := .int .i64 s.t) HR3.out hne)
      have HW6 := Lib.hid (put4_below (g := gp) (a' := .int .i64 s.f) (b' := .int .i64 s.l) (c' := .int .i64 s.r) (d' := .int .i64 s.t) HW3.out (by omega))
      clear HP3 HR3 HW3
      with_reducible refine (void_c s _).mono ?_
      rintro e w4 ⟨rfl, hb4⟩
      have HP4 := Lib.hid (HP6.out.below hb4 HP6.out.lt)
      have HR4 := Lib.hid (HR6.out.below hb4 HR6.out.lt)
      have HW4 := Lib.hid (HW6.out.trans (hb4.mono HW6.out.size))
      clear hb4 HP6 HR6 HW6
      have z0 : w4.cell? ⟨W.heap.size + 1, 0, none⟩ = some ((.int .i64 0)) := HR4.out.cell 0
      have zf0 : w4.frozen? ⟨W.heap.size + 1, 0, none⟩ = false := HR4.out.frozen 0
      have z1 : w4.cell? ⟨W.heap.size + 1, 1, none⟩ = some ((.int .i64 0)) := HR4.out.cell 1
      have zf1 : w4.frozen? ⟨W.heap.size + 1, 1, none⟩ = false := HR4.out.frozen 1
      have z2 : w4.cell? ⟨W.heap.size + 1, 2, none⟩ = some ((.int .i64 0)) := HR4.out.cell 2
      have zf2 : w4.frozen? ⟨W.heap.size + 1, 2, none⟩ = false := HR4.out.frozen 2
      have z3 : w4.cell? ⟨W.heap.size + 1, 3, none⟩ = some ((.int .i64 0)) := HR4.out.cell 3
      have zf3 : w4.frozen? ⟨W.heap.size + 1, 3, none⟩ = false := HR4.out.frozen 3
      cases hvd : Sp.void s
      · have HE := Lib.hid (show ofF (.mk 7 a b name ks) = s from by unfold ofF; rw [if_neg (by decide), if_neg (by decide), if_neg (by decide), if_pos rfl, hs]; unfold Sp.norm; rw [hvd]; rfl)
        clear hvd
        have HP5 := Lib.hid (show Blk w4 gp 28 (spc s) from HP4.out)
        have p0 : w4.cell? ⟨gp, 0, none⟩ = some ((.int .i64 (s : Sp).f)) := HP5.out.cell 0
        have p1 : w4.cell? ⟨gp, 1, none⟩ = some ((.int .i64 (s : Sp).l)) := HP5.out.cell 1
        have p2 : w4.cell? ⟨gp, 2, none⟩ = some ((.int .i64 (s : Sp).r)) := HP5.out.cell 2
        have p3 : w4.cell? ⟨gp, 3, none⟩ = some ((.int .i64 (s : Sp).t)) := HP5.out.cell 3
        go_wp2
        exact bodyPost_ret (of_res (put4 HR4.out) _ rfl) rfl ⟨by rw [HE.out], put4_below HW4.out (by omega)⟩
      · have HE := Lib.hid (show ofF (.mk 7 a b name ks) = .empty from by unfold ofF; rw [if_neg (by decide), if_neg (by decide), if_neg (by decide), if_pos rfl, hs]; unfold Sp.norm; rw [hvd]; rfl)
        clear hvd
        clear z0 z1 z2 z3 zf0 zf1 zf2 zf3
        go_wp2_with fail
        with_reducible refine (empty_c _).mono ?_
        rintro e w5 ⟨rfl, hb5⟩
        have HR5 := Lib.hid (HR4.out.below hb5 HR4.out.lt)
        have HW5 := Lib.hid (HW4.out.trans (hb5.mono HW4.out.size))
        clear hb5 HR4 HW4
        have z0 : w5.cell? ⟨W.heap.size + 1, 0, none⟩ = some ((.int .i64 0)) := HR5.out.cell 0
        have zf0 : w5.frozen? ⟨W.heap.size + 1, 0, none⟩ = false := HR5.out.frozen 0
        have z1 : w5.cell? ⟨W.heap.size + 1, 1, none⟩ = some ((.int .i64 0)) := HR5.out.cell 1
        have zf1 : w5.frozen? ⟨W.heap.size + 1, 1, none⟩ = false := HR5.out.frozen 1
        have z2 : w5.cell? ⟨W.heap.size + 1, 2, none⟩ = some ((.int .i64 0)) := HR5.out.cell 2
        have zf2 : w5.frozen? ⟨W.heap.size + 1, 2, none⟩ = false := HR5.out.frozen 2
        have z3 : w5.cell? ⟨W.heap.size + 1, 3, none⟩ = some ((.int .i64 0)) := HR5.out.cell 3
        have zf3 : w5.frozen? ⟨W.heap.size + 1, 3, none⟩ = false := HR5.out.frozen 3
        go_wp2
        exact bodyPost_ret (of_res (put4 HR5.out) _ rfl) rfl ⟨by rw [HE.out]; rfl, put4_below HW5.out (by omega)⟩
    go_wp2_with fail
    generalize hw2 : w1.alloc (.cells #[.int .i64 0, .int .i64 4294967296, .int .i64 0, .int .i64 1099511627776] 28) = w2 at HC2 HR2 HP2 HW2 ⊢
    clear hw2
    clear r0 r1 r2 r3 r4 HC1
    generalize w1.heap.size = gp at HP2 hgp ⊢
    with_reducible refine (void_c ⟨0, 4294967296, 0, 1099511627776⟩ _).mono ?_
    rintro e w4 ⟨rfl, hb4⟩
    have HP4 := Lib.hid (HP2.out.below hb4 HP2.out.lt)
    have HR4 := Lib.hid (HR2.out.below hb4 HR2.out.lt)
    have HW4 := Lib.hid (HW2.out.trans (hb4.mono HW2.out.size))
    clear hb4 HP2 HR2 HW2
    have z0 : w4.cell? ⟨W.heap.size + 1, 0, none⟩ = some ((.int .i64 0)) := HR4.out.cell 0
    have zf0 : w4.frozen? ⟨W.heap.size + 1, 0, none⟩ = false := HR4.out.frozen 0
    have z1 : w4.cell? ⟨W.heap.size + 1, 1, none⟩ = some ((.int .i64 0)) := HR4.out.cell 1
    have zf1 : w4.frozen? ⟨W.heap.size + 1, 1, none⟩ = false := HR4.out.frozen 1
    have z2 : w4.cell? ⟨W.heap.size + 1, 2, none⟩ = some ((.int .i64 0)) := HR4.out.cell 2
    have zf2 : w4.frozen? ⟨W.heap.size + 1, 2, none⟩ = false := HR4.out.frozen 2
    have z3 : w4.cell? ⟨W.heap.size + 1, 3, none⟩ = some ((.int .i64 0)) := HR4.out.cell 3
    have zf3 : w4.frozen? ⟨W.heap.size + 1, 3, none⟩ = false := HR4.out.frozen 3
    cases hvd : Sp.void ⟨0, 4294967296, 0, 1099511627776⟩
    · have HE := Lib.hid (show ofF (.mk op a b name ks) = ⟨0, 4294967296, 0, 1099511627776⟩ from by unfold ofF; rw [if_neg h2, if_neg h3, if_neg h6, if_neg h7]; unfold Sp.norm; rw [show Sp.whole = ⟨0, 4294967296, 0, 1099511627776⟩ from rfl, hvd]; rfl)
      clear hvd
      have HP5 := Lib.hid (show Blk w4 gp 28 (spc ⟨0, 4294967296, 0, 1099511627776⟩) from HP4.out)
      have p0 : w4.cell? ⟨gp, 0, none⟩ = some ((.int .i64 (⟨0, 4294967296, 0, 1099511627776⟩ : Sp).f)) := HP5.out.cell 0
      have p1 : w4.cell? ⟨gp, 1, none⟩ = some ((.int .i64 (⟨0, 4294967296, 0, 1099511627776⟩ : Sp).l)) := HP5.out.cell 1
      have p2 : w4.cell? ⟨gp, 2, none⟩ = some ((.int .i64 (⟨0, 4294967296, 0, 1099511627776⟩ : Sp).r)) := HP5.out.cell 2
      have p3 : w4.cell? ⟨gp, 3, none⟩ = some ((.int .i64 (⟨0, 4294967296, 0, 1099511627776⟩ : Sp).t)) := HP5.out.cell 3
      go_wp2
      exact bodyPost_ret (of_res (put4 HR4.out) _ rfl) rfl ⟨by rw [HE.out], put4_below HW4.out (by omega)⟩
    · have HE := Lib.hid (show ofF (.mk op a b name ks) = .empty from by unfold ofF; rw [if_neg h2, if_neg h3, if_neg h6, if_neg h7]; unfold Sp.norm; rw [show Sp.whole = ⟨0, 4294967296, 0, 1099511627776⟩ from rfl, hvd]; rfl)
      clear hvd
      clear z0 z1 z2 z3 zf0 zf1 zf2 zf3
      go_wp2_with fail
      with_reducible refine (empty_c _).mono ?_
      rintro e w5 ⟨rfl, hb5⟩
      have HR5 := Lib.hid (HR4.out.below hb5 HR4.out.lt)
      have HW5 := Lib.hid (HW4.out.trans (hb5.mono HW4.out.size))
      clear hb5 HR4 HW4
      have z0 : w5.cell? ⟨W.heap.size + 1, 0, none⟩ = some ((.int .i64 0)) := HR5.out.cell 0
      have zf0 : w5.frozen? ⟨W.heap.size + 1, 0, none⟩ = false := HR5.out.frozen 0
      have z1 : w5.cell? ⟨W.heap.size + 1, 1, none⟩ = some ((.int .i64 0)) := HR5.out.cell 1
      have zf1 : w5.frozen? ⟨W.heap.size + 1, 1, none⟩ = false := HR5.out.frozen 1
      have z2 : w5.cell? ⟨W.heap.size + 1, 2, none⟩ = some ((.int .i64 0)) := HR5.out.cell 2
      have zf2 : w5.frozen? ⟨W.heap.size + 1, 2, none⟩ = false := HR5.out.frozen 2
      have z3 : w5.cell? ⟨W.heap.size + 1, 3, none⟩ = some ((.int .i64 0)) := HR5.out.cell 3
      have zf3 : w5.frozen? ⟨W.heap.size + 1, 3, none⟩ = false := HR5.out.frozen 3
      go_wp2
      exact bodyPost_ret (of_res (put4 HR5.out) _ rfl) rfl ⟨by rw [HE.out]; rfl, put4_below HW5.out (by omega)⟩
end Go.Proofs.Ytgbcgkhcmellfaa
