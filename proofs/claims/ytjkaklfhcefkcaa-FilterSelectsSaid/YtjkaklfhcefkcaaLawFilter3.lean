/- The walk of FilterSelects. -/
import Derived.Test.YtjkaklfhcefkcaaLawFilter
namespace Go.Proofs.Ytjkaklfhcefkcaa
set_option linter.unusedVariables false
open Go.RowKit Go.ChangeShapes

theorem selT_nil (t : FT) : selT t [] = [] := by unfold selT selE; split <;> rfl
theorem selT_app (t : FT) (a b : List Evt) : selT t (a ++ b) = selT t a ++ selT t b := by unfold selT selE; split; exact List.filter_append ..; rfl
theorem selT_twice (t : FT) (a : List Evt) : selT t (selT t a) = selT t a := by
  unfold selT selE
  split
  · rw [List.filter_filter]; simp
  · rfl
theorem selT_one (t : FT) (e : Evt) : selT t [e] = if (rightT t && meansF t e) = true then [e] else [] := by
  unfold selT selE
  cases hr : rightT t
  · simp
  · cases hm : meansF t e <;> simp [hm]
theorem selT_len (t : FT) (a : List Evt) : (selT t a).length ≤ a.length := by
  unfold selT selE
  split
  · exact List.length_filter_le ..
  · simp
theorem selT_snoc (t : FT) (l : List Evt) (k : Nat) (e : Evt) (h : l[k]? = some e) : selT t (l.take (k + 1)) = selT t (l.take k) ++ (if (rightT t && meansF t e) = true then [e] else []) := by
  rw [take_snoc_of l k e h, selT_app, selT_one]
theorem selT_get (t : FT) (l : List Evt) (k : Nat) (e : Evt) (h : l[k]? = some e) (hm : (rightT t && meansF t e) = true) : (selT t l)[(selT t (l.take k)).length]? = some e := by
  have h1 : l = l.take k ++ ([e] ++ l.drop (k + 1)) := by
    have := drop_cons_of l k e h
    rw [List.singleton_append, ← this, List.take_append_drop]
  have h2 : selT t l = selT t (l.take k) ++ (selT t [e] ++ selT t (l.drop (k + 1))) := by
    rw [← selT_app, ← selT_app, ← h1]
  rw [h2, selT_one, if_pos hm, List.getElem?_append_right (Nat.le_refl _)]
  simp

set_option maxHeartbeats 8000000 in
set_option maxRecDepth 100000 in
theorem FilterSelects_walk (cs : List Value) (t : FT) (Al : Option Addr) (nl cl : Nat) (l : List Evt) (Am : Option Addr) (nm cm : Nat) (m : List Evt) (w : World) (h : FTr w w.heap.size cs t) (hl : EvArg w Al nl cl l) (hm : EvArg w Am nm cm m) :
    Calls Try.prog 5 #[.agg cs.toArray, .slice Al nl cl, .slice Am nm cm] w fun e w' => e = .returned (.bool true) ∧ Below w.heap.size w w' := by
  obtain ⟨hr, hnc, hcm, _, _⟩ := hl
  have HR := Lib.hid hr
  have HL := Lib.hid hr.ev_len
  obtain ⟨hrm, hncm, hcmm, _, _⟩ := hm
  have HRm := Lib.hid hrm
  have HLm := Lib.hid hrm.ev_len
  unfold maxLen at hcm hcmm
  clear hr hrm
  have HT := Lib.hid h
  obtain ⟨i0, hi0, hz0, hz1, hz2⟩ := info_parts Try.infoEv
  cases h with
  | mk op a b name A n c vs ks hop ha hb hnm hn hv hnc' hcm' hr hk =>
    clear hop ha hb hn hv hr hk hnm hnc' hcm'
    generalize FT.mk op a b name ks = t at HT
    have HK1 := Lib.hid (show Kept w (w.alloc (.cells #[.int .i64 op, .int .i64 a, .int .i64 b, .string name, .slice A n c] 24)) [(w.heap.size, 24, #[.int .i64 op, .int .i64 a, .int .i64 b, .string name, .slice A n c])] from ((Kept.start w).alloc_at 24 #[.int .i64 op, .int .i64 a, .int .i64 b, .string name, .slice A n c] (w.heap.size) (by simp)))
    go_enter Try.func5, Try.ntmps5
    go_wp2_with fail
    with_reducible refine (awake_c _).mono ?_
    rintro e w1 ⟨rfl, hb1⟩
    have HK2 := Lib.hid (show Kept w w1 [(w.heap.size, 24, #[.int .i64 op, .int .i64 a, .int .i64 b, .string name, .slice A n c])] from HK1.out.next hb1)
    clear HK1
    clear hb1
    have c_f_0 : w1.cell? ⟨w.heap.size, 0, none⟩ = some (.int .i64 op) := HK2.out.cell 0 rfl 0
    have c_f_1 : w1.cell? ⟨w.heap.size, 1, none⟩ = some (.int .i64 a) := HK2.out.cell 0 rfl 1
    have c_f_2 : w1.cell? ⟨w.heap.size, 2, none⟩ = some (.int .i64 b) := HK2.out.cell 0 rfl 2
    have c_f_3 : w1.cell? ⟨w.heap.size, 3, none⟩ = some (.string name) := HK2.out.cell 0 rfl 3
    have c_f_4 : w1.cell? ⟨w.heap.size, 4, none⟩ = some (.slice A n c) := HK2.out.cell 0 rfl 4
    go_wp2_with fail
    with_reducible refine (Short_c HT.out _ HK2.out.bel HK2.out.size).mono ?_
    rintro e w2 ⟨rfl, hb2⟩
    clear c_f_0 c_f_1 c_f_2 c_f_3 c_f_4
    have HK3 := Lib.hid (show Kept w w2 [(w.heap.size, 24, #[.int .i64 op, .int .i64 a, .int .i64 b, .string name, .slice A n c])] from HK2.out.next hb2)
    clear HK2
    clear hb2
    cases hsh : shortF t
    · go_wp2
      go_ret
      exact ⟨rfl, HK3.out.bel⟩
    clear hsh
    by_cases hlennl : 60 < nl
    · have d0 : decide ((60 : Int) < (nl : Int)) = true := by simp; omega
      go_wp2
      go_ret
      exact ⟨rfl, HK3.out.bel⟩
    have d0 : decide ((60 : Int) < (nl : Int)) = false := by simp; omega
    by_cases hlennm : 60 < nm
    · have d1 : decide ((60 : Int) < (nm : Int)) = true := by simp; omega
      go_wp2
      go_ret
      exact ⟨rfl, HK3.out.bel⟩
    have d1 : decide ((60 : Int) < (nm : Int)) = false := by simp; omega
    go_wp2_with fail
    with_reducible refine (Names_c Al nl cl w.heap.size l _ (HR.out.below HK3.out.bel) HK3.out.size (by omega)).mono ?_
    rintro e w3 ⟨rfl, hb3⟩
    clear d0 d1
    have HK4 := Lib.hid (show Kept w w3 [(w.heap.size, 24, #[.int .i64 op, .int .i64 a, .int .i64 b, .string name, .slice A n c])] from HK3.out.next hb3)
    clear HK3
    clear hb3
    cases hsh : namesE l
    · go_wp2
      go_ret
      exact ⟨rfl, HK4.out.bel⟩
    clear hsh
    go_wp2_with fail
    with_reducible refine (Names_c Am nm cm w.heap.size m _ (HRm.out.below HK4.out.bel) HK4.out.size (by omega)).mono ?_
    rintro e w4 ⟨rfl, hb4⟩
    have HK5 := Lib.hid (show Kept w w4 [(w.heap.size, 24, #[.int .i64 op, .int .i64 a, .int .i64 b, .string name, .slice A n c])] from HK4.out.next hb4)
    clear HK4
    clear hb4
    cases hsh : namesE m
    · go_wp2
      go_ret
      exact ⟨rfl, HK5.out.bel⟩
    clear hsh
    have hsl := selT_len t l
    have hsm := selT_len t m
    have hsa := selT_len t (selT t l)
    rw [HL.out] at hsl
    rw [HLm.out] at hsm
    go_wp2_with fail
    refine wp_region_noPanic ?_
    refine wp_region_held_drew (S := fun W' => Kept w W' [(w.heap.size, 24, #[.int .i64 op, .int .i64 a, .int .i64 b, .string name, .slice A n c])]) (by kernel_rfl) HK5.out.drew (fun hHeld => ?_)
    refine takeH 0 (v := ?v0u16) rfl (by kernel_rfl) (by kernel_rfl) (by kernel_rfl) rfl (fun _ _ _ h => h) (Or.inl ⟨by rfl, ?y0u16⟩) hHeld ?r0u16
    case y0u16 => (intro W hSW; (try dsimp only at hSW); have q0 := hSW.cell 0 rfl 0; have q1 := hSW.cell 0 rfl 1; have q2 := hSW.cell 0 rfl 2; have q3 := hSW.cell 0 rfl 3; have q4 := hSW.cell 0 rfl 4; simp only [List.getElem?_toArray, List.getElem?_cons_zero, List.getElem?_cons_succ] at q0 q1 q2 q3 q4; go_simp; try with_reducible rfl)
    simp only [Act.put, List.setIfInBounds_toArray, List.set_cons_zero, List.set_cons_succ]
    refine takeH 1 (v := ?v1u17) rfl (by kernel_rfl) (by kernel_rfl) (by kernel_rfl) rfl (fun _ _ _ h => h) (Or.inl ⟨by rfl, ?y1u17⟩) hHeld ?r1u17
    case y1u17 => (intro W hSW; (try dsimp only at hSW); go_simp; try with_reducible rfl)
    simp only [Act.put, List.setIfInBounds_toArray, List.set_cons_zero, List.set_cons_succ]
    refine takeH 3 (v := ?v3u18) rfl (by kernel_rfl) (by kernel_rfl) (by kernel_rfl) rfl (fun _ _ _ h => h) (Or.inl ⟨by rfl, ?y3u18⟩) hHeld ?r3u18
    case y3u18 => (intro W hSW; (try dsimp only at hSW); have q0 := hSW.cell 0 rfl 0; have q1 := hSW.cell 0 rfl 1; have q2 := hSW.cell 0 rfl 2; have q3 := hSW.cell 0 rfl 3; have q4 := hSW.cell 0 rfl 4; simp only [List.getElem?_toArray, List.getElem?_cons_zero, List.getElem?_cons_succ] at q0 q1 q2 q3 q4; go_simp; try with_reducible rfl)
    simp only [Act.put, List.setIfInBounds_toArray, List.set_cons_zero, List.set_cons_succ]
    refine takeH 4 (v := ?v4u19) rfl (by kernel_rfl) (by kernel_rfl) (by kernel_rfl) rfl (fun _ _ _ h => h) (Or.inl ⟨by rfl, ?y4u19⟩) hHeld ?r4u19
    case y4u19 => (intro W hSW; (try dsimp only at hSW); go_simp; try with_reducible rfl)
    simp only [Act.put, List.setIfInBounds_toArray, List.set_cons_zero, List.set_cons_succ]
    refine wpAnyH_ready (rs := [2]) (by kernel_rfl) (by simp) ?_
    refine AllReadyH.cons rfl (fun K hK => ?_) AllReadyH.nil
    go_simp
    with_reducible refine (Select_c HT.out _ hHeld.bel hHeld.size Al nl cl w.heap.size l (HR.out.below hHeld.bel) hHeld.size (by omega)).mono ?_
    rintro e' wa ⟨va, rfl, howna, hba⟩
    obtain ⟨Aa, ca, rfl, _, _, hra⟩ := own_evs howna
    have HRa := Lib.hid hra
    have hkn := hHeld.next hba
    clear howna hra hba
    refine hK.out _ _ hkn (fun hHeld => ?_)
    clear hK K
    try simp only [Act.put, List.setIfInBounds_toArray, List.set_cons_zero, List.set_cons_succ]
    refine wpAnyH_ready (rs := [5]) (by kernel_rfl) (by simp) ?_
    refine AllReadyH.cons rfl (fun K hK => ?_) AllReadyH.nil
    go_simp
    with_reducible refine (Select_c HT.out _ hHeld.bel hHeld.size Am nm cm w.heap.size m (HRm.out.below hHeld.bel) hHeld.size (by omega)).mono ?_
    rintro e' wb ⟨vb, rfl, hownb, hbb⟩
    obtain ⟨Ab, cb, rfl, _, _, hrb⟩ := own_evs hownb
    have HRb := Lib.hid hrb
    have hkn := hHeld.next hbb
    have HRa2 := Lib.hid ((HRa.out.below hbb).more hbb.size)
    clear HRa
    clear hownb hrb hbb
    refine hK.out _ _ hkn (fun hHeld => ?_)
    clear hK K
    try simp only [Act.put, List.setIfInBounds_toArray, List.set_cons_zero, List.set_cons_succ]
    refine takeH 6 (v := ?v6u20) rfl (by kernel_rfl) (by kernel_rfl) (by kernel_rfl) rfl (fun _ _ _ h => h) (Or.inl ⟨by rfl, ?y6u20⟩) hHeld ?r6u20
    case y6u20 => (intro W hSW; (try dsimp only at hSW); go_simp; try with_reducible rfl)
    simp only [Act.put, List.setIfInBounds_toArray, List.set_cons_zero, List.set_cons_succ]
    refine takeH 7 (v := ?v7u21) rfl (by kernel_rfl) (by kernel_rfl) (by kernel_rfl) rfl (fun _ _ _ h => h) (Or.inl ⟨by rfl, ?y7u21⟩) hHeld ?r7u21
    case y7u21 => (intro W hSW; (try dsimp only at hSW); go_simp; try with_reducible rfl)
    simp only [Act.put, List.setIfInBounds_toArray, List.set_cons_zero, List.set_cons_succ]
    refine wpAnyH_done (by kernel_rfl) ?_ _
    refine NoPanic.normal ?_
    have HKb := Lib.hid hHeld
    clear hHeld HK5
    go_wp2_with fail
    refine wp_region_noPanic ?_
    refine wp_region_held_drew (S := fun W' => Kept w W' [(w.heap.size, 24, #[.int .i64 op, .int .i64 a, .int .i64 b, .string name, .slice A n c])]) (by kernel_rfl) HKb.out.drew (fun hHeld => ?_)
    have HRad := Lib.hid HRa2.out.drew
    have HRbd := Lib.hid HRb.out.drew
    have hzd : wb.heap.size = wb.drew.heap.size := rfl
    rw [hzd] at HRad HRbd
    generalize wb.drew = wd at hHeld HRad HRbd ⊢
    clear HRa2 HRb hzd HKb
    refine takeH 0 (v := ?v0u22) rfl (by kernel_rfl) (by kernel_rfl) (by kernel_rfl) rfl (fun _ _ _ h => h) (Or.inl ⟨by rfl, ?y0u22⟩) hHeld ?r0u22
    case y0u22 => (intro W hSW; (try dsimp only at hSW); have q0 := hSW.cell 0 rfl 0; have q1 := hSW.cell 0 rfl 1; have q2 := hSW.cell 0 rfl 2; have q3 := hSW.cell 0 rfl 3; have q4 := hSW.cell 0 rfl 4; simp only [List.getElem?_toArray, List.getElem?_cons_zero, List.getElem?_cons_succ] at q0 q1 q2 q3 q4; go_simp; try with_reducible rfl)
    simp only [Act.put, List.setIfInBounds_toArray, List.set_cons_zero, List.set_cons_succ]
    refine takeH 2 (v := ?v2u23) rfl (by kernel_rfl) (by kernel_rfl) (by kernel_rfl) rfl (fun _ _ _ h => h) (Or.inl ⟨by rfl, ?y2u23⟩) hHeld ?r2u23
    case y2u23 => (intro W hSW; (try dsimp only at hSW); go_simp; try with_reducible rfl)
    simp only [Act.put, List.setIfInBounds_toArray, List.set_cons_zero, List.set_cons_succ]
    refine takeH 4 (v := ?v4u24) rfl (by kernel_rfl) (by kernel_rfl) (by kernel_rfl) rfl (fun _ _ _ h => h) (Or.inl ⟨by rfl, ?y4u24⟩) hHeld ?r4u24
    case y4u24 => (intro W hSW; (try dsimp only at hSW); go_simp; try with_reducible rfl)
    simp only [Act.put, List.setIfInBounds_toArray, List.set_cons_zero, List.set_cons_succ]
    have HKd := Lib.hid hHeld
    refine wpAnyH_ready (rs := [1]) (by kernel_rfl) (by simp) ?_
    refine AllReadyH.cons rfl (fun K hK => ?_) AllReadyH.nil
    go_simp
    refine hK.out _ _ (hHeld.alloc_off _) (fun hHeld => ?_)
    clear hK K
    try simp only [Act.put, List.setIfInBounds_toArray, List.set_cons_zero, List.set_cons_succ]
    have HO1 := Lib.hid (own_empty wd 33 wd.heap.size (Nat.le_refl _) 7)
    have HB1 := Lib.hid ((Below.refl wd.heap.size wd).alloc (Nat.le_refl _) (.cells #[] 33))
    generalize hwx : wd.alloc (.cells #[] 33) = wx at HO1 HB1 hHeld ⊢
    clear hwx
    refine wpAnyH_ready (rs := [3]) (by kernel_rfl) (by simp) ?_
    refine AllReadyH.cons rfl (fun K hK => ?_) AllReadyH.nil
    refine step_append_any _ rfl _ _ 25 rfl wd.heap.size 33 i0 _ 7 64 Try.underlying25 hi0 hz0 hz1 hz2 rfl (by omega) _ 0 [] rfl HO1.out w.heap.size Al nl cl _ rfl (HR.out.below hHeld.bel) (evCells_one _) (by unfold maxLen; omega) (by omega) HB1.out.size ?_
    intro v2 wy hox hgx _
    obtain ⟨Av2, cv2, rfl, _, _, hrv2⟩ := own_evs (evs := l) (by simpa [evCells_append] using hox)
    have HO2 := Lib.hid (show wy.ownsRow wd.heap.size 33 7 (.slice Av2 nl cv2) nl (evCells l) from by simpa using hox)
    have HB2 := Lib.hid (below_own HB1.out hgx HO1.out (Nat.le_refl _) HB1.out.size)
    have HK2 := Lib.hid (hHeld.own hgx (fun g' e' => ⟨by have := own_ge HO1.out g' e'; have := HKd.out.size; omega, by have := own_ge HO1.out g' e'; have := HKd.out.lt 0 rfl; intro y hy; simp at hy; subst hy; simp; omega⟩))
    refine hK.out _ _ HK2.out (fun hHeld => ?_)
    clear hK K hox hgx hrv2 HO1 HB1 HK2
    simp only [Act.put, List.setIfInBounds_toArray]
    refine wpAnyH_ready (rs := [5]) (by kernel_rfl) (by simp) ?_
    refine AllReadyH.cons rfl (fun K hK => ?_) AllReadyH.nil
    refine step_append_any _ rfl _ _ 25 rfl wd.heap.size 33 i0 _ 7 64 Try.underlying25 hi0 hz0 hz1 hz2 rfl (by omega) _ nl (evCells l) rfl HO2.out w.heap.size Am nm cm _ rfl (HRm.out.below hHeld.bel) (evCells_one _) (by unfold maxLen; omega) (by omega) HB2.out.size ?_
    intro v3 wz hox hgx _
    obtain ⟨Av3, cv3, rfl, _, _, hrv3⟩ := own_evs (evs := (l ++ m)) (by simpa [evCells_append] using hox)
    have HO3 := Lib.hid (show wz.ownsRow wd.heap.size 33 7 (.slice Av3 (nl + nm) cv3) (nl + nm) (evCells (l ++ m)) from by rw [evCells_append]; exact hox)
    have HB3 := Lib.hid (below_own HB2.out hgx HO2.out (Nat.le_refl _) HB2.out.size)
    have HK2 := Lib.hid (hHeld.own hgx (fun g' e' => ⟨by have := own_ge HO2.out g' e'; have := HKd.out.size; omega, by have := own_ge HO2.out g' e'; have := HKd.out.lt 0 rfl; intro y hy; simp at hy; subst hy; simp; omega⟩))
    have HR3 := Lib.hid hrv3
    refine hK.out _ _ HK2.out (fun hHeld => ?_)
    clear hK K hox hgx hrv3 HO2 HB2 HK2
    simp only [Act.put]
    refine wpAnyH_ready (rs := [6]) (by kernel_rfl) (by simp) ?_
    refine AllReadyH.cons rfl (fun K hK => ?_) AllReadyH.nil
    go_simp
    with_reducible refine (Select_c HT.out _ hHeld.bel hHeld.size Av3 (nl + nm) cv3 wz.heap.size (l ++ m) HR3.out (Nat.le_refl _) (by omega)).mono ?_
    rintro e' wc ⟨vc, rfl, hownc, hbc⟩
    obtain ⟨Ac, cc, rfl, _, _, hrc⟩ := own_evs hownc
    have HRc := Lib.hid hrc
    have HB4 := Lib.hid (HB3.out.trans (hbc.mono HB3.out.size))
    have hkn := hHeld.next hbc
    clear hownc hrc hbc HB3 HO3 HR3
    refine hK.out _ _ hkn (fun hHeld => ?_)
    clear hK K
    try simp only [Act.put]
    refine takeH 7 (v := ?v7u25) rfl (by kernel_rfl) (by kernel_rfl) (by kernel_rfl) rfl (fun _ _ _ h => h) (Or.inl ⟨by rfl, ?y7u25⟩) hHeld ?r7u25
    case y7u25 => (intro W hSW; (try dsimp only at hSW); go_simp; try with_reducible rfl)
    simp only [Act.put]
    refine wpAnyH_done (by kernel_rfl) ?_ _
    refine NoPanic.normal ?_
    have HKc := Lib.hid hHeld
    have HRa := Lib.hid ((HRad.out.below HB4.out).more HB4.out.size)
    have HRb := Lib.hid ((HRbd.out.below HB4.out).more HB4.out.size)
    have hzc := HKc.out.lt 0 rfl
    clear hHeld HRad HRbd HB4 HKd
    rw [selT_app] at HRc ⊢
    rw [List.length_append] at HRc ⊢
    go_wp2_with (first
      | (at_builtin; refine wpList_append_any _ rfl (.tmp 51) (.tmp 52) 25 rfl wc.heap.size 33 i0 _ 7 64 Try.underlying25 hi0 hz0 hz1 hz2 rfl (by omega) _ 0 [] rfl (own_empty wc 33 wc.heap.size (Nat.le_refl _) 7) wc.heap.size Aa (selT t l).length ca _ rfl (HRa.out.alloc (Nat.le_refl _) _) (evCells_one _) (by unfold maxLen; omega) (by omega) (by simp) ?_; intro v4 w5 hown4 hg4 _)
      | (at_builtin; refine wpList_append_any _ rfl (.tmp 53) (.tmp 54) 25 rfl wc.heap.size 33 i0 _ 7 64 Try.underlying25 hi0 hz0 hz1 hz2 rfl (by omega) _ _ _ rfl hown4 wc.heap.size Ab (selT t m).length cb _ rfl (HRb.out.below (below_own ((Below.refl wc.heap.size wc).alloc (Nat.le_refl _) _) hg4 (own_empty wc 33 wc.heap.size (Nat.le_refl _) 7) (Nat.le_refl _) (by simp))) (evCells_one _) (by unfold maxLen; omega) (by omega) (by have := hg4.size; simp at this; omega) ?_; intro v5 w6 hown5 hg5 _; have hox : w6.ownsRow wc.heap.size 33 7 v5 ((selT t l).length + (selT t m).length) (evCells (selT t l ++ selT t m)) := (by simpa [evCells_append] using hown5); obtain ⟨A5, c5, rfl, _, _, hr5⟩ := own_evs hox))
    have HB5 := Lib.hid (below_own ((Below.refl wc.heap.size wc).alloc (Nat.le_refl _) _) hg4 (own_empty wc 33 wc.heap.size (Nat.le_refl _) 7) (Nat.le_refl _) (by simp))
    have HB6 := Lib.hid (below_own HB5.out hg5 hown4 (Nat.le_refl _) HB5.out.size)
    have HR5 := Lib.hid hr5
    clear hown4 hown5 hox hr5 hg4 hg5 HB5
    have HKd := Lib.hid (HKc.out.next HB6.out)
    have HRa3 := Lib.hid ((HRa.out.below HB6.out).more HB6.out.size)
    have HRc2 := Lib.hid ((HRc.out.below HB6.out).more HB6.out.size)
    clear HKc HRa HRb HRc HB6 hzc
    with_reducible refine (EvSame_c Ac ((selT t l).length + (selT t m).length) cc w6.heap.size (selT t l ++ selT t m) A5 ((selT t l).length + (selT t m).length) c5 (selT t l ++ selT t m) _ HRc2.out HR5.out (Nat.le_refl _) (by omega) (by omega)).mono ?_
    rintro e' w7 ⟨r, rfl, hre, hb7⟩
    obtain rfl : r = true := hre.2 rfl
    clear hre HRc2 HR5
    have HRa4 := Lib.hid ((HRa3.out.below hb7).more hb7.size)
    clear HRa3
    have HK6 := Lib.hid (show Kept w w7 [(w.heap.size, 24, #[.int .i64 op, .int .i64 a, .int .i64 b, .string name, .slice A n c])] from HKd.out.next hb7)
    clear HKd
    clear hb7
    have c_f_0 : w7.cell? ⟨w.heap.size, 0, none⟩ = some (.int .i64 op) := HK6.out.cell 0 rfl 0
    have c_f_1 : w7.cell? ⟨w.heap.size, 1, none⟩ = some (.int .i64 a) := HK6.out.cell 0 rfl 1
    have c_f_2 : w7.cell? ⟨w.heap.size, 2, none⟩ = some (.int .i64 b) := HK6.out.cell 0 rfl 2
    have c_f_3 : w7.cell? ⟨w.heap.size, 3, none⟩ = some (.string name) := HK6.out.cell 0 rfl 3
    have c_f_4 : w7.cell? ⟨w.heap.size, 4, none⟩ = some (.slice A n c) := HK6.out.cell 0 rfl 4
    go_wp2_with fail
    with_reducible refine (Select_c HT.out _ HK6.out.bel HK6.out.size Aa (selT t l).length ca w7.heap.size (selT t l) HRa4.out (Nat.le_refl _) (by omega)).mono ?_
    unfold SelOk
    rw [selT_twice]
    rintro e' w8 ⟨v8, rfl, hown8, hb8⟩
    obtain ⟨A8, c8, rfl, _, _, hr8⟩ := own_evs hown8
    have HR8 := Lib.hid hr8
    clear hown8 hr8
    have HRa5 := Lib.hid ((HRa4.out.below hb8).more hb8.size)
    clear HRa4
    clear c_f_0 c_f_1 c_f_2 c_f_3 c_f_4
    have HK7 := Lib.hid (show Kept w w8 [(w.heap.size, 24, #[.int .i64 op, .int .i64 a, .int .i64 b, .string name, .slice A n c])] from HK6.out.next hb8)
    clear HK6
    clear hb8
    go_wp2_with fail
    with_reducible refine (EvSame_c A8 (selT t l).length c8 w8.heap.size (selT t l) Aa (selT t l).length ca (selT t l) _ HR8.out HRa5.out (Nat.le_refl _) (by omega) (by omega)).mono ?_
    rintro e' w9 ⟨r, rfl, hre, hb9⟩
    obtain rfl : r = true := hre.2 rfl
    clear hre HR8
    have HRa6 := Lib.hid ((HRa5.out.below hb9).more hb9.size)
    clear HRa5
    have HK8 := Lib.hid (show Kept w w9 [(w.heap.size, 24, #[.int .i64 op, .int .i64 a, .int .i64 b, .string name, .slice A n c])] from HK7.out.next hb9)
    clear HK7
    clear hb9
    have hz9 := HK8.out.size
    have HK9 := Lib.hid (Below.refl w9.heap.size w9)
    have HGet := Lib.hid (selT_get t l)
    have HSn := Lib.hid (selT_snoc t l)
    have HLq := Lib.hid (show selT t (l.take 0) = [] from by rw [List.take_zero, selT_nil])
    go_wp2
    go_loopw [10, 11] (fun p i wr => ∃ (k : Nat), k ≤ nl ∧ i = .int .i64 k ∧ p = .int .i64 ((selT t (l.take k)).length : Nat) ∧ Hid (Kept w wr [(w.heap.size, 24, #[.int .i64 op, .int .i64 a, .int .i64 b, .string name, .slice A n c])]) ∧ Hid (Below w9.heap.size w9 wr)) (fun _ i _ => nl - (intOf i).toNat)
    case atStart => exact ⟨0, Nat.zero_le _, rfl, by rw [HLq.out]; rfl, HK8, HK9⟩
    case round =>
      clear HK8 HK9
      obtain ⟨k, hk, rfl, rfl, HKw, HBw⟩ := hrel
      have hsk := selT_len t (l.take k)
      rw [List.length_take, HL.out] at hsk
      by_cases hlt : k < nl
      · obtain ⟨ad, e, rfl, hb, he, d0, d1, d2, d3, d4, d5, d6⟩ := ev_in HR.out hlt
        have bl : (ad.add (k * 7)).block < w.heap.size := by rw [block_of_add]; exact hb
        have HE := Lib.hid he
        clear he
        have i1 : (0 : Int) ≤ (k : Int) := by omega
        have i2 : (k : Int) < (nl : Int) := by omega
        have HS1 := Lib.hid (HSn.out k e HE.out)
        have HG1 := Lib.hid (HGet.out k e HE.out)
        generalize hkq : (selT t (l.take k)).length = q at HG1 hsk ⊢
        have HQ := Lib.hid hkq
        clear hkq
        go_wp2_with fail
        refine wp_region_noPanic ?_
        refine wp_region_held_drew (S := fun W' => Kept w W' [(w.heap.size, 24, #[.int .i64 op, .int .i64 a, .int .i64 b, .string name, .slice A n c])] ∧ Below w9.heap.size w9 W') (by kernel_rfl) ⟨HKw.out.drew, HBw.out.drew⟩ (fun hHeld => ?_)
        refine takeH 0 (v := ?v0u26) rfl (by kernel_rfl) (by kernel_rfl) (by kernel_rfl) rfl (fun _ _ _ h => h) (Or.inl ⟨by rfl, ?y0u26⟩) hHeld ?r0u26
        case y0u26 => (intro W hSW; (try dsimp only at hSW); have q0 := hSW.1.cell 0 rfl 0; have q1 := hSW.1.cell 0 rfl 1; have q2 := hSW.1.cell 0 rfl 2; have q3 := hSW.1.cell 0 rfl 3; have q4 := hSW.1.cell 0 rfl 4; simp only [List.getElem?_toArray, List.getElem?_cons_zero, List.getElem?_cons_succ] at q0 q1 q2 q3 q4; go_simp; try with_reducible rfl)
        simp only [Act.put, List.setIfInBounds_toArray, List.set_cons_zero, List.set_cons_succ]
        refine takeH 1 (v := ?v1u27) rfl (by kernel_rfl) (by kernel_rfl) (by kernel_rfl) rfl (fun _ _ _ h => h) (Or.inl ⟨by rfl, ?y1u27⟩) hHeld ?r1u27
        case y1u27 => (intro W hSW; (try dsimp only at hSW); go_simp; try with_reducible rfl)
        simp only [Act.put, List.setIfInBounds_toArray, List.set_cons_zero, List.set_cons_succ]
        refine takeH 2 (v := ?v2u28) rfl (by kernel_rfl) (by kernel_rfl) (by kernel_rfl) rfl (fun _ _ _ h => h) (Or.inl ⟨by rfl, ?y2u28⟩) hHeld ?r2u28
        case y2u28 => (intro W hSW; (try dsimp only at hSW); go_simp; try with_reducible rfl)
        simp only [Act.put, List.setIfInBounds_toArray, List.set_cons_zero, List.set_cons_succ]
        refine takeH 3 (v := ?v3u29) rfl (by kernel_rfl) (by kernel_rfl) (by kernel_rfl) rfl (fun _ _ _ h => h) (Or.inl ⟨by rfl, ?y3u29⟩) hHeld ?r3u29
        case y3u29 => (intro W hSW; (try dsimp only at hSW); go_simp; try with_reducible rfl)
        simp only [Act.put, List.setIfInBounds_toArray, List.set_cons_zero, List.set_cons_succ]
        refine takeH 4 (v := ?v4u30) rfl (by kernel_rfl) (by kernel_rfl) (by kernel_rfl) rfl (fun _ _ _ h => h) (Or.inl ⟨by rfl, ?y4u30⟩) hHeld ?r4u30
        case y4u30 => (intro W hSW; (try dsimp only at hSW); have q0 := (hSW.1.bel.cell (p := (ad.add (k * 7))) bl).trans d0; have q1 := (hSW.1.bel.cell (p := ⟨(ad.add (k * 7)).block, (ad.add (k * 7)).off + 1, none⟩) bl).trans d1; have q2 := (hSW.1.bel.cell (p := ⟨(ad.add (k * 7)).block, (ad.add (k * 7)).off + 2, none⟩) bl).trans d2; have q3 := (hSW.1.bel.cell (p := ⟨(ad.add (k * 7)).block, (ad.add (k * 7)).off + 3, none⟩) bl).trans d3; have q4 := (hSW.1.bel.cell (p := ⟨(ad.add (k * 7)).block, (ad.add (k * 7)).off + 4, none⟩) bl).trans d4; have q5 := (hSW.1.bel.cell (p := ⟨(ad.add (k * 7)).block, (ad.add (k * 7)).off + 5, none⟩) bl).trans d5; have q6 := (hSW.1.bel.cell (p := ⟨(ad.add (k * 7)).block, (ad.add (k * 7)).off + 6, none⟩) bl).trans d6; go_simp; try with_reducible rfl)
        simp only [Act.put, List.setIfInBounds_toArray, List.set_cons_zero, List.set_cons_succ]
        refine wpAnyH_ready (rs := [5]) (by kernel_rfl) (by simp) ?_
        refine AllReadyH.cons rfl (fun K hK => ?_) AllReadyH.nil
        go_simp
        with_reducible refine (Match_c HT.out e _ hHeld.1.bel hHeld.1.size).mono ?_
        rintro e' wn ⟨rfl, hbn⟩
        have hkn : Kept w wn _ ∧ Below w9.heap.size w9 wn := ⟨hHeld.1.next hbn, hHeld.2.trans (hbn.mono hHeld.2.size)⟩
        clear hbn
        refine hK.out _ _ hkn (fun hHeld => ?_)
        clear hK K
        try simp only [Act.put, List.setIfInBounds_toArray, List.set_cons_zero, List.set_cons_succ]
        refine wpAnyH_done (by kernel_rfl) ?_ _
        refine NoPanic.normal ?_
        have HKn := Lib.hid hHeld.1
        have HBn := Lib.hid hHeld.2
        clear hHeld HKw HBw
        cases hm : (rightT t && meansF t e)
        · have HS2 := Lib.hid (show (selT t (l.take (k + 1))).length = q from by rw [HS1.out, hm, if_neg (by simp), List.append_nil]; exact HQ.out)
          clear hm d0 d1 d2 d3 d4 d5 d6
          go_wp2
          exact ⟨⟨k + 1, by omega, rfl, by rw [HS2.out], HKn, HBn⟩, by simp [intOf]; omega⟩
        have HS2 := Lib.hid (show (selT t (l.take (k + 1))).length = q + 1 from by rw [HS1.out, hm, if_pos rfl, List.length_append, HQ.out]; rfl)
        have HG2 := Lib.hid (HG1.out hm)
        clear hm
        have hql : q < (selT t l).length := (List.getElem?_eq_some_iff.1 HG2.out).1
        obtain ⟨ad2, e2, rfl, hb2, he2, d20, d21, d22, d23, d24, d25, d26⟩ := ev_in HRa6.out hql
        obtain rfl : e2 = e := by rw [HG2.out] at he2; exact (Option.some.inj he2).symm
        clear he2
        have bl2 : (ad2.add (q * 7)).block < w9.heap.size := by rw [block_of_add]; exact hb2
        have i3 : (0 : Int) ≤ (q : Int) := by omega
        have i4 : (q : Int) < ((selT t l).length : Int) := by omega
        have dq : decide (((selT t l).length : Int) ≤ (q : Int)) = false := by simp; omega
        go_wp2_with fail
        refine wp_region_noPanic ?_
        refine wp_region_held_drew (S := fun W' => Kept w W' [(w.heap.size, 24, #[.int .i64 op, .int .i64 a, .int .i64 b, .string name, .slice A n c])] ∧ Below w9.heap.size w9 W') (by kernel_rfl) ⟨HKn.out.drew, HBn.out.drew⟩ (fun hHeld => ?_)
        refine takeH 0 (v := ?v0u31) rfl (by kernel_rfl) (by kernel_rfl) (by kernel_rfl) rfl (fun _ _ _ h => h) (Or.inl ⟨by rfl, ?y0u31⟩) hHeld ?r0u31
        case y0u31 => (intro W hSW; (try dsimp only at hSW); go_simp; try with_reducible rfl)
        simp only [Act.put, List.setIfInBounds_toArray, List.set_cons_zero, List.set_cons_succ]
        refine takeH 1 (v := ?v1u32) rfl (by kernel_rfl) (by kernel_rfl) (by kernel_rfl) rfl (fun _ _ _ h => h) (Or.inl ⟨by rfl, ?y1u32⟩) hHeld ?r1u32
        case y1u32 => (intro W hSW; (try dsimp only at hSW); go_simp; try with_reducible rfl)
        simp only [Act.put, List.setIfInBounds_toArray, List.set_cons_zero, List.set_cons_succ]
        refine takeH 2 (v := ?v2u33) rfl (by kernel_rfl) (by kernel_rfl) (by kernel_rfl) rfl (fun _ _ _ h => h) (Or.inl ⟨by rfl, ?y2u33⟩) hHeld ?r2u33
        case y2u33 => (intro W hSW; (try dsimp only at hSW); go_simp; try with_reducible rfl)
        simp only [Act.put, List.setIfInBounds_toArray, List.set_cons_zero, List.set_cons_succ]
        refine takeH 3 (v := .bool false) rfl (by kernel_rfl) (by kernel_rfl) (by kernel_rfl) rfl (fun _ _ _ h => h) (Or.inl ⟨by rfl, ?y3u34⟩) hHeld ?r3u34
        case y3u34 => (intro W hSW; (try dsimp only at hSW); go_simp <;> omega)
        simp only [Act.put, List.setIfInBounds_toArray, List.set_cons_zero, List.set_cons_succ]
        refine takeH 4 (v := ?v4u35) rfl (by kernel_rfl) (by kernel_rfl) (by kernel_rfl) rfl (fun _ _ _ h => h) (Or.inl ⟨by rfl, ?y4u35⟩) hHeld ?r4u35
        case y4u35 => (intro W hSW; (try dsimp only at hSW); go_simp; try with_reducible rfl)
        simp only [Act.put, List.setIfInBounds_toArray, List.set_cons_zero, List.set_cons_succ]
        refine takeH 5 (v := ?v5u36) rfl (by kernel_rfl) (by kernel_rfl) (by kernel_rfl) rfl (fun _ _ _ h => h) (Or.inl ⟨by rfl, ?y5u36⟩) hHeld ?r5u36
        case y5u36 => (intro W hSW; (try dsimp only at hSW); go_simp; try with_reducible rfl)
        simp only [Act.put, List.setIfInBounds_toArray, List.set_cons_zero, List.set_cons_succ]
        refine takeH 6 (v := ?v6u37) rfl (by kernel_rfl) (by kernel_rfl) (by kernel_rfl) rfl (fun _ _ _ h => h) (Or.inl ⟨by rfl, ?y6u37⟩) hHeld ?r6u37
        case y6u37 => (intro W hSW; (try dsimp only at hSW); go_simp; try with_reducible rfl)
        simp only [Act.put, List.setIfInBounds_toArray, List.set_cons_zero, List.set_cons_succ]
        refine takeH 7 (v := ?v7u38) rfl (by kernel_rfl) (by kernel_rfl) (by kernel_rfl) rfl (fun _ _ _ h => h) (Or.inl ⟨by rfl, ?y7u38⟩) hHeld ?r7u38
        case y7u38 => (intro W hSW; (try dsimp only at hSW); go_simp; try with_reducible rfl)
        simp only [Act.put, List.setIfInBounds_toArray, List.set_cons_zero, List.set_cons_succ]
        refine takeH 8 (v := ?v8u39) rfl (by kernel_rfl) (by kernel_rfl) (by kernel_rfl) rfl (fun _ _ _ h => h) (Or.inl ⟨by rfl, ?y8u39⟩) hHeld ?r8u39
        case y8u39 => (intro W hSW; (try dsimp only at hSW); have q0 := (hSW.2.cell (p := (ad2.add (q * 7))) bl2).trans d20; have q1 := (hSW.2.cell (p := ⟨(ad2.add (q * 7)).block, (ad2.add (q * 7)).off + 1, none⟩) bl2).trans d21; have q2 := (hSW.2.cell (p := ⟨(ad2.add (q * 7)).block, (ad2.add (q * 7)).off + 2, none⟩) bl2).trans d22; have q3 := (hSW.2.cell (p := ⟨(ad2.add (q * 7)).block, (ad2.add (q * 7)).off + 3, none⟩) bl2).trans d23; have q4 := (hSW.2.cell (p := ⟨(ad2.add (q * 7)).block, (ad2.add (q * 7)).off + 4, none⟩) bl2).trans d24; have q5 := (hSW.2.cell (p := ⟨(ad2.add (q * 7)).block, (ad2.add (q * 7)).off + 5, none⟩) bl2).trans d25; have q6 := (hSW.2.cell (p := ⟨(ad2.add (q * 7)).block, (ad2.add (q * 7)).off + 6, none⟩) bl2).trans d26; go_simp; try with_reducible rfl)
        simp only [Act.put, List.setIfInBounds_toArray, List.set_cons_zero, List.set_cons_succ]
        refine takeH 9 (v := ?v9u40) rfl (by kernel_rfl) (by kernel_rfl) (by kernel_rfl) rfl (fun _ _ _ h => h) (Or.inl ⟨by rfl, ?y9u40⟩) hHeld ?r9u40
        case y9u40 => (intro W hSW; (try dsimp only at hSW); go_simp; try with_reducible rfl)
        simp only [Act.put, List.setIfInBounds_toArray, List.set_cons_zero, List.set_cons_succ]
        refine takeH 10 (v := ?v10u41) rfl (by kernel_rfl) (by kernel_rfl) (by kernel_rfl) rfl (fun _ _ _ h => h) (Or.inl ⟨by rfl, ?y10u41⟩) hHeld ?r10u41
        case y10u41 => (intro W hSW; (try dsimp only at hSW); go_simp; try with_reducible rfl)
        simp only [Act.put, List.setIfInBounds_toArray, List.set_cons_zero, List.set_cons_succ]
        refine takeH 11 (v := ?v11u42) rfl (by kernel_rfl) (by kernel_rfl) (by kernel_rfl) rfl (fun _ _ _ h => h) (Or.inl ⟨by rfl, ?y11u42⟩) hHeld ?r11u42
        case y11u42 => (intro W hSW; (try dsimp only at hSW); go_simp; try with_reducible rfl)
        simp only [Act.put, List.setIfInBounds_toArray, List.set_cons_zero, List.set_cons_succ]
        refine takeH 12 (v := ?v12u43) rfl (by kernel_rfl) (by kernel_rfl) (by kernel_rfl) rfl (fun _ _ _ h => h) (Or.inl ⟨by rfl, ?y12u43⟩) hHeld ?r12u43
        case y12u43 => (intro W hSW; (try dsimp only at hSW); have q0 := (hSW.1.bel.cell (p := (ad.add (k * 7))) bl).trans d0; have q1 := (hSW.1.bel.cell (p := ⟨(ad.add (k * 7)).block, (ad.add (k * 7)).off + 1, none⟩) bl).trans d1; have q2 := (hSW.1.bel.cell (p := ⟨(ad.add (k * 7)).block, (ad.add (k * 7)).off + 2, none⟩) bl).trans d2; have q3 := (hSW.1.bel.cell (p := ⟨(ad.add (k * 7)).block, (ad.add (k * 7)).off + 3, none⟩) bl).trans d3; have q4 := (hSW.1.bel.cell (p := ⟨(ad.add (k * 7)).block, (ad.add (k * 7)).off + 4, none⟩) bl).trans d4; have q5 := (hSW.1.bel.cell (p := ⟨(ad.add (k * 7)).block, (ad.add (k * 7)).off + 5, none⟩) bl).trans d5; have q6 := (hSW.1.bel.cell (p := ⟨(ad.add (k * 7)).block, (ad.add (k * 7)).off + 6, none⟩) bl).trans d6; go_simp; try with_reducible rfl)
        simp only [Act.put, List.setIfInBounds_toArray, List.set_cons_zero, List.set_cons_succ]
        refine takeH 13 (v := ?v13u44) rfl (by kernel_rfl) (by kernel_rfl) (by kernel_rfl) rfl (fun _ _ _ h => h) (Or.inl ⟨by rfl, ?y13u44⟩) hHeld ?r13u44
        case y13u44 => (intro W hSW; (try dsimp only at hSW); go_simp; try with_reducible rfl)
        simp only [Act.put, List.setIfInBounds_toArray, List.set_cons_zero, List.set_cons_succ]
        refine takeH 14 (v := ?v14u45) rfl (by kernel_rfl) (by kernel_rfl) (by kernel_rfl) rfl (fun _ _ _ h => h) (Or.inl ⟨by rfl, ?y14u45⟩) hHeld ?r14u45
        case y14u45 => (intro W hSW; (try dsimp only at hSW); go_simp; try with_reducible rfl)
        simp only [Act.put, List.setIfInBounds_toArray, List.set_cons_zero, List.set_cons_succ]
        refine wpAnyH_done (by kernel_rfl) ?_ _
        refine NoPanic.normal ?_
        have HKo := Lib.hid hHeld.1
        have HBo := Lib.hid hHeld.2
        clear hHeld HKn HBn d0 d1 d2 d3 d4 d5 d6 d20 d21 d22 d23 d24 d25 d26
        go_wp2
        exact ⟨⟨k + 1, by omega, rfl, by rw [HS2.out]; rfl, HKo, HBo⟩, by simp [intOf]; omega⟩
      · obtain rfl : nl = k := by omega
        rw [List.take_of_length_le (by rw [HL.out]; exact Nat.le_refl _)] at hsk ⊢
        go_wp2
        go_ret
        exact ⟨ret_bool (by simp), HKw.out.bel⟩
end Go.Proofs.Ytjkaklfhcefkcaa
