/- The contract of the reference's Means. -/
import Derived.Test.YtjkaklfhcefkcaaMatch
namespace Go.Proofs.Ytjkaklfhcefkcaa
set_option linter.unusedVariables false
open Go.RowKit Go.ChangeShapes

/-- how many of the kids mean an event. -/
def cntM (ev : Evt) : List FT → Nat
  | [] => 0
  | t :: ts => (if meansF t ev = true then 1 else 0) + cntM ev ts
theorem cntM_snoc (ev : Evt) : ∀ (l : List FT) (t : FT), cntM ev (l ++ [t]) = cntM ev l + (if meansF t ev = true then 1 else 0)
  | [], t => by simp [cntM]
  | x :: l, t => by simp only [List.cons_append, cntM, cntM_snoc ev l t, Nat.add_assoc]
theorem cntM_le (ev : Evt) : ∀ (l : List FT), cntM ev l ≤ l.length
  | [] => by simp [cntM]
  | x :: l => by have := cntM_le ev l; simp only [cntM, List.length_cons]; split <;> omega
theorem all_cnt (ev : Evt) : ∀ (l : List FT), allL l ev = decide (cntM ev l = l.length)
  | [] => by simp [allL, cntM]
  | x :: l => by
    have h1 := cntM_le ev l
    rw [allL, all_cnt ev l, cntM, List.length_cons]
    cases meansF x ev
    · rw [Bool.false_and, if_neg (by simp)]; symm; rw [decide_eq_false_iff_not]; omega
    · rw [Bool.true_and, if_pos rfl]; rw [Bool.eq_iff_iff, decide_eq_true_eq, decide_eq_true_eq]; omega
theorem any_cnt (ev : Evt) : ∀ (l : List FT), anyL l ev = decide (0 < cntM ev l)
  | [] => by simp [anyL, cntM]
  | x :: l => by
    rw [anyL, any_cnt ev l, cntM]
    cases meansF x ev
    · rw [Bool.false_or, if_neg (by simp), Nat.zero_add]
    · rw [Bool.true_or, if_pos rfl]; symm; rw [decide_eq_true_eq]; omega
theorem one_kids {op a b : Int} {m n : Nat} (h : oneF op a b m n = true) : (op = 1 → n = 0) ∧ (op = 8 → n = 1) ∧ 1 ≤ op ∧ op ≤ 8 := by
  unfold oneF at h; rw [decide_eq_true_eq] at h; unfold oneP at h; omega

set_option maxHeartbeats 4000000 in
theorem rMeans_c {w : World} {B : Nat} {cs : List Value} {t : FT} (h : FTr w B cs t) (ev : Evt) : everyF t = true → ∀ W, Below B w W → B ≤ W.heap.size → Calls Try.prog 14 #[.agg cs.toArray, .agg (evA ev)] W fun e w' => e = .returned (.bool (meansF t ev)) ∧ Below W.heap.size W w' := by
  induction h with
  | mk op a b name A n c vs ks hop ha hb hnm hn hv hnc hcm hr hk ih =>
    intro hev W hB hBW
    have HN := Lib.hid hn
    have HKI := Lib.hid (fun (wr : World) (hw : Below B w wr) (i : Nat) (hi : i < n) => kid_in hn hv hr hk hw hi)
    have IH := Lib.hid ih
    have HB := Lib.hid hB
    unfold everyF at hev
    rw [Bool.and_eq_true] at hev
    obtain ⟨hone, hel⟩ := hev
    have HEL := Lib.hid hel
    rw [hn] at hone
    obtain ⟨ho1, ho8, hlo, hhi⟩ := one_kids hone
    have HO1 := Lib.hid ho1
    have HO8 := Lib.hid ho8
    unfold maxLen at hcm hnm
    clear ho1 ho8 hr hk ih hB hn hv hop ha hb hel hone
    have HM := Lib.hid (show meansF (.mk op a b name ks) ev = _ from by rw [meansF])
    generalize meansF (.mk op a b name ks) ev = res at HM ⊢
    have HK1 := Lib.hid (show Kept W ((W.alloc (.cells #[.int .i64 op, .int .i64 a, .int .i64 b, .string name, .slice A n c] 24)).alloc (.cells #[.int .i64 ev.q, .int .i64 ev.a, .int .i64 ev.k, .string ev.cm, .int .i64 ev.x, .int .i64 ev.y, .int .i64 ev.z] 33)) [(W.heap.size + 1, 33, #[.int .i64 ev.q, .int .i64 ev.a, .int .i64 ev.k, .string ev.cm, .int .i64 ev.x, .int .i64 ev.y, .int .i64 ev.z]), (W.heap.size, 24, #[.int .i64 op, .int .i64 a, .int .i64 b, .string name, .slice A n c])] from (((Kept.start W).alloc_at 24 #[.int .i64 op, .int .i64 a, .int .i64 b, .string name, .slice A n c] (W.heap.size) (by simp)).alloc_at 33 #[.int .i64 ev.q, .int .i64 ev.a, .int .i64 ev.k, .string ev.cm, .int .i64 ev.x, .int .i64 ev.y, .int .i64 ev.z] (W.heap.size + 1) (by simp)))
    by_cases g : op = 1
    · subst g
      have hk0 : ks = [] := List.eq_nil_of_length_eq_zero (by rw [HN.out]; exact HO1.out rfl)
      rw [if_neg (by decide), if_neg (by decide), if_neg (by decide), if_neg (by decide), if_neg (by decide), if_neg (by decide), hk0, allL] at HM
      clear hk0
      go_enter Try.func14, Try.ntmps14
      go_wp2
      go_ret
      exact ⟨ret_bool HM.out.symm, HK1.out.bel⟩
    have g1 : (op == 1) = false := by rw [beq_eq_false_iff_ne]; exact g
    clear g
    by_cases g : op = 2
    · subst g
      rw [if_pos rfl] at HM
      go_enter Try.func14, Try.ntmps14
      go_wp2
      all_goals
        go_ret
        refine ⟨ret_bool ?_, HK1.out.bel⟩
        rw [HM.out]
        first | (symm; rw [decide_eq_false_iff_not]; omega) | (rw [Bool.eq_iff_iff, decide_eq_true_eq, decide_eq_true_eq]; omega) | (rw [Bool.eq_iff_iff, beq_iff_eq, decide_eq_true_eq]; omega)
    have g2 : (op == 2) = false := by rw [beq_eq_false_iff_ne]; exact g
    rw [if_neg g] at HM
    clear g
    by_cases g : op = 3
    · subst g
      rw [if_pos rfl] at HM
      go_enter Try.func14, Try.ntmps14
      go_wp2
      all_goals
        go_ret
        refine ⟨ret_bool ?_, HK1.out.bel⟩
        rw [HM.out]
        first | (symm; rw [decide_eq_false_iff_not]; omega) | (rw [Bool.eq_iff_iff, decide_eq_true_eq, decide_eq_true_eq]; omega) | (rw [Bool.eq_iff_iff, beq_iff_eq, decide_eq_true_eq]; omega)
    have g3 : (op == 3) = false := by rw [beq_eq_false_iff_ne]; exact g
    rw [if_neg g] at HM
    clear g
    by_cases g : op = 4
    · subst g
      rw [if_pos rfl] at HM
      go_enter Try.func14, Try.ntmps14
      go_wp2
      all_goals
        go_ret
        refine ⟨ret_bool ?_, HK1.out.bel⟩
        rw [HM.out]
    have g4 : (op == 4) = false := by rw [beq_eq_false_iff_ne]; exact g
    rw [if_neg g] at HM
    clear g
    by_cases g : op = 5
    · subst g
      rw [if_pos rfl] at HM
      go_enter Try.func14, Try.ntmps14
      go_wp2
      all_goals
        go_ret
        refine ⟨ret_bool ?_, HK1.out.bel⟩
        rw [HM.out]
        first | (symm; rw [decide_eq_false_iff_not]; omega) | (rw [Bool.eq_iff_iff, decide_eq_true_eq, decide_eq_true_eq]; omega) | (rw [Bool.eq_iff_iff, beq_iff_eq, decide_eq_true_eq]; omega)
    have g5 : (op == 5) = false := by rw [beq_eq_false_iff_ne]; exact g
    rw [if_neg g] at HM
    clear g
    by_cases g : op = 8
    · subst g
      rw [if_pos rfl] at HM
      obtain rfl := HO8.out rfl
      obtain ⟨ad, op', a', b', name', A', n', c', t', v', rfl, hkt, hvt, hve, hft, d0, d1, d2, d3, d4⟩ := HKI.out W HB.out 0 (by omega)
      have HIK := Lib.hid (IH.out 0 v' t' hvt hkt (everyL_get HEL.out hkt))
      subst hve
      have hmh : meansH ks ev = meansF t' ev := by cases ks with | nil => simp at hkt | cons x l => simp at hkt; subst hkt; rw [meansH]
      rw [hmh] at HM
      clear hkt hvt hft hmh
      have ha0 : ad.add (0 * 5) = ad := by simp [Addr.add]
      rw [ha0] at d0 d1 d2 d3 d4
      have bl : ad.block < W.heap.size := World.block_lt_of_cell? W _ d0
      go_enter Try.func14, Try.ntmps14
      go_wp2_with fail
      refine wp_region_noPanic ?_
      refine wp_region_held_drew (S := fun W' => Kept W W' [(W.heap.size + 1, 33, #[.int .i64 ev.q, .int .i64 ev.a, .int .i64 ev.k, .string ev.cm, .int .i64 ev.x, .int .i64 ev.y, .int .i64 ev.z]), (W.heap.size, 24, #[.int .i64 8, .int .i64 a, .int .i64 b, .string name, .slice (some ad) 1 c])]) (by kernel_rfl) HK1.out.drew (fun hHeld => ?_)
      refine takeH 0 (v := ?v0u6) rfl (by kernel_rfl) (by kernel_rfl) (by kernel_rfl) rfl (fun _ _ _ h => h) (Or.inl ⟨by rfl, ?y0u6⟩) hHeld ?r0u6
      case y0u6 => (intro W hSW; (try dsimp only at hSW); go_simp; try with_reducible rfl)
      simp only [Act.put, List.setIfInBounds_toArray, List.set_cons_zero, List.set_cons_succ]
      refine takeH 1 (v := ?v1u7) rfl (by kernel_rfl) (by kernel_rfl) (by kernel_rfl) rfl (fun _ _ _ h => h) (Or.inl ⟨by rfl, ?y1u7⟩) hHeld ?r1u7
      case y1u7 => (intro W hSW; (try dsimp only at hSW); have q0 := hSW.cell 1 rfl 4; simp only [List.getElem?_toArray, List.getElem?_cons_zero, List.getElem?_cons_succ] at q0; go_simp; try with_reducible rfl)
      simp only [Act.put, List.setIfInBounds_toArray, List.set_cons_zero, List.set_cons_succ]
      refine takeH 2 (v := ?v2u8) rfl (by kernel_rfl) (by kernel_rfl) (by kernel_rfl) rfl (fun _ _ _ h => h) (Or.inl ⟨by rfl, ?y2u8⟩) hHeld ?r2u8
      case y2u8 => (intro W hSW; (try dsimp only at hSW); go_simp; try with_reducible rfl)
      simp only [Act.put, List.setIfInBounds_toArray, List.set_cons_zero, List.set_cons_succ]
      refine takeH 3 (v := ?v3u9) rfl (by kernel_rfl) (by kernel_rfl) (by kernel_rfl) rfl (fun _ _ _ h => h) (Or.inl ⟨by rfl, ?y3u9⟩) hHeld ?r3u9
      case y3u9 => (intro W hSW; (try dsimp only at hSW); have q0 := (hSW.bel.cell (p := ad) bl).trans d0; have q1 := (hSW.bel.cell (p := ⟨ad.block, ad.off + 1, none⟩) bl).trans d1; have q2 := (hSW.bel.cell (p := ⟨ad.block, ad.off + 2, none⟩) bl).trans d2; have q3 := (hSW.bel.cell (p := ⟨ad.block, ad.off + 3, none⟩) bl).trans d3; have q4 := (hSW.bel.cell (p := ⟨ad.block, ad.off + 4, none⟩) bl).trans d4; go_simp; try with_reducible rfl)
      simp only [Act.put, List.setIfInBounds_toArray, List.set_cons_zero, List.set_cons_succ]
      refine takeH 4 (v := ?v4u10) rfl (by kernel_rfl) (by kernel_rfl) (by kernel_rfl) rfl (fun _ _ _ h => h) (Or.inl ⟨by rfl, ?y4u10⟩) hHeld ?r4u10
      case y4u10 => (intro W hSW; (try dsimp only at hSW); have q0 := hSW.cell 0 rfl 0; have q1 := hSW.cell 0 rfl 1; have q2 := hSW.cell 0 rfl 2; have q3 := hSW.cell 0 rfl 3; have q4 := hSW.cell 0 rfl 4; have q5 := hSW.cell 0 rfl 5; have q6 := hSW.cell 0 rfl 6; simp only [List.getElem?_toArray, List.getElem?_cons_zero, List.getElem?_cons_succ] at q0 q1 q2 q3 q4 q5 q6; go_simp; try with_reducible rfl)
      simp only [Act.put, List.setIfInBounds_toArray, List.set_cons_zero, List.set_cons_succ]
      refine wpAnyH_ready (rs := [5]) (by kernel_rfl) (by simp) ?_
      refine AllReadyH.cons rfl (fun K hK => ?_) AllReadyH.nil
      go_simp
      with_reducible refine (HIK.out _ (HB.out.trans (hHeld.bel.mono hBW)) (Nat.le_trans hBW hHeld.size)).mono ?_
      rintro e wn ⟨rfl, hbn⟩
      have hkn := hHeld.next hbn
      clear hbn
      refine hK.out _ _ hkn (fun hHeld => ?_)
      clear hK K
      try simp only [Act.put, List.setIfInBounds_toArray, List.set_cons_zero, List.set_cons_succ]
      refine takeH 6 (v := ?v6u11) rfl (by kernel_rfl) (by kernel_rfl) (by kernel_rfl) rfl (fun _ _ _ h => h) (Or.inl ⟨by rfl, ?y6u11⟩) hHeld ?r6u11
      case y6u11 => (intro W hSW; (try dsimp only at hSW); go_simp; try with_reducible rfl)
      simp only [Act.put, List.setIfInBounds_toArray, List.set_cons_zero, List.set_cons_succ]
      refine takeH 7 (v := ?v7u12) rfl (by kernel_rfl) (by kernel_rfl) (by kernel_rfl) rfl (fun _ _ _ h => h) (Or.inl ⟨by rfl, ?y7u12⟩) hHeld ?r7u12
      case y7u12 => (intro W hSW; (try dsimp only at hSW); go_simp; try with_reducible rfl)
      simp only [Act.put, List.setIfInBounds_toArray, List.set_cons_zero, List.set_cons_succ]
      refine wpAnyH_done (by kernel_rfl) ?_ _
      refine NoPanic.normal ?_
      go_wp2
      go_ret
      exact ⟨ret_bool HM.out.symm, hHeld.bel⟩
    have g8 : (op == 8) = false := by rw [beq_eq_false_iff_ne]; exact g
    rw [if_neg g, any_cnt, all_cnt, HN.out] at HM
    clear g
    go_enter Try.func14, Try.ntmps14
    go_wp2
    go_loopw [5, 6] (fun p i wr => ∃ (k : Nat), k ≤ n ∧ i = .int .i64 k ∧ p = .int .i64 (cntM ev (ks.take k) : Nat) ∧ Hid (Kept W wr [(W.heap.size + 1, 33, #[.int .i64 ev.q, .int .i64 ev.a, .int .i64 ev.k, .string ev.cm, .int .i64 ev.x, .int .i64 ev.y, .int .i64 ev.z]), (W.heap.size, 24, #[.int .i64 op, .int .i64 a, .int .i64 b, .string name, .slice A n c])])) (fun _ i _ => n - (intOf i).toNat)
    case atStart => exact ⟨0, Nat.zero_le _, rfl, rfl, HK1⟩
    case round =>
      clear HK1
      obtain ⟨k, hk, rfl, rfl, HK⟩ := hrel
      have hz := HK.out.size
      have hcl := cntM_le ev (ks.take k)
      rw [List.length_take, HN.out] at hcl
      by_cases hlt : k < n
      · obtain ⟨ad, op', a', b', name', A', n', c', t', v', rfl, hkt, hvt, hve, hft, d0, d1, d2, d3, d4⟩ := HKI.out W HB.out k hlt
        have HIK := Lib.hid (IH.out k v' t' hvt hkt (everyL_get HEL.out hkt))
        subst hve
        have HT2 := Lib.hid (show cntM ev (ks.take (k + 1)) = cntM ev (ks.take k) + (if meansF t' ev = true then 1 else 0) from by rw [take_snoc_of ks k t' hkt, cntM_snoc])
        clear hkt hvt hft
        have i1 : (0 : Int) ≤ (k : Int) := by omega
        have i2 : (k : Int) < (n : Int) := by omega
        generalize cntM ev (ks.take k) = cm0 at HT2 hcl ⊢
        have bl : (ad.add (k * 5)).block < W.heap.size := World.block_lt_of_cell? W _ d0
        have c_f_0 : wr.cell? ⟨W.heap.size, 0, none⟩ = some (.int .i64 op) := HK.out.cell 1 rfl 0
        have c_f_1 : wr.cell? ⟨W.heap.size, 1, none⟩ = some (.int .i64 a) := HK.out.cell 1 rfl 1
        have c_f_2 : wr.cell? ⟨W.heap.size, 2, none⟩ = some (.int .i64 b) := HK.out.cell 1 rfl 2
        have c_f_3 : wr.cell? ⟨W.heap.size, 3, none⟩ = some (.string name) := HK.out.cell 1 rfl 3
        have c_f_4 : wr.cell? ⟨W.heap.size, 4, none⟩ = some (.slice (some ad) n c) := HK.out.cell 1 rfl 4
        go_wp2_with fail
        clear c_f_0 c_f_1 c_f_2 c_f_3 c_f_4
        refine wp_region_noPanic ?_
        refine wp_region_held_drew (S := fun W' => Kept W W' [(W.heap.size + 1, 33, #[.int .i64 ev.q, .int .i64 ev.a, .int .i64 ev.k, .string ev.cm, .int .i64 ev.x, .int .i64 ev.y, .int .i64 ev.z]), (W.heap.size, 24, #[.int .i64 op, .int .i64 a, .int .i64 b, .string name, .slice (some ad) n c])]) (by kernel_rfl) HK.out.drew (fun hHeld => ?_)
        refine takeH 0 (v := ?v0u13) rfl (by kernel_rfl) (by kernel_rfl) (by kernel_rfl) rfl (fun _ _ _ h => h) (Or.inl ⟨by rfl, ?y0u13⟩) hHeld ?r0u13
        case y0u13 => (intro W hSW; (try dsimp only at hSW); go_simp; try with_reducible rfl)
        simp only [Act.put, List.setIfInBounds_toArray, List.set_cons_zero, List.set_cons_succ]
        refine takeH 1 (v := ?v1u14) rfl (by kernel_rfl) (by kernel_rfl) (by kernel_rfl) rfl (fun _ _ _ h => h) (Or.inl ⟨by rfl, ?y1u14⟩) hHeld ?r1u14
        case y1u14 => (intro W hSW; (try dsimp only at hSW); have q0 := hSW.cell 1 rfl 4; simp only [List.getElem?_toArray, List.getElem?_cons_zero, List.getElem?_cons_succ] at q0; go_simp; try with_reducible rfl)
        simp only [Act.put, List.setIfInBounds_toArray, List.set_cons_zero, List.set_cons_succ]
        refine takeH 2 (v := ?v2u15) rfl (by kernel_rfl) (by kernel_rfl) (by kernel_rfl) rfl (fun _ _ _ h => h) (Or.inl ⟨by rfl, ?y2u15⟩) hHeld ?r2u15
        case y2u15 => (intro W hSW; (try dsimp only at hSW); go_simp; try with_reducible rfl)
        simp only [Act.put, List.setIfInBounds_toArray, List.set_cons_zero, List.set_cons_succ]
        refine takeH 3 (v := ?v3u16) rfl (by kernel_rfl) (by kernel_rfl) (by kernel_rfl) rfl (fun _ _ _ h => h) (Or.inl ⟨by rfl, ?y3u16⟩) hHeld ?r3u16
        case y3u16 => (intro W hSW; (try dsimp only at hSW); go_simp; try with_reducible rfl)
        simp only [Act.put, List.setIfInBounds_toArray, List.set_cons_zero, List.set_cons_succ]
        refine takeH 4 (v := ?v4u17) rfl (by kernel_rfl) (by kernel_rfl) (by kernel_rfl) rfl (fun _ _ _ h => h) (Or.inl ⟨by rfl, ?y4u17⟩) hHeld ?r4u17
        case y4u17 => (intro W hSW; (try dsimp only at hSW); have q0 := (hSW.bel.cell (p := (ad.add (k * 5))) bl).trans d0; have q1 := (hSW.bel.cell (p := ⟨(ad.add (k * 5)).block, (ad.add (k * 5)).off + 1, none⟩) bl).trans d1; have q2 := (hSW.bel.cell (p := ⟨(ad.add (k * 5)).block, (ad.add (k * 5)).off + 2, none⟩) bl).trans d2; have q3 := (hSW.bel.cell (p := ⟨(ad.add (k * 5)).block, (ad.add (k * 5)).off + 3, none⟩) bl).trans d3; have q4 := (hSW.bel.cell (p := ⟨(ad.add (k * 5)).block, (ad.add (k * 5)).off + 4, none⟩) bl).trans d4; go_simp; try with_reducible rfl)
        simp only [Act.put, List.setIfInBounds_toArray, List.set_cons_zero, List.set_cons_succ]
        refine takeH 5 (v := ?v5u18) rfl (by kernel_rfl) (by kernel_rfl) (by kernel_rfl) rfl (fun _ _ _ h => h) (Or.inl ⟨by rfl, ?y5u18⟩) hHeld ?r5u18
        case y5u18 => (intro W hSW; (try dsimp only at hSW); have q0 := hSW.cell 0 rfl 0; have q1 := hSW.cell 0 rfl 1; have q2 := hSW.cell 0 rfl 2; have q3 := hSW.cell 0 rfl 3; have q4 := hSW.cell 0 rfl 4; have q5 := hSW.cell 0 rfl 5; have q6 := hSW.cell 0 rfl 6; simp only [List.getElem?_toArray, List.getElem?_cons_zero, List.getElem?_cons_succ] at q0 q1 q2 q3 q4 q5 q6; go_simp; try with_reducible rfl)
        simp only [Act.put, List.setIfInBounds_toArray, List.set_cons_zero, List.set_cons_succ]
        refine wpAnyH_ready (rs := [6]) (by kernel_rfl) (by simp) ?_
        refine AllReadyH.cons rfl (fun K hK => ?_) AllReadyH.nil
        go_simp
        with_reducible refine (HIK.out _ (HB.out.trans (hHeld.bel.mono hBW)) (Nat.le_trans hBW hHeld.size)).mono ?_
        rintro e wn ⟨rfl, hbn⟩
        have hkn := hHeld.next hbn
        clear hbn
        refine hK.out _ _ hkn (fun hHeld => ?_)
        clear hK K
        try simp only [Act.put, List.setIfInBounds_toArray, List.set_cons_zero, List.set_cons_succ]
        refine wpAnyH_done (by kernel_rfl) ?_ _
        refine NoPanic.normal ?_
        cases hs : meansF t' ev
        · have HT3 := Lib.hid (show cntM ev (ks.take (k + 1)) = cm0 + 0 from by rw [HT2.out, hs]; rfl)
          have HKn := Lib.hid hHeld
          clear hHeld hs
          go_wp2
          exact ⟨⟨k + 1, by omega, rfl, by rw [HT3.out]; simp, HKn⟩, by simp [intOf]; omega⟩
        · have HT3 := Lib.hid (show cntM ev (ks.take (k + 1)) = cm0 + 1 from by rw [HT2.out, hs]; rfl)
          have HKn := Lib.hid hHeld
          clear hHeld hs
          go_wp2
          exact ⟨⟨k + 1, by omega, rfl, by rw [HT3.out]; rfl, HKn⟩, by simp [intOf]; omega⟩
      · obtain rfl : n = k := by omega
        rw [List.take_of_length_le (by rw [HN.out]; exact Nat.le_refl _)] at hcl ⊢
        generalize cntM ev ks = cm0 at HM hcl ⊢
        have c_f_0 : wr.cell? ⟨W.heap.size, 0, none⟩ = some (.int .i64 op) := HK.out.cell 1 rfl 0
        have c_f_1 : wr.cell? ⟨W.heap.size, 1, none⟩ = some (.int .i64 a) := HK.out.cell 1 rfl 1
        have c_f_2 : wr.cell? ⟨W.heap.size, 2, none⟩ = some (.int .i64 b) := HK.out.cell 1 rfl 2
        have c_f_3 : wr.cell? ⟨W.heap.size, 3, none⟩ = some (.string name) := HK.out.cell 1 rfl 3
        have c_f_4 : wr.cell? ⟨W.heap.size, 4, none⟩ = some (.slice A n c) := HK.out.cell 1 rfl 4
        by_cases g : op = 6
        · subst g
          rw [if_neg (by decide)] at HM
          go_wp2
          go_ret
          refine ⟨ret_bool ?_, HK.out.bel⟩
          rw [HM.out, Bool.eq_iff_iff, beq_iff_eq, decide_eq_true_eq]
          omega
        · have g6 : (op == 6) = false := by rw [beq_eq_false_iff_ne]; exact g
          have h7 : op = 7 := by simp only [beq_eq_false_iff_ne] at g1 g2 g3 g4 g5 g8; omega
          rw [if_pos h7] at HM
          clear h7
          go_wp2
          go_ret
          refine ⟨ret_bool ?_, HK.out.bel⟩
          rw [HM.out]
end Go.Proofs.Ytjkaklfhcefkcaa
