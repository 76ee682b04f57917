/- The contract of filter.grow. -/
import Derived.Test.YtjkaklfhcefkcaaNode
namespace Go.Proofs.Ytjkaklfhcefkcaa
set_option linter.unusedVariables false
open Go.RowKit Go.ChangeShapes

theorem Try.infoN : (Try.prog.info? 49).map (fun i => (i.zero, i.size, i.bytes)) = some (some .nilIface, 1, 16) := by kernel_rfl
theorem KidsOk.snoc {w3 w5 : World} {g W0 : Nat} {v v' x : Value} {xs : List Value} {ks : List FT} {t : FT} {k : Nat} {base : Nat} (h : KidsOk w3 g v xs ks) (hl : xs.length = k) (hk : ks[k]? = some t) (hx : NTr w3 (fun b => W0 ≤ b ∧ b < w3.heap.size) x t) (hW0 : g < W0) (hov : ∀ b, v.ownBlock = some b → b < W0)
    (hsz : w3.heap.size ≤ w5.heap.size) (hblk : ∀ b, b < w3.heap.size → v.ownBlock ≠ some b → w5.heap[b]? = w3.heap[b]?) (hob : v'.ownBlock = v.ownBlock ∨ v'.ownBlock = some base) (hbase : w3.heap.size ≤ base) : KidsOk w5 g v' (xs ++ [x]) ks := by
  intro i y t' hy ht'
  have hne : ∀ b, b < w3.heap.size → v.ownBlock ≠ some b → v'.ownBlock ≠ some b := by
    intro b hb hv
    rcases hob with h | h
    · rw [h]; exact hv
    · rw [h]; simp; omega
  by_cases hi : i < xs.length
  · rw [List.getElem?_append_left hi] at hy
    exact (h i y t' hy ht').move (fun b hb => hblk b hb.2.1 hb.2.2) (fun b hb => ⟨hb.1, by omega, hne b hb.2.1 hb.2.2⟩)
  · have hik : i = k := by
      rw [List.getElem?_append_right (by omega)] at hy
      have h1 := (List.getElem?_eq_some_iff.1 hy).1
      simp at h1
      omega
    subst hik
    rw [List.getElem?_append_right (by omega)] at hy
    rw [show i - xs.length = 0 from by omega] at hy
    simp at hy
    subst hy
    rw [hk] at ht'
    injection ht' with ht'
    subst ht'
    have hv : ∀ b, W0 ≤ b → v.ownBlock ≠ some b := fun b hb e => by have := hov b e; omega
    exact hx.move (fun b hb => hblk b hb.2 (hv b hb.1)) (fun b hb => ⟨by omega, by omega, hne b hb.2 (hv b hb.1)⟩)
theorem KidsOk.next {w w' : World} {g : Nat} {v : Value} {xs : List Value} {ks : List FT} (h : KidsOk w g v xs ks) (hb : Below w.heap.size w w') : KidsOk w' g v xs ks := fun i x t hx ht => (h i x t hx ht).move (fun b hb' => hb.block b hb'.2.1) (fun b hb' => ⟨hb'.1, Nat.lt_of_lt_of_le hb'.2.1 hb.size, hb'.2.2⟩)
theorem KidsOk.set {w : World} {g o : Nat} {v u : Value} {xs : List Value} {ks : List FT} (h : KidsOk w g v xs ks) : KidsOk (w.setCell ⟨g, o, none⟩ u) g v xs ks := fun i x t hx ht => (h i x t hx ht).move (fun b hb' => Below.heap_setCell w _ u b (by simp; omega)) (fun b hb' => ⟨hb'.1, by simpa [World.setCell] using hb'.2.1, hb'.2.2⟩)

set_option maxHeartbeats 4000000 in
theorem grow_c {w : World} {B : Nat} {cs : List Value} {t : FT} (h : FTr w B cs t) : everyF t = true → cntF t ≤ 1000 → ∀ W, Below B w W → B ≤ W.heap.size → Calls Try.prog 28 #[.agg cs.toArray] W (GrowOk t W) := by
  induction h with
  | mk op a b name A n c vs ks hop ha hb hnm hn hv hnc hcm hr hk ih =>
    intro hev hct W hB hBW
    unfold cntF at hct
    have hnk : n ≤ 1000 := by have := cntL_len ks; omega
    have HCT := Lib.hid (fun (i : Nat) (t : FT) (hi : ks[i]? = some t) => show cntF t ≤ 1000 from by have := cntL_get ks i t hi; omega)
    clear hct
    have HN := Lib.hid hn
    have HKI := Lib.hid (fun (wr : World) (hw : Below B w wr) (i : Nat) (hi : i < n) => kid_in hn hv hr hk hw hi)
    have IH := Lib.hid ih
    have HB := Lib.hid hB
    have hev' := hev
    unfold everyF at hev'
    rw [Bool.and_eq_true] at hev'
    obtain ⟨hone, hel⟩ := hev'
    have HEL := Lib.hid hel
    unfold maxLen at hcm hnm
    clear hr hk ih hB hn hv hop ha hb hev hel
    unfold GrowOk
    have HK1 := Lib.hid (show Kept W (W.alloc (.cells #[.int .i64 op, .int .i64 a, .int .i64 b, .string name, .slice A n c] 24)) [(W.heap.size, 24, #[.int .i64 op, .int .i64 a, .int .i64 b, .string name, .slice A n c])] from ((Kept.start W).alloc_at 24 #[.int .i64 op, .int .i64 a, .int .i64 b, .string name, .slice A n c] (W.heap.size) (by simp)))
    by_cases g : op = 2
    · subst g
      clear hone HEL
      go_enter Try.func28, Try.ntmps28
      go_wp2
      go_ret
      exact ⟨_, rfl, .time _ _ _ _, HK1.out.bel⟩
    have g2 : (op == 2) = false := by rw [beq_eq_false_iff_ne]; exact g
    have HG2 := Lib.hid g
    clear g
    by_cases g : op = 3
    · subst g
      clear hone HEL
      go_enter Try.func28, Try.ntmps28
      go_wp2
      go_ret
      exact ⟨_, rfl, .seq _ _ _ _, HK1.out.bel⟩
    have g3 : (op == 3) = false := by rw [beq_eq_false_iff_ne]; exact g
    have HG3 := Lib.hid g
    clear g
    by_cases g : op = 5
    · subst g
      clear hone HEL
      go_enter Try.func28, Try.ntmps28
      go_wp2
      go_ret
      exact ⟨_, rfl, .kind _ _ _ _, HK1.out.bel⟩
    have g5 : (op == 5) = false := by rw [beq_eq_false_iff_ne]; exact g
    have HG5 := Lib.hid g
    clear g
    by_cases g : op = 4
    · subst g
      clear hone HEL
      go_enter Try.func28, Try.ntmps28
      go_wp2
      go_ret
      exact ⟨_, rfl, .named _ _ _ _, HK1.out.bel⟩
    have g4 : (op == 4) = false := by rw [beq_eq_false_iff_ne]; exact g
    have HG4 := Lib.hid g
    clear g
    by_cases g : op = 8
    · subst g
      have hn1 : ks.length = 1 := by unfold oneF at hone; rw [decide_eq_true_eq] at hone; unfold oneP at hone; omega
      obtain rfl : n = 1 := by rw [← HN.out]; exact hn1
      clear hone hn1
      obtain ⟨ad, op', a', b', name', A', n', c', t', v', rfl, hkt, hvt, hve, hft, d0, d1, d2, d3, d4⟩ := HKI.out _ (HB.out.trans (HK1.out.bel.mono hBW)) 0 (by omega)
      have ihk := IH.out 0 v' t' hvt hkt (everyL_get HEL.out hkt) (HCT.out _ _ hkt)
      subst hve
      have HIK := Lib.hid ihk
      obtain ⟨ks', rfl⟩ : ∃ ks', ks = t' :: ks' := by cases ks with | nil => simp at hkt | cons x l => simp at hkt; subst hkt; exact ⟨l, rfl⟩
      clear hkt hvt ihk
      have ha0 : ad.add (0 * 5) = ad := by simp [Addr.add]
      rw [ha0] at d0 d1 d2 d3 d4
      go_enter Try.func28, Try.ntmps28
      go_wp2_with fail
      with_reducible refine (HIK.out _ (HB.out.trans (HK1.out.bel.mono hBW)) (Nat.le_trans hBW HK1.out.size)).mono ?_
      rintro e w2 ⟨x, rfl, hx, hb2⟩
      obtain ⟨ty, u, rfl⟩ := hx.iface
      have HX := Lib.hid (show NTr w2 (fun b => W.heap.size ≤ b ∧ b < w2.heap.size) (.iface ty u) t' from hx.move (fun _ _ => rfl) (fun b hb' => ⟨Nat.le_trans HK1.out.size hb'.1, hb'.2⟩))
      clear hx d0 d1 d2 d3 d4
      have HK2 := Lib.hid (show Kept W w2 [(W.heap.size, 24, #[.int .i64 8, .int .i64 a, .int .i64 b, .string name, .slice (some ad) 1 c])] from HK1.out.next hb2)
      clear HK1
      clear hb2
      go_wp2
      go_ret
      exact ⟨_, rfl, .inverse _ _ _ _ _ _ HX.out, HK2.out.bel⟩
    have g8 : (op == 8) = false := by rw [beq_eq_false_iff_ne]; exact g
    have HG8 := Lib.hid g
    clear g hone
    have c_f_0 : (W.alloc (.cells #[.int .i64 op, .int .i64 a, .int .i64 b, .string name, .slice A n c] 24)).cell? ⟨W.heap.size, 0, none⟩ = some (.int .i64 op) := HK1.out.cell 0 rfl 0
    have c_f_1 : (W.alloc (.cells #[.int .i64 op, .int .i64 a, .int .i64 b, .string name, .slice A n c] 24)).cell? ⟨W.heap.size, 1, none⟩ = some (.int .i64 a) := HK1.out.cell 0 rfl 1
    have c_f_2 : (W.alloc (.cells #[.int .i64 op, .int .i64 a, .int .i64 b, .string name, .slice A n c] 24)).cell? ⟨W.heap.size, 2, none⟩ = some (.int .i64 b) := HK1.out.cell 0 rfl 2
    have c_f_3 : (W.alloc (.cells #[.int .i64 op, .int .i64 a, .int .i64 b, .string name, .slice A n c] 24)).cell? ⟨W.heap.size, 3, none⟩ = some (.string name) := HK1.out.cell 0 rfl 3
    have c_f_4 : (W.alloc (.cells #[.int .i64 op, .int .i64 a, .int .i64 b, .string name, .slice A n c] 24)).cell? ⟨W.heap.size, 4, none⟩ = some (.slice A n c) := HK1.out.cell 0 rfl 4
    go_enter Try.func28, Try.ntmps28
    go_wp2
    have HK2 := Lib.hid (show Kept W ((W.alloc (.cells #[.int .i64 op, .int .i64 a, .int .i64 b, .string name, .slice A n c] 24)).alloc (.cells #[.bool (op != 7), .slice none 0 0] 63)) [(W.heap.size + 1, 63, #[.bool (op != 7), .slice none 0 0]), (W.heap.size, 24, #[.int .i64 op, .int .i64 a, .int .i64 b, .string name, .slice A n c])] from HK1.out.alloc_at 63 #[.bool (op != 7), .slice none 0 0] (W.heap.size + 1) (by simp))
    clear HK1
    go_loopw [54] (fun i wr => ∃ (k : Nat) (v : Value) (xs : List Value), k ≤ n ∧ i = .int .i64 k ∧ Hid (Kept W wr [(W.heap.size + 1, 63, #[.bool (op != 7), v]), (W.heap.size, 24, #[.int .i64 op, .int .i64 a, .int .i64 b, .string name, .slice A n c])]) ∧ Hid (wr.ownsRow (W.heap.size + 2) 49 1 v k xs) ∧ Hid (KidsOk wr (W.heap.size + 1) v xs ks)) (fun i _ => n - (intOf i).toNat)
    case atStart => exact ⟨0, .slice none 0 0, [], Nat.zero_le _, rfl, HK2, Lib.hid ⟨rfl, .inl ⟨rfl, rfl⟩⟩, Lib.hid (fun i x t hx => by simp at hx)⟩
    case round =>
      clear c_f_0 c_f_1 c_f_2 c_f_3 c_f_4
      clear HK2
      obtain ⟨k, v, xs, hk, rfl, HK, HO, HD⟩ := hrel
      have hz := HK.out.size
      have hgl := HK.out.lt 0 rfl
      obtain ⟨i0, hi0, hz0, hz1, hz2⟩ := info_parts Try.infoN
      by_cases hlt : k < n
      · obtain ⟨ad, op', a', b', name', A', n', c', t', v', rfl, hkt, hvt, hve, hft, d0, d1, d2, d3, d4⟩ := HKI.out wr (HB.out.trans (HK.out.bel.mono hBW)) k hlt
        have ihk := IH.out k v' t' hvt hkt
        subst hve
        have HIK := Lib.hid ihk
        have HKT := Lib.hid hkt
        have i1 : (0 : Int) ≤ (k : Int) := by omega
        have i2 : (k : Int) < (n : Int) := by omega
        clear hkt hvt ihk
        have HEV := Lib.hid (everyL_get HEL.out HKT.out)
        have HCK := Lib.hid (HCT.out _ _ HKT.out)
        have HK3 := Lib.hid (show Kept W (wr.alloc (.cells #[.int .i64 op', .int .i64 a', .int .i64 b', .string name', .slice A' n' c'] 24)) [(wr.heap.size, 24, #[.int .i64 op', .int .i64 a', .int .i64 b', .string name', .slice A' n' c']), (W.heap.size + 1, 63, #[.bool (op != 7), v]), (W.heap.size, 24, #[.int .i64 op, .int .i64 a, .int .i64 b, .string name, .slice (some ad) n c])] from HK.out.alloc 24 #[.int .i64 op', .int .i64 a', .int .i64 b', .string name', .slice A' n' c'])
        clear HK
        have HO2 := Lib.hid (HO.out.alloc (.cells #[.int .i64 op', .int .i64 a', .int .i64 b', .string name', .slice A' n' c'] 24))
        have HD2 := Lib.hid (HD.out.next ((Below.refl wr.heap.size wr).alloc (Nat.le_refl _) (.cells #[.int .i64 op', .int .i64 a', .int .i64 b', .string name', .slice A' n' c'] 24)))
        go_wp2_with fail
        obtain ⟨gk, hgk⟩ : ∃ x, x = wr.heap.size := ⟨_, rfl⟩
        rw [← hgk] at HK3 ⊢
        generalize wr.alloc (.cells #[.int .i64 op', .int .i64 a', .int .i64 b', .string name', .slice A' n' c'] 24) = w2 at HK3 HO2 HD2 ⊢
        have hge := own_ge HO.out
        rw [← hgk] at hge
        clear HO HD d0 d1 d2 d3 d4 hz hgl hgk
        have HKd := Lib.hid HK3.out.drew
        have HOd := Lib.hid (own_below HO2.out ((Below.refl w2.heap.size w2).drew) (Nat.le_refl _))
        have HDd := Lib.hid (HD2.out.next ((Below.refl w2.heap.size w2).drew))
        have hsub : ∀ v : Value, List.Sublist [(gk, 24, #[.int .i64 op', .int .i64 a', .int .i64 b', .string name', .slice A' n' c']), (W.heap.size, 24, #[.int .i64 op, .int .i64 a, .int .i64 b, .string name, .slice (some ad) n c])] [(gk, 24, #[.int .i64 op', .int .i64 a', .int .i64 b', .string name', .slice A' n' c']), (W.heap.size + 1, 63, #[.bool (op != 7), v]), (W.heap.size, 24, #[.int .i64 op, .int .i64 a, .int .i64 b, .string name, .slice (some ad) n c])] := fun v => (List.Sublist.refl _).cons _ |>.cons_cons _
        refine wp_region_noPanic ?_
        refine wp_region_held_drew (S := fun W' => Kept W W' [(gk, 24, #[.int .i64 op', .int .i64 a', .int .i64 b', .string name', .slice A' n' c']), (W.heap.size, 24, #[.int .i64 op, .int .i64 a, .int .i64 b, .string name, .slice (some ad) n c])]) (by kernel_rfl) (HKd.out.sub (hsub v)) (fun hHeld => ?_)
        generalize w2.drew = wd at HKd HOd HDd hHeld ⊢
        clear HK3 HO2 HD2
        refine takeH 0 (v := ?v0u1) rfl (by kernel_rfl) (by kernel_rfl) (by kernel_rfl) rfl (fun _ _ _ h => h) (Or.inl ⟨by rfl, ?y0u1⟩) hHeld ?r0u1
        case y0u1 => (intro W hSW; (try dsimp only at hSW); go_simp; try with_reducible rfl)
        simp only [Act.put, List.setIfInBounds_toArray, List.set_cons_zero, List.set_cons_succ]
        refine takeH 2 (v := ?v2u2) rfl (by kernel_rfl) (by kernel_rfl) (by kernel_rfl) rfl (fun _ _ _ h => h) (Or.inl ⟨by rfl, ?y2u2⟩) hHeld ?r2u2
        case y2u2 => (intro W hSW; (try dsimp only at hSW); have q0 := hSW.cell 0 rfl 0; have q1 := hSW.cell 0 rfl 1; have q2 := hSW.cell 0 rfl 2; have q3 := hSW.cell 0 rfl 3; have q4 := hSW.cell 0 rfl 4; simp only [List.getElem?_toArray, List.getElem?_cons_zero, List.getElem?_cons_succ] at q0 q1 q2 q3 q4; go_simp; try with_reducible rfl)
        simp only [Act.put, List.setIfInBounds_toArray, List.set_cons_zero, List.set_cons_succ]
        refine wpAnyH_ready (rs := [1, 3]) (by kernel_rfl) (by simp) ?_
        refine AllReadyH.cons rfl (fun K hK => ?_) (AllReadyH.cons rfl (fun K hK => ?_) AllReadyH.nil)
        · have zc : wd.cell? ⟨W.heap.size + 1, 1, none⟩ = some v := HKd.out.cell 1 rfl 1
          go_simp
          refine hK.out _ _ hHeld (fun hHeld => ?_)
          clear hK K zc
          try simp only [Act.put, List.setIfInBounds_toArray, List.set_cons_zero, List.set_cons_succ]
          refine wpAnyH_ready (rs := [3]) (by kernel_rfl) (by simp) ?_
          refine AllReadyH.cons rfl (fun K hK => ?_) AllReadyH.nil
          go_simp
          with_reducible refine (HIK.out HEV.out HCK.out _ (HB.out.trans (HKd.out.bel.mono hBW)) (Nat.le_trans hBW HKd.out.size)).mono ?_
          rintro e w3 ⟨x, rfl, hx, hb3⟩
          obtain ⟨ty, u, rfl⟩ := hx.iface
          have HK3 := Lib.hid (HKd.out.next hb3)
          have HO3 := Lib.hid (own_below HOd.out hb3 (Nat.le_refl _))
          have HD3 := Lib.hid (HDd.out.next hb3)
          have HX := Lib.hid hx
          have h1 := hx.one
          have hz3 := hb3.size
          refine hK.out _ _ (HK3.out.sub (hsub v)) (fun hHeld => ?_)
          clear hK K hx hb3
          try simp only [Act.put, List.setIfInBounds_toArray, List.set_cons_zero, List.set_cons_succ]
          refine wpAnyH_ready (rs := [4]) (by kernel_rfl) (by simp) ?_
          refine AllReadyH.cons rfl (fun K hK => ?_) AllReadyH.nil
          go_simp
          refine hK.out _ _ (hHeld.alloc_off _) (fun hHeld => ?_)
          clear hK K
          try simp only [Act.put, List.setIfInBounds_toArray, List.set_cons_zero, List.set_cons_succ]
          have HRx := Lib.hid (Reads.of_blk (Blk.new w3 49 #[.iface ty u]) 1 [.iface ty u] rfl rfl)
          have hol : xs.length = k := by have := HO3.out.1; omega
          have hgd := HKd.out.lt 0 rfl
          have hg3 := HK3.out.lt 1 rfl
          refine wpAnyH_ready (rs := [5]) (by kernel_rfl) (by simp) ?_
          refine AllReadyH.cons rfl (fun K hK => ?_) AllReadyH.nil
          refine step_append_any _ rfl _ _ 61 rfl (W.heap.size + 2) 49 i0 _ 1 16 Try.underlying61 hi0 hz0 hz1 hz2 rfl (by omega) _ k xs rfl (HO3.out.alloc _) (w3.heap.size + 1) (some ⟨w3.heap.size, 0, none⟩) 1 1 [.iface ty u] rfl HRx.out (by intro u hu; simp at hu; subst hu; exact h1) (by unfold maxLen; omega) (by omega) (by simp; omega) ?_
          intro v' w5 hown5 hg5 hob5
          obtain ⟨A5, c5, rfl, _⟩ := own_reads hown5
          have HK5 := Lib.hid ((HK3.out.alloc_off (.cells #[.iface ty u] 49)).own hg5 (fun g' e' => ⟨by have := hge g' e'; omega, by have := hge g' e'; intro y hy; simp at hy; rcases hy with rfl | rfl | rfl <;> simp <;> omega⟩))
          have hzx : (w3.alloc (.cells #[.iface ty u] 49)).heap.size = w3.heap.size + 1 := by simp
          have hz5 := hg5.size
          have HD5 := Lib.hid (HD3.out.snoc (w5 := w5) (v' := .slice A5 (k + 1) c5) hol HKT.out HX.out (by have := HKd.out.lt 1 rfl; omega) (fun b' e' => by have := hge b' e'; omega) (by omega) (fun b' hb' hne => (hg5.block b' (by omega) (fun e' => hne e'.symm)).trans (Below.heap_alloc w3 _ b' hb')) hob5 (by omega))
          refine hK.out _ _ (HK5.out.sub (hsub v)) (fun hHeld => ?_)
          have HO5 := Lib.hid hown5
          clear hK K hob5 hg5 hown5 HRx
          simp only [Act.put, List.setIfInBounds_toArray]
          have zc : w5.cell? ⟨W.heap.size + 1, 1, none⟩ = some v := HK5.out.cell 1 rfl 1
          have zf : w5.frozen? ⟨W.heap.size + 1, 1, none⟩ = false := HK5.out.frozen 1 rfl 1
          have HK6 := Lib.hid (HK5.out.set_ 1 rfl 1 (.slice A5 (k + 1) c5))
          refine takeH 6 (v := ?v6u3) rfl (by kernel_rfl) (by kernel_rfl) (by kernel_rfl) rfl (fun _ _ _ h => h) (Or.inl ⟨by rfl, ?y6u3⟩) hHeld ?r6u3
          case y6u3 => (intro W hSW; (try dsimp only at hSW); go_simp; try with_reducible rfl)
          simp only [Act.put]
          refine wpAnyH_ready (rs := [7]) (by kernel_rfl) (by simp) ?_
          refine AllReadyH.cons rfl (fun K hK => ?_) AllReadyH.nil
          go_simp
          refine hK.out _ _ ((show Kept W _ [(gk, 24, #[.int .i64 op', .int .i64 a', .int .i64 b', .string name', .slice A' n' c']), (W.heap.size + 1, 63, #[.bool (op != 7), .slice A5 (k + 1) c5]), (W.heap.size, 24, #[.int .i64 op, .int .i64 a, .int .i64 b, .string name, .slice (some ad) n c])] from HK6.out).sub (hsub _)) (fun hHeld => ?_)
          clear hK K zc zf
          try simp only [Act.put, List.setIfInBounds_toArray, List.set_cons_zero, List.set_cons_succ]
          refine wpAnyH_done (by kernel_rfl) ?_ _
          refine NoPanic.normal ?_
          have HK7 := Lib.hid ((show Kept W _ [(gk, 24, #[.int .i64 op', .int .i64 a', .int .i64 b', .string name', .slice A' n' c']), (W.heap.size + 1, 63, #[.bool (op != 7), .slice A5 (k + 1) c5]), (W.heap.size, 24, #[.int .i64 op, .int .i64 a, .int .i64 b, .string name, .slice (some ad) n c])] from HK6.out).drop1)
          have HD6 := Lib.hid (HD5.out.set (o := 1) (u := .slice A5 (k + 1) c5))
          have HO6 := Lib.hid (own_setCell (p := ⟨W.heap.size + 1, 1, none⟩) HO5.out (fun e' => by have := own_ge HO5.out _ e'; simp at this) (.slice A5 (k + 1) c5))
          clear HK3 HO3 HD3 HK5 HO5 HD5 HK6 hHeld HKd HOd HDd HX
          go_wp2
          exact ⟨⟨k + 1, .slice A5 (k + 1) c5, xs ++ [.iface ty u], by omega, rfl, HK7, HO6, HD6⟩, by simp [intOf]; omega⟩
        · go_simp
          with_reducible refine (HIK.out HEV.out HCK.out _ (HB.out.trans (HKd.out.bel.mono hBW)) (Nat.le_trans hBW HKd.out.size)).mono ?_
          rintro e w3 ⟨x, rfl, hx, hb3⟩
          obtain ⟨ty, u, rfl⟩ := hx.iface
          have HK3 := Lib.hid (HKd.out.next hb3)
          have HO3 := Lib.hid (own_below HOd.out hb3 (Nat.le_refl _))
          have HD3 := Lib.hid (HDd.out.next hb3)
          have HX := Lib.hid hx
          have h1 := hx.one
          have hz3 := hb3.size
          refine hK.out _ _ (HK3.out.sub (hsub v)) (fun hHeld => ?_)
          clear hK K hx hb3
          try simp only [Act.put, List.setIfInBounds_toArray, List.set_cons_zero, List.set_cons_succ]
          refine wpAnyH_ready (rs := [1, 4]) (by kernel_rfl) (by simp) ?_
          refine AllReadyH.cons rfl (fun K hK => ?_) (AllReadyH.cons rfl (fun K hK => ?_) AllReadyH.nil)
          · have zc : w3.cell? ⟨W.heap.size + 1, 1, none⟩ = some v := HK3.out.cell 1 rfl 1
            go_simp
            refine hK.out _ _ hHeld (fun hHeld => ?_)
            clear hK K zc
            try simp only [Act.put, List.setIfInBounds_toArray, List.set_cons_zero, List.set_cons_succ]
            refine wpAnyH_ready (rs := [4]) (by kernel_rfl) (by simp) ?_
            refine AllReadyH.cons rfl (fun K hK => ?_) AllReadyH.nil
            go_simp
            refine hK.out _ _ (hHeld.alloc_off _) (fun hHeld => ?_)
            clear hK K
            try simp only [Act.put, List.setIfInBounds_toArray, List.set_cons_zero, List.set_cons_succ]
            have HRx := Lib.hid (Reads.of_blk (Blk.new w3 49 #[.iface ty u]) 1 [.iface ty u] rfl rfl)
            have hol : xs.length = k := by have := HO3.out.1; omega
            have hgd := HKd.out.lt 0 rfl
            have hg3 := HK3.out.lt 1 rfl
            refine wpAnyH_ready (rs := [5]) (by kernel_rfl) (by simp) ?_
            refine AllReadyH.cons rfl (fun K hK => ?_) AllReadyH.nil
            refine step_append_any _ rfl _ _ 61 rfl (W.heap.size + 2) 49 i0 _ 1 16 Try.underlying61 hi0 hz0 hz1 hz2 rfl (by omega) _ k xs rfl (HO3.out.alloc _) (w3.heap.size + 1) (some ⟨w3.heap.size, 0, none⟩) 1 1 [.iface ty u] rfl HRx.out (by intro u hu; simp at hu; subst hu; exact h1) (by unfold maxLen; omega) (by omega) (by simp; omega) ?_
            intro v' w5 hown5 hg5 hob5
            obtain ⟨A5, c5, rfl, _⟩ := own_reads hown5
            have HK5 := Lib.hid ((HK3.out.alloc_off (.cells #[.iface ty u] 49)).own hg5 (fun g' e' => ⟨by have := hge g' e'; omega, by have := hge g' e'; intro y hy; simp at hy; rcases hy with rfl | rfl | rfl <;> simp <;> omega⟩))
            have hzx : (w3.alloc (.cells #[.iface ty u] 49)).heap.size = w3.heap.size + 1 := by simp
            have hz5 := hg5.size
            have HD5 := Lib.hid (HD3.out.snoc (w5 := w5) (v' := .slice A5 (k + 1) c5) hol HKT.out HX.out (by have := HKd.out.lt 1 rfl; omega) (fun b' e' => by have := hge b' e'; omega) (by omega) (fun b' hb' hne => (hg5.block b' (by omega) (fun e' => hne e'.symm)).trans (Below.heap_alloc w3 _ b' hb')) hob5 (by omega))
            refine hK.out _ _ (HK5.out.sub (hsub v)) (fun hHeld => ?_)
            have HO5 := Lib.hid hown5
            clear hK K hob5 hg5 hown5 HRx
            simp only [Act.put, List.setIfInBounds_toArray]
            have zc : w5.cell? ⟨W.heap.size + 1, 1, none⟩ = some v := HK5.out.cell 1 rfl 1
            have zf : w5.frozen? ⟨W.heap.size + 1, 1, none⟩ = false := HK5.out.frozen 1 rfl 1
            have HK6 := Lib.hid (HK5.out.set_ 1 rfl 1 (.slice A5 (k + 1) c5))
            refine takeH 6 (v := ?v6u4) rfl (by kernel_rfl) (by kernel_rfl) (by kernel_rfl) rfl (fun _ _ _ h => h) (Or.inl ⟨by rfl, ?y6u4⟩) hHeld ?r6u4
            case y6u4 => (intro W hSW; (try dsimp only at hSW); go_simp; try with_reducible rfl)
            simp only [Act.put]
            refine wpAnyH_ready (rs := [7]) (by kernel_rfl) (by simp) ?_
            refine AllReadyH.cons rfl (fun K hK => ?_) AllReadyH.nil
            go_simp
            refine hK.out _ _ ((show Kept W _ [(gk, 24, #[.int .i64 op', .int .i64 a', .int .i64 b', .string name', .slice A' n' c']), (W.heap.size + 1, 63, #[.bool (op != 7), .slice A5 (k + 1) c5]), (W.heap.size, 24, #[.int .i64 op, .int .i64 a, .int .i64 b, .string name, .slice (some ad) n c])] from HK6.out).sub (hsub _)) (fun hHeld => ?_)
            clear hK K zc zf
            try simp only [Act.put, List.setIfInBounds_toArray, List.set_cons_zero, List.set_cons_succ]
            refine wpAnyH_done (by kernel_rfl) ?_ _
            refine NoPanic.normal ?_
            have HK7 := Lib.hid ((show Kept W _ [(gk, 24, #[.int .i64 op', .int .i64 a', .int .i64 b', .string name', .slice A' n' c']), (W.heap.size + 1, 63, #[.bool (op != 7), .slice A5 (k + 1) c5]), (W.heap.size, 24, #[.int .i64 op, .int .i64 a, .int .i64 b, .string name, .slice (some ad) n c])] from HK6.out).drop1)
            have HD6 := Lib.hid (HD5.out.set (o := 1) (u := .slice A5 (k + 1) c5))
            have HO6 := Lib.hid (own_setCell (p := ⟨W.heap.size + 1, 1, none⟩) HO5.out (fun e' => by have := own_ge HO5.out _ e'; simp at this) (.slice A5 (k + 1) c5))
            clear HK3 HO3 HD3 HK5 HO5 HD5 HK6 hHeld HKd HOd HDd HX
            go_wp2
            exact ⟨⟨k + 1, .slice A5 (k + 1) c5, xs ++ [.iface ty u], by omega, rfl, HK7, HO6, HD6⟩, by simp [intOf]; omega⟩
          · go_simp
            refine hK.out _ _ (hHeld.alloc_off _) (fun hHeld => ?_)
            clear hK K
            try simp only [Act.put, List.setIfInBounds_toArray, List.set_cons_zero, List.set_cons_succ]
            have HK4 := Lib.hid (HK3.out.alloc_off (.cells #[.iface ty u] 49))
            refine wpAnyH_ready (rs := [1]) (by kernel_rfl) (by simp) ?_
            refine AllReadyH.cons rfl (fun K hK => ?_) AllReadyH.nil
            have zc : (w3.alloc (.cells #[.iface ty u] 49)).cell? ⟨W.heap.size + 1, 1, none⟩ = some v := HK4.out.cell 1 rfl 1
            go_simp
            refine hK.out _ _ hHeld (fun hHeld => ?_)
            clear hK K zc
            try simp only [Act.put, List.setIfInBounds_toArray, List.set_cons_zero, List.set_cons_succ]
            clear HK4
            have HRx := Lib.hid (Reads.of_blk (Blk.new w3 49 #[.iface ty u]) 1 [.iface ty u] rfl rfl)
            have hol : xs.length = k := by have := HO3.out.1; omega
            have hgd := HKd.out.lt 0 rfl
            have hg3 := HK3.out.lt 1 rfl
            refine wpAnyH_ready (rs := [5]) (by kernel_rfl) (by simp) ?_
            refine AllReadyH.cons rfl (fun K hK => ?_) AllReadyH.nil
            refine step_append_any _ rfl _ _ 61 rfl (W.heap.size + 2) 49 i0 _ 1 16 Try.underlying61 hi0 hz0 hz1 hz2 rfl (by omega) _ k xs rfl (HO3.out.alloc _) (w3.heap.size + 1) (some ⟨w3.heap.size, 0, none⟩) 1 1 [.iface ty u] rfl HRx.out (by intro u hu; simp at hu; subst hu; exact h1) (by unfold maxLen; omega) (by omega) (by simp; omega) ?_
            intro v' w5 hown5 hg5 hob5
            obtain ⟨A5, c5, rfl, _⟩ := own_reads hown5
            have HK5 := Lib.hid ((HK3.out.alloc_off (.cells #[.iface ty u] 49)).own hg5 (fun g' e' => ⟨by have := hge g' e'; omega, by have := hge g' e'; intro y hy; simp at hy; rcases hy with rfl | rfl | rfl <;> simp <;> omega⟩))
            have hzx : (w3.alloc (.cells #[.iface ty u] 49)).heap.size = w3.heap.size + 1 := by simp
            have hz5 := hg5.size
            have HD5 := Lib.hid (HD3.out.snoc (w5 := w5) (v' := .slice A5 (k + 1) c5) hol HKT.out HX.out (by have := HKd.out.lt 1 rfl; omega) (fun b' e' => by have := hge b' e'; omega) (by omega) (fun b' hb' hne => (hg5.block b' (by omega) (fun e' => hne e'.symm)).trans (Below.heap_alloc w3 _ b' hb')) hob5 (by omega))
            refine hK.out _ _ (HK5.out.sub (hsub v)) (fun hHeld => ?_)
            have HO5 := Lib.hid hown5
            clear hK K hob5 hg5 hown5 HRx
            simp only [Act.put, List.setIfInBounds_toArray]
            have zc : w5.cell? ⟨W.heap.size + 1, 1, none⟩ = some v := HK5.out.cell 1 rfl 1
            have zf : w5.frozen? ⟨W.heap.size + 1, 1, none⟩ = false := HK5.out.frozen 1 rfl 1
            have HK6 := Lib.hid (HK5.out.set_ 1 rfl 1 (.slice A5 (k + 1) c5))
            refine takeH 6 (v := ?v6u5) rfl (by kernel_rfl) (by kernel_rfl) (by kernel_rfl) rfl (fun _ _ _ h => h) (Or.inl ⟨by rfl, ?y6u5⟩) hHeld ?r6u5
            case y6u5 => (intro W hSW; (try dsimp only at hSW); go_simp; try with_reducible rfl)
            simp only [Act.put]
            refine wpAnyH_ready (rs := [7]) (by kernel_rfl) (by simp) ?_
            refine AllReadyH.cons rfl (fun K hK => ?_) AllReadyH.nil
            go_simp
            refine hK.out _ _ ((show Kept W _ [(gk, 24, #[.int .i64 op', .int .i64 a', .int .i64 b', .string name', .slice A' n' c']), (W.heap.size + 1, 63, #[.bool (op != 7), .slice A5 (k + 1) c5]), (W.heap.size, 24, #[.int .i64 op, .int .i64 a, .int .i64 b, .string name, .slice (some ad) n c])] from HK6.out).sub (hsub _)) (fun hHeld => ?_)
            clear hK K zc zf
            try simp only [Act.put, List.setIfInBounds_toArray, List.set_cons_zero, List.set_cons_succ]
            refine wpAnyH_done (by kernel_rfl) ?_ _
            refine NoPanic.normal ?_
            have HK7 := Lib.hid ((show Kept W _ [(gk, 24, #[.int .i64 op', .int .i64 a', .int .i64 b', .string name', .slice A' n' c']), (W.heap.size + 1, 63, #[.bool (op != 7), .slice A5 (k + 1) c5]), (W.heap.size, 24, #[.int .i64 op, .int .i64 a, .int .i64 b, .string name, .slice (some ad) n c])] from HK6.out).drop1)
            have HD6 := Lib.hid (HD5.out.set (o := 1) (u := .slice A5 (k + 1) c5))
            have HO6 := Lib.hid (own_setCell (p := ⟨W.heap.size + 1, 1, none⟩) HO5.out (fun e' => by have := own_ge HO5.out _ e'; simp at this) (.slice A5 (k + 1) c5))
            clear HK3 HO3 HD3 HK5 HO5 HD5 HK6 hHeld HKd HOd HDd HX
            go_wp2
            exact ⟨⟨k + 1, .slice A5 (k + 1) c5, xs ++ [.iface ty u], by omega, rfl, HK7, HO6, HD6⟩, by simp [intOf]; omega⟩
      · obtain rfl : n = k := by omega
        have c_f_0 : wr.cell? ⟨W.heap.size, 0, none⟩ = some (.int .i64 op) := HK.out.cell 1 rfl 0
        have c_f_1 : wr.cell? ⟨W.heap.size, 1, none⟩ = some (.int .i64 a) := HK.out.cell 1 rfl 1
        have c_f_2 : wr.cell? ⟨W.heap.size, 2, none⟩ = some (.int .i64 b) := HK.out.cell 1 rfl 2
        have c_f_3 : wr.cell? ⟨W.heap.size, 3, none⟩ = some (.string name) := HK.out.cell 1 rfl 3
        have c_f_4 : wr.cell? ⟨W.heap.size, 4, none⟩ = some (.slice A n c) := HK.out.cell 1 rfl 4
        have c_g_0 : wr.cell? ⟨W.heap.size + 1, 0, none⟩ = some (.bool (op != 7)) := HK.out.cell 0 rfl 0
        have c_g_1 : wr.cell? ⟨W.heap.size + 1, 1, none⟩ = some (v) := HK.out.cell 0 rfl 1
        obtain ⟨A2, c2, rfl, hnc2, hcm2, _, hr2⟩ := own_reads HO.out
        have HR2 := Lib.hid hr2
        clear hr2
        have hge := own_ge HO.out
        have hol : xs.length = n := by have := HO.out.1; omega
        go_wp2
        go_ret
        refine ⟨_, rfl, .group op a b name A2 n c2 xs ks HG2.out HG3.out HG4.out HG5.out HG8.out HN.out hol (by omega) (fun h0 => ?_) (fun i x t hx ht => ?_), HK.out.bel⟩
        · obtain ⟨ad, e', hb', hc'⟩ := HR2.out.2 h0
          refine ⟨ad, e', ⟨?_, hb'⟩, hc'⟩
          rcases HO.out.2 with ⟨e2, _⟩ | ⟨g', cap, cur, e2, h3, _⟩
          · rw [e'] at e2; cases e2
          · rw [e'] at e2; injection e2 with e2; injection e2 with e2; rw [e2]; simp; omega
        · exact (HD.out i x t hx ht).move (fun _ _ => rfl) (fun b' hb' => ⟨by omega, hb'.2.1⟩)
end Go.Proofs.Ytjkaklfhcefkcaa
