/- The contracts of filter.same and of the reference's Equal. -/
import Derived.Test.YtjkaklfhcefkcaaMatch
namespace Go.Proofs.Ytjkaklfhcefkcaa
set_option linter.unusedVariables false
open Go.RowKit Go.ChangeShapes

mutual
def sameF : FT → FT → Bool
  | .mk op a b name ks, .mk op' a' b' name' ks' => decide (op = op' ∧ a = a' ∧ b = b' ∧ name = name') && sameL ks ks'
def sameL : List FT → List FT → Bool
  | [], [] => true
  | t :: ts, u :: us => sameF t u && sameL ts us
  | [], _ :: _ => false
  | _ :: _, [] => false
end
mutual
theorem sameF_iff : ∀ (t u : FT), sameF t u = true ↔ t = u
  | .mk op a b name ks, .mk op' a' b' name' ks' => by
    rw [sameF, Bool.and_eq_true, decide_eq_true_eq, sameL_iff ks ks', FT.mk.injEq]
    constructor
    · rintro ⟨⟨h1, h2, h3, h4⟩, h5⟩; exact ⟨h1, h2, h3, h4, h5⟩
    · rintro ⟨h1, h2, h3, h4, h5⟩; exact ⟨⟨h1, h2, h3, h4⟩, h5⟩
theorem sameL_iff : ∀ (ts us : List FT), sameL ts us = true ↔ ts = us
  | [], [] => by simp [sameL]
  | t :: ts, u :: us => by rw [sameL, Bool.and_eq_true, sameF_iff t u, sameL_iff ts us, List.cons.injEq]
  | [], _ :: _ => by simp [sameL]
  | _ :: _, [] => by simp [sameL]
end
theorem sameL_at : ∀ (ts us : List FT) (k : Nat) (t u : FT), ts[k]? = some t → us[k]? = some u → sameF t u = false → sameL ts us = false := by
  intro ts us k t u ht hu hf
  cases hs : sameL ts us
  · rfl
  · rw [sameL_iff] at hs
    subst hs
    rw [ht] at hu
    injection hu with hu
    subst hu
    have := (sameF_iff t t).2 rfl
    rw [this] at hf
    cases hf
theorem sameL_all (ts us : List FT) (hl : ts.length = us.length) (h : ∀ (k : Nat) t u, ts[k]? = some t → us[k]? = some u → sameF t u = true) : sameL ts us = true := by
  rw [sameL_iff]
  apply List.ext_getElem?
  intro k
  by_cases hk : k < ts.length
  · rw [List.getElem?_eq_getElem hk, List.getElem?_eq_getElem (by omega)]
    congr 1
    exact (sameF_iff _ _).1 (h k _ _ (List.getElem?_eq_getElem hk) (List.getElem?_eq_getElem (by omega)))
  · rw [List.getElem?_eq_none (by omega), List.getElem?_eq_none (by omega)]
theorem toList_eq {s t : ByteArray} (h : s.toList = t.toList) : s = t := by
  rw [ByteArray.toList_eq, ByteArray.toList_eq] at h
  cases s; cases t
  congr 1
  exact Array.toList_inj.1 h

set_option maxHeartbeats 4000000 in
theorem same_c {w : World} {B : Nat} {cs : List Value} {t : FT} (h : FTr w B cs t) : ∀ (cs2 : List Value) (u : FT), FTr w B cs2 u → ∀ W, Below B w W → B ≤ W.heap.size → Calls Try.prog 29 #[.agg cs.toArray, .agg cs2.toArray] W fun e w' => e = .returned (.bool (sameF t u)) ∧ Below W.heap.size W w' := by
  induction h with
  | mk op a b name A n c vs ks hop ha hb hnm hn hv hnc hcm hr hk ih =>
    intro cs2 u h2 W hB hBW
    have HN := Lib.hid hn
    have HKI := Lib.hid (fun (wr : World) (hw : Below B w wr) (i : Nat) (hi : i < n) => kid_in hn hv hr hk hw hi)
    have IH := Lib.hid ih
    have HB := Lib.hid hB
    unfold maxLen at hcm hnm
    clear hr hk ih hB hn hv hop ha hb
    cases h2 with
    | mk op2 a2 b2 name2 A2 n2 c2 vs2 ks2 hop ha hb hnm2 hn hv hnc2 hcm2 hr hk =>
      have HN2 := Lib.hid hn
      have HKI2 := Lib.hid (fun (wr : World) (hw : Below B w wr) (i : Nat) (hi : i < n2) => kid_in hn hv hr hk hw hi)
      unfold maxLen at hcm2 hnm2
      clear hr hk hn hv hop ha hb
      have HSF := Lib.hid (show sameF (.mk op a b name ks) (.mk op2 a2 b2 name2 ks2) = (decide (op = op2 ∧ a = a2 ∧ b = b2 ∧ name = name2) && sameL ks ks2) from by rw [sameF])
      generalize sameF (.mk op a b name ks) (.mk op2 a2 b2 name2 ks2) = res at HSF ⊢
      have HK1 := Lib.hid (show Kept W ((W.alloc (.cells #[.int .i64 op, .int .i64 a, .int .i64 b, .string name, .slice A n c] 24)).alloc (.cells #[.int .i64 op2, .int .i64 a2, .int .i64 b2, .string name2, .slice A2 n2 c2] 24)) [(W.heap.size + 1, 24, #[.int .i64 op2, .int .i64 a2, .int .i64 b2, .string name2, .slice A2 n2 c2]), (W.heap.size, 24, #[.int .i64 op, .int .i64 a, .int .i64 b, .string name, .slice A n c])] from (((Kept.start W).alloc_at 24 #[.int .i64 op, .int .i64 a, .int .i64 b, .string name, .slice A n c] (W.heap.size) (by simp)).alloc_at 24 #[.int .i64 op2, .int .i64 a2, .int .i64 b2, .string name2, .slice A2 n2 c2] (W.heap.size + 1) (by simp)))
      by_cases g : ¬ op = op2
      · have x0 : (op != op2) = true := by rw [bne_iff_ne]; exact g
        have HE := Lib.hid (show res = false from by rw [HSF.out, decide_eq_false (fun h => g h.1), Bool.false_and])
        clear HSF
        go_enter Try.func29, Try.ntmps29
        go_wp2
        go_ret
        exact ⟨ret_bool HE.out.symm, HK1.out.bel⟩
      replace g := Decidable.not_not.1 g
      have x0 : (op != op2) = false := by rw [bne_eq_false_iff_eq]; exact g
      have G0 := Lib.hid g
      clear g
      by_cases g : ¬ a = a2
      · have x1 : (a != a2) = true := by rw [bne_iff_ne]; exact g
        have HE := Lib.hid (show res = false from by rw [HSF.out, decide_eq_false (fun h => g h.2.1), Bool.false_and])
        clear HSF
        go_enter Try.func29, Try.ntmps29
        go_wp2
        go_ret
        exact ⟨ret_bool HE.out.symm, HK1.out.bel⟩
      replace g := Decidable.not_not.1 g
      have x1 : (a != a2) = false := by rw [bne_eq_false_iff_eq]; exact g
      have G1 := Lib.hid g
      clear g
      by_cases g : ¬ b = b2
      · have x2 : (b != b2) = true := by rw [bne_iff_ne]; exact g
        have HE := Lib.hid (show res = false from by rw [HSF.out, decide_eq_false (fun h => g h.2.2.1), Bool.false_and])
        clear HSF
        go_enter Try.func29, Try.ntmps29
        go_wp2
        go_ret
        exact ⟨ret_bool HE.out.symm, HK1.out.bel⟩
      replace g := Decidable.not_not.1 g
      have x2 : (b != b2) = false := by rw [bne_eq_false_iff_eq]; exact g
      have G2 := Lib.hid g
      clear g
      by_cases g : ¬ name = name2
      · have x3 : (name.toList == name2.toList) = false := by rw [beq_eq_false_iff_ne]; exact fun h => g (toList_eq h)
        have HE := Lib.hid (show res = false from by rw [HSF.out, decide_eq_false (fun h => g h.2.2.2), Bool.false_and])
        clear HSF
        go_enter Try.func29, Try.ntmps29
        go_wp2
        go_ret
        exact ⟨ret_bool HE.out.symm, HK1.out.bel⟩
      replace g := Decidable.not_not.1 g
      have x3 : (name.toList == name2.toList) = true := by rw [g]; simp
      have G3 := Lib.hid g
      clear g
      by_cases g : ¬ n = n2
      · have x4 : ((n : Int) != (n2 : Int)) = true := by rw [bne_iff_ne]; omega
        have HE := Lib.hid (show res = false from by rw [HSF.out, Bool.and_eq_false_iff]; right; cases hs : sameL ks ks2; rfl; rw [sameL_iff] at hs; subst hs; exact absurd (HN.out.symm.trans HN2.out) g)
        clear HSF
        go_enter Try.func29, Try.ntmps29
        go_wp2
        go_ret
        exact ⟨ret_bool HE.out.symm, HK1.out.bel⟩
      replace g := Decidable.not_not.1 g
      subst g
      have x4 : ((n : Int) != (n : Int)) = false := by simp
      have HS2 := Lib.hid (show res = sameL ks ks2 from by rw [HSF.out, decide_eq_true ⟨G0.out, G1.out, G2.out, G3.out⟩, Bool.true_and])
      clear HSF G0 G1 G2 G3
      go_enter Try.func29, Try.ntmps29
      go_wp2
      clear x0 x1 x2 x3 x4
      go_loopw [44] (fun i wr => ∃ (k : Nat), k ≤ n ∧ i = .int .i64 k ∧ Hid (∀ (j : Nat) t u, j < k → ks[j]? = some t → ks2[j]? = some u → sameF t u = true) ∧ Hid (Kept W wr [(W.heap.size + 1, 24, #[.int .i64 op2, .int .i64 a2, .int .i64 b2, .string name2, .slice A2 n c2]), (W.heap.size, 24, #[.int .i64 op, .int .i64 a, .int .i64 b, .string name, .slice A n c])])) (fun i _ => n - (intOf i).toNat)
      case atStart => exact ⟨0, Nat.zero_le _, rfl, Lib.hid (fun j t u hj => absurd hj (by omega)), HK1⟩
      case round =>
        clear HK1
        obtain ⟨k, hk, rfl, HS, HK⟩ := hrel
        have hz := HK.out.size
        by_cases hlt : k < n
        · obtain ⟨ad, op', a', b', name', A', n', c', t', v', rfl, hkt, hvt, hve, hft, d0, d1, d2, d3, d4⟩ := HKI.out W HB.out k hlt
          obtain ⟨ad2, op2', a2', b2', name2', A2', n2', c2', t2', v2', rfl, hkt2, hvt2, hve2, hft2, d20, d21, d22, d23, d24⟩ := HKI2.out W HB.out k hlt
          have HIK := Lib.hid (IH.out k v' t' hvt hkt v2' t2' hft2)
          subst hve hve2
          have HKT := Lib.hid hkt
          have HKT2 := Lib.hid hkt2
          clear hkt hvt hkt2 hvt2 hft hft2
          have i1 : (0 : Int) ≤ (k : Int) := by omega
          have i2 : (k : Int) < (n : Int) := by omega
          have bl : (ad.add (k * 5)).block < W.heap.size := World.block_lt_of_cell? W _ d0
          have bl2 : (ad2.add (k * 5)).block < W.heap.size := World.block_lt_of_cell? W _ d20
          go_wp2_with fail
          refine wp_region_noPanic ?_
          refine wp_region_held_drew (S := fun W' => Kept W W' [(W.heap.size + 1, 24, #[.int .i64 op2, .int .i64 a2, .int .i64 b2, .string name2, .slice (some ad2) n c2]), (W.heap.size, 24, #[.int .i64 op, .int .i64 a, .int .i64 b, .string name, .slice (some ad) n c])]) (by kernel_rfl) HK.out.drew (fun hHeld => ?_)
          refine takeH 0 (v := ?v0u1) rfl (by kernel_rfl) (by kernel_rfl) (by kernel_rfl) rfl (fun _ _ _ h => h) (Or.inl ⟨by rfl, ?y0u1⟩) hHeld ?r0u1
          case y0u1 => (intro W hSW; (try dsimp only at hSW); go_simp; try with_reducible rfl)
          simp only [Act.put, List.setIfInBounds_toArray, List.set_cons_zero, List.set_cons_succ]
          refine takeH 1 (v := ?v1u2) rfl (by kernel_rfl) (by kernel_rfl) (by kernel_rfl) rfl (fun _ _ _ h => h) (Or.inl ⟨by rfl, ?y1u2⟩) hHeld ?r1u2
          case y1u2 => (intro W hSW; (try dsimp only at hSW); have q0 := hSW.cell 1 rfl 4; simp only [List.getElem?_toArray, List.getElem?_cons_zero, List.getElem?_cons_succ] at q0; go_simp; try with_reducible rfl)
          simp only [Act.put, List.setIfInBounds_toArray, List.set_cons_zero, List.set_cons_succ]
          refine takeH 2 (v := ?v2u3) rfl (by kernel_rfl) (by kernel_rfl) (by kernel_rfl) rfl (fun _ _ _ h => h) (Or.inl ⟨by rfl, ?y2u3⟩) hHeld ?r2u3
          case y2u3 => (intro W hSW; (try dsimp only at hSW); go_simp; try with_reducible rfl)
          simp only [Act.put, List.setIfInBounds_toArray, List.set_cons_zero, List.set_cons_succ]
          refine takeH 3 (v := ?v3u4) rfl (by kernel_rfl) (by kernel_rfl) (by kernel_rfl) rfl (fun _ _ _ h => h) (Or.inl ⟨by rfl, ?y3u4⟩) hHeld ?r3u4
          case y3u4 => (intro W hSW; (try dsimp only at hSW); go_simp; try with_reducible rfl)
          simp only [Act.put, List.setIfInBounds_toArray, List.set_cons_zero, List.set_cons_succ]
          refine takeH 4 (v := ?v4u5) rfl (by kernel_rfl) (by kernel_rfl) (by kernel_rfl) rfl (fun _ _ _ h => h) (Or.inl ⟨by rfl, ?y4u5⟩) hHeld ?r4u5
          case y4u5 => (intro W hSW; (try dsimp only at hSW); have q0 := (hSW.bel.cell (p := (ad.add (k * 5))) bl).trans d0; have q1 := (hSW.bel.cell (p := ⟨(ad.add (k * 5)).block, (ad.add (k * 5)).off + 1, none⟩) bl).trans d1; have q2 := (hSW.bel.cell (p := ⟨(ad.add (k * 5)).block, (ad.add (k * 5)).off + 2, none⟩) bl).trans d2; have q3 := (hSW.bel.cell (p := ⟨(ad.add (k * 5)).block, (ad.add (k * 5)).off + 3, none⟩) bl).trans d3; have q4 := (hSW.bel.cell (p := ⟨(ad.add (k * 5)).block, (ad.add (k * 5)).off + 4, none⟩) bl).trans d4; go_simp; try with_reducible rfl)
          simp only [Act.put, List.setIfInBounds_toArray, List.set_cons_zero, List.set_cons_succ]
          refine takeH 5 (v := ?v5u6) rfl (by kernel_rfl) (by kernel_rfl) (by kernel_rfl) rfl (fun _ _ _ h => h) (Or.inl ⟨by rfl, ?y5u6⟩) hHeld ?r5u6
          case y5u6 => (intro W hSW; (try dsimp only at hSW); go_simp; try with_reducible rfl)
          simp only [Act.put, List.setIfInBounds_toArray, List.set_cons_zero, List.set_cons_succ]
          refine takeH 6 (v := ?v6u7) rfl (by kernel_rfl) (by kernel_rfl) (by kernel_rfl) rfl (fun _ _ _ h => h) (Or.inl ⟨by rfl, ?y6u7⟩) hHeld ?r6u7
          case y6u7 => (intro W hSW; (try dsimp only at hSW); have q0 := hSW.cell 0 rfl 4; simp only [List.getElem?_toArray, List.getElem?_cons_zero, List.getElem?_cons_succ] at q0; go_simp; try with_reducible rfl)
          simp only [Act.put, List.setIfInBounds_toArray, List.set_cons_zero, List.set_cons_succ]
          refine takeH 7 (v := ?v7u8) rfl (by kernel_rfl) (by kernel_rfl) (by kernel_rfl) rfl (fun _ _ _ h => h) (Or.inl ⟨by rfl, ?y7u8⟩) hHeld ?r7u8
          case y7u8 => (intro W hSW; (try dsimp only at hSW); go_simp; try with_reducible rfl)
          simp only [Act.put, List.setIfInBounds_toArray, List.set_cons_zero, List.set_cons_succ]
          refine takeH 8 (v := ?v8u9) rfl (by kernel_rfl) (by kernel_rfl) (by kernel_rfl) rfl (fun _ _ _ h => h) (Or.inl ⟨by rfl, ?y8u9⟩) hHeld ?r8u9
          case y8u9 => (intro W hSW; (try dsimp only at hSW); go_simp; try with_reducible rfl)
          simp only [Act.put, List.setIfInBounds_toArray, List.set_cons_zero, List.set_cons_succ]
          refine takeH 9 (v := ?v9u10) rfl (by kernel_rfl) (by kernel_rfl) (by kernel_rfl) rfl (fun _ _ _ h => h) (Or.inl ⟨by rfl, ?y9u10⟩) hHeld ?r9u10
          case y9u10 => (intro W hSW; (try dsimp only at hSW); have q0 := (hSW.bel.cell (p := (ad2.add (k * 5))) bl2).trans d20; have q1 := (hSW.bel.cell (p := ⟨(ad2.add (k * 5)).block, (ad2.add (k * 5)).off + 1, none⟩) bl2).trans d21; have q2 := (hSW.bel.cell (p := ⟨(ad2.add (k * 5)).block, (ad2.add (k * 5)).off + 2, none⟩) bl2).trans d22; have q3 := (hSW.bel.cell (p := ⟨(ad2.add (k * 5)).block, (ad2.add (k * 5)).off + 3, none⟩) bl2).trans d23; have q4 := (hSW.bel.cell (p := ⟨(ad2.add (k * 5)).block, (ad2.add (k * 5)).off + 4, none⟩) bl2).trans d24; go_simp; try with_reducible rfl)
          simp only [Act.put, List.setIfInBounds_toArray, List.set_cons_zero, List.set_cons_succ]
          refine wpAnyH_ready (rs := [10]) (by kernel_rfl) (by simp) ?_
          refine AllReadyH.cons rfl (fun K hK => ?_) AllReadyH.nil
          go_simp
          with_reducible refine (HIK.out _ (HB.out.trans (hHeld.bel.mono hBW)) (Nat.le_trans hBW hHeld.size)).mono ?_
          rintro e wn ⟨rfl, hbn⟩
          have hkn := hHeld.next hbn
          clear hbn
          refine hK.out _ _ hkn (fun hHeld => ?_)
          clear hK K
          try simp only [Act.put, List.setIfInBounds_toArray, List.set_cons_zero, List.set_cons_succ]
          cases hs : sameF t' t2'
          · refine takeH 11 (v := ?v11u11) rfl (by kernel_rfl) (by kernel_rfl) (by kernel_rfl) rfl (fun _ _ _ h => h) (Or.inl ⟨by rfl, ?y11u11⟩) hHeld ?r11u11
            case y11u11 => (intro W hSW; (try dsimp only at hSW); go_simp; try with_reducible rfl)
            simp only [Act.put, List.setIfInBounds_toArray, List.set_cons_zero, List.set_cons_succ]
            refine wpAnyH_done (by kernel_rfl) ?_ _
            refine NoPanic.normal ?_
            have HE := Lib.hid (show res = false from by rw [HS2.out]; exact sameL_at ks ks2 k t' t2' HKT.out HKT2.out hs)
            clear hs
            go_wp2
            go_ret
            exact ⟨ret_bool HE.out.symm, hHeld.bel⟩
          · refine takeH 11 (v := ?v11u12) rfl (by kernel_rfl) (by kernel_rfl) (by kernel_rfl) rfl (fun _ _ _ h => h) (Or.inl ⟨by rfl, ?y11u12⟩) hHeld ?r11u12
            case y11u12 => (intro W hSW; (try dsimp only at hSW); go_simp; try with_reducible rfl)
            simp only [Act.put, List.setIfInBounds_toArray, List.set_cons_zero, List.set_cons_succ]
            refine wpAnyH_done (by kernel_rfl) ?_ _
            refine NoPanic.normal ?_
            have HS3 := Lib.hid (show ∀ (j : Nat) t u, j < k + 1 → ks[j]? = some t → ks2[j]? = some u → sameF t u = true from fun j t u hj ht hu => by
              by_cases hjk : j < k
              · exact HS.out j t u hjk ht hu
              · obtain rfl : j = k := by omega
                rw [HKT.out] at ht; injection ht with ht; subst ht; rw [HKT2.out] at hu; injection hu with hu; subst hu; exact hs)
            clear hs
            have HKn := Lib.hid hHeld
            clear hHeld
            go_wp2
            exact ⟨⟨k + 1, by omega, rfl, HS3, HKn⟩, by simp [intOf]; omega⟩
        · obtain rfl : n = k := by omega
          have HE := Lib.hid (show res = true from by rw [HS2.out]; exact sameL_all ks ks2 (HN.out.trans HN2.out.symm) (fun j t u ht hu => HS.out j t u (by have := (List.getElem?_eq_some_iff.1 ht).1; rw [HN.out] at this; exact this) ht hu))
          go_wp2
          go_ret
          exact ⟨ret_bool HE.out.symm, HK.out.bel⟩

set_option maxHeartbeats 4000000 in
theorem rEqual_c {w : World} {B : Nat} {cs : List Value} {t : FT} (h : FTr w B cs t) : ∀ (cs2 : List Value) (u : FT), FTr w B cs2 u → ∀ W, Below B w W → B ≤ W.heap.size → Calls Try.prog 19 #[.agg cs.toArray, .agg cs2.toArray] W fun e w' => e = .returned (.bool (sameF t u)) ∧ Below W.heap.size W w' := by
  induction h with
  | mk op a b name A n c vs ks hop ha hb hnm hn hv hnc hcm hr hk ih =>
    intro cs2 u h2 W hB hBW
    have HN := Lib.hid hn
    have HKI := Lib.hid (fun (wr : World) (hw : Below B w wr) (i : Nat) (hi : i < n) => kid_in hn hv hr hk hw hi)
    have IH := Lib.hid ih
    have HB := Lib.hid hB
    unfold maxLen at hcm hnm
    clear hr hk ih hB hn hv hop ha hb
    cases h2 with
    | mk op2 a2 b2 name2 A2 n2 c2 vs2 ks2 hop ha hb hnm2 hn hv hnc2 hcm2 hr hk =>
      have HN2 := Lib.hid hn
      have HKI2 := Lib.hid (fun (wr : World) (hw : Below B w wr) (i : Nat) (hi : i < n2) => kid_in hn hv hr hk hw hi)
      unfold maxLen at hcm2 hnm2
      clear hr hk hn hv hop ha hb
      have HSF := Lib.hid (show sameF (.mk op a b name ks) (.mk op2 a2 b2 name2 ks2) = (decide (op = op2 ∧ a = a2 ∧ b = b2 ∧ name = name2) && sameL ks ks2) from by rw [sameF])
      generalize sameF (.mk op a b name ks) (.mk op2 a2 b2 name2 ks2) = res at HSF ⊢
      have HK1 := Lib.hid (show Kept W ((W.alloc (.cells #[.int .i64 op, .int .i64 a, .int .i64 b, .string name, .slice A n c] 24)).alloc (.cells #[.int .i64 op2, .int .i64 a2, .int .i64 b2, .string name2, .slice A2 n2 c2] 24)) [(W.heap.size + 1, 24, #[.int .i64 op2, .int .i64 a2, .int .i64 b2, .string name2, .slice A2 n2 c2]), (W.heap.size, 24, #[.int .i64 op, .int .i64 a, .int .i64 b, .string name, .slice A n c])] from (((Kept.start W).alloc_at 24 #[.int .i64 op, .int .i64 a, .int .i64 b, .string name, .slice A n c] (W.heap.size) (by simp)).alloc_at 24 #[.int .i64 op2, .int .i64 a2, .int .i64 b2, .string name2, .slice A2 n2 c2] (W.heap.size + 1) (by simp)))
      by_cases g : ¬ op = op2
      · have x0 : (op != op2) = true := by rw [bne_iff_ne]; exact g
        have HE := Lib.hid (show res = false from by rw [HSF.out, decide_eq_false (fun h => g h.1), Bool.false_and])
        clear HSF
        go_enter Try.func19, Try.ntmps19
        go_wp2
        go_ret
        exact ⟨ret_bool HE.out.symm, HK1.out.bel⟩
      replace g := Decidable.not_not.1 g
      have x0 : (op != op2) = false := by rw [bne_eq_false_iff_eq]; exact g
      have G0 := Lib.hid g
      clear g
      by_cases g : ¬ a = a2
      · have x1 : (a != a2) = true := by rw [bne_iff_ne]; exact g
        have HE := Lib.hid (show res = false from by rw [HSF.out, decide_eq_false (fun h => g h.2.1), Bool.false_and])
        clear HSF
        go_enter Try.func19, Try.ntmps19
        go_wp2
        go_ret
        exact ⟨ret_bool HE.out.symm, HK1.out.bel⟩
      replace g := Decidable.not_not.1 g
      have x1 : (a != a2) = false := by rw [bne_eq_false_iff_eq]; exact g
      have G1 := Lib.hid g
      clear g
      by_cases g : ¬ b = b2
      · have x2 : (b != b2) = true := by rw [bne_iff_ne]; exact g
        have HE := Lib.hid (show res = false from by rw [HSF.out, decide_eq_false (fun h => g h.2.2.1), Bool.false_and])
        clear HSF
        go_enter Try.func19, Try.ntmps19
        go_wp2
        go_ret
        exact ⟨ret_bool HE.out.symm, HK1.out.bel⟩
      replace g := Decidable.not_not.1 g
      have x2 : (b != b2) = false := by rw [bne_eq_false_iff_eq]; exact g
      have G2 := Lib.hid g
      clear g
      by_cases g : ¬ name = name2
      · have x3 : (name.toList == name2.toList) = false := by rw [beq_eq_false_iff_ne]; exact fun h => g (toList_eq h)
        have HE := Lib.hid (show res = false from by rw [HSF.out, decide_eq_false (fun h => g h.2.2.2), Bool.false_and])
        clear HSF
        go_enter Try.func19, Try.ntmps19
        go_wp2
        go_ret
        exact ⟨ret_bool HE.out.symm, HK1.out.bel⟩
      replace g := Decidable.not_not.1 g
      have x3 : (name.toList == name2.toList) = true := by rw [g]; simp
      have G3 := Lib.hid g
      clear g
      by_cases g : ¬ n = n2
      · have x4 : ((n : Int) != (n2 : Int)) = true := by rw [bne_iff_ne]; omega
        have HE := Lib.hid (show res = false from by rw [HSF.out, Bool.and_eq_false_iff]; right; cases hs : sameL ks ks2; rfl; rw [sameL_iff] at hs; subst hs; exact absurd (HN.out.symm.trans HN2.out) g)
        clear HSF
        go_enter Try.func19, Try.ntmps19
        go_wp2
        go_ret
        exact ⟨ret_bool HE.out.symm, HK1.out.bel⟩
      replace g := Decidable.not_not.1 g
      subst g
      have x4 : ((n : Int) != (n : Int)) = false := by simp
      have HS2 := Lib.hid (show res = sameL ks ks2 from by rw [HSF.out, decide_eq_true ⟨G0.out, G1.out, G2.out, G3.out⟩, Bool.true_and])
      clear HSF G0 G1 G2 G3
      go_enter Try.func19, Try.ntmps19
      go_wp2
      clear x0 x1 x2 x3 x4
      go_loopw [5] (fun i wr => ∃ (k : Nat), k ≤ n ∧ i = .int .i64 k ∧ Hid (∀ (j : Nat) t u, j < k → ks[j]? = some t → ks2[j]? = some u → sameF t u = true) ∧ Hid (Kept W wr [(W.heap.size + 1, 24, #[.int .i64 op2, .int .i64 a2, .int .i64 b2, .string name2, .slice A2 n c2]), (W.heap.size, 24, #[.int .i64 op, .int .i64 a, .int .i64 b, .string name, .slice A n c])])) (fun i _ => n - (intOf i).toNat)
      case atStart => exact ⟨0, Nat.zero_le _, rfl, Lib.hid (fun j t u hj => absurd hj (by omega)), HK1⟩
      case round =>
        clear HK1
        obtain ⟨k, hk, rfl, HS, HK⟩ := hrel
        have hz := HK.out.size
        by_cases hlt : k < n
        · obtain ⟨ad, op', a', b', name', A', n', c', t', v', rfl, hkt, hvt, hve, hft, d0, d1, d2, d3, d4⟩ := HKI.out W HB.out k hlt
          obtain ⟨ad2, op2', a2', b2', name2', A2', n2', c2', t2', v2', rfl, hkt2, hvt2, hve2, hft2, d20, d21, d22, d23, d24⟩ := HKI2.out W HB.out k hlt
          have HIK := Lib.hid (IH.out k v' t' hvt hkt v2' t2' hft2)
          subst hve hve2
          have HKT := Lib.hid hkt
          have HKT2 := Lib.hid hkt2
          clear hkt hvt hkt2 hvt2 hft hft2
          have i1 : (0 : Int) ≤ (k : Int) := by omega
          have i2 : (k : Int) < (n : Int) := by omega
          have bl : (ad.add (k * 5)).block < W.heap.size := World.block_lt_of_cell? W _ d0
          have bl2 : (ad2.add (k * 5)).block < W.heap.size := World.block_lt_of_cell? W _ d20
          have c_f_0 : wr.cell? ⟨W.heap.size, 0, none⟩ = some (.int .i64 op) := HK.out.cell 1 rfl 0
          have c_f_1 : wr.cell? ⟨W.heap.size, 1, none⟩ = some (.int .i64 a) := HK.out.cell 1 rfl 1
          have c_f_2 : wr.cell? ⟨W.heap.size, 2, none⟩ = some (.int .i64 b) := HK.out.cell 1 rfl 2
          have c_f_3 : wr.cell? ⟨W.heap.size, 3, none⟩ = some (.string name) := HK.out.cell 1 rfl 3
          have c_f_4 : wr.cell? ⟨W.heap.size, 4, none⟩ = some (.slice (some ad) n c) := HK.out.cell 1 rfl 4
          have c_g_0 : wr.cell? ⟨W.heap.size + 1, 0, none⟩ = some (.int .i64 op2) := HK.out.cell 0 rfl 0
          have c_g_1 : wr.cell? ⟨W.heap.size + 1, 1, none⟩ = some (.int .i64 a2) := HK.out.cell 0 rfl 1
          have c_g_2 : wr.cell? ⟨W.heap.size + 1, 2, none⟩ = some (.int .i64 b2) := HK.out.cell 0 rfl 2
          have c_g_3 : wr.cell? ⟨W.heap.size + 1, 3, none⟩ = some (.string name2) := HK.out.cell 0 rfl 3
          have c_g_4 : wr.cell? ⟨W.heap.size + 1, 4, none⟩ = some (.slice (some ad2) n c2) := HK.out.cell 0 rfl 4
          go_wp2_with fail
          clear c_f_0 c_f_1 c_f_2 c_f_3 c_f_4 c_g_0 c_g_1 c_g_2 c_g_3 c_g_4
          refine wp_region_noPanic ?_
          refine wp_region_held_drew (S := fun W' => Kept W W' [(W.heap.size + 1, 24, #[.int .i64 op2, .int .i64 a2, .int .i64 b2, .string name2, .slice (some ad2) n c2]), (W.heap.size, 24, #[.int .i64 op, .int .i64 a, .int .i64 b, .string name, .slice (some ad) n c])]) (by kernel_rfl) HK.out.drew (fun hHeld => ?_)
          refine takeH 0 (v := ?v0u13) rfl (by kernel_rfl) (by kernel_rfl) (by kernel_rfl) rfl (fun _ _ _ h => h) (Or.inl ⟨by rfl, ?y0u13⟩) hHeld ?r0u13
          case y0u13 => (intro W hSW; (try dsimp only at hSW); go_simp; try with_reducible rfl)
          simp only [Act.put, List.setIfInBounds_toArray, List.set_cons_zero, List.set_cons_succ]
          refine takeH 1 (v := ?v1u14) rfl (by kernel_rfl) (by kernel_rfl) (by kernel_rfl) rfl (fun _ _ _ h => h) (Or.inl ⟨by rfl, ?y1u14⟩) hHeld ?r1u14
          case y1u14 => (intro W hSW; (try dsimp only at hSW); have q0 := hSW.cell 1 rfl 4; simp only [List.getElem?_toArray, List.getElem?_cons_zero, List.getElem?_cons_succ] at q0; go_simp; try with_reducible rfl)
          simp only [Act.put, List.setIfInBounds_toArray, List.set_cons_zero, List.set_cons_succ]
          refine takeH 2 (v := ?v2u15) rfl (by kernel_rfl) (by kernel_rfl) (by kernel_rfl) rfl (fun _ _ _ h => h) (Or.inl ⟨by rfl, ?y2u15⟩) hHeld ?r2u15
          case y2u15 => (intro W hSW; (try dsimp only at hSW); go_simp; try with_reducible rfl)
          simp only [Act.put, List.setIfInBounds_toArray, List.set_cons_zero, List.set_cons_succ]
          refine takeH 3 (v := ?v3u16) rfl (by kernel_rfl) (by kernel_rfl) (by kernel_rfl) rfl (fun _ _ _ h => h) (Or.inl ⟨by rfl, ?y3u16⟩) hHeld ?r3u16
          case y3u16 => (intro W hSW; (try dsimp only at hSW); go_simp; try with_reducible rfl)
          simp only [Act.put, List.setIfInBounds_toArray, List.set_cons_zero, List.set_cons_succ]
          refine takeH 4 (v := ?v4u17) rfl (by kernel_rfl) (by kernel_rfl) (by kernel_rfl) rfl (fun _ _ _ h => h) (Or.inl ⟨by rfl, ?y4u17⟩) hHeld ?r4u17
          case y4u17 => (intro W hSW; (try dsimp only at hSW); have q0 := (hSW.bel.cell (p := (ad.add (k * 5))) bl).trans d0; have q1 := (hSW.bel.cell (p := ⟨(ad.add (k * 5)).block, (ad.add (k * 5)).off + 1, none⟩) bl).trans d1; have q2 := (hSW.bel.cell (p := ⟨(ad.add (k * 5)).block, (ad.add (k * 5)).off + 2, none⟩) bl).trans d2; have q3 := (hSW.bel.cell (p := ⟨(ad.add (k * 5)).block, (ad.add (k * 5)).off + 3, none⟩) bl).trans d3; have q4 := (hSW.bel.cell (p := ⟨(ad.add (k * 5)).block, (ad.add (k * 5)).off + 4, none⟩) bl).trans d4; go_simp; try with_reducible rfl)
          simp only [Act.put, List.setIfInBounds_toArray, List.set_cons_zero, List.set_cons_succ]
          refine takeH 5 (v := ?v5u18) rfl (by kernel_rfl) (by kernel_rfl) (by kernel_rfl) rfl (fun _ _ _ h => h) (Or.inl ⟨by rfl, ?y5u18⟩) hHeld ?r5u18
          case y5u18 => (intro W hSW; (try dsimp only at hSW); go_simp; try with_reducible rfl)
          simp only [Act.put, List.setIfInBounds_toArray, List.set_cons_zero, List.set_cons_succ]
          refine takeH 6 (v := ?v6u19) rfl (by kernel_rfl) (by kernel_rfl) (by kernel_rfl) rfl (fun _ _ _ h => h) (Or.inl ⟨by rfl, ?y6u19⟩) hHeld ?r6u19
          case y6u19 => (intro W hSW; (try dsimp only at hSW); have q0 := hSW.cell 0 rfl 4; simp only [List.getElem?_toArray, List.getElem?_cons_zero, List.getElem?_cons_succ] at q0; go_simp; try with_reducible rfl)
          simp only [Act.put, List.setIfInBounds_toArray, List.set_cons_zero, List.set_cons_succ]
          refine takeH 7 (v := ?v7u20) rfl (by kernel_rfl) (by kernel_rfl) (by kernel_rfl) rfl (fun _ _ _ h => h) (Or.inl ⟨by rfl, ?y7u20⟩) hHeld ?r7u20
          case y7u20 => (intro W hSW; (try dsimp only at hSW); go_simp; try with_reducible rfl)
          simp only [Act.put, List.setIfInBounds_toArray, List.set_cons_zero, List.set_cons_succ]
          refine takeH 8 (v := ?v8u21) rfl (by kernel_rfl) (by kernel_rfl) (by kernel_rfl) rfl (fun _ _ _ h => h) (Or.inl ⟨by rfl, ?y8u21⟩) hHeld ?r8u21
          case y8u21 => (intro W hSW; (try dsimp only at hSW); go_simp; try with_reducible rfl)
          simp only [Act.put, List.setIfInBounds_toArray, List.set_cons_zero, List.set_cons_succ]
          refine takeH 9 (v := ?v9u22) rfl (by kernel_rfl) (by kernel_rfl) (by kernel_rfl) rfl (fun _ _ _ h => h) (Or.inl ⟨by rfl, ?y9u22⟩) hHeld ?r9u22
          case y9u22 => (intro W hSW; (try dsimp only at hSW); have q0 := (hSW.bel.cell (p := (ad2.add (k * 5))) bl2).trans d20; have q1 := (hSW.bel.cell (p := ⟨(ad2.add (k * 5)).block, (ad2.add (k * 5)).off + 1, none⟩) bl2).trans d21; have q2 := (hSW.bel.cell (p := ⟨(ad2.add (k * 5)).block, (ad2.add (k * 5)).off + 2, none⟩) bl2).trans d22; have q3 := (hSW.bel.cell (p := ⟨(ad2.add (k * 5)).block, (ad2.add (k * 5)).off + 3, none⟩) bl2).trans d23; have q4 := (hSW.bel.cell (p := ⟨(ad2.add (k * 5)).block, (ad2.add (k * 5)).off + 4, none⟩) bl2).trans d24; go_simp; try with_reducible rfl)
          simp only [Act.put, List.setIfInBounds_toArray, List.set_cons_zero, List.set_cons_succ]
          refine wpAnyH_ready (rs := [10]) (by kernel_rfl) (by simp) ?_
          refine AllReadyH.cons rfl (fun K hK => ?_) AllReadyH.nil
          go_simp
          with_reducible refine (HIK.out _ (HB.out.trans (hHeld.bel.mono hBW)) (Nat.le_trans hBW hHeld.size)).mono ?_
          rintro e wn ⟨rfl, hbn⟩
          have hkn := hHeld.next hbn
          clear hbn
          refine hK.out _ _ hkn (fun hHeld => ?_)
          clear hK K
          try simp only [Act.put, List.setIfInBounds_toArray, List.set_cons_zero, List.set_cons_succ]
          cases hs : sameF t' t2'
          · refine takeH 11 (v := ?v11u23) rfl (by kernel_rfl) (by kernel_rfl) (by kernel_rfl) rfl (fun _ _ _ h => h) (Or.inl ⟨by rfl, ?y11u23⟩) hHeld ?r11u23
            case y11u23 => (intro W hSW; (try dsimp only at hSW); go_simp; try with_reducible rfl)
            simp only [Act.put, List.setIfInBounds_toArray, List.set_cons_zero, List.set_cons_succ]
            refine wpAnyH_done (by kernel_rfl) ?_ _
            refine NoPanic.normal ?_
            have HE := Lib.hid (show res = false from by rw [HS2.out]; exact sameL_at ks ks2 k t' t2' HKT.out HKT2.out hs)
            clear hs
            go_wp2
            go_ret
            exact ⟨ret_bool HE.out.symm, hHeld.bel⟩
          · refine takeH 11 (v := ?v11u24) rfl (by kernel_rfl) (by kernel_rfl) (by kernel_rfl) rfl (fun _ _ _ h => h) (Or.inl ⟨by rfl, ?y11u24⟩) hHeld ?r11u24
            case y11u24 => (intro W hSW; (try dsimp only at hSW); go_simp; try with_reducible rfl)
            simp only [Act.put, List.setIfInBounds_toArray, List.set_cons_zero, List.set_cons_succ]
            refine wpAnyH_done (by kernel_rfl) ?_ _
            refine NoPanic.normal ?_
            have HS3 := Lib.hid (show ∀ (j : Nat) t u, j < k + 1 → ks[j]? = some t → ks2[j]? = some u → sameF t u = true from fun j t u hj ht hu => by
              by_cases hjk : j < k
              · exact HS.out j t u hjk ht hu
              · obtain rfl : j = k := by omega
                rw [HKT.out] at ht; injection ht with ht; subst ht; rw [HKT2.out] at hu; injection hu with hu; subst hu; exact hs)
            clear hs
            have HKn := Lib.hid hHeld
            clear hHeld
            go_wp2
            exact ⟨⟨k + 1, by omega, rfl, HS3, HKn⟩, by simp [intOf]; omega⟩
        · obtain rfl : n = k := by omega
          have c_f_0 : wr.cell? ⟨W.heap.size, 0, none⟩ = some (.int .i64 op) := HK.out.cell 1 rfl 0
          have c_f_1 : wr.cell? ⟨W.heap.size, 1, none⟩ = some (.int .i64 a) := HK.out.cell 1 rfl 1
          have c_f_2 : wr.cell? ⟨W.heap.size, 2, none⟩ = some (.int .i64 b) := HK.out.cell 1 rfl 2
          have c_f_3 : wr.cell? ⟨W.heap.size, 3, none⟩ = some (.string name) := HK.out.cell 1 rfl 3
          have c_f_4 : wr.cell? ⟨W.heap.size, 4, none⟩ = some (.slice A n c) := HK.out.cell 1 rfl 4
          have c_g_0 : wr.cell? ⟨W.heap.size + 1, 0, none⟩ = some (.int .i64 op2) := HK.out.cell 0 rfl 0
          have c_g_1 : wr.cell? ⟨W.heap.size + 1, 1, none⟩ = some (.int .i64 a2) := HK.out.cell 0 rfl 1
          have c_g_2 : wr.cell? ⟨W.heap.size + 1, 2, none⟩ = some (.int .i64 b2) := HK.out.cell 0 rfl 2
          have c_g_3 : wr.cell? ⟨W.heap.size + 1, 3, none⟩ = some (.string name2) := HK.out.cell 0 rfl 3
          have c_g_4 : wr.cell? ⟨W.heap.size + 1, 4, none⟩ = some (.slice A2 n c2) := HK.out.cell 0 rfl 4
          have HE := Lib.hid (show res = true from by rw [HS2.out]; exact sameL_all ks ks2 (HN.out.trans HN2.out.symm) (fun j t u ht hu => HS.out j t u (by have := (List.getElem?_eq_some_iff.1 ht).1; rw [HN.out] at this; exact this) ht hu))
          go_wp2
          go_ret
          exact ⟨ret_bool HE.out.symm, HK.out.bel⟩
end Go.Proofs.Ytjkaklfhcefkcaa
