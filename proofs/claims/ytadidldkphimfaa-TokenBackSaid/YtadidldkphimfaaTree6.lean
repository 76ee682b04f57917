/- Contracts over filters' trees: the reference's every, Right, Short. -/
import Derived.Test.YtadidldkphimfaaTree5
namespace Go.Proofs.Ytadidldkphimfaa
set_option linter.unusedVariables false
open Go.RowKit Go.ChangeShapes

mutual
def everyF : FT → Bool
  | .mk op a b name ks => oneF op a b name.size ks.length && everyL ks
def everyL : List FT → Bool
  | [] => true
  | t :: ts => everyF t && everyL ts
end
theorem everyL_snoc (l : List FT) (t : FT) : everyL (l ++ [t]) = (everyL l && everyF t) := by
  induction l with
  | nil => simp [everyL]
  | cons x l ih => simp only [List.cons_append, everyL, ih, Bool.and_assoc]
theorem everyL_false (l : List FT) (k : Nat) (t : FT) (h : l[k]? = some t) (hf : everyF t = false) : everyL l = false := by
  induction l generalizing k with
  | nil => simp at h
  | cons x l ih =>
    cases k with
    | zero => simp at h; subst h; simp [everyL, hf]
    | succ k => simp only [everyL, ih k (by simpa using h), Bool.and_false]

set_option maxHeartbeats 1000000 in
theorem every_c {w : World} {B : Nat} {cs : List Value} {t : FT} (h : FTr w B cs t) : ∀ W, Below B w W → B ≤ W.heap.size → Calls Try.prog 14 #[.agg cs.toArray] W fun e w' => e = .returned (.bool (everyF t)) ∧ Below W.heap.size W w' := by
  induction h with
  | mk op a b name A n c vs ks hop ha hb hnm hn hv hnc hcm hr hk ih =>
    intro W hB hBW
    have HN := Lib.hid hn
    have HKI := Lib.hid (fun (wr : World) (hw : Below B w wr) (i : Nat) (hi : i < n) => kid_in hn hv hr hk hw hi)
    have IH := Lib.hid ih
    have HB := Lib.hid hB
    have o1 := bounds_i64 hop
    have a1 := bounds_i64 ha
    have b1 := bounds_i64 hb
    unfold maxLen at hcm hnm
    clear hr hk ih hB hn hv hop ha hb
    obtain ⟨o1, o2⟩ := o1
    obtain ⟨a1, a2⟩ := a1
    obtain ⟨b1, b2⟩ := b1
    have HC := Lib.hid (Blk.new W 24 #[.int .i64 op, .int .i64 a, .int .i64 b, .string name, .slice A n c])
    have HW := Lib.hid ((Below.refl W.heap.size W).alloc (Nat.le_refl _) (.cells #[.int .i64 op, .int .i64 a, .int .i64 b, .string name, .slice A n c] 24))
    have hzz : W.heap.size < (W.alloc (.cells #[.int .i64 op, .int .i64 a, .int .i64 b, .string name, .slice A n c] 24)).heap.size := by simp
    have HEV := Lib.hid (show everyF (.mk op a b name ks) = (oneF op a b name.size n && everyL ks) from by unfold everyF; rw [HN.out])
    go_enter Try.func14, Try.ntmps14
    go_wp2_with fail
    with_reducible refine (one_c op a b name A n c _).mono ?_
    rintro e w1 ⟨rfl, hb1⟩
    have HC1 := Lib.hid (HC.out.below hb1 HC.out.lt)
    have HW1 := Lib.hid (HW.out.trans (hb1.mono (by omega)))
    clear hb1 HC HW
    cases ho : oneF op a b name.size n
    · have HE := Lib.hid (show everyF (.mk op a b name ks) = false from by rw [HEV.out, ho]; rfl)
      clear ho
      go_wp2
      go_ret
      exact ⟨ret_bool HE.out.symm, HW1.out⟩
    · have HEV2 := Lib.hid (show everyF (.mk op a b name ks) = everyL ks from by rw [HEV.out, ho]; rfl)
      clear ho
      have HCa := HC1
      have HWa := HW1
      go_wp2
      go_loopw [3] (fun i wr => ∃ k : Nat, k ≤ n ∧ i = .int .i64 k ∧ Hid (everyL (ks.take k) = true) ∧ Hid (Blk wr W.heap.size 24 #[.int .i64 op, .int .i64 a, .int .i64 b, .string name, .slice A n c]) ∧ Hid (Below W.heap.size W wr)) (fun i _ => n - (intOf i).toNat)
      case atStart => exact ⟨0, Nat.zero_le _, rfl, Lib.hid rfl, HCa, HWa⟩
      case round =>
        clear HC1 HW1 HCa HWa
        obtain ⟨k, hk, rfl, HS, HC1, HW1⟩ := hrel
        have r4 : wr.cell? ⟨W.heap.size, 4, none⟩ = some (.slice A n c) := HC1.out.cell 4
        have hz := HW1.out.size
        by_cases hlt : k < n
        · obtain ⟨ad, op', a', b', name', A', n', c', t', v', rfl, hkt, hvt, hve, hft, d0, d1, d2, d3, d4⟩ := HKI.out wr (HB.out.trans (HW1.out.mono hBW)) k hlt
          have ihk := IH.out k v' t' hvt hkt
          subst hve
          have HIK := Lib.hid ihk
          have HKT := Lib.hid hkt
          have i1 : (0 : Int) ≤ (k : Int) := by omega
          have i2 : (k : Int) < (n : Int) := by omega
          clear hkt hvt ihk
          have HT := Lib.hid (take_snoc_of ks k t' HKT.out)
          go_wp2_with fail
          with_reducible refine (HIK.out _ (HB.out.trans (HW1.out.mono hBW)) (by omega)).mono ?_
          rintro e w2 ⟨rfl, hb2⟩
          have HW2 := Lib.hid (HW1.out.trans (hb2.mono hz))
          have HC2 := Lib.hid (HC1.out.below hb2 HC1.out.lt)
          clear hb2 r4 d0 d1 d2 d3 d4
          cases ht : everyF t'
          · have HE := Lib.hid (show everyF (.mk op a b name ks) = false from by rw [HEV2.out]; exact everyL_false ks k t' HKT.out ht)
            clear ht
            go_wp2
            go_ret
            exact ⟨ret_bool HE.out.symm, HW2.out⟩
          · have HS2 := Lib.hid (show everyL (ks.take (k + 1)) = true from by rw [HT.out, everyL_snoc, HS.out, ht]; rfl)
            clear ht
            go_wp2
            go_roundw
            case rel => exact ⟨k + 1, by omega, by go_num, HS2, HC2, HW2⟩
            case measure => simp [intOf]; omega
        · obtain rfl : n = k := by omega
          have HE := Lib.hid (show everyF (.mk op a b name ks) = true from by
            have h := HS.out
            rw [List.take_of_length_le (by rw [HN.out]; exact Nat.le_refl _)] at h
            rw [HEV2.out]; exact h)
          go_wp2
          go_ret
          exact ⟨ret_bool HE.out.symm, HW1.out⟩

def rightR (t : FT) : Bool := decide ((sizeF t 70).1 ≤ 64) && decide ((sizeF t 70).2 ≤ 16) && everyF t
set_option maxHeartbeats 1000000 in
theorem rRight_c {w : World} {B : Nat} {cs : List Value} {t : FT} (h : FTr w B cs t) (W : World) (hB : Below B w W) (hBW : B ≤ W.heap.size) : Calls Try.prog 7 #[.agg cs.toArray] W fun e w' => e = .returned (.bool (rightR t)) ∧ Below W.heap.size W w' := by
  have HT := Lib.hid h
  have HB := Lib.hid hB
  have hs := sizeF_bound t 70
  have hbb := bnd_le 70 (by omega)
  have HD := Lib.hid (show rightR t = (decide ((sizeF t 70).1 ≤ 64) && decide ((sizeF t 70).2 ≤ 16) && everyF t) from rfl)
  clear hB
  cases h with
  | mk op a b name A n c vs ks hop ha hb hnm hn hv hnc hcm hr hk =>
    clear hop ha hb hn hv hr hk
    have HC := Lib.hid (Blk.new W 24 #[.int .i64 op, .int .i64 a, .int .i64 b, .string name, .slice A n c])
    have HW := Lib.hid ((Below.refl W.heap.size W).alloc (Nat.le_refl _) (.cells #[.int .i64 op, .int .i64 a, .int .i64 b, .string name, .slice A n c] 24))
    have hzz : W.heap.size < (W.alloc (.cells #[.int .i64 op, .int .i64 a, .int .i64 b, .string name, .slice A n c] 24)).heap.size := by simp
    generalize FT.mk op a b name ks = t at HT hs HD ⊢
    go_enter Try.func7, Try.ntmps7
    go_wp2_with fail
    refine (Size_c HT.out _ (HB.out.trans (HW.out.mono hBW)) (by omega) 70 (by omega)).mono ?_
    rintro e w1 ⟨rfl, hb1⟩
    have HC1 := Lib.hid (HC.out.below hb1 HC.out.lt)
    have HW1 := Lib.hid (HW.out.trans (hb1.mono (by omega)))
    have hz1 := HW1.out.size
    clear hb1 HC HW
    generalize sizeF t 70 = X at hs HD ⊢
    obtain ⟨s1, s2, s3, s4⟩ := hs
    have r0 : w1.cell? ⟨W.heap.size, 0, none⟩ = some (.int .i64 op) := HC1.out.cell 0
    have r1 : w1.cell? ⟨W.heap.size, 1, none⟩ = some (.int .i64 a) := HC1.out.cell 1
    have r2 : w1.cell? ⟨W.heap.size, 2, none⟩ = some (.int .i64 b) := HC1.out.cell 2
    have r3 : w1.cell? ⟨W.heap.size, 3, none⟩ = some (.string name) := HC1.out.cell 3
    have r4 : w1.cell? ⟨W.heap.size, 4, none⟩ = some (.slice A n c) := HC1.out.cell 4
    by_cases g1 : X.1 ≤ 64
    · have e1 : decide (X.1 ≤ 64) = true := by simpa using g1
      by_cases g2 : X.2 ≤ 16
      · have e2 : decide (X.2 ≤ 16) = true := by simpa using g2
        have HE := Lib.hid (show rightR t = everyF t from by rw [HD.out, e1, e2]; rfl)
        go_wp2_with fail
        with_reducible refine (every_c HT.out _ (HB.out.trans (HW1.out.mono hBW)) (by omega)).mono ?_
        rintro e w2 ⟨rfl, hb2⟩
        have HW2 := Lib.hid (HW1.out.trans (hb2.mono hz1))
        clear hb2 r0 r1 r2 r3 r4
        go_wp2
        go_ret
        exact ⟨ret_bool HE.out.symm, HW2.out⟩
      · have e2 : decide (X.2 ≤ 16) = false := by simpa using g2
        have HE := Lib.hid (show rightR t = false from by rw [HD.out, e1, e2]; rfl)
        go_wp2
        go_ret
        exact ⟨ret_bool HE.out.symm, HW1.out⟩
    · have e1 : decide (X.1 ≤ 64) = false := by simpa using g1
      have HE := Lib.hid (show rightR t = false from by rw [HD.out, e1]; rfl)
      go_wp2
      go_ret
      exact ⟨ret_bool HE.out.symm, HW1.out⟩

def shortF (t : FT) : Bool := decide ((sizeF t 100).1 ≤ 100) && decide ((sizeF t 100).2 ≤ 40) && namesF t
set_option maxHeartbeats 1000000 in
theorem Short_c {w : World} {B : Nat} {cs : List Value} {t : FT} (h : FTr w B cs t) (W : World) (hB : Below B w W) (hBW : B ≤ W.heap.size) : Calls Try.prog 6 #[.agg cs.toArray] W fun e w' => e = .returned (.bool (shortF t)) ∧ Below W.heap.size W w' := by
  have HT := Lib.hid h
  have HB := Lib.hid hB
  have hs := sizeF_bound t 100
  have hbb := bnd_le 100 (by omega)
  have HD := Lib.hid (show shortF t = (decide ((sizeF t 100).1 ≤ 100) && decide ((sizeF t 100).2 ≤ 40) && namesF t) from rfl)
  clear hB
  cases h with
  | mk op a b name A n c vs ks hop ha hb hnm hn hv hnc hcm hr hk =>
    clear hop ha hb hn hv hr hk
    have HC := Lib.hid (Blk.new W 24 #[.int .i64 op, .int .i64 a, .int .i64 b, .string name, .slice A n c])
    have HW := Lib.hid ((Below.refl W.heap.size W).alloc (Nat.le_refl _) (.cells #[.int .i64 op, .int .i64 a, .int .i64 b, .string name, .slice A n c] 24))
    have hzz : W.heap.size < (W.alloc (.cells #[.int .i64 op, .int .i64 a, .int .i64 b, .string name, .slice A n c] 24)).heap.size := by simp
    generalize FT.mk op a b name ks = t at HT hs HD ⊢
    go_enter Try.func6, Try.ntmps6
    go_wp2_with fail
    refine (Size_c HT.out _ (HB.out.trans (HW.out.mono hBW)) (by omega) 100 (by omega)).mono ?_
    rintro e w1 ⟨rfl, hb1⟩
    have HC1 := Lib.hid (HC.out.below hb1 HC.out.lt)
    have HW1 := Lib.hid (HW.out.trans (hb1.mono (by omega)))
    have hz1 := HW1.out.size
    clear hb1 HC HW
    generalize sizeF t 100 = X at hs HD ⊢
    obtain ⟨s1, s2, s3, s4⟩ := hs
    have r0 : w1.cell? ⟨W.heap.size, 0, none⟩ = some (.int .i64 op) := HC1.out.cell 0
    have r1 : w1.cell? ⟨W.heap.size, 1, none⟩ = some (.int .i64 a) := HC1.out.cell 1
    have r2 : w1.cell? ⟨W.heap.size, 2, none⟩ = some (.int .i64 b) := HC1.out.cell 2
    have r3 : w1.cell? ⟨W.heap.size, 3, none⟩ = some (.string name) := HC1.out.cell 3
    have r4 : w1.cell? ⟨W.heap.size, 4, none⟩ = some (.slice A n c) := HC1.out.cell 4
    by_cases g1 : X.1 ≤ 100
    · have e1 : decide (X.1 ≤ 100) = true := by simpa using g1
      by_cases g2 : X.2 ≤ 40
      · have e2 : decide (X.2 ≤ 40) = true := by simpa using g2
        have HE := Lib.hid (show shortF t = namesF t from by rw [HD.out, e1, e2]; rfl)
        go_wp2_with fail
        with_reducible refine (names_c HT.out _ (HB.out.trans (HW1.out.mono hBW)) (by omega)).mono ?_
        rintro e w2 ⟨rfl, hb2⟩
        have HW2 := Lib.hid (HW1.out.trans (hb2.mono hz1))
        clear hb2 r0 r1 r2 r3 r4
        go_wp2
        go_ret
        exact ⟨ret_bool HE.out.symm, HW2.out⟩
      · have e2 : decide (X.2 ≤ 40) = false := by simpa using g2
        have HE := Lib.hid (show shortF t = false from by rw [HD.out, e1, e2]; rfl)
        go_wp2
        go_ret
        exact ⟨ret_bool HE.out.symm, HW1.out⟩
    · have e1 : decide (X.1 ≤ 100) = false := by simpa using g1
      have HE := Lib.hid (show shortF t = false from by rw [HD.out, e1]; rfl)
      go_wp2
      go_ret
      exact ⟨ret_bool HE.out.symm, HW1.out⟩
end Go.Proofs.Ytadidldkphimfaa
