/- Contracts over filters' trees: the reference's Size and Short. -/
import Derived.Test.YtadidldkphimfaaTree2
namespace Go.Proofs.Ytadidldkphimfaa
set_option linter.unusedVariables false
open Go.RowKit Go.ChangeShapes

mutual
def sizeF : FT → Nat → Int × Int
  | .mk _ _ _ _ ks, m => sizeL ks m (1, 1)
def sizeL : List FT → Nat → Int × Int → Int × Int
  | [], _, s => s
  | t :: ts, m, s => if s.1 ≤ 2 * (m : Int) then (if m = 0 then (s.1 + 1, s.2 + 1) else sizeL ts m (s.1 + (sizeF t (m - 1)).1, if s.2 < (sizeF t (m - 1)).2 + 1 then (sizeF t (m - 1)).2 + 1 else s.2)) else s
end
def bnd : Nat → Nat
  | 0 => 2
  | m + 1 => 2 * (m + 1) + bnd m
theorem bnd_le (m : Nat) (h : m ≤ 100) : bnd m ≤ 202 * m + 2 := by
  induction m with
  | zero => simp [bnd]
  | succ m ih => have := ih (by omega); unfold bnd; omega
theorem bnd_lo (m : Nat) : 2 * m + 1 ≤ bnd m := by
  induction m with
  | zero => simp [bnd]
  | succ m ih => unfold bnd; omega
mutual
theorem sizeF_bound : ∀ (t : FT) (m : Nat), 1 ≤ (sizeF t m).1 ∧ (sizeF t m).1 ≤ bnd m ∧ 1 ≤ (sizeF t m).2 ∧ (sizeF t m).2 ≤ m + 2
  | .mk _ _ _ _ ks, m => by
    unfold sizeF
    have := bnd_lo m
    exact sizeL_bound ks m (1, 1) (by simp) (by simp only; omega) (by simp) (by simp only; omega) (by simp)
theorem sizeL_bound : ∀ (l : List FT) (m : Nat) (s : Int × Int), 1 ≤ s.1 → s.1 ≤ bnd m → 1 ≤ s.2 → s.2 ≤ m + 2 → (m = 0 → s.2 ≤ 1) → 1 ≤ (sizeL l m s).1 ∧ (sizeL l m s).1 ≤ bnd m ∧ 1 ≤ (sizeL l m s).2 ∧ (sizeL l m s).2 ≤ m + 2
  | [], m, s, h1, h2, h3, h4, h5 => by unfold sizeL; omega
  | t :: ts, m, s, h1, h2, h3, h4, h5 => by
    unfold sizeL
    by_cases hs : s.1 ≤ 2 * (m : Int)
    · rw [if_pos hs]
      by_cases hm : m = 0
      · rw [if_pos hm]; have := h5 hm; subst hm; simp only [bnd]; omega
      · rw [if_neg hm]
        obtain ⟨m', rfl⟩ : ∃ m', m = m' + 1 := ⟨m - 1, by omega⟩
        have hb := sizeF_bound t m'
        rw [show m' + 1 - 1 = m' from rfl]
        refine sizeL_bound ts (m' + 1) _ ?_ ?_ ?_ ?_ (fun h => by omega)
        · simp only; omega
        · simp only [bnd]; omega
        · simp only; split <;> omega
        · simp only; split <;> omega
    · rw [if_neg hs]; omega
end
theorem ret_int2 {a b : Int} {X : Int × Int} (h : X = (a, b)) : Ending.returned (.tuple #[.int .i64 a, .int .i64 b]) = .returned (.tuple #[.int .i64 X.1, .int .i64 X.2]) := by rw [h]
theorem drop_cons_of {α : Type} (l : List α) (k : Nat) (t : α) (h : l[k]? = some t) : l.drop k = t :: l.drop (k + 1) := by
  obtain ⟨hk, rfl⟩ := List.getElem?_eq_some_iff.1 h
  exact List.drop_eq_getElem_cons hk

set_option maxHeartbeats 2000000 in
theorem Size_c {w : World} {B : Nat} {cs : List Value} {t : FT} (h : FTr w B cs t) : ∀ W, Below B w W → B ≤ W.heap.size → ∀ m : Nat, m ≤ 100 → Calls Try.prog 12 #[.agg cs.toArray, .int .i64 (m : Int)] W fun e w' => e = .returned (.tuple #[.int .i64 (sizeF t m).1, .int .i64 (sizeF t m).2]) ∧ Below W.heap.size W w' := by
  induction h with
  | mk op a b name A n c vs ks hop ha hb hnm hn hv hnc hcm hr hk ih =>
    intro W hB hBW
    have HN := Lib.hid hn
    have HKI := Lib.hid (fun (wr : World) (hw : Below B w wr) (i : Nat) (hi : i < n) => kid_in hn hv hr hk hw hi)
    have IH := Lib.hid ih
    have HB := Lib.hid hB
    have o1 := bounds_i64 hop
    have a1 := bounds_i64 ha
    have b1 := bounds_i64 hb
    unfold maxLen at hcm hnm
    clear hr hk ih hB hn hv hop ha hb
    obtain ⟨o1, o2⟩ := o1
    obtain ⟨a1, a2⟩ := a1
    obtain ⟨b1, b2⟩ := b1
    intro m hm
    have hbm := bnd_le m hm
    have hbl := bnd_lo m
    have HE0 := Lib.hid (show sizeF (.mk op a b name ks) m = sizeL ks m (1, 1) from by unfold sizeF; rfl)
    rw [HE0.out]
    have HC := Lib.hid (Blk.new W 24 #[.int .i64 op, .int .i64 a, .int .i64 b, .string name, .slice A n c])
    have HW := Lib.hid ((Below.refl W.heap.size W).alloc (Nat.le_refl _) (.cells #[.int .i64 op, .int .i64 a, .int .i64 b, .string name, .slice A n c] 24))
    go_enter Try.func12, Try.ntmps12
    go_wp2
    go_loopw [6, 7, 8] (fun p q i wr => ∃ (k : Nat) (many deep : Int), k ≤ n ∧ i = .int .i64 k ∧ p = .int .i64 many ∧ q = .int .i64 deep ∧ 1 ≤ many ∧ many ≤ bnd m ∧ 1 ≤ deep ∧ deep ≤ m + 2 ∧ Hid (sizeL (ks.drop k) m (many, deep) = sizeL ks m (1, 1)) ∧ Hid (Blk wr W.heap.size 24 #[.int .i64 op, .int .i64 a, .int .i64 b, .string name, .slice A n c]) ∧ Hid (Below W.heap.size W wr)) (fun _ _ i _ => n - (intOf i).toNat)
    case atStart => exact ⟨0, 1, 1, Nat.zero_le _, rfl, rfl, rfl, by omega, by omega, by omega, by omega, Lib.hid rfl, HC, HW⟩
    case round =>
      obtain ⟨k, many, deep, hk, rfl, rfl, rfl, p1, p2, p3, p4, HS, HC1, HW1⟩ := hrel
      clear HC HW
      have r4 : wr.cell? ⟨W.heap.size, 4, none⟩ = some (.slice A n c) := HC1.out.cell 4
      have hz := HW1.out.size
      by_cases hlt : k < n
      · obtain ⟨ad, op', a', b', name', A', n', c', t', v', rfl, hkt, hvt, hve, hft, d0, d1, d2, d3, d4⟩ := HKI.out wr (HB.out.trans (HW1.out.mono hBW)) k hlt
        have ihk := IH.out k v' t' hvt hkt
        subst hve
        have HIK := Lib.hid ihk
        have HKT := Lib.hid hkt
        have i1 : (0 : Int) ≤ (k : Int) := by omega
        have i2 : (k : Int) < (n : Int) := by omega
        clear hkt hvt ihk
        have HD := Lib.hid (drop_cons_of ks k t' HKT.out)
        by_cases hmm : many ≤ 2 * (m : Int)
        · have dm : decide (many ≤ 2 * (m : Int)) = true := by simp; omega
          by_cases hm0 : m = 0
          · have e0 : ((m : Int) == 0) = true := by rw [beq_iff_eq]; omega
            have HR := Lib.hid (show sizeL ks m (1, 1) = (many + 1, deep + 1) from by rw [← HS.out, HD.out]; unfold sizeL; rw [if_pos hmm, if_pos hm0])
            clear hm0
            go_wp2
            go_ret2
            exact ⟨ret_int2 HR.out, HW1.out⟩
          · have e0 : ((m : Int) == 0) = false := by rw [beq_eq_false_iff_ne]; omega
            obtain ⟨m', hm'⟩ : ∃ m' : Nat, m = m' + 1 := ⟨m - 1, by omega⟩
            have hm1 : (m : Int) - 1 = (m' : Int) := by omega
            obtain ⟨f1, f2, f3, f4⟩ := sizeF_bound t' m'
            have hbm' : bnd m = 2 * m + bnd m' := by rw [hm']; rfl
            have HS2 := Lib.hid (show sizeL (ks.drop (k + 1)) m (many + (sizeF t' m').1, if deep < (sizeF t' m').2 + 1 then (sizeF t' m').2 + 1 else deep) = sizeL ks m (1, 1) from by
              rw [← HS.out, HD.out]
              conv => rhs; unfold sizeL
              rw [if_pos hmm, if_neg hm0, show m - 1 = m' from by omega])
            have hmle : m' ≤ 100 := by omega
            have q1 : many + (sizeF t' m').1 ≤ bnd m := by omega
            have q2 : (sizeF t' m').2 + 1 ≤ (m : Int) + 2 := by omega
            clear hm' hm0 hbm'
            go_wp2_with fail
            with_reducible refine (HIK.out _ (HB.out.trans (HW1.out.mono hBW)) (by omega) m' hmle).mono ?_
            rintro e w2 ⟨rfl, hb2⟩
            have HW2 := Lib.hid (HW1.out.trans (hb2.mono hz))
            have HC2 := Lib.hid (HC1.out.below hb2 HC1.out.lt)
            clear hb2 r4 d0 d1 d2 d3 d4 hm1
            generalize sizeF t' m' = X at HS2 f1 f2 f3 f4 q1 q2 ⊢
            by_cases hdd : deep < X.2 + 1
            · have dd : decide (deep < X.2 + 1) = true := by simp; omega
              rw [if_pos hdd] at HS2
              go_wp2
              go_roundw
              case rel => exact ⟨k + 1, _, _, by omega, by go_num, rfl, rfl, by omega, by omega, by omega, by omega, HS2, HC2, HW2⟩
              case measure => simp [intOf]; omega
            · have dd : decide (deep < X.2 + 1) = false := by simp; omega
              rw [if_neg hdd] at HS2
              go_wp2
              go_roundw
              case rel => exact ⟨k + 1, _, _, by omega, by go_num, rfl, rfl, by omega, by omega, by omega, by omega, HS2, HC2, HW2⟩
              case measure => simp [intOf]; omega
        · have dm : decide (many ≤ 2 * (m : Int)) = false := by simp; omega
          have HR := Lib.hid (show sizeL ks m (1, 1) = (many, deep) from by rw [← HS.out, HD.out]; unfold sizeL; rw [if_neg hmm])
          go_wp2
          go_ret2
          exact ⟨ret_int2 HR.out, HW1.out⟩
      · obtain rfl : n = k := by omega
        have HR := Lib.hid (show sizeL ks m (1, 1) = (many, deep) from by rw [← HS.out, List.drop_of_length_le (by rw [HN.out]; exact Nat.le_refl _)]; unfold sizeL; rfl)
        go_wp2
        go_ret2
        exact ⟨ret_int2 HR.out, HW1.out⟩
end Go.Proofs.Ytadidldkphimfaa
