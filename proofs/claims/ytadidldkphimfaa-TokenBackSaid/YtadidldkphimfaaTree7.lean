/- Contracts over filters' trees: filter.right and Right. -/
import Derived.Test.YtadidldkphimfaaTree6
namespace Go.Proofs.Ytadidldkphimfaa
set_option linter.unusedVariables false
open Go.RowKit Go.ChangeShapes

mutual
def rightF : FT → Nat → Nat → Bool × Nat
  | .mk op a b name ks, d, l => if 16 < d ∨ l = 0 ∨ oneF op a b name.size ks.length = false then (false, l) else rightL ks (d + 1) (l - 1)
def rightL : List FT → Nat → Nat → Bool × Nat
  | [], _, l => (true, l)
  | t :: ts, d, l => if (rightF t d l).1 = false then (false, (rightF t d l).2) else rightL ts d (rightF t d l).2
end
mutual
theorem rightF_le : ∀ (t : FT) (d l : Nat), (rightF t d l).2 ≤ l
  | .mk op a b name ks, d, l => by
    unfold rightF
    split
    · exact Nat.le_refl _
    · exact Nat.le_trans (rightL_le ks (d + 1) (l - 1)) (by omega)
theorem rightL_le : ∀ (ts : List FT) (d l : Nat), (rightL ts d l).2 ≤ l
  | [], d, l => by unfold rightL; exact Nat.le_refl _
  | t :: ts, d, l => by
    unfold rightL
    have h := rightF_le t d l
    split
    · exact h
    · exact Nat.le_trans (rightL_le ts d _) h
end
theorem ret_fst {b : Bool} {x : Bool × Nat} (h : x.1 = b) : Ending.returned (.bool b) = .returned (.bool x.1) := by rw [h]
theorem blk_to {w : World} {g : Nat} {t : TypeId} {l : Nat} {x : Bool × Nat} (h : x.2 = l) (hb : Blk w g t #[.int .i64 (l : Int)]) : Blk w g t #[.int .i64 (x.2 : Int)] := by rw [h]; exact hb

def RightOk (W : World) (g : Nat) (x : Bool × Nat) (e : Ending) (w' : World) : Prop :=
  e = .returned (.bool x.1) ∧ Blk w' g 3 #[.int .i64 (x.2 : Int)] ∧ W.grownBy w' (some g)

set_option maxHeartbeats 4000000 in
theorem right_c {w : World} {B : Nat} {cs : List Value} {t : FT} (h : FTr w B cs t) : ∀ W, Below B w W → B ≤ W.heap.size → ∀ (d l g : Nat), d ≤ 1000 → l ≤ 1000 → B ≤ g → Blk W g 3 #[.int .i64 (l : Int)] →
    Calls Try.prog 29 #[.agg cs.toArray, .int .i64 (d : Int), .pointer (some ⟨g, 0, none⟩)] W (RightOk W g (rightF t d l)) := by
  induction h with
  | mk op a b name A n c vs ks hop ha hb hnm hn hv hnc hcm hr hk ih =>
    intro W hB hBW
    have HN := Lib.hid hn
    have HKI := Lib.hid (fun (wr : World) (hw : Below B w wr) (i : Nat) (hi : i < n) => kid_in hn hv hr hk hw hi)
    have IH := Lib.hid ih
    have HB := Lib.hid hB
    have o1 := bounds_i64 hop
    have a1 := bounds_i64 ha
    have b1 := bounds_i64 hb
    unfold maxLen at hcm hnm
    clear hr hk ih hB hn hv hop ha hb
    obtain ⟨o1, o2⟩ := o1
    obtain ⟨a1, a2⟩ := a1
    obtain ⟨b1, b2⟩ := b1
    intro d l g hd hl hBg hblk
    have hgW := hblk.lt
    have HG := Lib.hid (Blk.alloc hblk (.cells #[.int .i64 op, .int .i64 a, .int .i64 b, .string name, .slice A n c] 24))
    have HR0 := Lib.hid (show rightF (.mk op a b name ks) d l = if 16 < d ∨ l = 0 ∨ oneF op a b name.size n = false then (false, l) else rightL ks (d + 1) (l - 1) from by unfold rightF; rw [HN.out])
    have HC := Lib.hid (Blk.new W 24 #[.int .i64 op, .int .i64 a, .int .i64 b, .string name, .slice A n c])
    have HW := Lib.hid ((Below.refl W.heap.size W).alloc (Nat.le_refl _) (.cells #[.int .i64 op, .int .i64 a, .int .i64 b, .string name, .slice A n c] 24))
    have hzz : W.heap.size < (W.alloc (.cells #[.int .i64 op, .int .i64 a, .int .i64 b, .string name, .slice A n c] 24)).heap.size := by simp
    clear hblk
    have z0 : (W.alloc (.cells #[.int .i64 op, .int .i64 a, .int .i64 b, .string name, .slice A n c] 24)).cell? ⟨g, 0, none⟩ = some (.int .i64 (l : Int)) := HG.out.cell 0
    have z1 : (W.alloc (.cells #[.int .i64 op, .int .i64 a, .int .i64 b, .string name, .slice A n c] 24)).frozen? ⟨g, 0, none⟩ = false := HG.out.frozen 0
    by_cases c1 : 16 < d
    · have e1 : decide ((16 : Int) < (d : Int)) = true := by simp; omega
      have HE := Lib.hid (show rightF (.mk op a b name ks) d l = (false, l) from by rw [HR0.out, if_pos (Or.inl c1)])
      go_enter Try.func29, Try.ntmps29
      go_wp2
      go_ret
      exact ⟨ret_fst (congrArg Prod.fst HE.out), blk_to (congrArg Prod.snd HE.out) HG.out, only_of_below HW.out _⟩
    · have e1 : decide ((16 : Int) < (d : Int)) = false := by simp; omega
      by_cases c2 : l = 0
      · have e2 : ((l : Int) == 0) = true := by rw [beq_iff_eq]; omega
        have HE := Lib.hid (show rightF (.mk op a b name ks) d l = (false, l) from by rw [HR0.out, if_pos (Or.inr (Or.inl c2))])
        clear c2
        go_enter Try.func29, Try.ntmps29
        go_wp2
        go_ret
        exact ⟨ret_fst (congrArg Prod.fst HE.out), blk_to (congrArg Prod.snd HE.out) HG.out, only_of_below HW.out _⟩
      · have e2 : ((l : Int) == 0) = false := by rw [beq_eq_false_iff_ne]; omega
        go_enter Try.func29, Try.ntmps29
        go_wp2_with fail
        with_reducible refine (alone_c op a b name A n c _).mono ?_
        rintro e w2 ⟨rfl, hb2⟩
        have HC2 := Lib.hid (HC.out.below hb2 HC.out.lt)
        have HG2 := Lib.hid (HG.out.below hb2 HG.out.lt)
        have HW2 := Lib.hid (HW.out.trans (hb2.mono (by omega)))
        clear hb2 HC HW HG z0 z1
        cases ho : oneF op a b name.size n
        · have HE := Lib.hid (show rightF (.mk op a b name ks) d l = (false, l) from by rw [HR0.out, if_pos (Or.inr (Or.inr ho))])
          clear ho
          go_wp2
          go_ret
          exact ⟨ret_fst (congrArg Prod.fst HE.out), blk_to (congrArg Prod.snd HE.out) HG2.out, only_of_below HW2.out _⟩
        · have HE := Lib.hid (show rightF (.mk op a b name ks) d l = rightL ks (d + 1) (l - 1) from by rw [HR0.out, if_neg (by intro h; rcases h with h | h | h; exact c1 h; exact c2 h; rw [ho] at h; cases h)])
          clear ho HR0
          obtain ⟨l0, hl0⟩ : ∃ l0 : Nat, l = l0 + 1 := ⟨l - 1, by omega⟩
          rw [show l - 1 = l0 from by omega] at HE
          have hsub : (l : Int) - 1 = (l0 : Int) := by omega
          have hl0' : l0 ≤ 1000 := by omega
          have z0 : w2.cell? ⟨g, 0, none⟩ = some (.int .i64 (l : Int)) := HG2.out.cell 0
          have z1 : w2.frozen? ⟨g, 0, none⟩ = false := HG2.out.frozen 0
          have r4 : w2.cell? ⟨W.heap.size, 4, none⟩ = some (.slice A n c) := HC2.out.cell 4
          have r4s : (w2.setCell ⟨g, 0, none⟩ (.int .i64 (l0 : Int))).cell? ⟨W.heap.size, 4, none⟩ = some (.slice A n c) := (HC2.out.far (p := ⟨g, 0, none⟩) (by simp; omega) (.int .i64 (l0 : Int))).cell 4
          have HG3 := Lib.hid (show Blk (w2.setCell ⟨g, 0, none⟩ (.int .i64 (l0 : Int))) g 3 #[.int .i64 (l0 : Int)] from HG2.out.set_ 0 _)
          have HO3 := Lib.hid (show W.grownBy (w2.setCell ⟨g, 0, none⟩ (.int .i64 (l0 : Int))) (some g) from only_setCell (only_of_below HW2.out _) (.inl rfl) _)
          clear hl0 c2
          go_wp2
          clear z0 z1 r4 r4s hsub
          generalize w2.setCell ⟨g, 0, none⟩ (.int .i64 (l0 : Int)) = w3 at HG3 HO3 ⊢
          go_loopw [30] (fun i wr => ∃ k l1 : Nat, k ≤ n ∧ l1 ≤ 1000 ∧ i = .int .i64 k ∧ Hid (rightL (ks.drop k) (d + 1) l1 = rightF (.mk op a b name ks) d l) ∧ Hid (Blk wr g 3 #[.int .i64 (l1 : Int)]) ∧ Hid (W.grownBy wr (some g))) (fun i _ => n - (intOf i).toNat)
          case atStart => exact ⟨0, l0, Nat.zero_le _, hl0', rfl, Lib.hid (by rw [HE.out]; rfl), HG3, HO3⟩
          case round =>
            clear HG3 HO3 HC2 HG2 HW2
            obtain ⟨k, l1, hk, hl1, rfl, HS, HG4, HO4⟩ := hrel
            have hz := HO4.out.size
            have HBr := Lib.hid (show Below B w wr from HB.out.grown HO4.out hBW (fun g' h => by cases h; exact hBg))
            by_cases hlt : k < n
            · obtain ⟨ad, op', a', b', name', A', n', c', t', v', rfl, hkt, hvt, hve, hft, d0, d1, d2, d3, d4⟩ := HKI.out wr HBr.out k hlt
              have ihk := IH.out k v' t' hvt hkt
              subst hve
              have HIK := Lib.hid ihk
              have HKT := Lib.hid hkt
              have i1 : (0 : Int) ≤ (k : Int) := by omega
              have i2 : (k : Int) < (n : Int) := by omega
              clear hkt hvt ihk
              have HD := Lib.hid (drop_cons_of ks k t' HKT.out)
              have HKA := Lib.hid (HG4.out.alloc (.cells #[.int .i64 op', .int .i64 a', .int .i64 b', .string name', .slice A' n' c'] 24))
              have HBA := Lib.hid (HBr.out.alloc (by omega) (.cells #[.int .i64 op', .int .i64 a', .int .i64 b', .string name', .slice A' n' c'] 24))
              have HOA := Lib.hid (only_alloc HO4.out (.cells #[.int .i64 op', .int .i64 a', .int .i64 b', .string name', .slice A' n' c'] 24))
              have hza : wr.heap.size < (wr.alloc (.cells #[.int .i64 op', .int .i64 a', .int .i64 b', .string name', .slice A' n' c'] 24)).heap.size := by simp
              have hd1 : ((d + 1 : Nat) : Int) = (d : Int) + 1 := by omega
              go_wp2_with fail
              have hcall := HIK.out _ HBA.out (by omega) (d + 1) l1 g (by omega) hl1 hBg HKA.out
              rw [hd1] at hcall
              with_reducible refine hcall.mono ?_
              rintro e w5 ⟨rfl, hblk5, hg5⟩
              have HG5 := Lib.hid hblk5
              have HO5 := Lib.hid (HOA.out.trans hg5)
              have hl5 := rightF_le t' (d + 1) l1
              clear hblk5 hg5 hcall d0 d1 d2 d3 d4 hd1
              have HST := Lib.hid (show (if (rightF t' (d + 1) l1).1 = false then (false, (rightF t' (d + 1) l1).2) else rightL (ks.drop (k + 1)) (d + 1) (rightF t' (d + 1) l1).2) = rightF (.mk op a b name ks) d l from by rw [← HS.out, HD.out]; conv => rhs; unfold rightL)
              generalize rightF t' (d + 1) l1 = X at HST HG5 hl5 ⊢
              cases hx : X.1
              · rw [hx, if_pos rfl] at HST
                have HST' := Lib.hid HST.out.symm
                clear HST
                clear hx
                go_wp2
                go_ret
                exact ⟨ret_fst (congrArg Prod.fst HST'.out), blk_to (congrArg Prod.snd HST'.out) HG5.out, HO5.out⟩
              · rw [hx, if_neg (by simp)] at HST
                clear hx
                go_wp2
                go_roundw
                case rel => exact ⟨k + 1, X.2, by omega, by omega, by go_num, HST, HG5, HO5⟩
                case measure => simp [intOf]; omega
            · obtain rfl : n = k := by omega
              have HE2 := Lib.hid (show rightF (.mk op a b name ks) d l = (true, l1) from by rw [← HS.out, List.drop_of_length_le (by rw [HN.out]; exact Nat.le_refl _)]; unfold rightL; rfl)
              go_wp2
              go_ret
              exact ⟨ret_fst (congrArg Prod.fst HE2.out), blk_to (congrArg Prod.snd HE2.out) HG4.out, HO4.out⟩

def rightT (t : FT) : Bool := (rightF t 1 64).1
set_option maxHeartbeats 1000000 in
theorem Right_c {w : World} {B : Nat} {cs : List Value} {t : FT} (h : FTr w B cs t) (W : World) (hB : Below B w W) (hBW : B ≤ W.heap.size) : Calls Try.prog 15 #[.agg cs.toArray] W fun e w' => e = .returned (.bool (rightT t)) ∧ Below W.heap.size W w' := by
  have HT := Lib.hid h
  have HB := Lib.hid hB
  clear hB
  cases h with
  | mk op a b name A n c vs ks hop ha hb hnm hn hv hnc hcm hr hk =>
    clear hop ha hb hn hv hr hk
    have HG := Lib.hid (blk2_1 W 24 3 #[.int .i64 op, .int .i64 a, .int .i64 b, .string name, .slice A n c] #[.int .i64 64])
    have HW := Lib.hid (((Below.refl W.heap.size W).alloc (Nat.le_refl _) (.cells #[.int .i64 op, .int .i64 a, .int .i64 b, .string name, .slice A n c] 24)).alloc (by simp) (.cells #[.int .i64 64] 3))
    have hzz : W.heap.size + 1 < ((W.alloc (.cells #[.int .i64 op, .int .i64 a, .int .i64 b, .string name, .slice A n c] 24)).alloc (.cells #[.int .i64 64] 3)).heap.size := by simp
    generalize FT.mk op a b name ks = t at HT ⊢
    go_enter Try.func15, Try.ntmps15
    go_wp2_with fail
    refine (right_c HT.out _ (HB.out.trans (HW.out.mono hBW)) (by omega) 1 64 (W.heap.size + 1) (by omega) (by omega) (by omega) HG.out).mono ?_
    rintro e w2 ⟨rfl, _, hg⟩
    have HW2 := Lib.hid (show Below W.heap.size W w2 from HW.out.grown hg (by omega) (fun g' h => by cases h; omega))
    clear hg
    go_wp2
    go_ret
    exact ⟨rfl, HW2.out⟩
end Go.Proofs.Ytadidldkphimfaa
