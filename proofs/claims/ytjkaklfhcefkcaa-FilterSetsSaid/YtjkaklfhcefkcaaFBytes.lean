/- Contracts of filter.Bytes and filter.Same. -/
import Derived.Test.YtjkaklfhcefkcaaPut
import Derived.Test.YtjkaklfhcefkcaaSame
namespace Go.Proofs.Ytjkaklfhcefkcaa
set_option linter.unusedVariables false
open Go.RowKit Go.ChangeShapes

def bytesT (t : FT) : List UInt8 := if rightT t = true then encF t else []
def BytesOk (l : List UInt8) (W : World) (e : Ending) (w' : World) : Prop := ∃ v, e = .returned v ∧ w'.ownsRow W.heap.size 5 1 v l.length (byteCells l) ∧ Below W.heap.size W w'
theorem bytesT_len (t : FT) : (bytesT t).length ≤ 6000 := by
  unfold bytesT
  split
  · rename_i h
    obtain ⟨h1, _, h2⟩ := right_facts t h
    have := encF_len t h1 (by omega)
    omega
  · simp

theorem Bytes_c {w : World} {B : Nat} {cs : List Value} {t : FT} (h : FTr w B cs t) (W : World) (hB : Below B w W) (hBW : B ≤ W.heap.size) : Calls Try.prog 10 #[.agg cs.toArray] W (BytesOk (bytesT t) W) := by
  have HT := Lib.hid h
  have HB := Lib.hid hB
  clear hB
  cases h with
  | mk op a b name A n c vs ks hop ha hb hnm hn hv hnc hcm hr hk =>
    clear hop ha hb hn hv hr hk hnm hnc hcm
    generalize FT.mk op a b name ks = t at HT ⊢
    unfold BytesOk
    have HK1 := Lib.hid (show Kept W (W.alloc (.cells #[.int .i64 op, .int .i64 a, .int .i64 b, .string name, .slice A n c] 24)) [(W.heap.size, 24, #[.int .i64 op, .int .i64 a, .int .i64 b, .string name, .slice A n c])] from ((Kept.start W).alloc_at 24 #[.int .i64 op, .int .i64 a, .int .i64 b, .string name, .slice A n c] (W.heap.size) (by simp)))
    go_enter Try.func10, Try.ntmps10
    go_wp2_with fail
    with_reducible refine (Right_c HT.out _ (HB.out.trans (HK1.out.bel.mono hBW)) (Nat.le_trans hBW HK1.out.size)).mono ?_
    rintro e w1 ⟨rfl, hb1⟩
    have HK2 := Lib.hid (show Kept W w1 [(W.heap.size, 24, #[.int .i64 op, .int .i64 a, .int .i64 b, .string name, .slice A n c])] from HK1.out.next hb1)
    clear HK1
    clear hb1
    cases hrt : rightT t
    · have HE := Lib.hid (show bytesT t = [] from by unfold bytesT; rw [hrt]; rfl)
      clear hrt
      go_wp2
      go_ret
      exact ⟨_, rfl, by rw [HE.out]; exact ⟨rfl, .inl ⟨rfl, rfl⟩⟩, HK2.out.bel⟩
    have HE := Lib.hid (show bytesT t = encF t from by unfold bytesT; rw [hrt]; rfl)
    obtain ⟨hev, _, hct⟩ := right_facts t hrt
    have HEV := Lib.hid hev
    clear hrt hev
    have c_f_0 : w1.cell? ⟨W.heap.size, 0, none⟩ = some (.int .i64 op) := HK2.out.cell 0 rfl 0
    have c_f_1 : w1.cell? ⟨W.heap.size, 1, none⟩ = some (.int .i64 a) := HK2.out.cell 0 rfl 1
    have c_f_2 : w1.cell? ⟨W.heap.size, 2, none⟩ = some (.int .i64 b) := HK2.out.cell 0 rfl 2
    have c_f_3 : w1.cell? ⟨W.heap.size, 3, none⟩ = some (.string name) := HK2.out.cell 0 rfl 3
    have c_f_4 : w1.cell? ⟨W.heap.size, 4, none⟩ = some (.slice A n c) := HK2.out.cell 0 rfl 4
    go_wp2_with fail
    with_reducible refine (put_c HT.out HEV.out (by omega) _ (HB.out.trans (HK2.out.bel.mono hBW)) (Nat.le_trans hBW HK2.out.size) none 0 0 0 [] (Reads.none_) (Nat.zero_le _) (by omega)).mono ?_
    rintro e w2 ⟨v, rfl, hown, hb2⟩
    rw [Nat.zero_add, List.nil_append] at hown
    obtain ⟨A2, c2, rfl, _, _, _, hr2⟩ := own_reads hown
    have HO := Lib.hid (ownsRow_base (base' := W.heap.size) hown HK2.out.size)
    clear hown hr2
    clear c_f_0 c_f_1 c_f_2 c_f_3 c_f_4
    have HK3 := Lib.hid (show Kept W w2 [(W.heap.size, 24, #[.int .i64 op, .int .i64 a, .int .i64 b, .string name, .slice A n c])] from HK2.out.next hb2)
    clear HK2
    clear hb2
    go_wp2
    go_ret
    exact ⟨_, rfl, by rw [HE.out]; exact HO.out, HK3.out.bel⟩

theorem fSame_c {w : World} {B : Nat} {cs : List Value} {t : FT} (h : FTr w B cs t) {cs2 : List Value} {u : FT} (h2 : FTr w B cs2 u) (W : World) (hB : Below B w W) (hBW : B ≤ W.heap.size) : Calls Try.prog 18 #[.agg cs.toArray, .agg cs2.toArray] W fun e w' => e = .returned (.bool (rightT t && sameF t u)) ∧ Below W.heap.size W w' := by
  have HT := Lib.hid h
  have HU := Lib.hid h2
  have HB := Lib.hid hB
  clear hB
  cases h with
  | mk op a b name A n c vs ks hop ha hb hnm hn hv hnc hcm hr hk =>
    clear hop ha hb hn hv hr hk hnm hnc hcm
    cases h2 with
    | mk op2 a2 b2 name2 A2 n2 c2 vs2 ks2 hop ha hb hnm hn hv hnc hcm hr hk =>
      clear hop ha hb hn hv hr hk hnm hnc hcm
      generalize FT.mk op a b name ks = t at HT ⊢
      generalize FT.mk op2 a2 b2 name2 ks2 = u at HU ⊢
      have HK1 := Lib.hid (show Kept W ((W.alloc (.cells #[.int .i64 op, .int .i64 a, .int .i64 b, .string name, .slice A n c] 24)).alloc (.cells #[.int .i64 op2, .int .i64 a2, .int .i64 b2, .string name2, .slice A2 n2 c2] 24)) [(W.heap.size + 1, 24, #[.int .i64 op2, .int .i64 a2, .int .i64 b2, .string name2, .slice A2 n2 c2]), (W.heap.size, 24, #[.int .i64 op, .int .i64 a, .int .i64 b, .string name, .slice A n c])] from (((Kept.start W).alloc_at 24 #[.int .i64 op, .int .i64 a, .int .i64 b, .string name, .slice A n c] (W.heap.size) (by simp)).alloc_at 24 #[.int .i64 op2, .int .i64 a2, .int .i64 b2, .string name2, .slice A2 n2 c2] (W.heap.size + 1) (by simp)))
      go_enter Try.func18, Try.ntmps18
      go_wp2_with fail
      with_reducible refine (Right_c HT.out _ (HB.out.trans (HK1.out.bel.mono hBW)) (Nat.le_trans hBW HK1.out.size)).mono ?_
      rintro e w1 ⟨rfl, hb1⟩
      have HK2 := Lib.hid (show Kept W w1 [(W.heap.size + 1, 24, #[.int .i64 op2, .int .i64 a2, .int .i64 b2, .string name2, .slice A2 n2 c2]), (W.heap.size, 24, #[.int .i64 op, .int .i64 a, .int .i64 b, .string name, .slice A n c])] from HK1.out.next hb1)
      clear HK1
      clear hb1
      cases hrt : rightT t
      · go_wp2
        go_ret
        exact ⟨ret_bool (by rw [hrt]; rfl), HK2.out.bel⟩
      have c_f_0 : w1.cell? ⟨W.heap.size, 0, none⟩ = some (.int .i64 op) := HK2.out.cell 1 rfl 0
      have c_f_1 : w1.cell? ⟨W.heap.size, 1, none⟩ = some (.int .i64 a) := HK2.out.cell 1 rfl 1
      have c_f_2 : w1.cell? ⟨W.heap.size, 2, none⟩ = some (.int .i64 b) := HK2.out.cell 1 rfl 2
      have c_f_3 : w1.cell? ⟨W.heap.size, 3, none⟩ = some (.string name) := HK2.out.cell 1 rfl 3
      have c_f_4 : w1.cell? ⟨W.heap.size, 4, none⟩ = some (.slice A n c) := HK2.out.cell 1 rfl 4
      have c_g_0 : w1.cell? ⟨W.heap.size + 1, 0, none⟩ = some (.int .i64 op2) := HK2.out.cell 0 rfl 0
      have c_g_1 : w1.cell? ⟨W.heap.size + 1, 1, none⟩ = some (.int .i64 a2) := HK2.out.cell 0 rfl 1
      have c_g_2 : w1.cell? ⟨W.heap.size + 1, 2, none⟩ = some (.int .i64 b2) := HK2.out.cell 0 rfl 2
      have c_g_3 : w1.cell? ⟨W.heap.size + 1, 3, none⟩ = some (.string name2) := HK2.out.cell 0 rfl 3
      have c_g_4 : w1.cell? ⟨W.heap.size + 1, 4, none⟩ = some (.slice A2 n2 c2) := HK2.out.cell 0 rfl 4
      go_wp2_with fail
      with_reducible refine (Right_c HU.out _ (HB.out.trans (HK2.out.bel.mono hBW)) (Nat.le_trans hBW HK2.out.size)).mono ?_
      rintro e w2 ⟨rfl, hb2⟩
      clear c_f_0 c_f_1 c_f_2 c_f_3 c_f_4 c_g_0 c_g_1 c_g_2 c_g_3 c_g_4
      have HK3 := Lib.hid (show Kept W w2 [(W.heap.size + 1, 24, #[.int .i64 op2, .int .i64 a2, .int .i64 b2, .string name2, .slice A2 n2 c2]), (W.heap.size, 24, #[.int .i64 op, .int .i64 a, .int .i64 b, .string name, .slice A n c])] from HK2.out.next hb2)
      clear HK2
      clear hb2
      cases hru : rightT u
      · have HE := Lib.hid (show (rightT t && sameF t u) = false from by rw [hrt, Bool.true_and]; cases hs : sameF t u; rfl; rw [sameF_iff] at hs; subst hs; rw [hrt] at hru; cases hru)
        clear hrt hru
        go_wp2
        go_ret
        exact ⟨ret_bool HE.out.symm, HK3.out.bel⟩
      have c_f_0 : w2.cell? ⟨W.heap.size, 0, none⟩ = some (.int .i64 op) := HK3.out.cell 1 rfl 0
      have c_f_1 : w2.cell? ⟨W.heap.size, 1, none⟩ = some (.int .i64 a) := HK3.out.cell 1 rfl 1
      have c_f_2 : w2.cell? ⟨W.heap.size, 2, none⟩ = some (.int .i64 b) := HK3.out.cell 1 rfl 2
      have c_f_3 : w2.cell? ⟨W.heap.size, 3, none⟩ = some (.string name) := HK3.out.cell 1 rfl 3
      have c_f_4 : w2.cell? ⟨W.heap.size, 4, none⟩ = some (.slice A n c) := HK3.out.cell 1 rfl 4
      have c_g_0 : w2.cell? ⟨W.heap.size + 1, 0, none⟩ = some (.int .i64 op2) := HK3.out.cell 0 rfl 0
      have c_g_1 : w2.cell? ⟨W.heap.size + 1, 1, none⟩ = some (.int .i64 a2) := HK3.out.cell 0 rfl 1
      have c_g_2 : w2.cell? ⟨W.heap.size + 1, 2, none⟩ = some (.int .i64 b2) := HK3.out.cell 0 rfl 2
      have c_g_3 : w2.cell? ⟨W.heap.size + 1, 3, none⟩ = some (.string name2) := HK3.out.cell 0 rfl 3
      have c_g_4 : w2.cell? ⟨W.heap.size + 1, 4, none⟩ = some (.slice A2 n2 c2) := HK3.out.cell 0 rfl 4
      have HR := Lib.hid hrt
      clear hrt hru
      go_wp2_with fail
      with_reducible refine (same_c HT.out _ u HU.out _ (HB.out.trans (HK3.out.bel.mono hBW)) (Nat.le_trans hBW HK3.out.size)).mono ?_
      rintro e w3 ⟨rfl, hb3⟩
      clear c_f_0 c_f_1 c_f_2 c_f_3 c_f_4 c_g_0 c_g_1 c_g_2 c_g_3 c_g_4
      have HK4 := Lib.hid (show Kept W w3 [(W.heap.size + 1, 24, #[.int .i64 op2, .int .i64 a2, .int .i64 b2, .string name2, .slice A2 n2 c2]), (W.heap.size, 24, #[.int .i64 op, .int .i64 a, .int .i64 b, .string name, .slice A n c])] from HK3.out.next hb3)
      clear HK3
      clear hb3
      go_wp2
      go_ret
      exact ⟨ret_bool (by rw [HR.out]; rfl), HK4.out.bel⟩
end Go.Proofs.Ytjkaklfhcefkcaa
