/- Contracts of filter.Bytes and filter.Same. -/
import Derived.Test.YtadidldkphimfaaPut
import Derived.Test.YtadidldkphimfaaSame
namespace Go.Proofs.Ytadidldkphimfaa
set_option linter.unusedVariables false
open Go.RowKit Go.ChangeShapes

def bytesT (t : FT) : List UInt8 := if rightT t = true then encF t else []
def BytesOk (l : List UInt8) (W : World) (e : Ending) (w' : World) : Prop := ∃ v, e = .returned v ∧ w'.ownsRow W.heap.size 5 1 v l.length (byteCells l) ∧ Below W.heap.size W w'
theorem bytesT_len (t : FT) : (bytesT t).length ≤ 6000 := by
  unfold bytesT
  split
  · rename_i h
    obtain ⟨h1, _, h2⟩ := right_facts t h
    have := encF_len t h1 (by omega)
    omega
  · simp

theorem Bytes_c {w : World} {B : Nat} {cs : List Value} {t : FT} (h : FTr w B cs t) (W : World) (hB : Below B w W) (hBW : B ≤ W.heap.size) : Calls Try.prog 19 #[.agg cs.toArray] W (BytesOk (bytesT t) W) := by
  have HT := Lib.hid h
  have HB := Lib.hid hB
  clear hB
  cases h with
  | mk op a b name A n c vs ks hop ha hb hnm hn hv hnc hcm hr hk =>
    clear hop ha hb hn hv hr hk hnm hnc hcm
    generalize FT.mk op a b name ks = t at HT ⊢
    unfold BytesOk
    have HK1 := Lib.hid (show Kept W (W.alloc (.cells #[.int .i64 op, .int .i64 a, .int .i64 b, .string name, .slice A n c] 24)) [(W.heap.size, 24, #[.int .i64 op, .int .i64 a, .int .i64 b, .string name, .slice A n c])] from ((Kept.start W).alloc_at 24 #[.int .i64 op, .int .i64 a, .int .i64 b, .string name, .slice A n c] (W.heap.size) (by simp)))
    go_enter Try.func19, Try.ntmps19
    go_wp2_with fail
    with_reducible refine (Right_c HT.out _ (HB.out.trans (HK1.out.bel.mono hBW)) (Nat.le_trans hBW HK1.out.size)).mono ?_
    rintro e w1 ⟨rfl, hb1⟩
    have HK2 := Lib.hid (show Kept W w1 [(W.heap.size, 24, #[.int .i64 op, .int .i64 a, .int .i64 b, .string name, .slice A n c])] from HK1.out.next hb1)
    clear HK1
    clear hb1
    cases hrt : rightT t
    · have HE := Lib.hid (show bytesT t = [] from by unfold bytesT; rw [hrt]; rfl)
      clear hrt
      go_wp2
      go_ret
      exact ⟨_, rfl, by rw [HE.out]; exact ⟨rfl, .inl ⟨rfl, rfl⟩⟩, HK2.out.bel⟩
    have HE := Lib.hid (show bytesT t = encF t from by unfold bytesT; rw [hrt]; rfl)
    obtain ⟨hev, _, hct⟩ := right_facts t hrt
    have HEV := Lib.hid hev
    clear hrt hev
    have c_f_0 : w1.cell? ⟨W.heap.size, 0, none⟩ = some (.int .i64 op) := HK2.out.cell 0 rfl 0
    have c_f_1 : w1.cell? ⟨W.heap.size, 1, none⟩ = some (.int .i64 a) := HK2.out.cell 0 rfl 1
    have c_f_2 : w1.cell? ⟨W.heap.size, 2, none⟩ = some (.int .i64 b) := HK2.out.cell 0 rfl 2
    have c_f_3 : w1.cell? ⟨W.heap.size, 3, none⟩ = some (.string name) := HK2.out.cell 0 rfl 3
    have c_f_4 : w1.cell? ⟨W.heap.size, 4, none⟩ = some (.slice A n c) := HK2.out.cell 0 rfl 4
    go_wp2_with fail
    with_reducible refine (put_c HT.out HEV.out (by omega) _ (HB.out.trans (HK2.out.bel.mono hBW)) (Nat.le_trans hBW HK2.out.size) none 0 0 0 [] (Reads.none_) (Nat.zero_le _) (by omega)).mono ?_
    rintro e w2 ⟨v, rfl, hown, hb2⟩
    rw [Nat.zero_add, List.nil_append] at hown
    obtain ⟨A2, c2, rfl, _, _, _, hr2⟩ := own_reads hown
    have HO := Lib.hid (ownsRow_base (base' := W.heap.size) hown HK2.out.size)
    clear hown hr2
    clear c_f_0 c_f_1 c_f_2 c_f_3 c_f_4
    have HK3 := Lib.hid (show Kept W w2 [(W.heap.size, 24, #[.int .i64 op, .int .i64 a, .int .i64 b, .string name, .slice A n c])] from HK2.out.next hb2)
    clear HK2
    clear hb2
    go_wp2
    go_ret
    exact ⟨_, rfl, by rw [HE.out]; exact HO.out, HK3.out.bel⟩

end Go.Proofs.Ytadidldkphimfaa
