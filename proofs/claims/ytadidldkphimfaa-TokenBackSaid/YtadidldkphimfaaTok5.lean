/- The contract of token.Read. -/
import Derived.Test.YtadidldkphimfaaTok4
namespace Go.Proofs.Ytadidldkphimfaa
set_option linter.unusedVariables false
open Go.RowKit Go.ChangeShapes

def readV (t : FT) (l : List UInt8) : Int × Int := if rightT t = true then (match readF (bytesT t) l with | none => (0, 17) | some n => ((n : Int), 0)) else (0, 1)
def ReadOk (W : World) (r : Int × Int) (e : Ending) (w' : World) : Prop := e = .returned (.tuple #[.int .i64 r.1, .int .i64 r.2]) ∧ Below W.heap.size W w'
theorem ReadOk.of {W : World} {r r' : Int × Int} {e : Ending} {w' : World} (h : r = r') (hk : ReadOk W r' e w') : ReadOk W r e w' := h ▸ hk
theorem ba_toList (s : ByteArray) : s.toList = s.data.toList := ByteArray.toList_eq s
theorem ba_eq (l : List UInt8) (s : ByteArray) : (⟨l.toArray⟩ : ByteArray) = s ↔ l = s.data.toList := by
  constructor
  · rintro rfl; simp
  · rintro rfl; simp

set_option maxRecDepth 100000 in
set_option maxHeartbeats 8000000 in
theorem Read_c {w : World} {B : Nat} {cs : List Value} {t : FT} (h : FTr w B cs t) (s : ByteArray) (hs : s.size ≤ 1000000) (W : World) (hB : Below B w W) (hBW : B ≤ W.heap.size) :
    Calls Try.prog 10 #[.agg cs.toArray, .string s] W (ReadOk W (readV t s.data.toList)) := by
  have HT := Lib.hid h
  have HB := Lib.hid hB
  clear hB
  cases h with
  | mk op a b name A n c vs ks hop ha hb hnm hn hv hnc hcm hr hk =>
    clear hop ha hb hn hv hr hk hnm hnc hcm
    generalize FT.mk op a b name ks = t at HT ⊢
    have HK1 := Lib.hid (show Kept W (W.alloc (.cells #[.int .i64 op, .int .i64 a, .int .i64 b, .string name, .slice A n c] 24)) [(W.heap.size, 24, #[.int .i64 op, .int .i64 a, .int .i64 b, .string name, .slice A n c])] from ((Kept.start W).alloc_at 24 #[.int .i64 op, .int .i64 a, .int .i64 b, .string name, .slice A n c] (W.heap.size) (by simp)))
    go_enter Try.func10, Try.ntmps10
    go_wp2_with fail
    with_reducible refine (Right_c HT.out _ (HB.out.trans (HK1.out.bel.mono hBW)) (Nat.le_trans hBW HK1.out.size)).mono ?_
    rintro e w1 ⟨rfl, hb1⟩
    have HK2 := Lib.hid (show Kept W w1 [(W.heap.size, 24, #[.int .i64 op, .int .i64 a, .int .i64 b, .string name, .slice A n c])] from HK1.out.next hb1)
    clear HK1
    clear hb1
    cases hrt : rightT t
    · have HE := Lib.hid (show readV t s.data.toList = (0, 1) from by unfold readV; rw [hrt]; rfl)
      clear hrt
      go_wp2
      go_ret2
      exact ReadOk.of HE.out ⟨rfl, HK2.out.bel⟩
    go_wp2_with fail
    with_reducible refine (number_c s _ hs).mono ?_
    cases hnf : numF s.data.toList with
    | none =>
      rw [show numR s.data.toList = (0, false) from by unfold numR; rw [hnf]]
      rintro e w2 ⟨rfl, hb2⟩
      have HE := Lib.hid (show readV t s.data.toList = (0, 17) from by unfold readV readF; rw [hrt, hnf]; rfl)
      clear hrt hnf
      have HK3 := Lib.hid (show Kept W w2 [(W.heap.size, 24, #[.int .i64 op, .int .i64 a, .int .i64 b, .string name, .slice A n c])] from HK2.out.next hb2)
      clear HK2
      clear hb2
      go_wp2
      go_ret2
      exact ReadOk.of HE.out ⟨rfl, HK3.out.bel⟩
    | some q =>
      rw [show numR s.data.toList = ((q : Int), true) from by unfold numR; rw [hnf]]
      rintro e w2 ⟨rfl, hb2⟩
      have hq := numF_le hnf
      have HRD := Lib.hid (show readV t s.data.toList = if tokB (bytesT t) q = s.data.toList then ((q : Int), 0) else (0, 17) from by unfold readV readF; rw [hrt, hnf]; by_cases h : tokB (bytesT t) q = s.data.toList <;> simp [h])
      have hmk : makeR t (q : Int) = (⟨(tokB (bytesT t) q).toArray⟩, 0) := by unfold makeR makeB; rw [hrt, decide_eq_true (by omega)]; simp
      clear hrt hnf
      have HK3 := Lib.hid (show Kept W w2 [(W.heap.size, 24, #[.int .i64 op, .int .i64 a, .int .i64 b, .string name, .slice A n c])] from HK2.out.next hb2)
      clear HK2
      clear hb2
      have c_f_0 : w2.cell? ⟨W.heap.size, 0, none⟩ = some (.int .i64 op) := HK3.out.cell 0 rfl 0
      have c_f_1 : w2.cell? ⟨W.heap.size, 1, none⟩ = some (.int .i64 a) := HK3.out.cell 0 rfl 1
      have c_f_2 : w2.cell? ⟨W.heap.size, 2, none⟩ = some (.int .i64 b) := HK3.out.cell 0 rfl 2
      have c_f_3 : w2.cell? ⟨W.heap.size, 3, none⟩ = some (.string name) := HK3.out.cell 0 rfl 3
      have c_f_4 : w2.cell? ⟨W.heap.size, 4, none⟩ = some (.slice A n c) := HK3.out.cell 0 rfl 4
      go_wp2_with fail
      with_reducible refine (Make_c HT.out (q : Int) _ (HB.out.trans (HK3.out.bel.mono hBW)) (Nat.le_trans hBW HK3.out.size)).mono ?_
      rw [hmk]
      rintro e w3 ⟨rfl, hb3⟩
      clear hmk
      clear c_f_0 c_f_1 c_f_2 c_f_3 c_f_4
      have HK4 := Lib.hid (show Kept W w3 [(W.heap.size, 24, #[.int .i64 op, .int .i64 a, .int .i64 b, .string name, .slice A n c])] from HK3.out.next hb3)
      clear HK3
      clear hb3
      generalize tokB (bytesT t) q = tk at HRD ⊢
      by_cases heq : tk = s.data.toList
      · have HE := Lib.hid (show readV t s.data.toList = ((q : Int), 0) from by rw [HRD.out, if_pos heq])
        obtain rfl : (⟨tk.toArray⟩ : ByteArray) = s := (ba_eq tk s).2 heq
        clear HRD heq
        go_wp2
        go_ret2
        exact ReadOk.of HE.out ⟨rfl, HK4.out.bel⟩
      · have HE := Lib.hid (show readV t s.data.toList = (0, 17) from by rw [HRD.out, if_neg heq])
        have hne : ¬ (⟨tk.toArray⟩ : ByteArray) = s := fun h => heq ((ba_eq tk s).1 h)
        have hnb : (tk == s.toList) = false := by rw [ba_toList, beq_eq_false_iff_ne]; exact heq
        clear HRD heq
        go_wp2
        go_ret2
        exact ReadOk.of HE.out ⟨rfl, HK4.out.bel⟩
end Go.Proofs.Ytadidldkphimfaa
