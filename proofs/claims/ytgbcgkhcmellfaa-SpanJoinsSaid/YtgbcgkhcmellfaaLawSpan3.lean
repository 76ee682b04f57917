/- The walk of SpanJoins. -/
import Derived.Test.YtgbcgkhcmellfaaLawSpan
import Derived.Test.YtgbcgkhcmellfaaSpanP
import Derived.Test.YtgbcgkhcmellfaaKept
namespace Go.Proofs.Ytgbcgkhcmellfaa
set_option linter.unusedVariables false
open Go.RowKit Go.ChangeShapes

theorem OfE_bne (t : FT) (h : rightT t = true) : (OfE t != 0) = false := by unfold OfE; rw [h]; rfl
theorem OfE_bne' (t : FT) (h : rightT t = false) : (OfE t != 0) = true := by unfold OfE; rw [h]; rfl
theorem OfP_right (t : FT) (h : rightT t = true) : OfP t = ofF t := by unfold OfP; rw [h]; rfl
/-- the tree of two filters that stand in boxes. -/
theorem FTr.both {w W : World} {cs1 cs2 : List Value} {t1 t2 : FT} (h1 : FTr w w.heap.size cs1 t1) (h2 : FTr w w.heap.size cs2 t2) (hb : Below w.heap.size w W) (op : Int) (hop : (Lit.int .i64 op).wf = true) (cs : Array Value) (hcs : cs = (cs1 ++ cs2).toArray) (g : Nat) (hg : W.heap.size = g) :
    FTr (W.alloc (.cells cs 24)) (W.alloc (.cells cs 24)).heap.size [.int .i64 op, .int .i64 0, .int .i64 0, .string ⟨#[]⟩, .slice (some ⟨g, 0, none⟩) 2 2] (.mk op 0 0 ⟨#[]⟩ [t1, t2]) := by
  subst hcs hg
  have hs := hb.size
  exact FTr.two (h1.move (hb.alloc hs _) (by simp; omega)) (h2.move (hb.alloc hs _) (by simp; omega)) (Blk.new W _ _) (by simp) op hop

set_option maxHeartbeats 4000000 in
set_option maxRecDepth 100000 in
theorem SpanJoins_walk (cs : List Value) (t : FT) (cs2 : List Value) (t2 : FT) (q a : Int) (w : World) (h : FTr w w.heap.size cs t) (h2 : FTr w w.heap.size cs2 t2) :
    Calls Try.prog 4 #[.agg cs.toArray, .agg cs2.toArray, .int .i64 q, .int .i64 a] w fun e w' => e = .returned (.bool true) ∧ Below w.heap.size w w' := by
  have HT := Lib.hid h
  have HT2 := Lib.hid h2
  cases h with
  | mk op fa fb name A n c vs ks hop ha hb hnm hn hv hnc hcm hr hk =>
    clear hop ha hb hn hv hr hk hnm hnc hcm
    cases h2 with
    | mk op2 fa2 fb2 name2 A2 n2 c2 vs2 ks2 hop ha hb hnm hn hv hnc hcm hr hk =>
      clear hop ha hb hn hv hr hk hnm hnc hcm
      generalize FT.mk op fa fb name ks = t at HT
      generalize FT.mk op2 fa2 fb2 name2 ks2 = t2 at HT2
      have HK1 := Lib.hid (show Kept w ((w.alloc (.cells #[.int .i64 op, .int .i64 fa, .int .i64 fb, .string name, .slice A n c] 24)).alloc (.cells #[.int .i64 op2, .int .i64 fa2, .int .i64 fb2, .string name2, .slice A2 n2 c2] 24)) [(w.heap.size + 1, 24, #[.int .i64 op2, .int .i64 fa2, .int .i64 fb2, .string name2, .slice A2 n2 c2]), (w.heap.size, 24, #[.int .i64 op, .int .i64 fa, .int .i64 fb, .string name, .slice A n c])] from (((Kept.start w).alloc_at 24 #[.int .i64 op, .int .i64 fa, .int .i64 fb, .string name, .slice A n c] (w.heap.size) (by simp)).alloc_at 24 #[.int .i64 op2, .int .i64 fa2, .int .i64 fb2, .string name2, .slice A2 n2 c2] (w.heap.size + 1) (by simp)))
      go_enter Try.func4, Try.ntmps4
      go_wp2_with fail
      with_reducible refine (awake_c _).mono ?_
      rintro e w1 ⟨rfl, hb1⟩
      have HK2 := Lib.hid (show Kept w w1 [(w.heap.size + 1, 24, #[.int .i64 op2, .int .i64 fa2, .int .i64 fb2, .string name2, .slice A2 n2 c2]), (w.heap.size, 24, #[.int .i64 op, .int .i64 fa, .int .i64 fb, .string name, .slice A n c])] from HK1.out.next hb1)
      clear HK1
      clear hb1
      have c_f_0 : w1.cell? ⟨w.heap.size, 0, none⟩ = some (.int .i64 op) := HK2.out.cell 1 rfl 0
      have c_f_1 : w1.cell? ⟨w.heap.size, 1, none⟩ = some (.int .i64 fa) := HK2.out.cell 1 rfl 1
      have c_f_2 : w1.cell? ⟨w.heap.size, 2, none⟩ = some (.int .i64 fb) := HK2.out.cell 1 rfl 2
      have c_f_3 : w1.cell? ⟨w.heap.size, 3, none⟩ = some (.string name) := HK2.out.cell 1 rfl 3
      have c_f_4 : w1.cell? ⟨w.heap.size, 4, none⟩ = some (.slice A n c) := HK2.out.cell 1 rfl 4
      have c_g_0 : w1.cell? ⟨w.heap.size + 1, 0, none⟩ = some (.int .i64 op2) := HK2.out.cell 0 rfl 0
      have c_g_1 : w1.cell? ⟨w.heap.size + 1, 1, none⟩ = some (.int .i64 fa2) := HK2.out.cell 0 rfl 1
      have c_g_2 : w1.cell? ⟨w.heap.size + 1, 2, none⟩ = some (.int .i64 fb2) := HK2.out.cell 0 rfl 2
      have c_g_3 : w1.cell? ⟨w.heap.size + 1, 3, none⟩ = some (.string name2) := HK2.out.cell 0 rfl 3
      have c_g_4 : w1.cell? ⟨w.heap.size + 1, 4, none⟩ = some (.slice A2 n2 c2) := HK2.out.cell 0 rfl 4
      go_wp2_with fail
      with_reducible refine (Short_c HT.out _ HK2.out.bel HK2.out.size).mono ?_
      rintro e w2 ⟨rfl, hb2⟩
      clear c_f_0 c_f_1 c_f_2 c_f_3 c_f_4 c_g_0 c_g_1 c_g_2 c_g_3 c_g_4
      have HK3 := Lib.hid (show Kept w w2 [(w.heap.size + 1, 24, #[.int .i64 op2, .int .i64 fa2, .int .i64 fb2, .string name2, .slice A2 n2 c2]), (w.heap.size, 24, #[.int .i64 op, .int .i64 fa, .int .i64 fb, .string name, .slice A n c])] from HK2.out.next hb2)
      clear HK2
      clear hb2
      cases hsh : shortF t
      · go_wp2
        go_ret
        exact ⟨rfl, HK3.out.bel⟩
      clear hsh
      have c_f_0 : w2.cell? ⟨w.heap.size, 0, none⟩ = some (.int .i64 op) := HK3.out.cell 1 rfl 0
      have c_f_1 : w2.cell? ⟨w.heap.size, 1, none⟩ = some (.int .i64 fa) := HK3.out.cell 1 rfl 1
      have c_f_2 : w2.cell? ⟨w.heap.size, 2, none⟩ = some (.int .i64 fb) := HK3.out.cell 1 rfl 2
      have c_f_3 : w2.cell? ⟨w.heap.size, 3, none⟩ = some (.string name) := HK3.out.cell 1 rfl 3
      have c_f_4 : w2.cell? ⟨w.heap.size, 4, none⟩ = some (.slice A n c) := HK3.out.cell 1 rfl 4
      have c_g_0 : w2.cell? ⟨w.heap.size + 1, 0, none⟩ = some (.int .i64 op2) := HK3.out.cell 0 rfl 0
      have c_g_1 : w2.cell? ⟨w.heap.size + 1, 1, none⟩ = some (.int .i64 fa2) := HK3.out.cell 0 rfl 1
      have c_g_2 : w2.cell? ⟨w.heap.size + 1, 2, none⟩ = some (.int .i64 fb2) := HK3.out.cell 0 rfl 2
      have c_g_3 : w2.cell? ⟨w.heap.size + 1, 3, none⟩ = some (.string name2) := HK3.out.cell 0 rfl 3
      have c_g_4 : w2.cell? ⟨w.heap.size + 1, 4, none⟩ = some (.slice A2 n2 c2) := HK3.out.cell 0 rfl 4
      go_wp2_with fail
      with_reducible refine (Short_c HT2.out _ HK3.out.bel HK3.out.size).mono ?_
      rintro e w3 ⟨rfl, hb3⟩
      clear c_f_0 c_f_1 c_f_2 c_f_3 c_f_4 c_g_0 c_g_1 c_g_2 c_g_3 c_g_4
      have HK4 := Lib.hid (show Kept w w3 [(w.heap.size + 1, 24, #[.int .i64 op2, .int .i64 fa2, .int .i64 fb2, .string name2, .slice A2 n2 c2]), (w.heap.size, 24, #[.int .i64 op, .int .i64 fa, .int .i64 fb, .string name, .slice A n c])] from HK3.out.next hb3)
      clear HK3
      clear hb3
      cases hsh : shortF t2
      · go_wp2
        go_ret
        exact ⟨rfl, HK4.out.bel⟩
      clear hsh
      have c_f_0 : w3.cell? ⟨w.heap.size, 0, none⟩ = some (.int .i64 op) := HK4.out.cell 1 rfl 0
      have c_f_1 : w3.cell? ⟨w.heap.size, 1, none⟩ = some (.int .i64 fa) := HK4.out.cell 1 rfl 1
      have c_f_2 : w3.cell? ⟨w.heap.size, 2, none⟩ = some (.int .i64 fb) := HK4.out.cell 1 rfl 2
      have c_f_3 : w3.cell? ⟨w.heap.size, 3, none⟩ = some (.string name) := HK4.out.cell 1 rfl 3
      have c_f_4 : w3.cell? ⟨w.heap.size, 4, none⟩ = some (.slice A n c) := HK4.out.cell 1 rfl 4
      have c_g_0 : w3.cell? ⟨w.heap.size + 1, 0, none⟩ = some (.int .i64 op2) := HK4.out.cell 0 rfl 0
      have c_g_1 : w3.cell? ⟨w.heap.size + 1, 1, none⟩ = some (.int .i64 fa2) := HK4.out.cell 0 rfl 1
      have c_g_2 : w3.cell? ⟨w.heap.size + 1, 2, none⟩ = some (.int .i64 fb2) := HK4.out.cell 0 rfl 2
      have c_g_3 : w3.cell? ⟨w.heap.size + 1, 3, none⟩ = some (.string name2) := HK4.out.cell 0 rfl 3
      have c_g_4 : w3.cell? ⟨w.heap.size + 1, 4, none⟩ = some (.slice A2 n2 c2) := HK4.out.cell 0 rfl 4
      go_wp2_with fail
      with_reducible refine (Of_c HT.out _ HK4.out.bel HK4.out.size).mono ?_
      rintro e w4 ⟨rfl, hb4⟩
      clear c_f_0 c_f_1 c_f_2 c_f_3 c_f_4 c_g_0 c_g_1 c_g_2 c_g_3 c_g_4
      have HK5 := Lib.hid (show Kept w w4 [(w.heap.size + 1, 24, #[.int .i64 op2, .int .i64 fa2, .int .i64 fb2, .string name2, .slice A2 n2 c2]), (w.heap.size, 24, #[.int .i64 op, .int .i64 fa, .int .i64 fb, .string name, .slice A n c])] from HK4.out.next hb4)
      clear HK4
      clear hb4
      have HK6 := Lib.hid (show Kept w (w4.alloc (.cells #[.int .i64 (OfP t).f, .int .i64 (OfP t).l, .int .i64 (OfP t).r, .int .i64 (OfP t).t] 28)) [(w4.heap.size, 28, #[.int .i64 (OfP t).f, .int .i64 (OfP t).l, .int .i64 (OfP t).r, .int .i64 (OfP t).t]), (w.heap.size + 1, 24, #[.int .i64 op2, .int .i64 fa2, .int .i64 fb2, .string name2, .slice A2 n2 c2]), (w.heap.size, 24, #[.int .i64 op, .int .i64 fa, .int .i64 fb, .string name, .slice A n c])] from HK5.out.alloc 28 #[.int .i64 (OfP t).f, .int .i64 (OfP t).l, .int .i64 (OfP t).r, .int .i64 (OfP t).t])
      clear HK5
      have c_f_0 : (w4.alloc (.cells #[.int .i64 (OfP t).f, .int .i64 (OfP t).l, .int .i64 (OfP t).r, .int .i64 (OfP t).t] 28)).cell? ⟨w.heap.size, 0, none⟩ = some (.int .i64 op) := HK6.out.cell 2 rfl 0
      have c_f_1 : (w4.alloc (.cells #[.int .i64 (OfP t).f, .int .i64 (OfP t).l, .int .i64 (OfP t).r, .int .i64 (OfP t).t] 28)).cell? ⟨w.heap.size, 1, none⟩ = some (.int .i64 fa) := HK6.out.cell 2 rfl 1
      have c_f_2 : (w4.alloc (.cells #[.int .i64 (OfP t).f, .int .i64 (OfP t).l, .int .i64 (OfP t).r, .int .i64 (OfP t).t] 28)).cell? ⟨w.heap.size, 2, none⟩ = some (.int .i64 fb) := HK6.out.cell 2 rfl 2
      have c_f_3 : (w4.alloc (.cells #[.int .i64 (OfP t).f, .int .i64 (OfP t).l, .int .i64 (OfP t).r, .int .i64 (OfP t).t] 28)).cell? ⟨w.heap.size, 3, none⟩ = some (.string name) := HK6.out.cell 2 rfl 3
      have c_f_4 : (w4.alloc (.cells #[.int .i64 (OfP t).f, .int .i64 (OfP t).l, .int .i64 (OfP t).r, .int .i64 (OfP t).t] 28)).cell? ⟨w.heap.size, 4, none⟩ = some (.slice A n c) := HK6.out.cell 2 rfl 4
      have c_g_0 : (w4.alloc (.cells #[.int .i64 (OfP t).f, .int .i64 (OfP t).l, .int .i64 (OfP t).r, .int .i64 (OfP t).t] 28)).cell? ⟨w.heap.size + 1, 0, none⟩ = some (.int .i64 op2) := HK6.out.cell 1 rfl 0
      have c_g_1 : (w4.alloc (.cells #[.int .i64 (OfP t).f, .int .i64 (OfP t).l, .int .i64 (OfP t).r, .int .i64 (OfP t).t] 28)).cell? ⟨w.heap.size + 1, 1, none⟩ = some (.int .i64 fa2) := HK6.out.cell 1 rfl 1
      have c_g_2 : (w4.alloc (.cells #[.int .i64 (OfP t).f, .int .i64 (OfP t).l, .int .i64 (OfP t).r, .int .i64 (OfP t).t] 28)).cell? ⟨w.heap.size + 1, 2, none⟩ = some (.int .i64 fb2) := HK6.out.cell 1 rfl 2
      have c_g_3 : (w4.alloc (.cells #[.int .i64 (OfP t).f, .int .i64 (OfP t).l, .int .i64 (OfP t).r, .int .i64 (OfP t).t] 28)).cell? ⟨w.heap.size + 1, 3, none⟩ = some (.string name2) := HK6.out.cell 1 rfl 3
      have c_g_4 : (w4.alloc (.cells #[.int .i64 (OfP t).f, .int .i64 (OfP t).l, .int .i64 (OfP t).r, .int .i64 (OfP t).t] 28)).cell? ⟨w.heap.size + 1, 4, none⟩ = some (.slice A2 n2 c2) := HK6.out.cell 1 rfl 4
      go_wp2_with fail
      with_reducible refine (Of_c HT2.out _ HK6.out.bel HK6.out.size).mono ?_
      rintro e w5 ⟨rfl, hb5⟩
      clear c_f_0 c_f_1 c_f_2 c_f_3 c_f_4 c_g_0 c_g_1 c_g_2 c_g_3 c_g_4
      have HK7 := Lib.hid (show Kept w w5 [(w4.heap.size, 28, #[.int .i64 (OfP t).f, .int .i64 (OfP t).l, .int .i64 (OfP t).r, .int .i64 (OfP t).t]), (w.heap.size + 1, 24, #[.int .i64 op2, .int .i64 fa2, .int .i64 fb2, .string name2, .slice A2 n2 c2]), (w.heap.size, 24, #[.int .i64 op, .int .i64 fa, .int .i64 fb, .string name, .slice A n c])] from HK6.out.next hb5)
      clear HK6
      clear hb5
      generalize w4.heap.size = ga at HK7 ⊢
      have HK8 := Lib.hid (show Kept w (w5.alloc (.cells #[.int .i64 (OfP t2).f, .int .i64 (OfP t2).l, .int .i64 (OfP t2).r, .int .i64 (OfP t2).t] 28)) [(w5.heap.size, 28, #[.int .i64 (OfP t2).f, .int .i64 (OfP t2).l, .int .i64 (OfP t2).r, .int .i64 (OfP t2).t]), (ga, 28, #[.int .i64 (OfP t).f, .int .i64 (OfP t).l, .int .i64 (OfP t).r, .int .i64 (OfP t).t]), (w.heap.size + 1, 24, #[.int .i64 op2, .int .i64 fa2, .int .i64 fb2, .string name2, .slice A2 n2 c2]), (w.heap.size, 24, #[.int .i64 op, .int .i64 fa, .int .i64 fb, .string name, .slice A n c])] from HK7.out.alloc 28 #[.int .i64 (OfP t2).f, .int .i64 (OfP t2).l, .int .i64 (OfP t2).r, .int .i64 (OfP t2).t])
      clear HK7
      have c_f_0 : (w5.alloc (.cells #[.int .i64 (OfP t2).f, .int .i64 (OfP t2).l, .int .i64 (OfP t2).r, .int .i64 (OfP t2).t] 28)).cell? ⟨w.heap.size, 0, none⟩ = some (.int .i64 op) := HK8.out.cell 3 rfl 0
      have c_f_1 : (w5.alloc (.cells #[.int .i64 (OfP t2).f, .int .i64 (OfP t2).l, .int .i64 (OfP t2).r, .int .i64 (OfP t2).t] 28)).cell? ⟨w.heap.size, 1, none⟩ = some (.int .i64 fa) := HK8.out.cell 3 rfl 1
      have c_f_2 : (w5.alloc (.cells #[.int .i64 (OfP t2).f, .int .i64 (OfP t2).l, .int .i64 (OfP t2).r, .int .i64 (OfP t2).t] 28)).cell? ⟨w.heap.size, 2, none⟩ = some (.int .i64 fb) := HK8.out.cell 3 rfl 2
      have c_f_3 : (w5.alloc (.cells #[.int .i64 (OfP t2).f, .int .i64 (OfP t2).l, .int .i64 (OfP t2).r, .int .i64 (OfP t2).t] 28)).cell? ⟨w.heap.size, 3, none⟩ = some (.string name) := HK8.out.cell 3 rfl 3
      have c_f_4 : (w5.alloc (.cells #[.int .i64 (OfP t2).f, .int .i64 (OfP t2).l, .int .i64 (OfP t2).r, .int .i64 (OfP t2).t] 28)).cell? ⟨w.heap.size, 4, none⟩ = some (.slice A n c) := HK8.out.cell 3 rfl 4
      have c_g_0 : (w5.alloc (.cells #[.int .i64 (OfP t2).f, .int .i64 (OfP t2).l, .int .i64 (OfP t2).r, .int .i64 (OfP t2).t] 28)).cell? ⟨w.heap.size + 1, 0, none⟩ = some (.int .i64 op2) := HK8.out.cell 2 rfl 0
      have c_g_1 : (w5.alloc (.cells #[.int .i64 (OfP t2).f, .int .i64 (OfP t2).l, .int .i64 (OfP t2).r, .int .i64 (OfP t2).t] 28)).cell? ⟨w.heap.size + 1, 1, none⟩ = some (.int .i64 fa2) := HK8.out.cell 2 rfl 1
      have c_g_2 : (w5.alloc (.cells #[.int .i64 (OfP t2).f, .int .i64 (OfP t2).l, .int .i64 (OfP t2).r, .int .i64 (OfP t2).t] 28)).cell? ⟨w.heap.size + 1, 2, none⟩ = some (.int .i64 fb2) := HK8.out.cell 2 rfl 2
      have c_g_3 : (w5.alloc (.cells #[.int .i64 (OfP t2).f, .int .i64 (OfP t2).l, .int .i64 (OfP t2).r, .int .i64 (OfP t2).t] 28)).cell? ⟨w.heap.size + 1, 3, none⟩ = some (.string name2) := HK8.out.cell 2 rfl 3
      have c_g_4 : (w5.alloc (.cells #[.int .i64 (OfP t2).f, .int .i64 (OfP t2).l, .int .i64 (OfP t2).r, .int .i64 (OfP t2).t] 28)).cell? ⟨w.heap.size + 1, 4, none⟩ = some (.slice A2 n2 c2) := HK8.out.cell 2 rfl 4
      have HF := Lib.hid (FTr.both (W := (w5.alloc (.cells #[.int .i64 (OfP t2).f, .int .i64 (OfP t2).l, .int .i64 (OfP t2).r, .int .i64 (OfP t2).t] 28))) HT.out HT2.out HK8.out.bel 6 (by decide) #[.int .i64 op, .int .i64 fa, .int .i64 fb, .string name, .slice A n c, .int .i64 op2, .int .i64 fa2, .int .i64 fb2, .string name2, .slice A2 n2 c2] rfl (w5.heap.size + 1) (by simp))
      go_wp2_with fail
      have HK9 := Lib.hid (show Kept w ((w5.alloc (.cells #[.int .i64 (OfP t2).f, .int .i64 (OfP t2).l, .int .i64 (OfP t2).r, .int .i64 (OfP t2).t] 28)).alloc (.cells #[.int .i64 op, .int .i64 fa, .int .i64 fb, .string name, .slice A n c, .int .i64 op2, .int .i64 fa2, .int .i64 fb2, .string name2, .slice A2 n2 c2] 24)) [(w5.heap.size, 28, #[.int .i64 (OfP t2).f, .int .i64 (OfP t2).l, .int .i64 (OfP t2).r, .int .i64 (OfP t2).t]), (ga, 28, #[.int .i64 (OfP t).f, .int .i64 (OfP t).l, .int .i64 (OfP t).r, .int .i64 (OfP t).t]), (w.heap.size + 1, 24, #[.int .i64 op2, .int .i64 fa2, .int .i64 fb2, .string name2, .slice A2 n2 c2]), (w.heap.size, 24, #[.int .i64 op, .int .i64 fa, .int .i64 fb, .string name, .slice A n c])] from HK8.out.alloc_off (.cells #[.int .i64 op, .int .i64 fa, .int .i64 fb, .string name, .slice A n c, .int .i64 op2, .int .i64 fa2, .int .i64 fb2, .string name2, .slice A2 n2 c2] 24))
      clear HK8
      with_reducible refine (Of_c HF.out _ (Below.refl _ _) (Nat.le_refl _)).mono ?_
      rintro e w6 ⟨rfl, hb6⟩
      clear HF
      clear c_f_0 c_f_1 c_f_2 c_f_3 c_f_4 c_g_0 c_g_1 c_g_2 c_g_3 c_g_4
      have HK10 := Lib.hid (show Kept w w6 [(w5.heap.size, 28, #[.int .i64 (OfP t2).f, .int .i64 (OfP t2).l, .int .i64 (OfP t2).r, .int .i64 (OfP t2).t]), (ga, 28, #[.int .i64 (OfP t).f, .int .i64 (OfP t).l, .int .i64 (OfP t).r, .int .i64 (OfP t).t]), (w.heap.size + 1, 24, #[.int .i64 op2, .int .i64 fa2, .int .i64 fb2, .string name2, .slice A2 n2 c2]), (w.heap.size, 24, #[.int .i64 op, .int .i64 fa, .int .i64 fb, .string name, .slice A n c])] from HK9.out.next hb6)
      clear HK9
      clear hb6
      generalize w5.heap.size = gb at HK10 ⊢
      generalize h6 : (FT.mk 6 0 0 ⟨#[]⟩ [t, t2]) = t6
      have H6 := Lib.hid h6.symm
      clear h6
      have HK11 := Lib.hid (show Kept w (w6.alloc (.cells #[.int .i64 (OfP t6).f, .int .i64 (OfP t6).l, .int .i64 (OfP t6).r, .int .i64 (OfP t6).t] 28)) [(w6.heap.size, 28, #[.int .i64 (OfP t6).f, .int .i64 (OfP t6).l, .int .i64 (OfP t6).r, .int .i64 (OfP t6).t]), (gb, 28, #[.int .i64 (OfP t2).f, .int .i64 (OfP t2).l, .int .i64 (OfP t2).r, .int .i64 (OfP t2).t]), (ga, 28, #[.int .i64 (OfP t).f, .int .i64 (OfP t).l, .int .i64 (OfP t).r, .int .i64 (OfP t).t]), (w.heap.size + 1, 24, #[.int .i64 op2, .int .i64 fa2, .int .i64 fb2, .string name2, .slice A2 n2 c2]), (w.heap.size, 24, #[.int .i64 op, .int .i64 fa, .int .i64 fb, .string name, .slice A n c])] from HK10.out.alloc 28 #[.int .i64 (OfP t6).f, .int .i64 (OfP t6).l, .int .i64 (OfP t6).r, .int .i64 (OfP t6).t])
      clear HK10
      have c_f_0 : (w6.alloc (.cells #[.int .i64 (OfP t6).f, .int .i64 (OfP t6).l, .int .i64 (OfP t6).r, .int .i64 (OfP t6).t] 28)).cell? ⟨w.heap.size, 0, none⟩ = some (.int .i64 op) := HK11.out.cell 4 rfl 0
      have c_f_1 : (w6.alloc (.cells #[.int .i64 (OfP t6).f, .int .i64 (OfP t6).l, .int .i64 (OfP t6).r, .int .i64 (OfP t6).t] 28)).cell? ⟨w.heap.size, 1, none⟩ = some (.int .i64 fa) := HK11.out.cell 4 rfl 1
      have c_f_2 : (w6.alloc (.cells #[.int .i64 (OfP t6).f, .int .i64 (OfP t6).l, .int .i64 (OfP t6).r, .int .i64 (OfP t6).t] 28)).cell? ⟨w.heap.size, 2, none⟩ = some (.int .i64 fb) := HK11.out.cell 4 rfl 2
      have c_f_3 : (w6.alloc (.cells #[.int .i64 (OfP t6).f, .int .i64 (OfP t6).l, .int .i64 (OfP t6).r, .int .i64 (OfP t6).t] 28)).cell? ⟨w.heap.size, 3, none⟩ = some (.string name) := HK11.out.cell 4 rfl 3
      have c_f_4 : (w6.alloc (.cells #[.int .i64 (OfP t6).f, .int .i64 (OfP t6).l, .int .i64 (OfP t6).r, .int .i64 (OfP t6).t] 28)).cell? ⟨w.heap.size, 4, none⟩ = some (.slice A n c) := HK11.out.cell 4 rfl 4
      have c_g_0 : (w6.alloc (.cells #[.int .i64 (OfP t6).f, .int .i64 (OfP t6).l, .int .i64 (OfP t6).r, .int .i64 (OfP t6).t] 28)).cell? ⟨w.heap.size + 1, 0, none⟩ = some (.int .i64 op2) := HK11.out.cell 3 rfl 0
      have c_g_1 : (w6.alloc (.cells #[.int .i64 (OfP t6).f, .int .i64 (OfP t6).l, .int .i64 (OfP t6).r, .int .i64 (OfP t6).t] 28)).cell? ⟨w.heap.size + 1, 1, none⟩ = some (.int .i64 fa2) := HK11.out.cell 3 rfl 1
      have c_g_2 : (w6.alloc (.cells #[.int .i64 (OfP t6).f, .int .i64 (OfP t6).l, .int .i64 (OfP t6).r, .int .i64 (OfP t6).t] 28)).cell? ⟨w.heap.size + 1, 2, none⟩ = some (.int .i64 fb2) := HK11.out.cell 3 rfl 2
      have c_g_3 : (w6.alloc (.cells #[.int .i64 (OfP t6).f, .int .i64 (OfP t6).l, .int .i64 (OfP t6).r, .int .i64 (OfP t6).t] 28)).cell? ⟨w.heap.size + 1, 3, none⟩ = some (.string name2) := HK11.out.cell 3 rfl 3
      have c_g_4 : (w6.alloc (.cells #[.int .i64 (OfP t6).f, .int .i64 (OfP t6).l, .int .i64 (OfP t6).r, .int .i64 (OfP t6).t] 28)).cell? ⟨w.heap.size + 1, 4, none⟩ = some (.slice A2 n2 c2) := HK11.out.cell 3 rfl 4
      have HF := Lib.hid (FTr.both (W := (w6.alloc (.cells #[.int .i64 (OfP t6).f, .int .i64 (OfP t6).l, .int .i64 (OfP t6).r, .int .i64 (OfP t6).t] 28))) HT.out HT2.out HK11.out.bel 7 (by decide) #[.int .i64 op, .int .i64 fa, .int .i64 fb, .string name, .slice A n c, .int .i64 op2, .int .i64 fa2, .int .i64 fb2, .string name2, .slice A2 n2 c2] rfl (w6.heap.size + 1) (by simp))
      go_wp2_with fail
      have HK12 := Lib.hid (show Kept w ((w6.alloc (.cells #[.int .i64 (OfP t6).f, .int .i64 (OfP t6).l, .int .i64 (OfP t6).r, .int .i64 (OfP t6).t] 28)).alloc (.cells #[.int .i64 op, .int .i64 fa, .int .i64 fb, .string name, .slice A n c, .int .i64 op2, .int .i64 fa2, .int .i64 fb2, .string name2, .slice A2 n2 c2] 24)) [(w6.heap.size, 28, #[.int .i64 (OfP t6).f, .int .i64 (OfP t6).l, .int .i64 (OfP t6).r, .int .i64 (OfP t6).t]), (gb, 28, #[.int .i64 (OfP t2).f, .int .i64 (OfP t2).l, .int .i64 (OfP t2).r, .int .i64 (OfP t2).t]), (ga, 28, #[.int .i64 (OfP t).f, .int .i64 (OfP t).l, .int .i64 (OfP t).r, .int .i64 (OfP t).t]), (w.heap.size + 1, 24, #[.int .i64 op2, .int .i64 fa2, .int .i64 fb2, .string name2, .slice A2 n2 c2]), (w.heap.size, 24, #[.int .i64 op, .int .i64 fa, .int .i64 fb, .string name, .slice A n c])] from HK11.out.alloc_off (.cells #[.int .i64 op, .int .i64 fa, .int .i64 fb, .string name, .slice A n c, .int .i64 op2, .int .i64 fa2, .int .i64 fb2, .string name2, .slice A2 n2 c2] 24))
      clear HK11
      with_reducible refine (Of_c HF.out _ (Below.refl _ _) (Nat.le_refl _)).mono ?_
      rintro e w7 ⟨rfl, hb7⟩
      clear HF
      clear c_f_0 c_f_1 c_f_2 c_f_3 c_f_4 c_g_0 c_g_1 c_g_2 c_g_3 c_g_4
      have HK13 := Lib.hid (show Kept w w7 [(w6.heap.size, 28, #[.int .i64 (OfP t6).f, .int .i64 (OfP t6).l, .int .i64 (OfP t6).r, .int .i64 (OfP t6).t]), (gb, 28, #[.int .i64 (OfP t2).f, .int .i64 (OfP t2).l, .int .i64 (OfP t2).r, .int .i64 (OfP t2).t]), (ga, 28, #[.int .i64 (OfP t).f, .int .i64 (OfP t).l, .int .i64 (OfP t).r, .int .i64 (OfP t).t]), (w.heap.size + 1, 24, #[.int .i64 op2, .int .i64 fa2, .int .i64 fb2, .string name2, .slice A2 n2 c2]), (w.heap.size, 24, #[.int .i64 op, .int .i64 fa, .int .i64 fb, .string name, .slice A n c])] from HK12.out.next hb7)
      clear HK12
      clear hb7
      generalize w6.heap.size = gc at HK13 ⊢
      generalize h7 : (FT.mk 7 0 0 ⟨#[]⟩ [t, t2]) = t7
      have H7 := Lib.hid h7.symm
      clear h7
      have HK14 := Lib.hid (show Kept w (w7.alloc (.cells #[.int .i64 (OfP t7).f, .int .i64 (OfP t7).l, .int .i64 (OfP t7).r, .int .i64 (OfP t7).t] 28)) [(w7.heap.size, 28, #[.int .i64 (OfP t7).f, .int .i64 (OfP t7).l, .int .i64 (OfP t7).r, .int .i64 (OfP t7).t]), (gc, 28, #[.int .i64 (OfP t6).f, .int .i64 (OfP t6).l, .int .i64 (OfP t6).r, .int .i64 (OfP t6).t]), (gb, 28, #[.int .i64 (OfP t2).f, .int .i64 (OfP t2).l, .int .i64 (OfP t2).r, .int .i64 (OfP t2).t]), (ga, 28, #[.int .i64 (OfP t).f, .int .i64 (OfP t).l, .int .i64 (OfP t).r, .int .i64 (OfP t).t]), (w.heap.size + 1, 24, #[.int .i64 op2, .int .i64 fa2, .int .i64 fb2, .string name2, .slice A2 n2 c2]), (w.heap.size, 24, #[.int .i64 op, .int .i64 fa, .int .i64 fb, .string name, .slice A n c])] from HK13.out.alloc 28 #[.int .i64 (OfP t7).f, .int .i64 (OfP t7).l, .int .i64 (OfP t7).r, .int .i64 (OfP t7).t])
      clear HK13
      have c_f_0 : (w7.alloc (.cells #[.int .i64 (OfP t7).f, .int .i64 (OfP t7).l, .int .i64 (OfP t7).r, .int .i64 (OfP t7).t] 28)).cell? ⟨w.heap.size, 0, none⟩ = some (.int .i64 op) := HK14.out.cell 5 rfl 0
      have c_f_1 : (w7.alloc (.cells #[.int .i64 (OfP t7).f, .int .i64 (OfP t7).l, .int .i64 (OfP t7).r, .int .i64 (OfP t7).t] 28)).cell? ⟨w.heap.size, 1, none⟩ = some (.int .i64 fa) := HK14.out.cell 5 rfl 1
      have c_f_2 : (w7.alloc (.cells #[.int .i64 (OfP t7).f, .int .i64 (OfP t7).l, .int .i64 (OfP t7).r, .int .i64 (OfP t7).t] 28)).cell? ⟨w.heap.size, 2, none⟩ = some (.int .i64 fb) := HK14.out.cell 5 rfl 2
      have c_f_3 : (w7.alloc (.cells #[.int .i64 (OfP t7).f, .int .i64 (OfP t7).l, .int .i64 (OfP t7).r, .int .i64 (OfP t7).t] 28)).cell? ⟨w.heap.size, 3, none⟩ = some (.string name) := HK14.out.cell 5 rfl 3
      have c_f_4 : (w7.alloc (.cells #[.int .i64 (OfP t7).f, .int .i64 (OfP t7).l, .int .i64 (OfP t7).r, .int .i64 (OfP t7).t] 28)).cell? ⟨w.heap.size, 4, none⟩ = some (.slice A n c) := HK14.out.cell 5 rfl 4
      have c_g_0 : (w7.alloc (.cells #[.int .i64 (OfP t7).f, .int .i64 (OfP t7).l, .int .i64 (OfP t7).r, .int .i64 (OfP t7).t] 28)).cell? ⟨w.heap.size + 1, 0, none⟩ = some (.int .i64 op2) := HK14.out.cell 4 rfl 0
      have c_g_1 : (w7.alloc (.cells #[.int .i64 (OfP t7).f, .int .i64 (OfP t7).l, .int .i64 (OfP t7).r, .int .i64 (OfP t7).t] 28)).cell? ⟨w.heap.size + 1, 1, none⟩ = some (.int .i64 fa2) := HK14.out.cell 4 rfl 1
      have c_g_2 : (w7.alloc (.cells #[.int .i64 (OfP t7).f, .int .i64 (OfP t7).l, .int .i64 (OfP t7).r, .int .i64 (OfP t7).t] 28)).cell? ⟨w.heap.size + 1, 2, none⟩ = some (.int .i64 fb2) := HK14.out.cell 4 rfl 2
      have c_g_3 : (w7.alloc (.cells #[.int .i64 (OfP t7).f, .int .i64 (OfP t7).l, .int .i64 (OfP t7).r, .int .i64 (OfP t7).t] 28)).cell? ⟨w.heap.size + 1, 3, none⟩ = some (.string name2) := HK14.out.cell 4 rfl 3
      have c_g_4 : (w7.alloc (.cells #[.int .i64 (OfP t7).f, .int .i64 (OfP t7).l, .int .i64 (OfP t7).r, .int .i64 (OfP t7).t] 28)).cell? ⟨w.heap.size + 1, 4, none⟩ = some (.slice A2 n2 c2) := HK14.out.cell 4 rfl 4
      have c_a_0 : (w7.alloc (.cells #[.int .i64 (OfP t7).f, .int .i64 (OfP t7).l, .int .i64 (OfP t7).r, .int .i64 (OfP t7).t] 28)).cell? ⟨ga, 0, none⟩ = some (.int .i64 (OfP t).f) := HK14.out.cell 3 rfl 0
      have c_a_1 : (w7.alloc (.cells #[.int .i64 (OfP t7).f, .int .i64 (OfP t7).l, .int .i64 (OfP t7).r, .int .i64 (OfP t7).t] 28)).cell? ⟨ga, 1, none⟩ = some (.int .i64 (OfP t).l) := HK14.out.cell 3 rfl 1
      have c_a_2 : (w7.alloc (.cells #[.int .i64 (OfP t7).f, .int .i64 (OfP t7).l, .int .i64 (OfP t7).r, .int .i64 (OfP t7).t] 28)).cell? ⟨ga, 2, none⟩ = some (.int .i64 (OfP t).r) := HK14.out.cell 3 rfl 2
      have c_a_3 : (w7.alloc (.cells #[.int .i64 (OfP t7).f, .int .i64 (OfP t7).l, .int .i64 (OfP t7).r, .int .i64 (OfP t7).t] 28)).cell? ⟨ga, 3, none⟩ = some (.int .i64 (OfP t).t) := HK14.out.cell 3 rfl 3
      have c_b_0 : (w7.alloc (.cells #[.int .i64 (OfP t7).f, .int .i64 (OfP t7).l, .int .i64 (OfP t7).r, .int .i64 (OfP t7).t] 28)).cell? ⟨gb, 0, none⟩ = some (.int .i64 (OfP t2).f) := HK14.out.cell 2 rfl 0
      have c_b_1 : (w7.alloc (.cells #[.int .i64 (OfP t7).f, .int .i64 (OfP t7).l, .int .i64 (OfP t7).r, .int .i64 (OfP t7).t] 28)).cell? ⟨gb, 1, none⟩ = some (.int .i64 (OfP t2).l) := HK14.out.cell 2 rfl 1
      have c_b_2 : (w7.alloc (.cells #[.int .i64 (OfP t7).f, .int .i64 (OfP t7).l, .int .i64 (OfP t7).r, .int .i64 (OfP t7).t] 28)).cell? ⟨gb, 2, none⟩ = some (.int .i64 (OfP t2).r) := HK14.out.cell 2 rfl 2
      have c_b_3 : (w7.alloc (.cells #[.int .i64 (OfP t7).f, .int .i64 (OfP t7).l, .int .i64 (OfP t7).r, .int .i64 (OfP t7).t] 28)).cell? ⟨gb, 3, none⟩ = some (.int .i64 (OfP t2).t) := HK14.out.cell 2 rfl 3
      have c_c_0 : (w7.alloc (.cells #[.int .i64 (OfP t7).f, .int .i64 (OfP t7).l, .int .i64 (OfP t7).r, .int .i64 (OfP t7).t] 28)).cell? ⟨gc, 0, none⟩ = some (.int .i64 (OfP t6).f) := HK14.out.cell 1 rfl 0
      have c_c_1 : (w7.alloc (.cells #[.int .i64 (OfP t7).f, .int .i64 (OfP t7).l, .int .i64 (OfP t7).r, .int .i64 (OfP t7).t] 28)).cell? ⟨gc, 1, none⟩ = some (.int .i64 (OfP t6).l) := HK14.out.cell 1 rfl 1
      have c_c_2 : (w7.alloc (.cells #[.int .i64 (OfP t7).f, .int .i64 (OfP t7).l, .int .i64 (OfP t7).r, .int .i64 (OfP t7).t] 28)).cell? ⟨gc, 2, none⟩ = some (.int .i64 (OfP t6).r) := HK14.out.cell 1 rfl 2
      have c_c_3 : (w7.alloc (.cells #[.int .i64 (OfP t7).f, .int .i64 (OfP t7).l, .int .i64 (OfP t7).r, .int .i64 (OfP t7).t] 28)).cell? ⟨gc, 3, none⟩ = some (.int .i64 (OfP t6).t) := HK14.out.cell 1 rfl 3
      have c_d_0 : (w7.alloc (.cells #[.int .i64 (OfP t7).f, .int .i64 (OfP t7).l, .int .i64 (OfP t7).r, .int .i64 (OfP t7).t] 28)).cell? ⟨w7.heap.size, 0, none⟩ = some (.int .i64 (OfP t7).f) := HK14.out.cell 0 rfl 0
      have c_d_1 : (w7.alloc (.cells #[.int .i64 (OfP t7).f, .int .i64 (OfP t7).l, .int .i64 (OfP t7).r, .int .i64 (OfP t7).t] 28)).cell? ⟨w7.heap.size, 1, none⟩ = some (.int .i64 (OfP t7).l) := HK14.out.cell 0 rfl 1
      have c_d_2 : (w7.alloc (.cells #[.int .i64 (OfP t7).f, .int .i64 (OfP t7).l, .int .i64 (OfP t7).r, .int .i64 (OfP t7).t] 28)).cell? ⟨w7.heap.size, 2, none⟩ = some (.int .i64 (OfP t7).r) := HK14.out.cell 0 rfl 2
      have c_d_3 : (w7.alloc (.cells #[.int .i64 (OfP t7).f, .int .i64 (OfP t7).l, .int .i64 (OfP t7).r, .int .i64 (OfP t7).t] 28)).cell? ⟨w7.heap.size, 3, none⟩ = some (.int .i64 (OfP t7).t) := HK14.out.cell 0 rfl 3
      cases hr1 : rightT t
      · have e1 := OfE_bne' t hr1
        go_wp2
        go_ret
        exact ⟨rfl, HK14.out.bel⟩
      cases hr2 : rightT t2
      · have e2 := OfE_bne' t2 hr2
        have e1 := OfE_bne t hr1
        go_wp2
        go_ret
        exact ⟨rfl, HK14.out.bel⟩
      cases hr3 : rightT t6
      · have e3 := OfE_bne' t6 hr3
        have e1 := OfE_bne t hr1
        have e2 := OfE_bne t2 hr2
        go_wp2
        go_ret
        exact ⟨rfl, HK14.out.bel⟩
      cases hr4 : rightT t7
      · have e4 := OfE_bne' t7 hr4
        have e1 := OfE_bne t hr1
        have e2 := OfE_bne t2 hr2
        have e3 := OfE_bne t6 hr3
        go_wp2
        go_ret
        exact ⟨rfl, HK14.out.bel⟩
      clear c_f_0 c_f_1 c_f_2 c_f_3 c_f_4 c_g_0 c_g_1 c_g_2 c_g_3 c_g_4 c_a_0 c_a_1 c_a_2 c_a_3 c_b_0 c_b_1 c_b_2 c_b_3 c_c_0 c_c_1 c_c_2 c_c_3 c_d_0 c_d_1 c_d_2 c_d_3
      have e1 := OfE_bne t hr1
      rw [OfP_right t hr1] at *
      have e2 := OfE_bne t2 hr2
      rw [OfP_right t2 hr2] at *
      have e3 := OfE_bne t6 hr3
      rw [OfP_right t6 hr3] at *
      have e4 := OfE_bne t7 hr4
      rw [OfP_right t7 hr4] at *
      have HC := Lib.hid (span_and t t2 ⟨#[]⟩ hr1 hr2 q a)
      rw [← H6.out] at HC
      have HD := Lib.hid (span_or t t2 ⟨#[]⟩ q a)
      rw [← H7.out] at HD
      clear hr1 hr2 hr3 hr4 H6 H7
      generalize ofF t = sa at HC HD HK14 ⊢
      generalize ofF t2 = sb at HC HD HK14 ⊢
      generalize ofF t6 = sc at HC HK14 ⊢
      generalize ofF t7 = sd at HD HK14 ⊢
      have HK15 := Lib.hid (show Kept w ((w7.alloc (.cells #[.int .i64 sd.f, .int .i64 sd.l, .int .i64 sd.r, .int .i64 sd.t] 28)).alloc (.cells #[.int .i64 q, .int .i64 a, .int .i64 0, .string ⟨#[]⟩, .int .i64 0, .int .i64 0, .int .i64 0] 30)) [(w7.heap.size + 1, 30, #[.int .i64 q, .int .i64 a, .int .i64 0, .string ⟨#[]⟩, .int .i64 0, .int .i64 0, .int .i64 0]), (w7.heap.size, 28, #[.int .i64 sd.f, .int .i64 sd.l, .int .i64 sd.r, .int .i64 sd.t]), (gc, 28, #[.int .i64 sc.f, .int .i64 sc.l, .int .i64 sc.r, .int .i64 sc.t]), (gb, 28, #[.int .i64 sb.f, .int .i64 sb.l, .int .i64 sb.r, .int .i64 sb.t]), (ga, 28, #[.int .i64 sa.f, .int .i64 sa.l, .int .i64 sa.r, .int .i64 sa.t]), (w.heap.size + 1, 24, #[.int .i64 op2, .int .i64 fa2, .int .i64 fb2, .string name2, .slice A2 n2 c2]), (w.heap.size, 24, #[.int .i64 op, .int .i64 fa, .int .i64 fb, .string name, .slice A n c])] from HK14.out.alloc_at 30 #[.int .i64 q, .int .i64 a, .int .i64 0, .string ⟨#[]⟩, .int .i64 0, .int .i64 0, .int .i64 0] (w7.heap.size + 1) (by simp))
      clear HK14
      cases hin : withinF q a sa <;> cases hout : withinF q a sb
      · go_wp2_with fail
        refine wp_region_noPanic ?_
        refine wp_region_held_drew (S := fun W' => Kept w W' [(w7.heap.size + 1, 30, #[.int .i64 q, .int .i64 a, .int .i64 0, .string ⟨#[]⟩, .int .i64 0, .int .i64 0, .int .i64 0]), (w7.heap.size, 28, #[.int .i64 sd.f, .int .i64 sd.l, .int .i64 sd.r, .int .i64 sd.t]), (gc, 28, #[.int .i64 sc.f, .int .i64 sc.l, .int .i64 sc.r, .int .i64 sc.t]), (gb, 28, #[.int .i64 sb.f, .int .i64 sb.l, .int .i64 sb.r, .int .i64 sb.t]), (ga, 28, #[.int .i64 sa.f, .int .i64 sa.l, .int .i64 sa.r, .int .i64 sa.t]), (w.heap.size + 1, 24, #[.int .i64 op2, .int .i64 fa2, .int .i64 fb2, .string name2, .slice A2 n2 c2]), (w.heap.size, 24, #[.int .i64 op, .int .i64 fa, .int .i64 fb, .string name, .slice A n c])]) (by kernel_rfl) HK15.out.drew (fun hHeld => ?_)
        refine takeH 0 (v := ?v0u1) rfl (by kernel_rfl) (by kernel_rfl) (by kernel_rfl) rfl (fun _ _ _ h => h) (Or.inl ⟨by rfl, ?y0u1⟩) hHeld ?r0u1
        case y0u1 => (intro W hSW; (try dsimp only at hSW); have q0 := hSW.cell 0 rfl 0; have q1 := hSW.cell 0 rfl 1; have q2 := hSW.cell 0 rfl 2; have q3 := hSW.cell 0 rfl 3; have q4 := hSW.cell 0 rfl 4; have q5 := hSW.cell 0 rfl 5; have q6 := hSW.cell 0 rfl 6; simp only [List.getElem?_toArray, List.getElem?_cons_zero, List.getElem?_cons_succ] at q0 q1 q2 q3 q4 q5 q6; go_simp; try with_reducible rfl)
        simp only [Act.put, List.setIfInBounds_toArray, List.set_cons_zero, List.set_cons_succ]
        refine takeH 1 (v := ?v1u2) rfl (by kernel_rfl) (by kernel_rfl) (by kernel_rfl) rfl (fun _ _ _ h => h) (Or.inl ⟨by rfl, ?y1u2⟩) hHeld ?r1u2
        case y1u2 => (intro W hSW; (try dsimp only at hSW); have q0 := hSW.cell 4 rfl 0; have q1 := hSW.cell 4 rfl 1; have q2 := hSW.cell 4 rfl 2; have q3 := hSW.cell 4 rfl 3; simp only [List.getElem?_toArray, List.getElem?_cons_zero, List.getElem?_cons_succ] at q0 q1 q2 q3; go_simp; try with_reducible rfl)
        simp only [Act.put, List.setIfInBounds_toArray, List.set_cons_zero, List.set_cons_succ]
        refine takeH 3 (v := ?v3u3) rfl (by kernel_rfl) (by kernel_rfl) (by kernel_rfl) rfl (fun _ _ _ h => h) (Or.inl ⟨by rfl, ?y3u3⟩) hHeld ?r3u3
        case y3u3 => (intro W hSW; (try dsimp only at hSW); have q0 := hSW.cell 0 rfl 0; have q1 := hSW.cell 0 rfl 1; have q2 := hSW.cell 0 rfl 2; have q3 := hSW.cell 0 rfl 3; have q4 := hSW.cell 0 rfl 4; have q5 := hSW.cell 0 rfl 5; have q6 := hSW.cell 0 rfl 6; simp only [List.getElem?_toArray, List.getElem?_cons_zero, List.getElem?_cons_succ] at q0 q1 q2 q3 q4 q5 q6; go_simp; try with_reducible rfl)
        simp only [Act.put, List.setIfInBounds_toArray, List.set_cons_zero, List.set_cons_succ]
        refine takeH 4 (v := ?v4u4) rfl (by kernel_rfl) (by kernel_rfl) (by kernel_rfl) rfl (fun _ _ _ h => h) (Or.inl ⟨by rfl, ?y4u4⟩) hHeld ?r4u4
        case y4u4 => (intro W hSW; (try dsimp only at hSW); have q0 := hSW.cell 3 rfl 0; have q1 := hSW.cell 3 rfl 1; have q2 := hSW.cell 3 rfl 2; have q3 := hSW.cell 3 rfl 3; simp only [List.getElem?_toArray, List.getElem?_cons_zero, List.getElem?_cons_succ] at q0 q1 q2 q3; go_simp; try with_reducible rfl)
        simp only [Act.put, List.setIfInBounds_toArray, List.set_cons_zero, List.set_cons_succ]
        refine wpAnyH_ready (rs := [2]) (by kernel_rfl) (by simp) ?_
        refine AllReadyH.cons rfl (fun K hK => ?_) AllReadyH.nil
        go_simp
        with_reducible refine (Within_c q a 0 ⟨#[]⟩ 0 0 0 sa _).mono ?_
        rw [hin]
        rintro e wn ⟨rfl, hbn⟩
        have hkn := hHeld.next hbn
        clear hbn
        refine hK.out _ _ hkn (fun hHeld => ?_)
        clear hK K
        try simp only [Act.put, List.setIfInBounds_toArray, List.set_cons_zero, List.set_cons_succ]
        refine wpAnyH_ready (rs := [5]) (by kernel_rfl) (by simp) ?_
        refine AllReadyH.cons rfl (fun K hK => ?_) AllReadyH.nil
        go_simp
        with_reducible refine (Within_c q a 0 ⟨#[]⟩ 0 0 0 sb _).mono ?_
        rw [hout]
        rintro e wn ⟨rfl, hbn⟩
        have hkn := hHeld.next hbn
        clear hbn
        refine hK.out _ _ hkn (fun hHeld => ?_)
        clear hK K
        try simp only [Act.put, List.setIfInBounds_toArray, List.set_cons_zero, List.set_cons_succ]
        refine takeH 6 (v := ?v6u5) rfl (by kernel_rfl) (by kernel_rfl) (by kernel_rfl) rfl (fun _ _ _ h => h) (Or.inl ⟨by rfl, ?y6u5⟩) hHeld ?r6u5
        case y6u5 => (intro W hSW; (try dsimp only at hSW); go_simp; try with_reducible rfl)
        simp only [Act.put, List.setIfInBounds_toArray, List.set_cons_zero, List.set_cons_succ]
        refine takeH 7 (v := ?v7u6) rfl (by kernel_rfl) (by kernel_rfl) (by kernel_rfl) rfl (fun _ _ _ h => h) (Or.inl ⟨by rfl, ?y7u6⟩) hHeld ?r7u6
        case y7u6 => (intro W hSW; (try dsimp only at hSW); go_simp; try with_reducible rfl)
        simp only [Act.put, List.setIfInBounds_toArray, List.set_cons_zero, List.set_cons_succ]
        refine wpAnyH_done (by kernel_rfl) ?_ _
        refine NoPanic.normal ?_
        have HK16 := Lib.hid hHeld
        clear hHeld HK15
        have c_e_0 : wn.cell? ⟨w7.heap.size + 1, 0, none⟩ = some (.int .i64 q) := HK16.out.cell 0 rfl 0
        have c_e_1 : wn.cell? ⟨w7.heap.size + 1, 1, none⟩ = some (.int .i64 a) := HK16.out.cell 0 rfl 1
        have c_e_2 : wn.cell? ⟨w7.heap.size + 1, 2, none⟩ = some (.int .i64 0) := HK16.out.cell 0 rfl 2
        have c_e_3 : wn.cell? ⟨w7.heap.size + 1, 3, none⟩ = some (.string ⟨#[]⟩) := HK16.out.cell 0 rfl 3
        have c_e_4 : wn.cell? ⟨w7.heap.size + 1, 4, none⟩ = some (.int .i64 0) := HK16.out.cell 0 rfl 4
        have c_e_5 : wn.cell? ⟨w7.heap.size + 1, 5, none⟩ = some (.int .i64 0) := HK16.out.cell 0 rfl 5
        have c_e_6 : wn.cell? ⟨w7.heap.size + 1, 6, none⟩ = some (.int .i64 0) := HK16.out.cell 0 rfl 6
        have c_c_0 : wn.cell? ⟨gc, 0, none⟩ = some (.int .i64 sc.f) := HK16.out.cell 2 rfl 0
        have c_c_1 : wn.cell? ⟨gc, 1, none⟩ = some (.int .i64 sc.l) := HK16.out.cell 2 rfl 1
        have c_c_2 : wn.cell? ⟨gc, 2, none⟩ = some (.int .i64 sc.r) := HK16.out.cell 2 rfl 2
        have c_c_3 : wn.cell? ⟨gc, 3, none⟩ = some (.int .i64 sc.t) := HK16.out.cell 2 rfl 3
        have c_d_0 : wn.cell? ⟨w7.heap.size, 0, none⟩ = some (.int .i64 sd.f) := HK16.out.cell 1 rfl 0
        have c_d_1 : wn.cell? ⟨w7.heap.size, 1, none⟩ = some (.int .i64 sd.l) := HK16.out.cell 1 rfl 1
        have c_d_2 : wn.cell? ⟨w7.heap.size, 2, none⟩ = some (.int .i64 sd.r) := HK16.out.cell 1 rfl 2
        have c_d_3 : wn.cell? ⟨w7.heap.size, 3, none⟩ = some (.int .i64 sd.t) := HK16.out.cell 1 rfl 3
        have HC2 := Lib.hid (show withinF q a sc = false from by rw [HC.out, hin, hout]; rfl)
        go_wp2_with fail
        with_reducible refine (Within_c q a 0 ⟨#[]⟩ 0 0 0 sc _).mono ?_
        rw [HC2.out]
        rintro e w9 ⟨rfl, hb9⟩
        clear c_e_0 c_e_1 c_e_2 c_e_3 c_e_4 c_e_5 c_e_6 c_c_0 c_c_1 c_c_2 c_c_3 c_d_0 c_d_1 c_d_2 c_d_3
        have HK17 := Lib.hid (show Kept w w9 [(w7.heap.size + 1, 30, #[.int .i64 q, .int .i64 a, .int .i64 0, .string ⟨#[]⟩, .int .i64 0, .int .i64 0, .int .i64 0]), (w7.heap.size, 28, #[.int .i64 sd.f, .int .i64 sd.l, .int .i64 sd.r, .int .i64 sd.t]), (gc, 28, #[.int .i64 sc.f, .int .i64 sc.l, .int .i64 sc.r, .int .i64 sc.t]), (gb, 28, #[.int .i64 sb.f, .int .i64 sb.l, .int .i64 sb.r, .int .i64 sb.t]), (ga, 28, #[.int .i64 sa.f, .int .i64 sa.l, .int .i64 sa.r, .int .i64 sa.t]), (w.heap.size + 1, 24, #[.int .i64 op2, .int .i64 fa2, .int .i64 fb2, .string name2, .slice A2 n2 c2]), (w.heap.size, 24, #[.int .i64 op, .int .i64 fa, .int .i64 fb, .string name, .slice A n c])] from HK16.out.next hb9)
        clear HK16
        clear hb9
        generalize w7.heap.size = gd at HK17 ⊢
        have c_e_0 : w9.cell? ⟨gd + 1, 0, none⟩ = some (.int .i64 q) := HK17.out.cell 0 rfl 0
        have c_e_1 : w9.cell? ⟨gd + 1, 1, none⟩ = some (.int .i64 a) := HK17.out.cell 0 rfl 1
        have c_e_2 : w9.cell? ⟨gd + 1, 2, none⟩ = some (.int .i64 0) := HK17.out.cell 0 rfl 2
        have c_e_3 : w9.cell? ⟨gd + 1, 3, none⟩ = some (.string ⟨#[]⟩) := HK17.out.cell 0 rfl 3
        have c_e_4 : w9.cell? ⟨gd + 1, 4, none⟩ = some (.int .i64 0) := HK17.out.cell 0 rfl 4
        have c_e_5 : w9.cell? ⟨gd + 1, 5, none⟩ = some (.int .i64 0) := HK17.out.cell 0 rfl 5
        have c_e_6 : w9.cell? ⟨gd + 1, 6, none⟩ = some (.int .i64 0) := HK17.out.cell 0 rfl 6
        have c_d_0 : w9.cell? ⟨gd, 0, none⟩ = some (.int .i64 sd.f) := HK17.out.cell 1 rfl 0
        have c_d_1 : w9.cell? ⟨gd, 1, none⟩ = some (.int .i64 sd.l) := HK17.out.cell 1 rfl 1
        have c_d_2 : w9.cell? ⟨gd, 2, none⟩ = some (.int .i64 sd.r) := HK17.out.cell 1 rfl 2
        have c_d_3 : w9.cell? ⟨gd, 3, none⟩ = some (.int .i64 sd.t) := HK17.out.cell 1 rfl 3
        go_wp2
        go_ret
        exact ⟨rfl, HK17.out.bel⟩
      · go_wp2_with fail
        refine wp_region_noPanic ?_
        refine wp_region_held_drew (S := fun W' => Kept w W' [(w7.heap.size + 1, 30, #[.int .i64 q, .int .i64 a, .int .i64 0, .string ⟨#[]⟩, .int .i64 0, .int .i64 0, .int .i64 0]), (w7.heap.size, 28, #[.int .i64 sd.f, .int .i64 sd.l, .int .i64 sd.r, .int .i64 sd.t]), (gc, 28, #[.int .i64 sc.f, .int .i64 sc.l, .int .i64 sc.r, .int .i64 sc.t]), (gb, 28, #[.int .i64 sb.f, .int .i64 sb.l, .int .i64 sb.r, .int .i64 sb.t]), (ga, 28, #[.int .i64 sa.f, .int .i64 sa.l, .int .i64 sa.r, .int .i64 sa.t]), (w.heap.size + 1, 24, #[.int .i64 op2, .int .i64 fa2, .int .i64 fb2, .string name2, .slice A2 n2 c2]), (w.heap.size, 24, #[.int .i64 op, .int .i64 fa, .int .i64 fb, .string name, .slice A n c])]) (by kernel_rfl) HK15.out.drew (fun hHeld => ?_)
        refine takeH 0 (v := ?v0u7) rfl (by kernel_rfl) (by kernel_rfl) (by kernel_rfl) rfl (fun _ _ _ h => h) (Or.inl ⟨by rfl, ?y0u7⟩) hHeld ?r0u7
        case y0u7 => (intro W hSW; (try dsimp only at hSW); have q0 := hSW.cell 0 rfl 0; have q1 := hSW.cell 0 rfl 1; have q2 := hSW.cell 0 rfl 2; have q3 := hSW.cell 0 rfl 3; have q4 := hSW.cell 0 rfl 4; have q5 := hSW.cell 0 rfl 5; have q6 := hSW.cell 0 rfl 6; simp only [List.getElem?_toArray, List.getElem?_cons_zero, List.getElem?_cons_succ] at q0 q1 q2 q3 q4 q5 q6; go_simp; try with_reducible rfl)
        simp only [Act.put, List.setIfInBounds_toArray, List.set_cons_zero, List.set_cons_succ]
        refine takeH 1 (v := ?v1u8) rfl (by kernel_rfl) (by kernel_rfl) (by kernel_rfl) rfl (fun _ _ _ h => h) (Or.inl ⟨by rfl, ?y1u8⟩) hHeld ?r1u8
        case y1u8 => (intro W hSW; (try dsimp only at hSW); have q0 := hSW.cell 4 rfl 0; have q1 := hSW.cell 4 rfl 1; have q2 := hSW.cell 4 rfl 2; have q3 := hSW.cell 4 rfl 3; simp only [List.getElem?_toArray, List.getElem?_cons_zero, List.getElem?_cons_succ] at q0 q1 q2 q3; go_simp; try with_reducible rfl)
        simp only [Act.put, List.setIfInBounds_toArray, List.set_cons_zero, List.set_cons_succ]
        refine takeH 3 (v := ?v3u9) rfl (by kernel_rfl) (by kernel_rfl) (by kernel_rfl) rfl (fun _ _ _ h => h) (Or.inl ⟨by rfl, ?y3u9⟩) hHeld ?r3u9
        case y3u9 => (intro W hSW; (try dsimp only at hSW); have q0 := hSW.cell 0 rfl 0; have q1 := hSW.cell 0 rfl 1; have q2 := hSW.cell 0 rfl 2; have q3 := hSW.cell 0 rfl 3; have q4 := hSW.cell 0 rfl 4; have q5 := hSW.cell 0 rfl 5; have q6 := hSW.cell 0 rfl 6; simp only [List.getElem?_toArray, List.getElem?_cons_zero, List.getElem?_cons_succ] at q0 q1 q2 q3 q4 q5 q6; go_simp; try with_reducible rfl)
        simp only [Act.put, List.setIfInBounds_toArray, List.set_cons_zero, List.set_cons_succ]
        refine takeH 4 (v := ?v4u10) rfl (by kernel_rfl) (by kernel_rfl) (by kernel_rfl) rfl (fun _ _ _ h => h) (Or.inl ⟨by rfl, ?y4u10⟩) hHeld ?r4u10
        case y4u10 => (intro W hSW; (try dsimp only at hSW); have q0 := hSW.cell 3 rfl 0; have q1 := hSW.cell 3 rfl 1; have q2 := hSW.cell 3 rfl 2; have q3 := hSW.cell 3 rfl 3; simp only [List.getElem?_toArray, List.getElem?_cons_zero, List.getElem?_cons_succ] at q0 q1 q2 q3; go_simp; try with_reducible rfl)
        simp only [Act.put, List.setIfInBounds_toArray, List.set_cons_zero, List.set_cons_succ]
        refine wpAnyH_ready (rs := [2]) (by kernel_rfl) (by simp) ?_
        refine AllReadyH.cons rfl (fun K hK => ?_) AllReadyH.nil
        go_simp
        with_reducible refine (Within_c q a 0 ⟨#[]⟩ 0 0 0 sa _).mono ?_
        rw [hin]
        rintro e wn ⟨rfl, hbn⟩
        have hkn := hHeld.next hbn
        clear hbn
        refine hK.out _ _ hkn (fun hHeld => ?_)
        clear hK K
        try simp only [Act.put, List.setIfInBounds_toArray, List.set_cons_zero, List.set_cons_succ]
        refine wpAnyH_ready (rs := [5]) (by kernel_rfl) (by simp) ?_
        refine AllReadyH.cons rfl (fun K hK => ?_) AllReadyH.nil
        go_simp
        with_reducible refine (Within_c q a 0 ⟨#[]⟩ 0 0 0 sb _).mono ?_
        rw [hout]
        rintro e wn ⟨rfl, hbn⟩
        have hkn := hHeld.next hbn
        clear hbn
        refine hK.out _ _ hkn (fun hHeld => ?_)
        clear hK K
        try simp only [Act.put, List.setIfInBounds_toArray, List.set_cons_zero, List.set_cons_succ]
        refine takeH 6 (v := ?v6u11) rfl (by kernel_rfl) (by kernel_rfl) (by kernel_rfl) rfl (fun _ _ _ h => h) (Or.inl ⟨by rfl, ?y6u11⟩) hHeld ?r6u11
        case y6u11 => (intro W hSW; (try dsimp only at hSW); go_simp; try with_reducible rfl)
        simp only [Act.put, List.setIfInBounds_toArray, List.set_cons_zero, List.set_cons_succ]
        refine takeH 7 (v := ?v7u12) rfl (by kernel_rfl) (by kernel_rfl) (by kernel_rfl) rfl (fun _ _ _ h => h) (Or.inl ⟨by rfl, ?y7u12⟩) hHeld ?r7u12
        case y7u12 => (intro W hSW; (try dsimp only at hSW); go_simp; try with_reducible rfl)
        simp only [Act.put, List.setIfInBounds_toArray, List.set_cons_zero, List.set_cons_succ]
        refine wpAnyH_done (by kernel_rfl) ?_ _
        refine NoPanic.normal ?_
        have HK16 := Lib.hid hHeld
        clear hHeld HK15
        have c_e_0 : wn.cell? ⟨w7.heap.size + 1, 0, none⟩ = some (.int .i64 q) := HK16.out.cell 0 rfl 0
        have c_e_1 : wn.cell? ⟨w7.heap.size + 1, 1, none⟩ = some (.int .i64 a) := HK16.out.cell 0 rfl 1
        have c_e_2 : wn.cell? ⟨w7.heap.size + 1, 2, none⟩ = some (.int .i64 0) := HK16.out.cell 0 rfl 2
        have c_e_3 : wn.cell? ⟨w7.heap.size + 1, 3, none⟩ = some (.string ⟨#[]⟩) := HK16.out.cell 0 rfl 3
        have c_e_4 : wn.cell? ⟨w7.heap.size + 1, 4, none⟩ = some (.int .i64 0) := HK16.out.cell 0 rfl 4
        have c_e_5 : wn.cell? ⟨w7.heap.size + 1, 5, none⟩ = some (.int .i64 0) := HK16.out.cell 0 rfl 5
        have c_e_6 : wn.cell? ⟨w7.heap.size + 1, 6, none⟩ = some (.int .i64 0) := HK16.out.cell 0 rfl 6
        have c_c_0 : wn.cell? ⟨gc, 0, none⟩ = some (.int .i64 sc.f) := HK16.out.cell 2 rfl 0
        have c_c_1 : wn.cell? ⟨gc, 1, none⟩ = some (.int .i64 sc.l) := HK16.out.cell 2 rfl 1
        have c_c_2 : wn.cell? ⟨gc, 2, none⟩ = some (.int .i64 sc.r) := HK16.out.cell 2 rfl 2
        have c_c_3 : wn.cell? ⟨gc, 3, none⟩ = some (.int .i64 sc.t) := HK16.out.cell 2 rfl 3
        have c_d_0 : wn.cell? ⟨w7.heap.size, 0, none⟩ = some (.int .i64 sd.f) := HK16.out.cell 1 rfl 0
        have c_d_1 : wn.cell? ⟨w7.heap.size, 1, none⟩ = some (.int .i64 sd.l) := HK16.out.cell 1 rfl 1
        have c_d_2 : wn.cell? ⟨w7.heap.size, 2, none⟩ = some (.int .i64 sd.r) := HK16.out.cell 1 rfl 2
        have c_d_3 : wn.cell? ⟨w7.heap.size, 3, none⟩ = some (.int .i64 sd.t) := HK16.out.cell 1 rfl 3
        have HC2 := Lib.hid (show withinF q a sc = false from by rw [HC.out, hin, hout]; rfl)
        go_wp2_with fail
        with_reducible refine (Within_c q a 0 ⟨#[]⟩ 0 0 0 sc _).mono ?_
        rw [HC2.out]
        rintro e w9 ⟨rfl, hb9⟩
        clear c_e_0 c_e_1 c_e_2 c_e_3 c_e_4 c_e_5 c_e_6 c_c_0 c_c_1 c_c_2 c_c_3 c_d_0 c_d_1 c_d_2 c_d_3
        have HK17 := Lib.hid (show Kept w w9 [(w7.heap.size + 1, 30, #[.int .i64 q, .int .i64 a, .int .i64 0, .string ⟨#[]⟩, .int .i64 0, .int .i64 0, .int .i64 0]), (w7.heap.size, 28, #[.int .i64 sd.f, .int .i64 sd.l, .int .i64 sd.r, .int .i64 sd.t]), (gc, 28, #[.int .i64 sc.f, .int .i64 sc.l, .int .i64 sc.r, .int .i64 sc.t]), (gb, 28, #[.int .i64 sb.f, .int .i64 sb.l, .int .i64 sb.r, .int .i64 sb.t]), (ga, 28, #[.int .i64 sa.f, .int .i64 sa.l, .int .i64 sa.r, .int .i64 sa.t]), (w.heap.size + 1, 24, #[.int .i64 op2, .int .i64 fa2, .int .i64 fb2, .string name2, .slice A2 n2 c2]), (w.heap.size, 24, #[.int .i64 op, .int .i64 fa, .int .i64 fb, .string name, .slice A n c])] from HK16.out.next hb9)
        clear HK16
        clear hb9
        generalize w7.heap.size = gd at HK17 ⊢
        have c_e_0 : w9.cell? ⟨gd + 1, 0, none⟩ = some (.int .i64 q) := HK17.out.cell 0 rfl 0
        have c_e_1 : w9.cell? ⟨gd + 1, 1, none⟩ = some (.int .i64 a) := HK17.out.cell 0 rfl 1
        have c_e_2 : w9.cell? ⟨gd + 1, 2, none⟩ = some (.int .i64 0) := HK17.out.cell 0 rfl 2
        have c_e_3 : w9.cell? ⟨gd + 1, 3, none⟩ = some (.string ⟨#[]⟩) := HK17.out.cell 0 rfl 3
        have c_e_4 : w9.cell? ⟨gd + 1, 4, none⟩ = some (.int .i64 0) := HK17.out.cell 0 rfl 4
        have c_e_5 : w9.cell? ⟨gd + 1, 5, none⟩ = some (.int .i64 0) := HK17.out.cell 0 rfl 5
        have c_e_6 : w9.cell? ⟨gd + 1, 6, none⟩ = some (.int .i64 0) := HK17.out.cell 0 rfl 6
        have c_d_0 : w9.cell? ⟨gd, 0, none⟩ = some (.int .i64 sd.f) := HK17.out.cell 1 rfl 0
        have c_d_1 : w9.cell? ⟨gd, 1, none⟩ = some (.int .i64 sd.l) := HK17.out.cell 1 rfl 1
        have c_d_2 : w9.cell? ⟨gd, 2, none⟩ = some (.int .i64 sd.r) := HK17.out.cell 1 rfl 2
        have c_d_3 : w9.cell? ⟨gd, 3, none⟩ = some (.int .i64 sd.t) := HK17.out.cell 1 rfl 3
        have HD2 := Lib.hid (HD.out (by rw [hin, hout]; simp))
        go_wp2_with fail
        with_reducible refine (Within_c q a 0 ⟨#[]⟩ 0 0 0 sd _).mono ?_
        rw [HD2.out]
        rintro e w10 ⟨rfl, hb10⟩
        clear c_e_0 c_e_1 c_e_2 c_e_3 c_e_4 c_e_5 c_e_6 c_d_0 c_d_1 c_d_2 c_d_3
        have HK18 := Lib.hid (show Kept w w10 [(gd + 1, 30, #[.int .i64 q, .int .i64 a, .int .i64 0, .string ⟨#[]⟩, .int .i64 0, .int .i64 0, .int .i64 0]), (gd, 28, #[.int .i64 sd.f, .int .i64 sd.l, .int .i64 sd.r, .int .i64 sd.t]), (gc, 28, #[.int .i64 sc.f, .int .i64 sc.l, .int .i64 sc.r, .int .i64 sc.t]), (gb, 28, #[.int .i64 sb.f, .int .i64 sb.l, .int .i64 sb.r, .int .i64 sb.t]), (ga, 28, #[.int .i64 sa.f, .int .i64 sa.l, .int .i64 sa.r, .int .i64 sa.t]), (w.heap.size + 1, 24, #[.int .i64 op2, .int .i64 fa2, .int .i64 fb2, .string name2, .slice A2 n2 c2]), (w.heap.size, 24, #[.int .i64 op, .int .i64 fa, .int .i64 fb, .string name, .slice A n c])] from HK17.out.next hb10)
        clear HK17
        clear hb10
        go_wp2
        go_ret
        exact ⟨rfl, HK18.out.bel⟩
      · go_wp2_with fail
        refine wp_region_noPanic ?_
        refine wp_region_held_drew (S := fun W' => Kept w W' [(w7.heap.size + 1, 30, #[.int .i64 q, .int .i64 a, .int .i64 0, .string ⟨#[]⟩, .int .i64 0, .int .i64 0, .int .i64 0]), (w7.heap.size, 28, #[.int .i64 sd.f, .int .i64 sd.l, .int .i64 sd.r, .int .i64 sd.t]), (gc, 28, #[.int .i64 sc.f, .int .i64 sc.l, .int .i64 sc.r, .int .i64 sc.t]), (gb, 28, #[.int .i64 sb.f, .int .i64 sb.l, .int .i64 sb.r, .int .i64 sb.t]), (ga, 28, #[.int .i64 sa.f, .int .i64 sa.l, .int .i64 sa.r, .int .i64 sa.t]), (w.heap.size + 1, 24, #[.int .i64 op2, .int .i64 fa2, .int .i64 fb2, .string name2, .slice A2 n2 c2]), (w.heap.size, 24, #[.int .i64 op, .int .i64 fa, .int .i64 fb, .string name, .slice A n c])]) (by kernel_rfl) HK15.out.drew (fun hHeld => ?_)
        refine takeH 0 (v := ?v0u13) rfl (by kernel_rfl) (by kernel_rfl) (by kernel_rfl) rfl (fun _ _ _ h => h) (Or.inl ⟨by rfl, ?y0u13⟩) hHeld ?r0u13
        case y0u13 => (intro W hSW; (try dsimp only at hSW); have q0 := hSW.cell 0 rfl 0; have q1 := hSW.cell 0 rfl 1; have q2 := hSW.cell 0 rfl 2; have q3 := hSW.cell 0 rfl 3; have q4 := hSW.cell 0 rfl 4; have q5 := hSW.cell 0 rfl 5; have q6 := hSW.cell 0 rfl 6; simp only [List.getElem?_toArray, List.getElem?_cons_zero, List.getElem?_cons_succ] at q0 q1 q2 q3 q4 q5 q6; go_simp; try with_reducible rfl)
        simp only [Act.put, List.setIfInBounds_toArray, List.set_cons_zero, List.set_cons_succ]
        refine takeH 1 (v := ?v1u14) rfl (by kernel_rfl) (by kernel_rfl) (by kernel_rfl) rfl (fun _ _ _ h => h) (Or.inl ⟨by rfl, ?y1u14⟩) hHeld ?r1u14
        case y1u14 => (intro W hSW; (try dsimp only at hSW); have q0 := hSW.cell 4 rfl 0; have q1 := hSW.cell 4 rfl 1; have q2 := hSW.cell 4 rfl 2; have q3 := hSW.cell 4 rfl 3; simp only [List.getElem?_toArray, List.getElem?_cons_zero, List.getElem?_cons_succ] at q0 q1 q2 q3; go_simp; try with_reducible rfl)
        simp only [Act.put, List.setIfInBounds_toArray, List.set_cons_zero, List.set_cons_succ]
        refine takeH 3 (v := ?v3u15) rfl (by kernel_rfl) (by kernel_rfl) (by kernel_rfl) rfl (fun _ _ _ h => h) (Or.inl ⟨by rfl, ?y3u15⟩) hHeld ?r3u15
        case y3u15 => (intro W hSW; (try dsimp only at hSW); have q0 := hSW.cell 0 rfl 0; have q1 := hSW.cell 0 rfl 1; have q2 := hSW.cell 0 rfl 2; have q3 := hSW.cell 0 rfl 3; have q4 := hSW.cell 0 rfl 4; have q5 := hSW.cell 0 rfl 5; have q6 := hSW.cell 0 rfl 6; simp only [List.getElem?_toArray, List.getElem?_cons_zero, List.getElem?_cons_succ] at q0 q1 q2 q3 q4 q5 q6; go_simp; try with_reducible rfl)
        simp only [Act.put, List.setIfInBounds_toArray, List.set_cons_zero, List.set_cons_succ]
        refine takeH 4 (v := ?v4u16) rfl (by kernel_rfl) (by kernel_rfl) (by kernel_rfl) rfl (fun _ _ _ h => h) (Or.inl ⟨by rfl, ?y4u16⟩) hHeld ?r4u16
        case y4u16 => (intro W hSW; (try dsimp only at hSW); have q0 := hSW.cell 3 rfl 0; have q1 := hSW.cell 3 rfl 1; have q2 := hSW.cell 3 rfl 2; have q3 := hSW.cell 3 rfl 3; simp only [List.getElem?_toArray, List.getElem?_cons_zero, List.getElem?_cons_succ] at q0 q1 q2 q3; go_simp; try with_reducible rfl)
        simp only [Act.put, List.setIfInBounds_toArray, List.set_cons_zero, List.set_cons_succ]
        refine wpAnyH_ready (rs := [2]) (by kernel_rfl) (by simp) ?_
        refine AllReadyH.cons rfl (fun K hK => ?_) AllReadyH.nil
        go_simp
        with_reducible refine (Within_c q a 0 ⟨#[]⟩ 0 0 0 sa _).mono ?_
        rw [hin]
        rintro e wn ⟨rfl, hbn⟩
        have hkn := hHeld.next hbn
        clear hbn
        refine hK.out _ _ hkn (fun hHeld => ?_)
        clear hK K
        try simp only [Act.put, List.setIfInBounds_toArray, List.set_cons_zero, List.set_cons_succ]
        refine wpAnyH_ready (rs := [5]) (by kernel_rfl) (by simp) ?_
        refine AllReadyH.cons rfl (fun K hK => ?_) AllReadyH.nil
        go_simp
        with_reducible refine (Within_c q a 0 ⟨#[]⟩ 0 0 0 sb _).mono ?_
        rw [hout]
        rintro e wn ⟨rfl, hbn⟩
        have hkn := hHeld.next hbn
        clear hbn
        refine hK.out _ _ hkn (fun hHeld => ?_)
        clear hK K
        try simp only [Act.put, List.setIfInBounds_toArray, List.set_cons_zero, List.set_cons_succ]
        refine takeH 6 (v := ?v6u17) rfl (by kernel_rfl) (by kernel_rfl) (by kernel_rfl) rfl (fun _ _ _ h => h) (Or.inl ⟨by rfl, ?y6u17⟩) hHeld ?r6u17
        case y6u17 => (intro W hSW; (try dsimp only at hSW); go_simp; try with_reducible rfl)
        simp only [Act.put, List.setIfInBounds_toArray, List.set_cons_zero, List.set_cons_succ]
        refine takeH 7 (v := ?v7u18) rfl (by kernel_rfl) (by kernel_rfl) (by kernel_rfl) rfl (fun _ _ _ h => h) (Or.inl ⟨by rfl, ?y7u18⟩) hHeld ?r7u18
        case y7u18 => (intro W hSW; (try dsimp only at hSW); go_simp; try with_reducible rfl)
        simp only [Act.put, List.setIfInBounds_toArray, List.set_cons_zero, List.set_cons_succ]
        refine wpAnyH_done (by kernel_rfl) ?_ _
        refine NoPanic.normal ?_
        have HK16 := Lib.hid hHeld
        clear hHeld HK15
        have c_e_0 : wn.cell? ⟨w7.heap.size + 1, 0, none⟩ = some (.int .i64 q) := HK16.out.cell 0 rfl 0
        have c_e_1 : wn.cell? ⟨w7.heap.size + 1, 1, none⟩ = some (.int .i64 a) := HK16.out.cell 0 rfl 1
        have c_e_2 : wn.cell? ⟨w7.heap.size + 1, 2, none⟩ = some (.int .i64 0) := HK16.out.cell 0 rfl 2
        have c_e_3 : wn.cell? ⟨w7.heap.size + 1, 3, none⟩ = some (.string ⟨#[]⟩) := HK16.out.cell 0 rfl 3
        have c_e_4 : wn.cell? ⟨w7.heap.size + 1, 4, none⟩ = some (.int .i64 0) := HK16.out.cell 0 rfl 4
        have c_e_5 : wn.cell? ⟨w7.heap.size + 1, 5, none⟩ = some (.int .i64 0) := HK16.out.cell 0 rfl 5
        have c_e_6 : wn.cell? ⟨w7.heap.size + 1, 6, none⟩ = some (.int .i64 0) := HK16.out.cell 0 rfl 6
        have c_c_0 : wn.cell? ⟨gc, 0, none⟩ = some (.int .i64 sc.f) := HK16.out.cell 2 rfl 0
        have c_c_1 : wn.cell? ⟨gc, 1, none⟩ = some (.int .i64 sc.l) := HK16.out.cell 2 rfl 1
        have c_c_2 : wn.cell? ⟨gc, 2, none⟩ = some (.int .i64 sc.r) := HK16.out.cell 2 rfl 2
        have c_c_3 : wn.cell? ⟨gc, 3, none⟩ = some (.int .i64 sc.t) := HK16.out.cell 2 rfl 3
        have c_d_0 : wn.cell? ⟨w7.heap.size, 0, none⟩ = some (.int .i64 sd.f) := HK16.out.cell 1 rfl 0
        have c_d_1 : wn.cell? ⟨w7.heap.size, 1, none⟩ = some (.int .i64 sd.l) := HK16.out.cell 1 rfl 1
        have c_d_2 : wn.cell? ⟨w7.heap.size, 2, none⟩ = some (.int .i64 sd.r) := HK16.out.cell 1 rfl 2
        have c_d_3 : wn.cell? ⟨w7.heap.size, 3, none⟩ = some (.int .i64 sd.t) := HK16.out.cell 1 rfl 3
        have HC2 := Lib.hid (show withinF q a sc = false from by rw [HC.out, hin, hout]; rfl)
        go_wp2_with fail
        with_reducible refine (Within_c q a 0 ⟨#[]⟩ 0 0 0 sc _).mono ?_
        rw [HC2.out]
        rintro e w9 ⟨rfl, hb9⟩
        clear c_e_0 c_e_1 c_e_2 c_e_3 c_e_4 c_e_5 c_e_6 c_c_0 c_c_1 c_c_2 c_c_3 c_d_0 c_d_1 c_d_2 c_d_3
        have HK17 := Lib.hid (show Kept w w9 [(w7.heap.size + 1, 30, #[.int .i64 q, .int .i64 a, .int .i64 0, .string ⟨#[]⟩, .int .i64 0, .int .i64 0, .int .i64 0]), (w7.heap.size, 28, #[.int .i64 sd.f, .int .i64 sd.l, .int .i64 sd.r, .int .i64 sd.t]), (gc, 28, #[.int .i64 sc.f, .int .i64 sc.l, .int .i64 sc.r, .int .i64 sc.t]), (gb, 28, #[.int .i64 sb.f, .int .i64 sb.l, .int .i64 sb.r, .int .i64 sb.t]), (ga, 28, #[.int .i64 sa.f, .int .i64 sa.l, .int .i64 sa.r, .int .i64 sa.t]), (w.heap.size + 1, 24, #[.int .i64 op2, .int .i64 fa2, .int .i64 fb2, .string name2, .slice A2 n2 c2]), (w.heap.size, 24, #[.int .i64 op, .int .i64 fa, .int .i64 fb, .string name, .slice A n c])] from HK16.out.next hb9)
        clear HK16
        clear hb9
        generalize w7.heap.size = gd at HK17 ⊢
        have c_e_0 : w9.cell? ⟨gd + 1, 0, none⟩ = some (.int .i64 q) := HK17.out.cell 0 rfl 0
        have c_e_1 : w9.cell? ⟨gd + 1, 1, none⟩ = some (.int .i64 a) := HK17.out.cell 0 rfl 1
        have c_e_2 : w9.cell? ⟨gd + 1, 2, none⟩ = some (.int .i64 0) := HK17.out.cell 0 rfl 2
        have c_e_3 : w9.cell? ⟨gd + 1, 3, none⟩ = some (.string ⟨#[]⟩) := HK17.out.cell 0 rfl 3
        have c_e_4 : w9.cell? ⟨gd + 1, 4, none⟩ = some (.int .i64 0) := HK17.out.cell 0 rfl 4
        have c_e_5 : w9.cell? ⟨gd + 1, 5, none⟩ = some (.int .i64 0) := HK17.out.cell 0 rfl 5
        have c_e_6 : w9.cell? ⟨gd + 1, 6, none⟩ = some (.int .i64 0) := HK17.out.cell 0 rfl 6
        have c_d_0 : w9.cell? ⟨gd, 0, none⟩ = some (.int .i64 sd.f) := HK17.out.cell 1 rfl 0
        have c_d_1 : w9.cell? ⟨gd, 1, none⟩ = some (.int .i64 sd.l) := HK17.out.cell 1 rfl 1
        have c_d_2 : w9.cell? ⟨gd, 2, none⟩ = some (.int .i64 sd.r) := HK17.out.cell 1 rfl 2
        have c_d_3 : w9.cell? ⟨gd, 3, none⟩ = some (.int .i64 sd.t) := HK17.out.cell 1 rfl 3
        have HD2 := Lib.hid (HD.out (by rw [hin, hout]; simp))
        go_wp2_with fail
        with_reducible refine (Within_c q a 0 ⟨#[]⟩ 0 0 0 sd _).mono ?_
        rw [HD2.out]
        rintro e w10 ⟨rfl, hb10⟩
        clear c_e_0 c_e_1 c_e_2 c_e_3 c_e_4 c_e_5 c_e_6 c_d_0 c_d_1 c_d_2 c_d_3
        have HK18 := Lib.hid (show Kept w w10 [(gd + 1, 30, #[.int .i64 q, .int .i64 a, .int .i64 0, .string ⟨#[]⟩, .int .i64 0, .int .i64 0, .int .i64 0]), (gd, 28, #[.int .i64 sd.f, .int .i64 sd.l, .int .i64 sd.r, .int .i64 sd.t]), (gc, 28, #[.int .i64 sc.f, .int .i64 sc.l, .int .i64 sc.r, .int .i64 sc.t]), (gb, 28, #[.int .i64 sb.f, .int .i64 sb.l, .int .i64 sb.r, .int .i64 sb.t]), (ga, 28, #[.int .i64 sa.f, .int .i64 sa.l, .int .i64 sa.r, .int .i64 sa.t]), (w.heap.size + 1, 24, #[.int .i64 op2, .int .i64 fa2, .int .i64 fb2, .string name2, .slice A2 n2 c2]), (w.heap.size, 24, #[.int .i64 op, .int .i64 fa, .int .i64 fb, .string name, .slice A n c])] from HK17.out.next hb10)
        clear HK17
        clear hb10
        go_wp2
        go_ret
        exact ⟨rfl, HK18.out.bel⟩
      · go_wp2_with fail
        refine wp_region_noPanic ?_
        refine wp_region_held_drew (S := fun W' => Kept w W' [(w7.heap.size + 1, 30, #[.int .i64 q, .int .i64 a, .int .i64 0, .string ⟨#[]⟩, .int .i64 0, .int .i64 0, .int .i64 0]), (w7.heap.size, 28, #[.int .i64 sd.f, .int .i64 sd.l, .int .i64 sd.r, .int .i64 sd.t]), (gc, 28, #[.int .i64 sc.f, .int .i64 sc.l, .int .i64 sc.r, .int .i64 sc.t]), (gb, 28, #[.int .i64 sb.f, .int .i64 sb.l, .int .i64 sb.r, .int .i64 sb.t]), (ga, 28, #[.int .i64 sa.f, .int .i64 sa.l, .int .i64 sa.r, .int .i64 sa.t]), (w.heap.size + 1, 24, #[.int .i64 op2, .int .i64 fa2, .int .i64 fb2, .string name2, .slice A2 n2 c2]), (w.heap.size, 24, #[.int .i64 op, .int .i64 fa, .int .i64 fb, .string name, .slice A n c])]) (by kernel_rfl) HK15.out.drew (fun hHeld => ?_)
        refine takeH 0 (v := ?v0u19) rfl (by kernel_rfl) (by kernel_rfl) (by kernel_rfl) rfl (fun _ _ _ h => h) (Or.inl ⟨by rfl, ?y0u19⟩) hHeld ?r0u19
        case y0u19 => (intro W hSW; (try dsimp only at hSW); have q0 := hSW.cell 0 rfl 0; have q1 := hSW.cell 0 rfl 1; have q2 := hSW.cell 0 rfl 2; have q3 := hSW.cell 0 rfl 3; have q4 := hSW.cell 0 rfl 4; have q5 := hSW.cell 0 rfl 5; have q6 := hSW.cell 0 rfl 6; simp only [List.getElem?_toArray, List.getElem?_cons_zero, List.getElem?_cons_succ] at q0 q1 q2 q3 q4 q5 q6; go_simp; try with_reducible rfl)
        simp only [Act.put, List.setIfInBounds_toArray, List.set_cons_zero, List.set_cons_succ]
        refine takeH 1 (v := ?v1u20) rfl (by kernel_rfl) (by kernel_rfl) (by kernel_rfl) rfl (fun _ _ _ h => h) (Or.inl ⟨by rfl, ?y1u20⟩) hHeld ?r1u20
        case y1u20 => (intro W hSW; (try dsimp only at hSW); have q0 := hSW.cell 4 rfl 0; have q1 := hSW.cell 4 rfl 1; have q2 := hSW.cell 4 rfl 2; have q3 := hSW.cell 4 rfl 3; simp only [List.getElem?_toArray, List.getElem?_cons_zero, List.getElem?_cons_succ] at q0 q1 q2 q3; go_simp; try with_reducible rfl)
        simp only [Act.put, List.setIfInBounds_toArray, List.set_cons_zero, List.set_cons_succ]
        refine takeH 3 (v := ?v3u21) rfl (by kernel_rfl) (by kernel_rfl) (by kernel_rfl) rfl (fun _ _ _ h => h) (Or.inl ⟨by rfl, ?y3u21⟩) hHeld ?r3u21
        case y3u21 => (intro W hSW; (try dsimp only at hSW); have q0 := hSW.cell 0 rfl 0; have q1 := hSW.cell 0 rfl 1; have q2 := hSW.cell 0 rfl 2; have q3 := hSW.cell 0 rfl 3; have q4 := hSW.cell 0 rfl 4; have q5 := hSW.cell 0 rfl 5; have q6 := hSW.cell 0 rfl 6; simp only [List.getElem?_toArray, List.getElem?_cons_zero, List.getElem?_cons_succ] at q0 q1 q2 q3 q4 q5 q6; go_simp; try with_reducible rfl)
        simp only [Act.put, List.setIfInBounds_toArray, List.set_cons_zero, List.set_cons_succ]
        refine takeH 4 (v := ?v4u22) rfl (by kernel_rfl) (by kernel_rfl) (by kernel_rfl) rfl (fun _ _ _ h => h) (Or.inl ⟨by rfl, ?y4u22⟩) hHeld ?r4u22
        case y4u22 => (intro W hSW; (try dsimp only at hSW); have q0 := hSW.cell 3 rfl 0; have q1 := hSW.cell 3 rfl 1; have q2 := hSW.cell 3 rfl 2; have q3 := hSW.cell 3 rfl 3; simp only [List.getElem?_toArray, List.getElem?_cons_zero, List.getElem?_cons_succ] at q0 q1 q2 q3; go_simp; try with_reducible rfl)
        simp only [Act.put, List.setIfInBounds_toArray, List.set_cons_zero, List.set_cons_succ]
        refine wpAnyH_ready (rs := [2]) (by kernel_rfl) (by simp) ?_
        refine AllReadyH.cons rfl (fun K hK => ?_) AllReadyH.nil
        go_simp
        with_reducible refine (Within_c q a 0 ⟨#[]⟩ 0 0 0 sa _).mono ?_
        rw [hin]
        rintro e wn ⟨rfl, hbn⟩
        have hkn := hHeld.next hbn
        clear hbn
        refine hK.out _ _ hkn (fun hHeld => ?_)
        clear hK K
        try simp only [Act.put, List.setIfInBounds_toArray, List.set_cons_zero, List.set_cons_succ]
        refine wpAnyH_ready (rs := [5]) (by kernel_rfl) (by simp) ?_
        refine AllReadyH.cons rfl (fun K hK => ?_) AllReadyH.nil
        go_simp
        with_reducible refine (Within_c q a 0 ⟨#[]⟩ 0 0 0 sb _).mono ?_
        rw [hout]
        rintro e wn ⟨rfl, hbn⟩
        have hkn := hHeld.next hbn
        clear hbn
        refine hK.out _ _ hkn (fun hHeld => ?_)
        clear hK K
        try simp only [Act.put, List.setIfInBounds_toArray, List.set_cons_zero, List.set_cons_succ]
        refine takeH 6 (v := ?v6u23) rfl (by kernel_rfl) (by kernel_rfl) (by kernel_rfl) rfl (fun _ _ _ h => h) (Or.inl ⟨by rfl, ?y6u23⟩) hHeld ?r6u23
        case y6u23 => (intro W hSW; (try dsimp only at hSW); go_simp; try with_reducible rfl)
        simp only [Act.put, List.setIfInBounds_toArray, List.set_cons_zero, List.set_cons_succ]
        refine takeH 7 (v := ?v7u24) rfl (by kernel_rfl) (by kernel_rfl) (by kernel_rfl) rfl (fun _ _ _ h => h) (Or.inl ⟨by rfl, ?y7u24⟩) hHeld ?r7u24
        case y7u24 => (intro W hSW; (try dsimp only at hSW); go_simp; try with_reducible rfl)
        simp only [Act.put, List.setIfInBounds_toArray, List.set_cons_zero, List.set_cons_succ]
        refine wpAnyH_done (by kernel_rfl) ?_ _
        refine NoPanic.normal ?_
        have HK16 := Lib.hid hHeld
        clear hHeld HK15
        have c_e_0 : wn.cell? ⟨w7.heap.size + 1, 0, none⟩ = some (.int .i64 q) := HK16.out.cell 0 rfl 0
        have c_e_1 : wn.cell? ⟨w7.heap.size + 1, 1, none⟩ = some (.int .i64 a) := HK16.out.cell 0 rfl 1
        have c_e_2 : wn.cell? ⟨w7.heap.size + 1, 2, none⟩ = some (.int .i64 0) := HK16.out.cell 0 rfl 2
        have c_e_3 : wn.cell? ⟨w7.heap.size + 1, 3, none⟩ = some (.string ⟨#[]⟩) := HK16.out.cell 0 rfl 3
        have c_e_4 : wn.cell? ⟨w7.heap.size + 1, 4, none⟩ = some (.int .i64 0) := HK16.out.cell 0 rfl 4
        have c_e_5 : wn.cell? ⟨w7.heap.size + 1, 5, none⟩ = some (.int .i64 0) := HK16.out.cell 0 rfl 5
        have c_e_6 : wn.cell? ⟨w7.heap.size + 1, 6, none⟩ = some (.int .i64 0) := HK16.out.cell 0 rfl 6
        have c_c_0 : wn.cell? ⟨gc, 0, none⟩ = some (.int .i64 sc.f) := HK16.out.cell 2 rfl 0
        have c_c_1 : wn.cell? ⟨gc, 1, none⟩ = some (.int .i64 sc.l) := HK16.out.cell 2 rfl 1
        have c_c_2 : wn.cell? ⟨gc, 2, none⟩ = some (.int .i64 sc.r) := HK16.out.cell 2 rfl 2
        have c_c_3 : wn.cell? ⟨gc, 3, none⟩ = some (.int .i64 sc.t) := HK16.out.cell 2 rfl 3
        have c_d_0 : wn.cell? ⟨w7.heap.size, 0, none⟩ = some (.int .i64 sd.f) := HK16.out.cell 1 rfl 0
        have c_d_1 : wn.cell? ⟨w7.heap.size, 1, none⟩ = some (.int .i64 sd.l) := HK16.out.cell 1 rfl 1
        have c_d_2 : wn.cell? ⟨w7.heap.size, 2, none⟩ = some (.int .i64 sd.r) := HK16.out.cell 1 rfl 2
        have c_d_3 : wn.cell? ⟨w7.heap.size, 3, none⟩ = some (.int .i64 sd.t) := HK16.out.cell 1 rfl 3
        have HC2 := Lib.hid (show withinF q a sc = true from by rw [HC.out, hin, hout]; rfl)
        go_wp2_with fail
        with_reducible refine (Within_c q a 0 ⟨#[]⟩ 0 0 0 sc _).mono ?_
        rw [HC2.out]
        rintro e w9 ⟨rfl, hb9⟩
        clear c_e_0 c_e_1 c_e_2 c_e_3 c_e_4 c_e_5 c_e_6 c_c_0 c_c_1 c_c_2 c_c_3 c_d_0 c_d_1 c_d_2 c_d_3
        have HK17 := Lib.hid (show Kept w w9 [(w7.heap.size + 1, 30, #[.int .i64 q, .int .i64 a, .int .i64 0, .string ⟨#[]⟩, .int .i64 0, .int .i64 0, .int .i64 0]), (w7.heap.size, 28, #[.int .i64 sd.f, .int .i64 sd.l, .int .i64 sd.r, .int .i64 sd.t]), (gc, 28, #[.int .i64 sc.f, .int .i64 sc.l, .int .i64 sc.r, .int .i64 sc.t]), (gb, 28, #[.int .i64 sb.f, .int .i64 sb.l, .int .i64 sb.r, .int .i64 sb.t]), (ga, 28, #[.int .i64 sa.f, .int .i64 sa.l, .int .i64 sa.r, .int .i64 sa.t]), (w.heap.size + 1, 24, #[.int .i64 op2, .int .i64 fa2, .int .i64 fb2, .string name2, .slice A2 n2 c2]), (w.heap.size, 24, #[.int .i64 op, .int .i64 fa, .int .i64 fb, .string name, .slice A n c])] from HK16.out.next hb9)
        clear HK16
        clear hb9
        generalize w7.heap.size = gd at HK17 ⊢
        have c_e_0 : w9.cell? ⟨gd + 1, 0, none⟩ = some (.int .i64 q) := HK17.out.cell 0 rfl 0
        have c_e_1 : w9.cell? ⟨gd + 1, 1, none⟩ = some (.int .i64 a) := HK17.out.cell 0 rfl 1
        have c_e_2 : w9.cell? ⟨gd + 1, 2, none⟩ = some (.int .i64 0) := HK17.out.cell 0 rfl 2
        have c_e_3 : w9.cell? ⟨gd + 1, 3, none⟩ = some (.string ⟨#[]⟩) := HK17.out.cell 0 rfl 3
        have c_e_4 : w9.cell? ⟨gd + 1, 4, none⟩ = some (.int .i64 0) := HK17.out.cell 0 rfl 4
        have c_e_5 : w9.cell? ⟨gd + 1, 5, none⟩ = some (.int .i64 0) := HK17.out.cell 0 rfl 5
        have c_e_6 : w9.cell? ⟨gd + 1, 6, none⟩ = some (.int .i64 0) := HK17.out.cell 0 rfl 6
        have c_d_0 : w9.cell? ⟨gd, 0, none⟩ = some (.int .i64 sd.f) := HK17.out.cell 1 rfl 0
        have c_d_1 : w9.cell? ⟨gd, 1, none⟩ = some (.int .i64 sd.l) := HK17.out.cell 1 rfl 1
        have c_d_2 : w9.cell? ⟨gd, 2, none⟩ = some (.int .i64 sd.r) := HK17.out.cell 1 rfl 2
        have c_d_3 : w9.cell? ⟨gd, 3, none⟩ = some (.int .i64 sd.t) := HK17.out.cell 1 rfl 3
        have HD2 := Lib.hid (HD.out (by rw [hin, hout]; simp))
        go_wp2_with fail
        with_reducible refine (Within_c q a 0 ⟨#[]⟩ 0 0 0 sd _).mono ?_
        rw [HD2.out]
        rintro e w10 ⟨rfl, hb10⟩
        clear c_e_0 c_e_1 c_e_2 c_e_3 c_e_4 c_e_5 c_e_6 c_d_0 c_d_1 c_d_2 c_d_3
        have HK18 := Lib.hid (show Kept w w10 [(gd + 1, 30, #[.int .i64 q, .int .i64 a, .int .i64 0, .string ⟨#[]⟩, .int .i64 0, .int .i64 0, .int .i64 0]), (gd, 28, #[.int .i64 sd.f, .int .i64 sd.l, .int .i64 sd.r, .int .i64 sd.t]), (gc, 28, #[.int .i64 sc.f, .int .i64 sc.l, .int .i64 sc.r, .int .i64 sc.t]), (gb, 28, #[.int .i64 sb.f, .int .i64 sb.l, .int .i64 sb.r, .int .i64 sb.t]), (ga, 28, #[.int .i64 sa.f, .int .i64 sa.l, .int .i64 sa.r, .int .i64 sa.t]), (w.heap.size + 1, 24, #[.int .i64 op2, .int .i64 fa2, .int .i64 fb2, .string name2, .slice A2 n2 c2]), (w.heap.size, 24, #[.int .i64 op, .int .i64 fa, .int .i64 fb, .string name, .slice A n c])] from HK17.out.next hb10)
        clear HK17
        clear hb10
        go_wp2
        go_ret
        exact ⟨rfl, HK18.out.bel⟩
end Go.Proofs.Ytgbcgkhcmellfaa
