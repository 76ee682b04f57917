/- The walk of SpanCovers. -/
import Derived.Test.YtgbcgkhcmellfaaLawSpan
import Derived.Test.YtgbcgkhcmellfaaSpanP
import Derived.Test.YtgbcgkhcmellfaaMatch
namespace Go.Proofs.Ytgbcgkhcmellfaa
set_option linter.unusedVariables false
open Go.RowKit Go.ChangeShapes

theorem within_M (q a : Int) (s x : Sp) (h1 : withinF q a s = true) (h2 : withinF q a x = true) : withinF q a (joinM s x) = true := by
  unfold withinF at *
  rw [decide_eq_true_eq] at *
  unfold joinM
  simp only
  omega
theorem within_L (q a : Int) (s x : Sp) (h : withinF q a s = true ∨ withinF q a x = true) : withinF q a (joinL s x) = true := by
  unfold joinL
  unfold withinF at *
  simp only [decide_eq_true_eq] at h
  split
  · rename_i g
    unfold Sp.void at g
    rw [decide_eq_true_eq] at g ⊢
    omega
  · split
    · rename_i g
      unfold Sp.void at g
      rw [decide_eq_true_eq] at g ⊢
      omega
    · unfold joinW
      rw [decide_eq_true_eq]
      simp only
      omega
mutual
theorem covers_F : ∀ (t : FT) (ev : Evt), 0 ≤ ev.q → ev.q ≤ 4294967296 → 0 ≤ ev.a → ev.a ≤ 1099511627776 → meansF t ev = true → withinF ev.q ev.a (ofF t) = true
  | .mk op a b name ks, ev, q0, q1, a0, a1, h => by
    have hw : withinF ev.q ev.a Sp.whole = true := by unfold withinF Sp.whole; rw [decide_eq_true_eq]; simp only; omega
    rw [meansF] at h
    rw [ofF, within_norm]
    by_cases h2 : op = 2
    · rw [if_pos h2, decide_eq_true_eq] at h; rw [if_pos h2]; unfold withinF; rw [decide_eq_true_eq]; simp only; omega
    rw [if_neg h2] at h ⊢
    by_cases h3 : op = 3
    · rw [if_pos h3, decide_eq_true_eq] at h; rw [if_pos h3]; unfold withinF; rw [decide_eq_true_eq]; simp only; omega
    rw [if_neg h3] at h ⊢
    by_cases h6 : op = 6
    · subst h6
      rw [if_neg (by decide), if_neg (by decide), if_neg (by decide), if_neg (by decide)] at h
      rw [if_pos rfl]
      exact covers_M ks ev .whole q0 q1 a0 a1 hw h
    rw [if_neg h6]
    by_cases h7 : op = 7
    · subst h7
      rw [if_neg (by decide), if_neg (by decide), if_neg (by decide), if_pos rfl] at h
      rw [if_pos rfl]
      exact covers_L ks ev .empty q0 q1 a0 a1 (.inr h)
    rw [if_neg h7]
    exact hw
theorem covers_M : ∀ (ts : List FT) (ev : Evt) (s : Sp), 0 ≤ ev.q → ev.q ≤ 4294967296 → 0 ≤ ev.a → ev.a ≤ 1099511627776 → withinF ev.q ev.a s = true → allL ts ev = true → withinF ev.q ev.a (foldM ts s) = true
  | [], ev, s, _, _, _, _, h, _ => by rw [foldM]; exact h
  | t :: ts, ev, s, q0, q1, a0, a1, h, ha => by
    rw [allL, Bool.and_eq_true] at ha
    rw [foldM]
    exact covers_M ts ev _ q0 q1 a0 a1 (within_M _ _ _ _ h (covers_F t ev q0 q1 a0 a1 ha.1)) ha.2
theorem covers_L : ∀ (ts : List FT) (ev : Evt) (s : Sp), 0 ≤ ev.q → ev.q ≤ 4294967296 → 0 ≤ ev.a → ev.a ≤ 1099511627776 → (withinF ev.q ev.a s = true ∨ anyL ts ev = true) → withinF ev.q ev.a (foldL ts s) = true
  | [], ev, s, _, _, _, _, h => by
    rw [foldL]
    rcases h with h | h
    · exact h
    · rw [anyL] at h; cases h
  | t :: ts, ev, s, q0, q1, a0, a1, h => by
    rw [foldL]
    refine covers_L ts ev _ q0 q1 a0 a1 ?_
    rw [anyL, Bool.or_eq_true] at h
    rcases h with h | h | h
    · exact .inl (within_L _ _ _ _ (.inl h))
    · exact .inl (within_L _ _ _ _ (.inr (covers_F t ev q0 q1 a0 a1 h)))
    · exact .inr h
end
theorem meets_of (q a f l r t : Int) (p : Sp) (h : withinF q a p = true) (h1 : f < q) (h2 : q ≤ l) (h3 : r ≤ a) (h4 : a ≤ t) : meetsF f l r t p = true := by
  unfold withinF at h
  unfold meetsF
  rw [decide_eq_true_eq] at *
  omega

set_option maxHeartbeats 4000000 in
set_option maxRecDepth 100000 in
theorem SpanCovers_walk (cs : List Value) (t : FT) (q a k : Int) (cm : ByteArray) (x y z : Int) (nm f l r tt sz : Int) (sd : Bool) (w : World) (h : FTr w w.heap.size cs t)
    (hs : (Lit.int .i64 nm).wf = true ∧ (Lit.int .i64 f).wf = true ∧ (Lit.int .i64 l).wf = true ∧ (Lit.int .i64 r).wf = true ∧ (Lit.int .i64 tt).wf = true ∧ (Lit.int .i64 sz).wf = true) :
    Calls Try.prog 5 #[.agg cs.toArray, .agg #[.int .i64 q, .int .i64 a, .int .i64 k, .string cm, .int .i64 x, .int .i64 y, .int .i64 z], .agg #[.int .i64 nm, .int .i64 f, .int .i64 l, .int .i64 r, .int .i64 tt, .int .i64 sz, .bool sd]] w fun e w' => e = .returned (.bool true) ∧ Below w.heap.size w w' := by
  have HT := Lib.hid h
  have f1 := bounds_i64 hs.2.1
  have l1 := bounds_i64 hs.2.2.1
  clear hs
  obtain ⟨f1, f2⟩ := f1
  obtain ⟨l1, l2⟩ := l1
  have HRS := Lib.hid (right_same t)
  cases h with
  | mk op fa fb name A n c vs ks hop ha hb hnm hn hv hnc hcm hr hk =>
    clear hop ha hb hn hv hr hk hnm hnc hcm
    generalize FT.mk op fa fb name ks = t at HT HRS
    have HK1 := Lib.hid (show Kept w (((w.alloc (.cells #[.int .i64 op, .int .i64 fa, .int .i64 fb, .string name, .slice A n c] 24)).alloc (.cells #[.int .i64 q, .int .i64 a, .int .i64 k, .string cm, .int .i64 x, .int .i64 y, .int .i64 z] 30)).alloc (.cells #[.int .i64 nm, .int .i64 f, .int .i64 l, .int .i64 r, .int .i64 tt, .int .i64 sz, .bool sd] 26)) [(w.heap.size + 2, 26, #[.int .i64 nm, .int .i64 f, .int .i64 l, .int .i64 r, .int .i64 tt, .int .i64 sz, .bool sd]), (w.heap.size + 1, 30, #[.int .i64 q, .int .i64 a, .int .i64 k, .string cm, .int .i64 x, .int .i64 y, .int .i64 z]), (w.heap.size, 24, #[.int .i64 op, .int .i64 fa, .int .i64 fb, .string name, .slice A n c])] from ((((Kept.start w).alloc_at 24 #[.int .i64 op, .int .i64 fa, .int .i64 fb, .string name, .slice A n c] (w.heap.size) (by simp)).alloc_at 30 #[.int .i64 q, .int .i64 a, .int .i64 k, .string cm, .int .i64 x, .int .i64 y, .int .i64 z] (w.heap.size + 1) (by simp)).alloc_at 26 #[.int .i64 nm, .int .i64 f, .int .i64 l, .int .i64 r, .int .i64 tt, .int .i64 sz, .bool sd] (w.heap.size + 2) (by simp)))
    go_enter Try.func5, Try.ntmps5
    go_wp2_with fail
    with_reducible refine (awake_c _).mono ?_
    rintro e w1 ⟨rfl, hb1⟩
    have HK2 := Lib.hid (show Kept w w1 [(w.heap.size + 2, 26, #[.int .i64 nm, .int .i64 f, .int .i64 l, .int .i64 r, .int .i64 tt, .int .i64 sz, .bool sd]), (w.heap.size + 1, 30, #[.int .i64 q, .int .i64 a, .int .i64 k, .string cm, .int .i64 x, .int .i64 y, .int .i64 z]), (w.heap.size, 24, #[.int .i64 op, .int .i64 fa, .int .i64 fb, .string name, .slice A n c])] from HK1.out.next hb1)
    clear HK1
    clear hb1
    have c_f_0 : w1.cell? ⟨w.heap.size, 0, none⟩ = some (.int .i64 op) := HK2.out.cell 2 rfl 0
    have c_f_1 : w1.cell? ⟨w.heap.size, 1, none⟩ = some (.int .i64 fa) := HK2.out.cell 2 rfl 1
    have c_f_2 : w1.cell? ⟨w.heap.size, 2, none⟩ = some (.int .i64 fb) := HK2.out.cell 2 rfl 2
    have c_f_3 : w1.cell? ⟨w.heap.size, 3, none⟩ = some (.string name) := HK2.out.cell 2 rfl 3
    have c_f_4 : w1.cell? ⟨w.heap.size, 4, none⟩ = some (.slice A n c) := HK2.out.cell 2 rfl 4
    go_wp2_with fail
    with_reducible refine (Short_c HT.out _ HK2.out.bel HK2.out.size).mono ?_
    rintro e w2 ⟨rfl, hb2⟩
    clear c_f_0 c_f_1 c_f_2 c_f_3 c_f_4
    have HK3 := Lib.hid (show Kept w w2 [(w.heap.size + 2, 26, #[.int .i64 nm, .int .i64 f, .int .i64 l, .int .i64 r, .int .i64 tt, .int .i64 sz, .bool sd]), (w.heap.size + 1, 30, #[.int .i64 q, .int .i64 a, .int .i64 k, .string cm, .int .i64 x, .int .i64 y, .int .i64 z]), (w.heap.size, 24, #[.int .i64 op, .int .i64 fa, .int .i64 fb, .string name, .slice A n c])] from HK2.out.next hb2)
    clear HK2
    clear hb2
    cases hsh : shortF t
    · go_wp2
      go_ret
      exact ⟨rfl, HK3.out.bel⟩
    clear hsh
    have c_f_0 : w2.cell? ⟨w.heap.size, 0, none⟩ = some (.int .i64 op) := HK3.out.cell 2 rfl 0
    have c_f_1 : w2.cell? ⟨w.heap.size, 1, none⟩ = some (.int .i64 fa) := HK3.out.cell 2 rfl 1
    have c_f_2 : w2.cell? ⟨w.heap.size, 2, none⟩ = some (.int .i64 fb) := HK3.out.cell 2 rfl 2
    have c_f_3 : w2.cell? ⟨w.heap.size, 3, none⟩ = some (.string name) := HK3.out.cell 2 rfl 3
    have c_f_4 : w2.cell? ⟨w.heap.size, 4, none⟩ = some (.slice A n c) := HK3.out.cell 2 rfl 4
    have c_e_0 : w2.cell? ⟨w.heap.size + 1, 0, none⟩ = some (.int .i64 q) := HK3.out.cell 1 rfl 0
    have c_e_1 : w2.cell? ⟨w.heap.size + 1, 1, none⟩ = some (.int .i64 a) := HK3.out.cell 1 rfl 1
    have c_e_2 : w2.cell? ⟨w.heap.size + 1, 2, none⟩ = some (.int .i64 k) := HK3.out.cell 1 rfl 2
    have c_e_3 : w2.cell? ⟨w.heap.size + 1, 3, none⟩ = some (.string cm) := HK3.out.cell 1 rfl 3
    have c_e_4 : w2.cell? ⟨w.heap.size + 1, 4, none⟩ = some (.int .i64 x) := HK3.out.cell 1 rfl 4
    have c_e_5 : w2.cell? ⟨w.heap.size + 1, 5, none⟩ = some (.int .i64 y) := HK3.out.cell 1 rfl 5
    have c_e_6 : w2.cell? ⟨w.heap.size + 1, 6, none⟩ = some (.int .i64 z) := HK3.out.cell 1 rfl 6
    by_cases hcm : 100 < cm.size
    · have d0 : decide ((100 : Int) < (cm.size : Int)) = true := by simp; omega
      go_wp2
      go_ret
      exact ⟨rfl, HK3.out.bel⟩
    have d0 : decide ((100 : Int) < (cm.size : Int)) = false := by simp; omega
    go_wp2_with fail
    with_reducible refine (Match_c HT.out ⟨q, a, k, cm, x, y, z⟩ _ HK3.out.bel HK3.out.size).mono ?_
    rintro e w3 ⟨rfl, hb3⟩
    clear d0 hcm
    clear c_f_0 c_f_1 c_f_2 c_f_3 c_f_4 c_e_0 c_e_1 c_e_2 c_e_3 c_e_4 c_e_5 c_e_6
    have HK4 := Lib.hid (show Kept w w3 [(w.heap.size + 2, 26, #[.int .i64 nm, .int .i64 f, .int .i64 l, .int .i64 r, .int .i64 tt, .int .i64 sz, .bool sd]), (w.heap.size + 1, 30, #[.int .i64 q, .int .i64 a, .int .i64 k, .string cm, .int .i64 x, .int .i64 y, .int .i64 z]), (w.heap.size, 24, #[.int .i64 op, .int .i64 fa, .int .i64 fb, .string name, .slice A n c])] from HK3.out.next hb3)
    clear HK3
    clear hb3
    have c_e_0 : w3.cell? ⟨w.heap.size + 1, 0, none⟩ = some (.int .i64 q) := HK4.out.cell 1 rfl 0
    have c_e_1 : w3.cell? ⟨w.heap.size + 1, 1, none⟩ = some (.int .i64 a) := HK4.out.cell 1 rfl 1
    have c_e_2 : w3.cell? ⟨w.heap.size + 1, 2, none⟩ = some (.int .i64 k) := HK4.out.cell 1 rfl 2
    have c_e_3 : w3.cell? ⟨w.heap.size + 1, 3, none⟩ = some (.string cm) := HK4.out.cell 1 rfl 3
    have c_e_4 : w3.cell? ⟨w.heap.size + 1, 4, none⟩ = some (.int .i64 x) := HK4.out.cell 1 rfl 4
    have c_e_5 : w3.cell? ⟨w.heap.size + 1, 5, none⟩ = some (.int .i64 y) := HK4.out.cell 1 rfl 5
    have c_e_6 : w3.cell? ⟨w.heap.size + 1, 6, none⟩ = some (.int .i64 z) := HK4.out.cell 1 rfl 6
    cases hma : (rightT t && meansF t ⟨q, a, k, cm, x, y, z⟩)
    · go_wp2
      go_ret
      exact ⟨rfl, HK4.out.bel⟩
    by_cases gd1 : q < 0
    · have d1 : decide (q < 0) = true := by simp; omega
      go_wp2
      go_ret
      exact ⟨rfl, HK4.out.bel⟩
    have d1 : decide (q < 0) = false := by simp; omega
    by_cases gd2 : 4294967296 < q
    · have d2 : decide (4294967296 < q) = true := by simp; omega
      go_wp2
      go_ret
      exact ⟨rfl, HK4.out.bel⟩
    have d2 : decide (4294967296 < q) = false := by simp; omega
    by_cases gd3 : a < 0
    · have d3 : decide (a < 0) = true := by simp; omega
      go_wp2
      go_ret
      exact ⟨rfl, HK4.out.bel⟩
    have d3 : decide (a < 0) = false := by simp; omega
    by_cases gd4 : 1099511627776 < a
    · have d4 : decide (1099511627776 < a) = true := by simp; omega
      go_wp2
      go_ret
      exact ⟨rfl, HK4.out.bel⟩
    have d4 : decide (1099511627776 < a) = false := by simp; omega
    rw [Bool.and_eq_true] at hma
    have HWI := Lib.hid (covers_F t ⟨q, a, k, cm, x, y, z⟩ (by simp only; omega) (by simp only; omega) (by simp only; omega) (by simp only; omega) hma.2)
    simp only at HWI
    have HO := Lib.hid (Of_c HT.out w3 HK4.out.bel HK4.out.size)
    rw [show OfP t = ofF t from by unfold OfP; rw [hma.1]; rfl, show OfE t = 0 from by unfold OfE; rw [hma.1]; rfl] at HO
    clear hma HRS
    generalize ofF t = sp at HO HWI
    have c_f_0 : w3.cell? ⟨w.heap.size, 0, none⟩ = some (.int .i64 op) := HK4.out.cell 2 rfl 0
    have c_f_1 : w3.cell? ⟨w.heap.size, 1, none⟩ = some (.int .i64 fa) := HK4.out.cell 2 rfl 1
    have c_f_2 : w3.cell? ⟨w.heap.size, 2, none⟩ = some (.int .i64 fb) := HK4.out.cell 2 rfl 2
    have c_f_3 : w3.cell? ⟨w.heap.size, 3, none⟩ = some (.string name) := HK4.out.cell 2 rfl 3
    have c_f_4 : w3.cell? ⟨w.heap.size, 4, none⟩ = some (.slice A n c) := HK4.out.cell 2 rfl 4
    go_wp2_with fail
    with_reducible refine HO.out.mono ?_
    rintro e w4 ⟨rfl, hb4⟩
    clear HO gd1 gd2 gd3 gd4 d1 d2 d3 d4
    clear c_e_0 c_e_1 c_e_2 c_e_3 c_e_4 c_e_5 c_e_6 c_f_0 c_f_1 c_f_2 c_f_3 c_f_4
    have HK5 := Lib.hid (show Kept w w4 [(w.heap.size + 2, 26, #[.int .i64 nm, .int .i64 f, .int .i64 l, .int .i64 r, .int .i64 tt, .int .i64 sz, .bool sd]), (w.heap.size + 1, 30, #[.int .i64 q, .int .i64 a, .int .i64 k, .string cm, .int .i64 x, .int .i64 y, .int .i64 z]), (w.heap.size, 24, #[.int .i64 op, .int .i64 fa, .int .i64 fb, .string name, .slice A n c])] from HK4.out.next hb4)
    clear HK4
    clear hb4
    have HK6 := Lib.hid (show Kept w (w4.alloc (.cells #[.int .i64 sp.f, .int .i64 sp.l, .int .i64 sp.r, .int .i64 sp.t] 28)) [(w4.heap.size, 28, #[.int .i64 sp.f, .int .i64 sp.l, .int .i64 sp.r, .int .i64 sp.t]), (w.heap.size + 2, 26, #[.int .i64 nm, .int .i64 f, .int .i64 l, .int .i64 r, .int .i64 tt, .int .i64 sz, .bool sd]), (w.heap.size + 1, 30, #[.int .i64 q, .int .i64 a, .int .i64 k, .string cm, .int .i64 x, .int .i64 y, .int .i64 z]), (w.heap.size, 24, #[.int .i64 op, .int .i64 fa, .int .i64 fb, .string name, .slice A n c])] from HK5.out.alloc 28 #[.int .i64 sp.f, .int .i64 sp.l, .int .i64 sp.r, .int .i64 sp.t])
    clear HK5
    have c_e_0 : (w4.alloc (.cells #[.int .i64 sp.f, .int .i64 sp.l, .int .i64 sp.r, .int .i64 sp.t] 28)).cell? ⟨w.heap.size + 1, 0, none⟩ = some (.int .i64 q) := HK6.out.cell 2 rfl 0
    have c_e_1 : (w4.alloc (.cells #[.int .i64 sp.f, .int .i64 sp.l, .int .i64 sp.r, .int .i64 sp.t] 28)).cell? ⟨w.heap.size + 1, 1, none⟩ = some (.int .i64 a) := HK6.out.cell 2 rfl 1
    have c_e_2 : (w4.alloc (.cells #[.int .i64 sp.f, .int .i64 sp.l, .int .i64 sp.r, .int .i64 sp.t] 28)).cell? ⟨w.heap.size + 1, 2, none⟩ = some (.int .i64 k) := HK6.out.cell 2 rfl 2
    have c_e_3 : (w4.alloc (.cells #[.int .i64 sp.f, .int .i64 sp.l, .int .i64 sp.r, .int .i64 sp.t] 28)).cell? ⟨w.heap.size + 1, 3, none⟩ = some (.string cm) := HK6.out.cell 2 rfl 3
    have c_e_4 : (w4.alloc (.cells #[.int .i64 sp.f, .int .i64 sp.l, .int .i64 sp.r, .int .i64 sp.t] 28)).cell? ⟨w.heap.size + 1, 4, none⟩ = some (.int .i64 x) := HK6.out.cell 2 rfl 4
    have c_e_5 : (w4.alloc (.cells #[.int .i64 sp.f, .int .i64 sp.l, .int .i64 sp.r, .int .i64 sp.t] 28)).cell? ⟨w.heap.size + 1, 5, none⟩ = some (.int .i64 y) := HK6.out.cell 2 rfl 5
    have c_e_6 : (w4.alloc (.cells #[.int .i64 sp.f, .int .i64 sp.l, .int .i64 sp.r, .int .i64 sp.t] 28)).cell? ⟨w.heap.size + 1, 6, none⟩ = some (.int .i64 z) := HK6.out.cell 2 rfl 6
    have c_q_0 : (w4.alloc (.cells #[.int .i64 sp.f, .int .i64 sp.l, .int .i64 sp.r, .int .i64 sp.t] 28)).cell? ⟨w4.heap.size, 0, none⟩ = some (.int .i64 sp.f) := HK6.out.cell 0 rfl 0
    have c_q_1 : (w4.alloc (.cells #[.int .i64 sp.f, .int .i64 sp.l, .int .i64 sp.r, .int .i64 sp.t] 28)).cell? ⟨w4.heap.size, 1, none⟩ = some (.int .i64 sp.l) := HK6.out.cell 0 rfl 1
    have c_q_2 : (w4.alloc (.cells #[.int .i64 sp.f, .int .i64 sp.l, .int .i64 sp.r, .int .i64 sp.t] 28)).cell? ⟨w4.heap.size, 2, none⟩ = some (.int .i64 sp.r) := HK6.out.cell 0 rfl 2
    have c_q_3 : (w4.alloc (.cells #[.int .i64 sp.f, .int .i64 sp.l, .int .i64 sp.r, .int .i64 sp.t] 28)).cell? ⟨w4.heap.size, 3, none⟩ = some (.int .i64 sp.t) := HK6.out.cell 0 rfl 3
    go_wp2_with fail
    with_reducible refine (Within_c q a k cm x y z sp _).mono ?_
    rw [HWI.out]
    rintro e w5 ⟨rfl, hb5⟩
    clear c_e_0 c_e_1 c_e_2 c_e_3 c_e_4 c_e_5 c_e_6 c_q_0 c_q_1 c_q_2 c_q_3
    have HK7 := Lib.hid (show Kept w w5 [(w4.heap.size, 28, #[.int .i64 sp.f, .int .i64 sp.l, .int .i64 sp.r, .int .i64 sp.t]), (w.heap.size + 2, 26, #[.int .i64 nm, .int .i64 f, .int .i64 l, .int .i64 r, .int .i64 tt, .int .i64 sz, .bool sd]), (w.heap.size + 1, 30, #[.int .i64 q, .int .i64 a, .int .i64 k, .string cm, .int .i64 x, .int .i64 y, .int .i64 z]), (w.heap.size, 24, #[.int .i64 op, .int .i64 fa, .int .i64 fb, .string name, .slice A n c])] from HK6.out.next hb5)
    clear HK6
    clear hb5
    generalize w4.heap.size = gq at HK7 ⊢
    have c_e_0 : w5.cell? ⟨w.heap.size + 1, 0, none⟩ = some (.int .i64 q) := HK7.out.cell 2 rfl 0
    have c_e_1 : w5.cell? ⟨w.heap.size + 1, 1, none⟩ = some (.int .i64 a) := HK7.out.cell 2 rfl 1
    have c_e_2 : w5.cell? ⟨w.heap.size + 1, 2, none⟩ = some (.int .i64 k) := HK7.out.cell 2 rfl 2
    have c_e_3 : w5.cell? ⟨w.heap.size + 1, 3, none⟩ = some (.string cm) := HK7.out.cell 2 rfl 3
    have c_e_4 : w5.cell? ⟨w.heap.size + 1, 4, none⟩ = some (.int .i64 x) := HK7.out.cell 2 rfl 4
    have c_e_5 : w5.cell? ⟨w.heap.size + 1, 5, none⟩ = some (.int .i64 y) := HK7.out.cell 2 rfl 5
    have c_e_6 : w5.cell? ⟨w.heap.size + 1, 6, none⟩ = some (.int .i64 z) := HK7.out.cell 2 rfl 6
    have c_s_0 : w5.cell? ⟨w.heap.size + 2, 0, none⟩ = some (.int .i64 nm) := HK7.out.cell 1 rfl 0
    have c_s_1 : w5.cell? ⟨w.heap.size + 2, 1, none⟩ = some (.int .i64 f) := HK7.out.cell 1 rfl 1
    have c_s_2 : w5.cell? ⟨w.heap.size + 2, 2, none⟩ = some (.int .i64 l) := HK7.out.cell 1 rfl 2
    have c_s_3 : w5.cell? ⟨w.heap.size + 2, 3, none⟩ = some (.int .i64 r) := HK7.out.cell 1 rfl 3
    have c_s_4 : w5.cell? ⟨w.heap.size + 2, 4, none⟩ = some (.int .i64 tt) := HK7.out.cell 1 rfl 4
    have c_s_5 : w5.cell? ⟨w.heap.size + 2, 5, none⟩ = some (.int .i64 sz) := HK7.out.cell 1 rfl 5
    have c_s_6 : w5.cell? ⟨w.heap.size + 2, 6, none⟩ = some (.bool sd) := HK7.out.cell 1 rfl 6
    have c_q_0 : w5.cell? ⟨gq, 0, none⟩ = some (.int .i64 sp.f) := HK7.out.cell 0 rfl 0
    have c_q_1 : w5.cell? ⟨gq, 1, none⟩ = some (.int .i64 sp.l) := HK7.out.cell 0 rfl 1
    have c_q_2 : w5.cell? ⟨gq, 2, none⟩ = some (.int .i64 sp.r) := HK7.out.cell 0 rfl 2
    have c_q_3 : w5.cell? ⟨gq, 3, none⟩ = some (.int .i64 sp.t) := HK7.out.cell 0 rfl 3
    by_cases gd1 : q ≤ f
    · have d1 : decide (q ≤ f) = true := by simp; omega
      go_wp2
      go_ret
      exact ⟨rfl, HK7.out.bel⟩
    have d1 : decide (q ≤ f) = false := by simp; omega
    by_cases gd2 : l < q
    · have d2 : decide (l < q) = true := by simp; omega
      go_wp2
      go_ret
      exact ⟨rfl, HK7.out.bel⟩
    have d2 : decide (l < q) = false := by simp; omega
    by_cases gd3 : a < r
    · have d3 : decide (a < r) = true := by simp; omega
      go_wp2
      go_ret
      exact ⟨rfl, HK7.out.bel⟩
    have d3 : decide (a < r) = false := by simp; omega
    by_cases gd4 : tt < a
    · have d4 : decide (tt < a) = true := by simp; omega
      go_wp2
      go_ret
      exact ⟨rfl, HK7.out.bel⟩
    have d4 : decide (tt < a) = false := by simp; omega
    have HM := Lib.hid (meets_of q a f l r tt sp HWI.out (by omega) (by omega) (by omega) (by omega))
    clear gd1 gd2 gd3 gd4
    go_wp2_with fail
    with_reducible refine (Meets_c nm f l r tt sz sd sp f1 l2 _).mono ?_
    rw [HM.out]
    rintro e w6 ⟨rfl, hb6⟩
    clear c_e_0 c_e_1 c_e_2 c_e_3 c_e_4 c_e_5 c_e_6 c_s_0 c_s_1 c_s_2 c_s_3 c_s_4 c_s_5 c_s_6 c_q_0 c_q_1 c_q_2 c_q_3
    have HK8 := Lib.hid (show Kept w w6 [(gq, 28, #[.int .i64 sp.f, .int .i64 sp.l, .int .i64 sp.r, .int .i64 sp.t]), (w.heap.size + 2, 26, #[.int .i64 nm, .int .i64 f, .int .i64 l, .int .i64 r, .int .i64 tt, .int .i64 sz, .bool sd]), (w.heap.size + 1, 30, #[.int .i64 q, .int .i64 a, .int .i64 k, .string cm, .int .i64 x, .int .i64 y, .int .i64 z]), (w.heap.size, 24, #[.int .i64 op, .int .i64 fa, .int .i64 fb, .string name, .slice A n c])] from HK7.out.next hb6)
    clear HK7
    clear hb6
    go_wp2
    go_ret
    exact ⟨rfl, HK8.out.bel⟩
end Go.Proofs.Ytgbcgkhcmellfaa
