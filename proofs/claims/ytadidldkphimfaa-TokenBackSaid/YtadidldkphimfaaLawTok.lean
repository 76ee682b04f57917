/- The walk of TokenRight. -/
import Derived.Test.YtadidldkphimfaaTok7
namespace Go.Proofs.Ytadidldkphimfaa
set_option linter.unusedVariables false
open Go.RowKit Go.ChangeShapes

theorem Read_w {w : World} {B : Nat} {cs : List Value} {t : FT} (h : FTr w B cs t) (hrt : rightT t = false) (s : ByteArray) (hs : s.size ≤ 1000000) (W : World) (hB : Below B w W) (hBW : B ≤ W.heap.size) :
    Calls Try.prog 10 #[.agg cs.toArray, .string s] W fun e w' => e = .returned (.tuple #[.int .i64 0, .int .i64 1]) ∧ Below W.heap.size W w' := by
  have hk := Read_c h s hs W hB hBW
  rw [show readV t s.data.toList = (0, 1) from by unfold readV; rw [hrt]; rfl] at hk
  exact hk
theorem Read_n {w : World} {B : Nat} {cs : List Value} {t : FT} (h : FTr w B cs t) (hrt : rightT t = true) (s : ByteArray) (hs : s.size ≤ 1000000) (hf : readF (bytesT t) s.data.toList = none) (W : World) (hB : Below B w W) (hBW : B ≤ W.heap.size) :
    Calls Try.prog 10 #[.agg cs.toArray, .string s] W fun e w' => e = .returned (.tuple #[.int .i64 0, .int .i64 17]) ∧ Below W.heap.size W w' := by
  have hk := Read_c h s hs W hB hBW
  rw [show readV t s.data.toList = (0, 17) from by unfold readV; rw [hrt, if_pos rfl, hf]] at hk
  exact hk
theorem Read_s {w : World} {B : Nat} {cs : List Value} {t : FT} (h : FTr w B cs t) (hrt : rightT t = true) (s : ByteArray) (hs : s.size ≤ 1000000) (n : Nat) (hf : readF (bytesT t) s.data.toList = some n) (W : World) (hB : Below B w W) (hBW : B ≤ W.heap.size) :
    Calls Try.prog 10 #[.agg cs.toArray, .string s] W fun e w' => e = .returned (.tuple #[.int .i64 (n : Int), .int .i64 0]) ∧ Below W.heap.size W w' := by
  have hk := Read_c h s hs W hB hBW
  rw [show readV t s.data.toList = ((n : Int), 0) from by unfold readV; rw [hrt, if_pos rfl, hf]] at hk
  exact hk
theorem rRead_n {w : World} {B : Nat} {cs : List Value} {t : FT} (h : FTr w B cs t) (hrt : rightT t = true) (s : ByteArray) (hf : readF (bytesT t) s.data.toList = none) (W : World) (hB : Below B w W) (hBW : B ≤ W.heap.size) :
    Calls Try.prog 11 #[.agg cs.toArray, .string s] W fun e w' => e = .returned (.tuple #[.int .i64 0, .bool false]) ∧ Below W.heap.size W w' := by
  have hk := rRead_c h hrt s W hB hBW
  rw [read_same, hf] at hk
  exact hk
theorem rRead_s {w : World} {B : Nat} {cs : List Value} {t : FT} (h : FTr w B cs t) (hrt : rightT t = true) (s : ByteArray) (n : Nat) (hf : readF (bytesT t) s.data.toList = some n) (W : World) (hB : Below B w W) (hBW : B ≤ W.heap.size) :
    Calls Try.prog 11 #[.agg cs.toArray, .string s] W fun e w' => e = .returned (.tuple #[.int .i64 (n : Int), .bool true]) ∧ Below W.heap.size W w' := by
  have hk := rRead_c h hrt s W hB hBW
  rw [read_same, hf] at hk
  exact hk
theorem Make_bad {w : World} {B : Nat} {cs : List Value} {t : FT} (h : FTr w B cs t) (seq : Int) (hm : makeB t seq = false) (W : World) (hB : Below B w W) (hBW : B ≤ W.heap.size) :
    Calls Try.prog 8 #[.agg cs.toArray, .int .i64 seq] W fun e w' => e = .returned (.tuple #[.string ⟨#[]⟩, .int .i64 1]) ∧ Below W.heap.size W w' := by
  have hk := Make_c h seq W hB hBW
  rw [makeR_bad hm] at hk
  exact hk
theorem Make_ok {w : World} {B : Nat} {cs : List Value} {t : FT} (h : FTr w B cs t) (hrt : rightT t = true) (q : Nat) (hq : q ≤ 4294967296) (W : World) (hB : Below B w W) (hBW : B ≤ W.heap.size) :
    Calls Try.prog 8 #[.agg cs.toArray, .int .i64 (q : Int)] W fun e w' => e = .returned (.tuple #[.string ⟨(tokB (bytesT t) q).toArray⟩, .int .i64 0]) ∧ Below W.heap.size W w' := by
  have hk := Make_c h (q : Int) W hB hBW
  rw [show makeR t (q : Int) = (⟨(tokB (bytesT t) q).toArray⟩, 0) from by unfold makeR makeB; rw [hrt, decide_eq_true (by omega)]; simp] at hk
  exact hk
theorem makeB_right {t : FT} {seq : Int} (h : rightT t = false) : makeB t seq = false := by unfold makeB; rw [h]; rfl
theorem makeB_range {t : FT} {seq : Int} (h : ¬ (0 ≤ seq ∧ seq ≤ 4294967296)) : makeB t seq = false := by unfold makeB; rw [decide_eq_false h, Bool.and_false]

set_option maxHeartbeats 8000000 in
set_option maxRecDepth 100000 in
theorem TokenRight_walk (cs : List Value) (t : FT) (seq : Int) (s : ByteArray) (w : World) (h : FTr w w.heap.size cs t) :
    Calls Try.prog 3 #[.agg cs.toArray, .int .i64 seq, .string s] w fun e w' => e = .returned (.bool true) ∧ Below w.heap.size w w' := by
  have HT := Lib.hid h
  cases h with
  | mk op a b name A n c vs ks hop ha hb hnm hn hv hnc hcm hr hk =>
    clear hop ha hb hn hv hr hk hnm hnc hcm
    generalize FT.mk op a b name ks = t at HT
    have HK1 := Lib.hid (show Kept w (w.alloc (.cells #[.int .i64 op, .int .i64 a, .int .i64 b, .string name, .slice A n c] 24)) [(w.heap.size, 24, #[.int .i64 op, .int .i64 a, .int .i64 b, .string name, .slice A n c])] from ((Kept.start w).alloc_at 24 #[.int .i64 op, .int .i64 a, .int .i64 b, .string name, .slice A n c] (w.heap.size) (by simp)))
    go_enter Try.func3, Try.ntmps3
    go_wp2_with fail
    with_reducible refine (awake_c _).mono ?_
    rintro e w1 ⟨rfl, hb1⟩
    have HK2 := Lib.hid (show Kept w w1 [(w.heap.size, 24, #[.int .i64 op, .int .i64 a, .int .i64 b, .string name, .slice A n c])] from HK1.out.next hb1)
    clear HK1
    clear hb1
    have c_f_0 : w1.cell? ⟨w.heap.size, 0, none⟩ = some (.int .i64 op) := HK2.out.cell 0 rfl 0
    have c_f_1 : w1.cell? ⟨w.heap.size, 1, none⟩ = some (.int .i64 a) := HK2.out.cell 0 rfl 1
    have c_f_2 : w1.cell? ⟨w.heap.size, 2, none⟩ = some (.int .i64 b) := HK2.out.cell 0 rfl 2
    have c_f_3 : w1.cell? ⟨w.heap.size, 3, none⟩ = some (.string name) := HK2.out.cell 0 rfl 3
    have c_f_4 : w1.cell? ⟨w.heap.size, 4, none⟩ = some (.slice A n c) := HK2.out.cell 0 rfl 4
    go_wp2_with fail
    with_reducible refine (Short_c HT.out _ HK2.out.bel HK2.out.size).mono ?_
    rintro e w2 ⟨rfl, hb2⟩
    clear c_f_0 c_f_1 c_f_2 c_f_3 c_f_4
    have HK3 := Lib.hid (show Kept w w2 [(w.heap.size, 24, #[.int .i64 op, .int .i64 a, .int .i64 b, .string name, .slice A n c])] from HK2.out.next hb2)
    clear HK2
    clear hb2
    cases hsh : shortF t
    · go_wp2
      go_ret
      exact ⟨rfl, HK3.out.bel⟩
    clear hsh
    by_cases hlen : 200 < s.size
    · have d0 : decide ((200 : Int) < (s.size : Int)) = true := by simp; omega
      go_wp2
      go_ret
      exact ⟨rfl, HK3.out.bel⟩
    have d0 : decide ((200 : Int) < (s.size : Int)) = false := by simp; omega
    have c_f_0 : w2.cell? ⟨w.heap.size, 0, none⟩ = some (.int .i64 op) := HK3.out.cell 0 rfl 0
    have c_f_1 : w2.cell? ⟨w.heap.size, 1, none⟩ = some (.int .i64 a) := HK3.out.cell 0 rfl 1
    have c_f_2 : w2.cell? ⟨w.heap.size, 2, none⟩ = some (.int .i64 b) := HK3.out.cell 0 rfl 2
    have c_f_3 : w2.cell? ⟨w.heap.size, 3, none⟩ = some (.string name) := HK3.out.cell 0 rfl 3
    have c_f_4 : w2.cell? ⟨w.heap.size, 4, none⟩ = some (.slice A n c) := HK3.out.cell 0 rfl 4
    go_wp2_with fail
    with_reducible refine (rRight_c HT.out _ HK3.out.bel HK3.out.size).mono ?_
    rintro e w3 ⟨rfl, hb3⟩
    clear d0
    clear c_f_0 c_f_1 c_f_2 c_f_3 c_f_4
    have HK4 := Lib.hid (show Kept w w3 [(w.heap.size, 24, #[.int .i64 op, .int .i64 a, .int .i64 b, .string name, .slice A n c])] from HK3.out.next hb3)
    clear HK3
    clear hb3
    rw [← right_same]
    cases hrt : rightT t
    · skip
      have c_f_0 : w3.cell? ⟨w.heap.size, 0, none⟩ = some (.int .i64 op) := HK4.out.cell 0 rfl 0
      have c_f_1 : w3.cell? ⟨w.heap.size, 1, none⟩ = some (.int .i64 a) := HK4.out.cell 0 rfl 1
      have c_f_2 : w3.cell? ⟨w.heap.size, 2, none⟩ = some (.int .i64 b) := HK4.out.cell 0 rfl 2
      have c_f_3 : w3.cell? ⟨w.heap.size, 3, none⟩ = some (.string name) := HK4.out.cell 0 rfl 3
      have c_f_4 : w3.cell? ⟨w.heap.size, 4, none⟩ = some (.slice A n c) := HK4.out.cell 0 rfl 4
      go_wp2_with fail
      with_reducible refine (Make_bad HT.out seq (makeB_right hrt) _ HK4.out.bel HK4.out.size).mono ?_
      rintro e w4 ⟨rfl, hb4⟩
      clear c_f_0 c_f_1 c_f_2 c_f_3 c_f_4
      have HK5 := Lib.hid (show Kept w w4 [(w.heap.size, 24, #[.int .i64 op, .int .i64 a, .int .i64 b, .string name, .slice A n c])] from HK4.out.next hb4)
      clear HK4
      clear hb4
      have c_f_0 : w4.cell? ⟨w.heap.size, 0, none⟩ = some (.int .i64 op) := HK5.out.cell 0 rfl 0
      have c_f_1 : w4.cell? ⟨w.heap.size, 1, none⟩ = some (.int .i64 a) := HK5.out.cell 0 rfl 1
      have c_f_2 : w4.cell? ⟨w.heap.size, 2, none⟩ = some (.int .i64 b) := HK5.out.cell 0 rfl 2
      have c_f_3 : w4.cell? ⟨w.heap.size, 3, none⟩ = some (.string name) := HK5.out.cell 0 rfl 3
      have c_f_4 : w4.cell? ⟨w.heap.size, 4, none⟩ = some (.slice A n c) := HK5.out.cell 0 rfl 4
      go_wp2_with fail
      with_reducible refine (Read_w HT.out hrt s (by omega) _ HK5.out.bel HK5.out.size).mono ?_
      rintro e w5 ⟨rfl, hb5⟩
      clear c_f_0 c_f_1 c_f_2 c_f_3 c_f_4
      have HK6 := Lib.hid (show Kept w w5 [(w.heap.size, 24, #[.int .i64 op, .int .i64 a, .int .i64 b, .string name, .slice A n c])] from HK5.out.next hb5)
      clear HK5
      clear hb5
      go_wp2
      go_ret
      exact ⟨rfl, HK6.out.bel⟩
    by_cases h0 : seq < 0
    · have d1 : decide (0 ≤ seq) = false := by simp; omega
      have c_f_0 : w3.cell? ⟨w.heap.size, 0, none⟩ = some (.int .i64 op) := HK4.out.cell 0 rfl 0
      have c_f_1 : w3.cell? ⟨w.heap.size, 1, none⟩ = some (.int .i64 a) := HK4.out.cell 0 rfl 1
      have c_f_2 : w3.cell? ⟨w.heap.size, 2, none⟩ = some (.int .i64 b) := HK4.out.cell 0 rfl 2
      have c_f_3 : w3.cell? ⟨w.heap.size, 3, none⟩ = some (.string name) := HK4.out.cell 0 rfl 3
      have c_f_4 : w3.cell? ⟨w.heap.size, 4, none⟩ = some (.slice A n c) := HK4.out.cell 0 rfl 4
      go_wp2_with fail
      with_reducible refine (Make_bad HT.out seq (makeB_range (by omega)) _ HK4.out.bel HK4.out.size).mono ?_
      rintro e w4 ⟨rfl, hb4⟩
      clear c_f_0 c_f_1 c_f_2 c_f_3 c_f_4
      have HK5 := Lib.hid (show Kept w w4 [(w.heap.size, 24, #[.int .i64 op, .int .i64 a, .int .i64 b, .string name, .slice A n c])] from HK4.out.next hb4)
      clear HK4
      clear hb4
      cases hrf : readF (bytesT t) s.data.toList with
      | none =>
        have c_f_0 : w4.cell? ⟨w.heap.size, 0, none⟩ = some (.int .i64 op) := HK5.out.cell 0 rfl 0
        have c_f_1 : w4.cell? ⟨w.heap.size, 1, none⟩ = some (.int .i64 a) := HK5.out.cell 0 rfl 1
        have c_f_2 : w4.cell? ⟨w.heap.size, 2, none⟩ = some (.int .i64 b) := HK5.out.cell 0 rfl 2
        have c_f_3 : w4.cell? ⟨w.heap.size, 3, none⟩ = some (.string name) := HK5.out.cell 0 rfl 3
        have c_f_4 : w4.cell? ⟨w.heap.size, 4, none⟩ = some (.slice A n c) := HK5.out.cell 0 rfl 4
        go_wp2_with fail
        with_reducible refine (Read_n HT.out hrt s (by omega) hrf _ HK5.out.bel HK5.out.size).mono ?_
        rintro e x1 ⟨rfl, hx1⟩
        clear c_f_0 c_f_1 c_f_2 c_f_3 c_f_4
        have HK6 := Lib.hid (show Kept w x1 [(w.heap.size, 24, #[.int .i64 op, .int .i64 a, .int .i64 b, .string name, .slice A n c])] from HK5.out.next hx1)
        clear HK5
        clear hx1
        have c_f_0 : x1.cell? ⟨w.heap.size, 0, none⟩ = some (.int .i64 op) := HK6.out.cell 0 rfl 0
        have c_f_1 : x1.cell? ⟨w.heap.size, 1, none⟩ = some (.int .i64 a) := HK6.out.cell 0 rfl 1
        have c_f_2 : x1.cell? ⟨w.heap.size, 2, none⟩ = some (.int .i64 b) := HK6.out.cell 0 rfl 2
        have c_f_3 : x1.cell? ⟨w.heap.size, 3, none⟩ = some (.string name) := HK6.out.cell 0 rfl 3
        have c_f_4 : x1.cell? ⟨w.heap.size, 4, none⟩ = some (.slice A n c) := HK6.out.cell 0 rfl 4
        go_wp2_with fail
        with_reducible refine (rRead_n HT.out hrt s hrf _ HK6.out.bel HK6.out.size).mono ?_
        rintro e x2 ⟨rfl, hx2⟩
        clear c_f_0 c_f_1 c_f_2 c_f_3 c_f_4
        have HK7 := Lib.hid (show Kept w x2 [(w.heap.size, 24, #[.int .i64 op, .int .i64 a, .int .i64 b, .string name, .slice A n c])] from HK6.out.next hx2)
        clear HK6
        clear hx2
        go_wp2
        go_ret
        exact ⟨rfl, HK7.out.bel⟩
      | some n0 =>
        have c_f_0 : w4.cell? ⟨w.heap.size, 0, none⟩ = some (.int .i64 op) := HK5.out.cell 0 rfl 0
        have c_f_1 : w4.cell? ⟨w.heap.size, 1, none⟩ = some (.int .i64 a) := HK5.out.cell 0 rfl 1
        have c_f_2 : w4.cell? ⟨w.heap.size, 2, none⟩ = some (.int .i64 b) := HK5.out.cell 0 rfl 2
        have c_f_3 : w4.cell? ⟨w.heap.size, 3, none⟩ = some (.string name) := HK5.out.cell 0 rfl 3
        have c_f_4 : w4.cell? ⟨w.heap.size, 4, none⟩ = some (.slice A n c) := HK5.out.cell 0 rfl 4
        go_wp2_with fail
        with_reducible refine (Read_s HT.out hrt s (by omega) n0 hrf _ HK5.out.bel HK5.out.size).mono ?_
        rintro e x1 ⟨rfl, hx1⟩
        clear c_f_0 c_f_1 c_f_2 c_f_3 c_f_4
        have HK6 := Lib.hid (show Kept w x1 [(w.heap.size, 24, #[.int .i64 op, .int .i64 a, .int .i64 b, .string name, .slice A n c])] from HK5.out.next hx1)
        clear HK5
        clear hx1
        have c_f_0 : x1.cell? ⟨w.heap.size, 0, none⟩ = some (.int .i64 op) := HK6.out.cell 0 rfl 0
        have c_f_1 : x1.cell? ⟨w.heap.size, 1, none⟩ = some (.int .i64 a) := HK6.out.cell 0 rfl 1
        have c_f_2 : x1.cell? ⟨w.heap.size, 2, none⟩ = some (.int .i64 b) := HK6.out.cell 0 rfl 2
        have c_f_3 : x1.cell? ⟨w.heap.size, 3, none⟩ = some (.string name) := HK6.out.cell 0 rfl 3
        have c_f_4 : x1.cell? ⟨w.heap.size, 4, none⟩ = some (.slice A n c) := HK6.out.cell 0 rfl 4
        go_wp2_with fail
        with_reducible refine (rRead_s HT.out hrt s n0 hrf _ HK6.out.bel HK6.out.size).mono ?_
        rintro e x2 ⟨rfl, hx2⟩
        clear c_f_0 c_f_1 c_f_2 c_f_3 c_f_4
        have HK7 := Lib.hid (show Kept w x2 [(w.heap.size, 24, #[.int .i64 op, .int .i64 a, .int .i64 b, .string name, .slice A n c])] from HK6.out.next hx2)
        clear HK6
        clear hx2
        go_wp2
        go_ret
        exact ⟨rfl, HK7.out.bel⟩
    have d1 : decide (0 ≤ seq) = true := by simp; omega
    by_cases h1 : 4294967296 < seq
    · have d2 : decide (seq ≤ 4294967296) = false := by simp; omega
      have c_f_0 : w3.cell? ⟨w.heap.size, 0, none⟩ = some (.int .i64 op) := HK4.out.cell 0 rfl 0
      have c_f_1 : w3.cell? ⟨w.heap.size, 1, none⟩ = some (.int .i64 a) := HK4.out.cell 0 rfl 1
      have c_f_2 : w3.cell? ⟨w.heap.size, 2, none⟩ = some (.int .i64 b) := HK4.out.cell 0 rfl 2
      have c_f_3 : w3.cell? ⟨w.heap.size, 3, none⟩ = some (.string name) := HK4.out.cell 0 rfl 3
      have c_f_4 : w3.cell? ⟨w.heap.size, 4, none⟩ = some (.slice A n c) := HK4.out.cell 0 rfl 4
      go_wp2_with fail
      with_reducible refine (Make_bad HT.out seq (makeB_range (by omega)) _ HK4.out.bel HK4.out.size).mono ?_
      rintro e w4 ⟨rfl, hb4⟩
      clear c_f_0 c_f_1 c_f_2 c_f_3 c_f_4
      have HK5 := Lib.hid (show Kept w w4 [(w.heap.size, 24, #[.int .i64 op, .int .i64 a, .int .i64 b, .string name, .slice A n c])] from HK4.out.next hb4)
      clear HK4
      clear hb4
      cases hrf : readF (bytesT t) s.data.toList with
      | none =>
        have c_f_0 : w4.cell? ⟨w.heap.size, 0, none⟩ = some (.int .i64 op) := HK5.out.cell 0 rfl 0
        have c_f_1 : w4.cell? ⟨w.heap.size, 1, none⟩ = some (.int .i64 a) := HK5.out.cell 0 rfl 1
        have c_f_2 : w4.cell? ⟨w.heap.size, 2, none⟩ = some (.int .i64 b) := HK5.out.cell 0 rfl 2
        have c_f_3 : w4.cell? ⟨w.heap.size, 3, none⟩ = some (.string name) := HK5.out.cell 0 rfl 3
        have c_f_4 : w4.cell? ⟨w.heap.size, 4, none⟩ = some (.slice A n c) := HK5.out.cell 0 rfl 4
        go_wp2_with fail
        with_reducible refine (Read_n HT.out hrt s (by omega) hrf _ HK5.out.bel HK5.out.size).mono ?_
        rintro e x1 ⟨rfl, hx1⟩
        clear c_f_0 c_f_1 c_f_2 c_f_3 c_f_4
        have HK6 := Lib.hid (show Kept w x1 [(w.heap.size, 24, #[.int .i64 op, .int .i64 a, .int .i64 b, .string name, .slice A n c])] from HK5.out.next hx1)
        clear HK5
        clear hx1
        have c_f_0 : x1.cell? ⟨w.heap.size, 0, none⟩ = some (.int .i64 op) := HK6.out.cell 0 rfl 0
        have c_f_1 : x1.cell? ⟨w.heap.size, 1, none⟩ = some (.int .i64 a) := HK6.out.cell 0 rfl 1
        have c_f_2 : x1.cell? ⟨w.heap.size, 2, none⟩ = some (.int .i64 b) := HK6.out.cell 0 rfl 2
        have c_f_3 : x1.cell? ⟨w.heap.size, 3, none⟩ = some (.string name) := HK6.out.cell 0 rfl 3
        have c_f_4 : x1.cell? ⟨w.heap.size, 4, none⟩ = some (.slice A n c) := HK6.out.cell 0 rfl 4
        go_wp2_with fail
        with_reducible refine (rRead_n HT.out hrt s hrf _ HK6.out.bel HK6.out.size).mono ?_
        rintro e x2 ⟨rfl, hx2⟩
        clear c_f_0 c_f_1 c_f_2 c_f_3 c_f_4
        have HK7 := Lib.hid (show Kept w x2 [(w.heap.size, 24, #[.int .i64 op, .int .i64 a, .int .i64 b, .string name, .slice A n c])] from HK6.out.next hx2)
        clear HK6
        clear hx2
        go_wp2
        go_ret
        exact ⟨rfl, HK7.out.bel⟩
      | some n0 =>
        have c_f_0 : w4.cell? ⟨w.heap.size, 0, none⟩ = some (.int .i64 op) := HK5.out.cell 0 rfl 0
        have c_f_1 : w4.cell? ⟨w.heap.size, 1, none⟩ = some (.int .i64 a) := HK5.out.cell 0 rfl 1
        have c_f_2 : w4.cell? ⟨w.heap.size, 2, none⟩ = some (.int .i64 b) := HK5.out.cell 0 rfl 2
        have c_f_3 : w4.cell? ⟨w.heap.size, 3, none⟩ = some (.string name) := HK5.out.cell 0 rfl 3
        have c_f_4 : w4.cell? ⟨w.heap.size, 4, none⟩ = some (.slice A n c) := HK5.out.cell 0 rfl 4
        go_wp2_with fail
        with_reducible refine (Read_s HT.out hrt s (by omega) n0 hrf _ HK5.out.bel HK5.out.size).mono ?_
        rintro e x1 ⟨rfl, hx1⟩
        clear c_f_0 c_f_1 c_f_2 c_f_3 c_f_4
        have HK6 := Lib.hid (show Kept w x1 [(w.heap.size, 24, #[.int .i64 op, .int .i64 a, .int .i64 b, .string name, .slice A n c])] from HK5.out.next hx1)
        clear HK5
        clear hx1
        have c_f_0 : x1.cell? ⟨w.heap.size, 0, none⟩ = some (.int .i64 op) := HK6.out.cell 0 rfl 0
        have c_f_1 : x1.cell? ⟨w.heap.size, 1, none⟩ = some (.int .i64 a) := HK6.out.cell 0 rfl 1
        have c_f_2 : x1.cell? ⟨w.heap.size, 2, none⟩ = some (.int .i64 b) := HK6.out.cell 0 rfl 2
        have c_f_3 : x1.cell? ⟨w.heap.size, 3, none⟩ = some (.string name) := HK6.out.cell 0 rfl 3
        have c_f_4 : x1.cell? ⟨w.heap.size, 4, none⟩ = some (.slice A n c) := HK6.out.cell 0 rfl 4
        go_wp2_with fail
        with_reducible refine (rRead_s HT.out hrt s n0 hrf _ HK6.out.bel HK6.out.size).mono ?_
        rintro e x2 ⟨rfl, hx2⟩
        clear c_f_0 c_f_1 c_f_2 c_f_3 c_f_4
        have HK7 := Lib.hid (show Kept w x2 [(w.heap.size, 24, #[.int .i64 op, .int .i64 a, .int .i64 b, .string name, .slice A n c])] from HK6.out.next hx2)
        clear HK6
        clear hx2
        go_wp2
        go_ret
        exact ⟨rfl, HK7.out.bel⟩
    obtain ⟨q, rfl⟩ : ∃ q : Nat, seq = (q : Int) := ⟨seq.toNat, by omega⟩
    clear d1
    have hq : q ≤ 4294967296 := by omega
    have d1 : decide ((0 : Int) ≤ (q : Int)) = true := by simp
    have d2 : decide ((q : Int) ≤ 4294967296) = true := by simp; omega
    have c_f_0 : w3.cell? ⟨w.heap.size, 0, none⟩ = some (.int .i64 op) := HK4.out.cell 0 rfl 0
    have c_f_1 : w3.cell? ⟨w.heap.size, 1, none⟩ = some (.int .i64 a) := HK4.out.cell 0 rfl 1
    have c_f_2 : w3.cell? ⟨w.heap.size, 2, none⟩ = some (.int .i64 b) := HK4.out.cell 0 rfl 2
    have c_f_3 : w3.cell? ⟨w.heap.size, 3, none⟩ = some (.string name) := HK4.out.cell 0 rfl 3
    have c_f_4 : w3.cell? ⟨w.heap.size, 4, none⟩ = some (.slice A n c) := HK4.out.cell 0 rfl 4
    go_wp2_with fail
    with_reducible refine (Make_ok HT.out hrt q hq _ HK4.out.bel HK4.out.size).mono ?_
    rintro e w4 ⟨rfl, hb4⟩
    clear c_f_0 c_f_1 c_f_2 c_f_3 c_f_4
    have HK5 := Lib.hid (show Kept w w4 [(w.heap.size, 24, #[.int .i64 op, .int .i64 a, .int .i64 b, .string name, .slice A n c])] from HK4.out.next hb4)
    clear HK4
    clear hb4
    have c_f_0 : w4.cell? ⟨w.heap.size, 0, none⟩ = some (.int .i64 op) := HK5.out.cell 0 rfl 0
    have c_f_1 : w4.cell? ⟨w.heap.size, 1, none⟩ = some (.int .i64 a) := HK5.out.cell 0 rfl 1
    have c_f_2 : w4.cell? ⟨w.heap.size, 2, none⟩ = some (.int .i64 b) := HK5.out.cell 0 rfl 2
    have c_f_3 : w4.cell? ⟨w.heap.size, 3, none⟩ = some (.string name) := HK5.out.cell 0 rfl 3
    have c_f_4 : w4.cell? ⟨w.heap.size, 4, none⟩ = some (.slice A n c) := HK5.out.cell 0 rfl 4
    go_wp2_with fail
    with_reducible refine (rMake_c HT.out hrt q hq _ HK5.out.bel HK5.out.size).mono ?_
    rintro e w5 ⟨rfl, hb5⟩
    clear c_f_0 c_f_1 c_f_2 c_f_3 c_f_4
    have HK6 := Lib.hid (show Kept w w5 [(w.heap.size, 24, #[.int .i64 op, .int .i64 a, .int .i64 b, .string name, .slice A n c])] from HK5.out.next hb5)
    clear HK5
    clear hb5
    cases hrf : readF (bytesT t) s.data.toList with
    | none =>
      have c_f_0 : w5.cell? ⟨w.heap.size, 0, none⟩ = some (.int .i64 op) := HK6.out.cell 0 rfl 0
      have c_f_1 : w5.cell? ⟨w.heap.size, 1, none⟩ = some (.int .i64 a) := HK6.out.cell 0 rfl 1
      have c_f_2 : w5.cell? ⟨w.heap.size, 2, none⟩ = some (.int .i64 b) := HK6.out.cell 0 rfl 2
      have c_f_3 : w5.cell? ⟨w.heap.size, 3, none⟩ = some (.string name) := HK6.out.cell 0 rfl 3
      have c_f_4 : w5.cell? ⟨w.heap.size, 4, none⟩ = some (.slice A n c) := HK6.out.cell 0 rfl 4
      go_wp2_with fail
      with_reducible refine (Read_n HT.out hrt s (by omega) hrf _ HK6.out.bel HK6.out.size).mono ?_
      rintro e x1 ⟨rfl, hx1⟩
      clear c_f_0 c_f_1 c_f_2 c_f_3 c_f_4
      have HK7 := Lib.hid (show Kept w x1 [(w.heap.size, 24, #[.int .i64 op, .int .i64 a, .int .i64 b, .string name, .slice A n c])] from HK6.out.next hx1)
      clear HK6
      clear hx1
      have c_f_0 : x1.cell? ⟨w.heap.size, 0, none⟩ = some (.int .i64 op) := HK7.out.cell 0 rfl 0
      have c_f_1 : x1.cell? ⟨w.heap.size, 1, none⟩ = some (.int .i64 a) := HK7.out.cell 0 rfl 1
      have c_f_2 : x1.cell? ⟨w.heap.size, 2, none⟩ = some (.int .i64 b) := HK7.out.cell 0 rfl 2
      have c_f_3 : x1.cell? ⟨w.heap.size, 3, none⟩ = some (.string name) := HK7.out.cell 0 rfl 3
      have c_f_4 : x1.cell? ⟨w.heap.size, 4, none⟩ = some (.slice A n c) := HK7.out.cell 0 rfl 4
      go_wp2_with fail
      with_reducible refine (rRead_n HT.out hrt s hrf _ HK7.out.bel HK7.out.size).mono ?_
      rintro e x2 ⟨rfl, hx2⟩
      clear c_f_0 c_f_1 c_f_2 c_f_3 c_f_4
      have HK8 := Lib.hid (show Kept w x2 [(w.heap.size, 24, #[.int .i64 op, .int .i64 a, .int .i64 b, .string name, .slice A n c])] from HK7.out.next hx2)
      clear HK7
      clear hx2
      go_wp2
      go_ret
      exact ⟨rfl, HK8.out.bel⟩
    | some n0 =>
      have c_f_0 : w5.cell? ⟨w.heap.size, 0, none⟩ = some (.int .i64 op) := HK6.out.cell 0 rfl 0
      have c_f_1 : w5.cell? ⟨w.heap.size, 1, none⟩ = some (.int .i64 a) := HK6.out.cell 0 rfl 1
      have c_f_2 : w5.cell? ⟨w.heap.size, 2, none⟩ = some (.int .i64 b) := HK6.out.cell 0 rfl 2
      have c_f_3 : w5.cell? ⟨w.heap.size, 3, none⟩ = some (.string name) := HK6.out.cell 0 rfl 3
      have c_f_4 : w5.cell? ⟨w.heap.size, 4, none⟩ = some (.slice A n c) := HK6.out.cell 0 rfl 4
      go_wp2_with fail
      with_reducible refine (Read_s HT.out hrt s (by omega) n0 hrf _ HK6.out.bel HK6.out.size).mono ?_
      rintro e x1 ⟨rfl, hx1⟩
      clear c_f_0 c_f_1 c_f_2 c_f_3 c_f_4
      have HK7 := Lib.hid (show Kept w x1 [(w.heap.size, 24, #[.int .i64 op, .int .i64 a, .int .i64 b, .string name, .slice A n c])] from HK6.out.next hx1)
      clear HK6
      clear hx1
      have c_f_0 : x1.cell? ⟨w.heap.size, 0, none⟩ = some (.int .i64 op) := HK7.out.cell 0 rfl 0
      have c_f_1 : x1.cell? ⟨w.heap.size, 1, none⟩ = some (.int .i64 a) := HK7.out.cell 0 rfl 1
      have c_f_2 : x1.cell? ⟨w.heap.size, 2, none⟩ = some (.int .i64 b) := HK7.out.cell 0 rfl 2
      have c_f_3 : x1.cell? ⟨w.heap.size, 3, none⟩ = some (.string name) := HK7.out.cell 0 rfl 3
      have c_f_4 : x1.cell? ⟨w.heap.size, 4, none⟩ = some (.slice A n c) := HK7.out.cell 0 rfl 4
      go_wp2_with fail
      with_reducible refine (rRead_s HT.out hrt s n0 hrf _ HK7.out.bel HK7.out.size).mono ?_
      rintro e x2 ⟨rfl, hx2⟩
      clear c_f_0 c_f_1 c_f_2 c_f_3 c_f_4
      have HK8 := Lib.hid (show Kept w x2 [(w.heap.size, 24, #[.int .i64 op, .int .i64 a, .int .i64 b, .string name, .slice A n c])] from HK7.out.next hx2)
      clear HK7
      clear hx2
      go_wp2
      go_ret
      exact ⟨rfl, HK8.out.bel⟩
end Go.Proofs.Ytadidldkphimfaa
