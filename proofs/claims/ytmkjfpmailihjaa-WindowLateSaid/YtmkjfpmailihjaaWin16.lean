/- The walk of WindowMoves. -/
import Derived.Test.YtmkjfpmailihjaaWin15
namespace Go.Proofs.Ytmkjfpmailihjaa
set_option linter.unusedVariables false
open Go.RowKit Go.ChangeShapes

theorem moved_moved (cs : List (Int × Int)) (sl lo hi : Int) (h1 : sl < lo) (h2 : lo < hi) (hn : 1 ≤ cs.length) : moved (moved cs sl lo) lo hi = moved cs sl hi := by
  apply List.ext_getElem?
  intro i
  by_cases hi' : i < cs.length
  · obtain ⟨g1, g2, g3⟩ := whileOf_spec (to := hi) (n := (cs.length : Int)) (i := i) (by omega) (by omega)
    have hm : ∀ (l : List (Int × Int)) (s t : Int), i < l.length → (moved l s t)[i]? = some (if s < whileOf t l.length i then (0, 0) else l.getD i (0, 0)) := by
      intro l s t h
      rw [moved, List.getElem?_map, List.getElem?_range h, Option.map_some]
    rw [hm _ _ _ (by rw [moved_length]; exact hi'), hm _ _ _ hi', moved_length]
    congr 1
    by_cases h : lo < whileOf hi cs.length i
    · rw [if_pos h, if_pos (by omega)]
    · rw [if_neg h, List.getD_eq_getElem?_getD, hm _ _ _ hi', Option.getD_some]
      rw [whileOf_uniq (to := lo) (n := (cs.length : Int)) (i := i) (s := whileOf hi cs.length i) (by omega) (by omega) (by omega) (by omega) g3]
  · rw [List.getElem?_eq_none (by rw [moved_length, moved_length]; omega), List.getElem?_eq_none (by rw [moved_length]; omega)]
theorem moveR_two {wd sl sl' lo hi : Int} {cs cs' : List (Int × Int)} (hr : rightW wd sl cs = true) (hm : moveR wd sl cs lo = ⟨wd, sl', cs', 0⟩) (ht : timeB lo = true) (ht2 : timeB hi = true) (hle : lo ≤ hi) : moveR wd sl' cs' hi = moveR wd sl cs hi := by
  obtain ⟨a, b, hm', hl, h1, h2, h3, h4⟩ := moveR_good hr ht
  rw [hm] at hm'
  simp only [Wr.mk.injEq, true_and, and_true] at hm'
  obtain ⟨rfl, rfl⟩ := hm'
  obtain ⟨g, -⟩ := rightW_iff.1 hr
  have hdiv : lo / wd ≤ hi / wd := Int.ediv_le_ediv (by omega) hle
  rcases h4 with ⟨rfl, rfl, -⟩ | ⟨rfl, rfl, hlt⟩
  · rfl
  · rw [moveR_on hr ht2 (by omega)]
    by_cases hh : hi / wd ≤ lo / wd
    · rw [moveR_back h3 ht2 hh, show hi / wd = lo / wd from by omega]
    · rw [moveR_on h3 ht2 hh, moved_moved _ _ _ _ hlt (by omega) (by omega)]
theorem moveR_stay {wd sl a : Int} {cs : List (Int × Int)} (hr : rightW wd sl cs = true) (ht : timeB a = true) (h : a / wd ≤ sl) : moveR wd sl cs a = ⟨wd, sl, cs, 0⟩ := moveR_back hr ht h
theorem addR_good {wd sl sl' a : Int} {cs cs' : List (Int × Int)} {ok : Bool} (hr : rightW wd sl cs = true) (ht : timeB a = true) (hm : moveR wd sl cs a = ⟨wd, sl', cs', 0⟩) : ∃ cs2, addR wd sl cs a ok = ⟨wd, sl', cs2, 0⟩ ∧ addR wd sl' cs' a ok = ⟨wd, sl', cs2, 0⟩ ∧ cs2.length = cs'.length := by
  obtain ⟨x, y, hm', hl, h1, h2, h3, h4⟩ := moveR_good hr ht
  rw [hm] at hm'
  simp only [Wr.mk.injEq, true_and, and_true] at hm'
  obtain ⟨rfl, rfl⟩ := hm'
  have hm2 := moveR_back h3 ht h2
  by_cases hl : a / wd ≤ sl' - cs'.length
  · exact ⟨cs', addR_late hm hl, addR_late hm2 hl, rfl⟩
  · exact ⟨_, addR_ok hm hl, addR_ok hm2 hl, by simp⟩

set_option maxRecDepth 100000 in
set_option maxHeartbeats 8000000 in
theorem WindowMoves_walk1 (wd sl : Int) (A : Option Addr) (n c : Nat) (cs : List (Int × Int)) (a b : Int) (ok : Bool) (W : World) (h : CellArg W A n c cs) (hab : a < b) : Calls Try.prog 5 #[.agg (winA wd sl A n c), .int .i64 a, .int .i64 b, .bool ok] W fun e w' => e = .returned (.bool true) ∧ Below W.heap.size W w' := by
  have hr := h.1
  clear h
  have hl := hr.cell_len
  by_cases h99 : 99 < n
  · have dl : decide ((99 : Int) < (n : Int)) = true := by simp; omega
    have HK1 := Lib.hid (show Kept W (W.alloc (.cells #[.int .i64 wd, .int .i64 sl, .slice A n c] 24)) [(W.heap.size, 24, #[.int .i64 wd, .int .i64 sl, .slice A n c])] from ((Kept.start W).alloc_at 24 #[.int .i64 wd, .int .i64 sl, .slice A n c] (W.heap.size) (by simp)))
    go_enter Try.func5, Try.ntmps5
    go_wp2_with fail
    with_reducible refine (awake_c _).mono ?_
    rintro e w1 ⟨rfl, hb1⟩
    have HK2 := Lib.hid (show Kept W w1 [(W.heap.size, 24, #[.int .i64 wd, .int .i64 sl, .slice A n c])] from HK1.out.next hb1)
    clear HK1
    clear hb1
    have c_f_0 : w1.cell? ⟨W.heap.size, 0, none⟩ = some (.int .i64 wd) := HK2.out.cell 0 rfl 0
    have c_f_1 : w1.cell? ⟨W.heap.size, 1, none⟩ = some (.int .i64 sl) := HK2.out.cell 0 rfl 1
    have c_f_2 : w1.cell? ⟨W.heap.size, 2, none⟩ = some (.slice A n c) := HK2.out.cell 0 rfl 2
    go_wp2
    go_ret
    exact ⟨rfl, HK2.out.bel⟩
  have dl : decide ((99 : Int) < (n : Int)) = false := by simp; omega
  have HW0 := Lib.hid (show WinAt W [] A n cs from WinAt.start hr)
  clear hr
  have HK1 := Lib.hid (show Kept W (W.alloc (.cells #[.int .i64 wd, .int .i64 sl, .slice A n c] 24)) [(W.heap.size, 24, #[.int .i64 wd, .int .i64 sl, .slice A n c])] from ((Kept.start W).alloc_at 24 #[.int .i64 wd, .int .i64 sl, .slice A n c] (W.heap.size) (by simp)))
  have HWa := Lib.hid (show WinAt (W.alloc (.cells #[.int .i64 wd, .int .i64 sl, .slice A n c] 24)) [W.heap.size] A n cs from HW0.out.alloc _)
  clear HW0
  by_cases hg : (rightW wd sl cs && timeB a) = false
  · have R1 := Lib.hid (moveR_bad hg)
    have R2 := Lib.hid (addR_bad (ok := ok) hg)
    clear hg
    go_enter Try.func5, Try.ntmps5
    go_wp2_with fail
    with_reducible refine (awake_c _).mono ?_
    rintro e w1 ⟨rfl, hb1⟩
    have HW2 := Lib.hid (show WinAt w1 [W.heap.size] A n cs from HWa.out.next hb1)
    clear HWa
    have HK3 := Lib.hid (show Kept W w1 [(W.heap.size, 24, #[.int .i64 wd, .int .i64 sl, .slice A n c])] from HK1.out.next hb1)
    clear HK1
    clear hb1
    have c_f_0 : w1.cell? ⟨W.heap.size, 0, none⟩ = some (.int .i64 wd) := HK3.out.cell 0 rfl 0
    have c_f_1 : w1.cell? ⟨W.heap.size, 1, none⟩ = some (.int .i64 sl) := HK3.out.cell 0 rfl 1
    have c_f_2 : w1.cell? ⟨W.heap.size, 2, none⟩ = some (.slice A n c) := HK3.out.cell 0 rfl 2
    go_wp2_with fail
    with_reducible refine (Move_c wd sl A n c w1.heap.size cs a w1 HW2.out.rd (Nat.le_refl _) (by omega)).mono ?_
    rw [R1.out]
    rintro e w2 ⟨A2, n2, c2, rfl, hr2, hb2, hlo2⟩
    dsimp only at hr2
    have hx2 : n2 = n := by have := hr2.cell_len; omega
    subst n2
    have HN2 := Lib.hid (show WinAt w2 [W.heap.size] A2 n cs from HW2.out.res hb2.size hr2 hlo2 rfl)
    clear hr2 hlo2
    have HW4 := Lib.hid (show WinAt w2 [W.heap.size] A n cs from HW2.out.next hb2)
    clear HW2
    clear c_f_0 c_f_1 c_f_2
    have HK5 := Lib.hid (show Kept W w2 [(W.heap.size, 24, #[.int .i64 wd, .int .i64 sl, .slice A n c])] from HK3.out.next hb2)
    clear HK3
    clear hb2
    have c_f_0 : w2.cell? ⟨W.heap.size, 0, none⟩ = some (.int .i64 wd) := HK5.out.cell 0 rfl 0
    have c_f_1 : w2.cell? ⟨W.heap.size, 1, none⟩ = some (.int .i64 sl) := HK5.out.cell 0 rfl 1
    have c_f_2 : w2.cell? ⟨W.heap.size, 2, none⟩ = some (.slice A n c) := HK5.out.cell 0 rfl 2
    have hlt20 := HK5.out.lt 0 rfl
    go_wp2_with fail
    clear c_f_0 c_f_1 c_f_2
    have HK6 := Lib.hid (show Kept W (w2.alloc (.cells #[.int .i64 wd, .int .i64 sl, .slice A2 n c2] 24)) [(w2.heap.size, 24, #[.int .i64 wd, .int .i64 sl, .slice A2 n c2]), (W.heap.size, 24, #[.int .i64 wd, .int .i64 sl, .slice A n c])] from HK5.out.alloc 24 #[.int .i64 wd, .int .i64 sl, .slice A2 n c2])
    clear HK5
    have HW7 := Lib.hid (show WinAt (w2.alloc (.cells #[.int .i64 wd, .int .i64 sl, .slice A2 n c2] 24)) [w2.heap.size, W.heap.size] A n cs from HW4.out.alloc _)
    clear HW4
    have HW8 := Lib.hid (show WinAt (w2.alloc (.cells #[.int .i64 wd, .int .i64 sl, .slice A2 n c2] 24)) [w2.heap.size, W.heap.size] A2 n cs from HN2.out.alloc _)
    clear HN2
    generalize w2.alloc (.cells #[.int .i64 wd, .int .i64 sl, .slice A2 n c2] 24) = v2 at HK6 HW7 HW8 ⊢
    clear hlt20
    with_reducible refine (Add_c wd sl A n c v2.heap.size cs a ok v2 HW7.out.rd (Nat.le_refl _) (by omega)).mono ?_
    rw [R2.out]
    rintro e w3 ⟨A3, n3, c3, rfl, hr3, hb3, hlo3⟩
    dsimp only at hr3
    have hx3 : n3 = n := by have := hr3.cell_len; omega
    subst n3
    have HN3 := Lib.hid (show WinAt w3 [w2.heap.size, W.heap.size] A3 n cs from HW7.out.res hb3.size hr3 hlo3 rfl)
    clear hr3 hlo3
    have HW9 := Lib.hid (show WinAt w3 [w2.heap.size, W.heap.size] A n cs from HW7.out.next hb3)
    clear HW7
    have HW10 := Lib.hid (show WinAt w3 [w2.heap.size, W.heap.size] A2 n cs from HW8.out.next hb3)
    clear HW8
    have HK11 := Lib.hid (show Kept W w3 [(w2.heap.size, 24, #[.int .i64 wd, .int .i64 sl, .slice A2 n c2]), (W.heap.size, 24, #[.int .i64 wd, .int .i64 sl, .slice A n c])] from HK6.out.next hb3)
    clear HK6
    clear hb3
    have c_f_0 : w3.cell? ⟨W.heap.size, 0, none⟩ = some (.int .i64 wd) := HK11.out.cell 1 rfl 0
    have c_f_1 : w3.cell? ⟨W.heap.size, 1, none⟩ = some (.int .i64 sl) := HK11.out.cell 1 rfl 1
    have c_f_2 : w3.cell? ⟨W.heap.size, 2, none⟩ = some (.slice A n c) := HK11.out.cell 1 rfl 2
    have c_x_0 : w3.cell? ⟨w2.heap.size, 0, none⟩ = some (.int .i64 wd) := HK11.out.cell 0 rfl 0
    have c_x_1 : w3.cell? ⟨w2.heap.size, 1, none⟩ = some (.int .i64 sl) := HK11.out.cell 0 rfl 1
    have c_x_2 : w3.cell? ⟨w2.heap.size, 2, none⟩ = some (.slice A2 n c2) := HK11.out.cell 0 rfl 2
    have hlt30 := HK11.out.lt 0 rfl
    have hlt31 := HK11.out.lt 1 rfl
    go_wp2_with fail
    clear c_f_0 c_f_1 c_f_2 c_x_0 c_x_1 c_x_2
    have HK12 := Lib.hid (show Kept W (w3.alloc (.cells #[.int .i64 wd, .int .i64 sl, .slice A3 n c3] 24)) [(w3.heap.size, 24, #[.int .i64 wd, .int .i64 sl, .slice A3 n c3]), (w2.heap.size, 24, #[.int .i64 wd, .int .i64 sl, .slice A2 n c2]), (W.heap.size, 24, #[.int .i64 wd, .int .i64 sl, .slice A n c])] from HK11.out.alloc 24 #[.int .i64 wd, .int .i64 sl, .slice A3 n c3])
    clear HK11
    have HW13 := Lib.hid (show WinAt (w3.alloc (.cells #[.int .i64 wd, .int .i64 sl, .slice A3 n c3] 24)) [w3.heap.size, w2.heap.size, W.heap.size] A n cs from HW9.out.alloc _)
    clear HW9
    have HW14 := Lib.hid (show WinAt (w3.alloc (.cells #[.int .i64 wd, .int .i64 sl, .slice A3 n c3] 24)) [w3.heap.size, w2.heap.size, W.heap.size] A2 n cs from HW10.out.alloc _)
    clear HW10
    have HW15 := Lib.hid (show WinAt (w3.alloc (.cells #[.int .i64 wd, .int .i64 sl, .slice A3 n c3] 24)) [w3.heap.size, w2.heap.size, W.heap.size] A3 n cs from HN3.out.alloc _)
    clear HN3
    generalize w3.alloc (.cells #[.int .i64 wd, .int .i64 sl, .slice A3 n c3] 24) = v3 at HK12 HW13 HW14 HW15 ⊢
    clear hlt30 hlt31
    with_reducible refine (wSame_c wd sl A2 n c2 cs wd sl A n c cs v3.heap.size _ HW14.out.rd HW13.out.rd (Nat.le_refl _) (by omega) (by omega)).mono ?_
    rw [sameW_self]
    rintro e w4 ⟨rfl, hb4⟩
    have HW16 := Lib.hid (show WinAt w4 [w3.heap.size, w2.heap.size, W.heap.size] A n cs from HW13.out.next hb4)
    clear HW13
    have HW17 := Lib.hid (show WinAt w4 [w3.heap.size, w2.heap.size, W.heap.size] A2 n cs from HW14.out.next hb4)
    clear HW14
    have HW18 := Lib.hid (show WinAt w4 [w3.heap.size, w2.heap.size, W.heap.size] A3 n cs from HW15.out.next hb4)
    clear HW15
    have HK19 := Lib.hid (show Kept W w4 [(w3.heap.size, 24, #[.int .i64 wd, .int .i64 sl, .slice A3 n c3]), (w2.heap.size, 24, #[.int .i64 wd, .int .i64 sl, .slice A2 n c2]), (W.heap.size, 24, #[.int .i64 wd, .int .i64 sl, .slice A n c])] from HK12.out.next hb4)
    clear HK12
    clear hb4
    have c_p_0 : w4.cell? ⟨w3.heap.size, 0, none⟩ = some (.int .i64 wd) := HK19.out.cell 0 rfl 0
    have c_p_1 : w4.cell? ⟨w3.heap.size, 1, none⟩ = some (.int .i64 sl) := HK19.out.cell 0 rfl 1
    have c_p_2 : w4.cell? ⟨w3.heap.size, 2, none⟩ = some (.slice A3 n c3) := HK19.out.cell 0 rfl 2
    have c_f_0 : w4.cell? ⟨W.heap.size, 0, none⟩ = some (.int .i64 wd) := HK19.out.cell 2 rfl 0
    have c_f_1 : w4.cell? ⟨W.heap.size, 1, none⟩ = some (.int .i64 sl) := HK19.out.cell 2 rfl 1
    have c_f_2 : w4.cell? ⟨W.heap.size, 2, none⟩ = some (.slice A n c) := HK19.out.cell 2 rfl 2
    go_wp2_with fail
    clear c_p_0 c_p_1 c_p_2 c_f_0 c_f_1 c_f_2
    with_reducible refine (wSame_c wd sl A3 n c3 cs wd sl A n c cs w4.heap.size _ HW18.out.rd HW16.out.rd (Nat.le_refl _) (by omega) (by omega)).mono ?_
    rw [sameW_self]
    rintro e w5 ⟨rfl, hb5⟩
    have HW20 := Lib.hid (show WinAt w5 [w3.heap.size, w2.heap.size, W.heap.size] A n cs from HW16.out.next hb5)
    clear HW16
    have HW21 := Lib.hid (show WinAt w5 [w3.heap.size, w2.heap.size, W.heap.size] A2 n cs from HW17.out.next hb5)
    clear HW17
    have HW22 := Lib.hid (show WinAt w5 [w3.heap.size, w2.heap.size, W.heap.size] A3 n cs from HW18.out.next hb5)
    clear HW18
    have HK23 := Lib.hid (show Kept W w5 [(w3.heap.size, 24, #[.int .i64 wd, .int .i64 sl, .slice A3 n c3]), (w2.heap.size, 24, #[.int .i64 wd, .int .i64 sl, .slice A2 n c2]), (W.heap.size, 24, #[.int .i64 wd, .int .i64 sl, .slice A n c])] from HK19.out.next hb5)
    clear HK19
    clear hb5
    go_wp2
    go_ret
    exact ⟨rfl, HK23.out.bel⟩
  have hg' : (rightW wd sl cs && timeB a) = true := by simpa using hg
  rw [Bool.and_eq_true] at hg'
  obtain ⟨hg1, hg2⟩ := hg'
  clear hg
  obtain ⟨sl', cs', hm, hl', h1, h2, h3, -⟩ := moveR_good hg1 hg2
  rw [hl] at hl'
  obtain ⟨cs2, ha1, ha2, hl2⟩ := addR_good (ok := ok) hg1 hg2 hm
  rw [hl'] at hl2
  have R1 := Lib.hid hm
  have R2 := Lib.hid ha1
  have R3 := Lib.hid ha2
  clear ha1 ha2
  cases hth : timeB b
  · have R4 := Lib.hid (show moveR wd sl' cs' b = ⟨wd, sl', cs', 1⟩ from moveR_bad (by rw [hth, Bool.and_false]))
    have R5 := Lib.hid (show moveR wd sl cs b = ⟨wd, sl, cs, 1⟩ from moveR_bad (by rw [hth, Bool.and_false]))
    clear hm hg1 hg2 h1 h2 h3 hth
    go_enter Try.func5, Try.ntmps5
    go_wp2_with fail
    with_reducible refine (awake_c _).mono ?_
    rintro e w1 ⟨rfl, hb1⟩
    have HW2 := Lib.hid (show WinAt w1 [W.heap.size] A n cs from HWa.out.next hb1)
    clear HWa
    have HK3 := Lib.hid (show Kept W w1 [(W.heap.size, 24, #[.int .i64 wd, .int .i64 sl, .slice A n c])] from HK1.out.next hb1)
    clear HK1
    clear hb1
    have c_f_0 : w1.cell? ⟨W.heap.size, 0, none⟩ = some (.int .i64 wd) := HK3.out.cell 0 rfl 0
    have c_f_1 : w1.cell? ⟨W.heap.size, 1, none⟩ = some (.int .i64 sl) := HK3.out.cell 0 rfl 1
    have c_f_2 : w1.cell? ⟨W.heap.size, 2, none⟩ = some (.slice A n c) := HK3.out.cell 0 rfl 2
    go_wp2_with fail
    with_reducible refine (Move_c wd sl A n c w1.heap.size cs a w1 HW2.out.rd (Nat.le_refl _) (by omega)).mono ?_
    rw [R1.out]
    rintro e w2 ⟨A2, n2, c2, rfl, hr2, hb2, hlo2⟩
    dsimp only at hr2
    have hx2 : n2 = n := by have := hr2.cell_len; omega
    subst n2
    have HN2 := Lib.hid (show WinAt w2 [W.heap.size] A2 n cs' from HW2.out.res hb2.size hr2 hlo2 rfl)
    clear hr2 hlo2
    have HW4 := Lib.hid (show WinAt w2 [W.heap.size] A n cs from HW2.out.next hb2)
    clear HW2
    clear c_f_0 c_f_1 c_f_2
    have HK5 := Lib.hid (show Kept W w2 [(W.heap.size, 24, #[.int .i64 wd, .int .i64 sl, .slice A n c])] from HK3.out.next hb2)
    clear HK3
    clear hb2
    have c_f_0 : w2.cell? ⟨W.heap.size, 0, none⟩ = some (.int .i64 wd) := HK5.out.cell 0 rfl 0
    have c_f_1 : w2.cell? ⟨W.heap.size, 1, none⟩ = some (.int .i64 sl) := HK5.out.cell 0 rfl 1
    have c_f_2 : w2.cell? ⟨W.heap.size, 2, none⟩ = some (.slice A n c) := HK5.out.cell 0 rfl 2
    have hlt20 := HK5.out.lt 0 rfl
    go_wp2_with fail
    clear c_f_0 c_f_1 c_f_2
    have HK6 := Lib.hid (show Kept W (w2.alloc (.cells #[.int .i64 wd, .int .i64 sl', .slice A2 n c2] 24)) [(w2.heap.size, 24, #[.int .i64 wd, .int .i64 sl', .slice A2 n c2]), (W.heap.size, 24, #[.int .i64 wd, .int .i64 sl, .slice A n c])] from HK5.out.alloc 24 #[.int .i64 wd, .int .i64 sl', .slice A2 n c2])
    clear HK5
    have HW7 := Lib.hid (show WinAt (w2.alloc (.cells #[.int .i64 wd, .int .i64 sl', .slice A2 n c2] 24)) [w2.heap.size, W.heap.size] A n cs from HW4.out.alloc _)
    clear HW4
    have HW8 := Lib.hid (show WinAt (w2.alloc (.cells #[.int .i64 wd, .int .i64 sl', .slice A2 n c2] 24)) [w2.heap.size, W.heap.size] A2 n cs' from HN2.out.alloc _)
    clear HN2
    generalize w2.alloc (.cells #[.int .i64 wd, .int .i64 sl', .slice A2 n c2] 24) = v2 at HK6 HW7 HW8 ⊢
    clear hlt20
    with_reducible refine (Move_c wd sl' A2 n c2 v2.heap.size cs' b v2 HW8.out.rd (Nat.le_refl _) (by omega)).mono ?_
    rw [R4.out]
    rintro e w3 ⟨A3, n3, c3, rfl, hr3, hb3, hlo3⟩
    dsimp only at hr3
    have hx3 : n3 = n := by have := hr3.cell_len; omega
    subst n3
    have HN3 := Lib.hid (show WinAt w3 [w2.heap.size, W.heap.size] A3 n cs' from HW8.out.res hb3.size hr3 hlo3 rfl)
    clear hr3 hlo3
    have HW9 := Lib.hid (show WinAt w3 [w2.heap.size, W.heap.size] A n cs from HW7.out.next hb3)
    clear HW7
    have HW10 := Lib.hid (show WinAt w3 [w2.heap.size, W.heap.size] A2 n cs' from HW8.out.next hb3)
    clear HW8
    have HK11 := Lib.hid (show Kept W w3 [(w2.heap.size, 24, #[.int .i64 wd, .int .i64 sl', .slice A2 n c2]), (W.heap.size, 24, #[.int .i64 wd, .int .i64 sl, .slice A n c])] from HK6.out.next hb3)
    clear HK6
    clear hb3
    have c_f_0 : w3.cell? ⟨W.heap.size, 0, none⟩ = some (.int .i64 wd) := HK11.out.cell 1 rfl 0
    have c_f_1 : w3.cell? ⟨W.heap.size, 1, none⟩ = some (.int .i64 sl) := HK11.out.cell 1 rfl 1
    have c_f_2 : w3.cell? ⟨W.heap.size, 2, none⟩ = some (.slice A n c) := HK11.out.cell 1 rfl 2
    have c_x_0 : w3.cell? ⟨w2.heap.size, 0, none⟩ = some (.int .i64 wd) := HK11.out.cell 0 rfl 0
    have c_x_1 : w3.cell? ⟨w2.heap.size, 1, none⟩ = some (.int .i64 sl') := HK11.out.cell 0 rfl 1
    have c_x_2 : w3.cell? ⟨w2.heap.size, 2, none⟩ = some (.slice A2 n c2) := HK11.out.cell 0 rfl 2
    have hlt30 := HK11.out.lt 0 rfl
    have hlt31 := HK11.out.lt 1 rfl
    go_wp2_with fail
    clear c_f_0 c_f_1 c_f_2 c_x_0 c_x_1 c_x_2
    have HK12 := Lib.hid (show Kept W (w3.alloc (.cells #[.int .i64 wd, .int .i64 sl', .slice A3 n c3] 24)) [(w3.heap.size, 24, #[.int .i64 wd, .int .i64 sl', .slice A3 n c3]), (w2.heap.size, 24, #[.int .i64 wd, .int .i64 sl', .slice A2 n c2]), (W.heap.size, 24, #[.int .i64 wd, .int .i64 sl, .slice A n c])] from HK11.out.alloc 24 #[.int .i64 wd, .int .i64 sl', .slice A3 n c3])
    clear HK11
    have HW13 := Lib.hid (show WinAt (w3.alloc (.cells #[.int .i64 wd, .int .i64 sl', .slice A3 n c3] 24)) [w3.heap.size, w2.heap.size, W.heap.size] A n cs from HW9.out.alloc _)
    clear HW9
    have HW14 := Lib.hid (show WinAt (w3.alloc (.cells #[.int .i64 wd, .int .i64 sl', .slice A3 n c3] 24)) [w3.heap.size, w2.heap.size, W.heap.size] A2 n cs' from HW10.out.alloc _)
    clear HW10
    have HW15 := Lib.hid (show WinAt (w3.alloc (.cells #[.int .i64 wd, .int .i64 sl', .slice A3 n c3] 24)) [w3.heap.size, w2.heap.size, W.heap.size] A3 n cs' from HN3.out.alloc _)
    clear HN3
    generalize w3.alloc (.cells #[.int .i64 wd, .int .i64 sl', .slice A3 n c3] 24) = v3 at HK12 HW13 HW14 HW15 ⊢
    clear hlt30 hlt31
    with_reducible refine (Move_c wd sl A n c v3.heap.size cs b v3 HW13.out.rd (Nat.le_refl _) (by omega)).mono ?_
    rw [R5.out]
    rintro e w4 ⟨A4, n4, c4, rfl, hr4, hb4, hlo4⟩
    dsimp only at hr4
    have hx4 : n4 = n := by have := hr4.cell_len; omega
    subst n4
    have HN4 := Lib.hid (show WinAt w4 [w3.heap.size, w2.heap.size, W.heap.size] A4 n cs from HW13.out.res hb4.size hr4 hlo4 rfl)
    clear hr4 hlo4
    have HW16 := Lib.hid (show WinAt w4 [w3.heap.size, w2.heap.size, W.heap.size] A n cs from HW13.out.next hb4)
    clear HW13
    have HW17 := Lib.hid (show WinAt w4 [w3.heap.size, w2.heap.size, W.heap.size] A2 n cs' from HW14.out.next hb4)
    clear HW14
    have HW18 := Lib.hid (show WinAt w4 [w3.heap.size, w2.heap.size, W.heap.size] A3 n cs' from HW15.out.next hb4)
    clear HW15
    have HK19 := Lib.hid (show Kept W w4 [(w3.heap.size, 24, #[.int .i64 wd, .int .i64 sl', .slice A3 n c3]), (w2.heap.size, 24, #[.int .i64 wd, .int .i64 sl', .slice A2 n c2]), (W.heap.size, 24, #[.int .i64 wd, .int .i64 sl, .slice A n c])] from HK12.out.next hb4)
    clear HK12
    clear hb4
    have c_f_0 : w4.cell? ⟨W.heap.size, 0, none⟩ = some (.int .i64 wd) := HK19.out.cell 2 rfl 0
    have c_f_1 : w4.cell? ⟨W.heap.size, 1, none⟩ = some (.int .i64 sl) := HK19.out.cell 2 rfl 1
    have c_f_2 : w4.cell? ⟨W.heap.size, 2, none⟩ = some (.slice A n c) := HK19.out.cell 2 rfl 2
    have c_x_0 : w4.cell? ⟨w2.heap.size, 0, none⟩ = some (.int .i64 wd) := HK19.out.cell 1 rfl 0
    have c_x_1 : w4.cell? ⟨w2.heap.size, 1, none⟩ = some (.int .i64 sl') := HK19.out.cell 1 rfl 1
    have c_x_2 : w4.cell? ⟨w2.heap.size, 2, none⟩ = some (.slice A2 n c2) := HK19.out.cell 1 rfl 2
    have c_y_0 : w4.cell? ⟨w3.heap.size, 0, none⟩ = some (.int .i64 wd) := HK19.out.cell 0 rfl 0
    have c_y_1 : w4.cell? ⟨w3.heap.size, 1, none⟩ = some (.int .i64 sl') := HK19.out.cell 0 rfl 1
    have c_y_2 : w4.cell? ⟨w3.heap.size, 2, none⟩ = some (.slice A3 n c3) := HK19.out.cell 0 rfl 2
    have hlt40 := HK19.out.lt 0 rfl
    have hlt41 := HK19.out.lt 1 rfl
    have hlt42 := HK19.out.lt 2 rfl
    go_wp2_with fail
    clear c_f_0 c_f_1 c_f_2 c_x_0 c_x_1 c_x_2 c_y_0 c_y_1 c_y_2
    have HK20 := Lib.hid (show Kept W (w4.alloc (.cells #[.int .i64 wd, .int .i64 sl, .slice A4 n c4] 24)) [(w4.heap.size, 24, #[.int .i64 wd, .int .i64 sl, .slice A4 n c4]), (w3.heap.size, 24, #[.int .i64 wd, .int .i64 sl', .slice A3 n c3]), (w2.heap.size, 24, #[.int .i64 wd, .int .i64 sl', .slice A2 n c2]), (W.heap.size, 24, #[.int .i64 wd, .int .i64 sl, .slice A n c])] from HK19.out.alloc 24 #[.int .i64 wd, .int .i64 sl, .slice A4 n c4])
    clear HK19
    have HW21 := Lib.hid (show WinAt (w4.alloc (.cells #[.int .i64 wd, .int .i64 sl, .slice A4 n c4] 24)) [w4.heap.size, w3.heap.size, w2.heap.size, W.heap.size] A n cs from HW16.out.alloc _)
    clear HW16
    have HW22 := Lib.hid (show WinAt (w4.alloc (.cells #[.int .i64 wd, .int .i64 sl, .slice A4 n c4] 24)) [w4.heap.size, w3.heap.size, w2.heap.size, W.heap.size] A2 n cs' from HW17.out.alloc _)
    clear HW17
    have HW23 := Lib.hid (show WinAt (w4.alloc (.cells #[.int .i64 wd, .int .i64 sl, .slice A4 n c4] 24)) [w4.heap.size, w3.heap.size, w2.heap.size, W.heap.size] A3 n cs' from HW18.out.alloc _)
    clear HW18
    have HW24 := Lib.hid (show WinAt (w4.alloc (.cells #[.int .i64 wd, .int .i64 sl, .slice A4 n c4] 24)) [w4.heap.size, w3.heap.size, w2.heap.size, W.heap.size] A4 n cs from HN4.out.alloc _)
    clear HN4
    generalize w4.alloc (.cells #[.int .i64 wd, .int .i64 sl, .slice A4 n c4] 24) = v4 at HK20 HW21 HW22 HW23 HW24 ⊢
    clear hlt40 hlt41 hlt42
    with_reducible refine (Add_c wd sl A n c v4.heap.size cs a ok v4 HW21.out.rd (Nat.le_refl _) (by omega)).mono ?_
    rw [R2.out]
    rintro e w6 ⟨A6, n6, c6, rfl, hr6, hb6, hlo6⟩
    dsimp only at hr6
    have hx6 : n6 = n := by have := hr6.cell_len; omega
    subst n6
    have HN6 := Lib.hid (show WinAt w6 [w4.heap.size, w3.heap.size, w2.heap.size, W.heap.size] A6 n cs2 from HW21.out.res hb6.size hr6 hlo6 rfl)
    clear hr6 hlo6
    have HW25 := Lib.hid (show WinAt w6 [w4.heap.size, w3.heap.size, w2.heap.size, W.heap.size] A n cs from HW21.out.next hb6)
    clear HW21
    have HW26 := Lib.hid (show WinAt w6 [w4.heap.size, w3.heap.size, w2.heap.size, W.heap.size] A2 n cs' from HW22.out.next hb6)
    clear HW22
    have HW27 := Lib.hid (show WinAt w6 [w4.heap.size, w3.heap.size, w2.heap.size, W.heap.size] A3 n cs' from HW23.out.next hb6)
    clear HW23
    have HW28 := Lib.hid (show WinAt w6 [w4.heap.size, w3.heap.size, w2.heap.size, W.heap.size] A4 n cs from HW24.out.next hb6)
    clear HW24
    have HK29 := Lib.hid (show Kept W w6 [(w4.heap.size, 24, #[.int .i64 wd, .int .i64 sl, .slice A4 n c4]), (w3.heap.size, 24, #[.int .i64 wd, .int .i64 sl', .slice A3 n c3]), (w2.heap.size, 24, #[.int .i64 wd, .int .i64 sl', .slice A2 n c2]), (W.heap.size, 24, #[.int .i64 wd, .int .i64 sl, .slice A n c])] from HK20.out.next hb6)
    clear HK20
    clear hb6
    have c_f_0 : w6.cell? ⟨W.heap.size, 0, none⟩ = some (.int .i64 wd) := HK29.out.cell 3 rfl 0
    have c_f_1 : w6.cell? ⟨W.heap.size, 1, none⟩ = some (.int .i64 sl) := HK29.out.cell 3 rfl 1
    have c_f_2 : w6.cell? ⟨W.heap.size, 2, none⟩ = some (.slice A n c) := HK29.out.cell 3 rfl 2
    have c_x_0 : w6.cell? ⟨w2.heap.size, 0, none⟩ = some (.int .i64 wd) := HK29.out.cell 2 rfl 0
    have c_x_1 : w6.cell? ⟨w2.heap.size, 1, none⟩ = some (.int .i64 sl') := HK29.out.cell 2 rfl 1
    have c_x_2 : w6.cell? ⟨w2.heap.size, 2, none⟩ = some (.slice A2 n c2) := HK29.out.cell 2 rfl 2
    have hlt60 := HK29.out.lt 0 rfl
    have hlt61 := HK29.out.lt 1 rfl
    have hlt62 := HK29.out.lt 2 rfl
    have hlt63 := HK29.out.lt 3 rfl
    go_wp2_with fail
    clear c_f_0 c_f_1 c_f_2 c_x_0 c_x_1 c_x_2
    have HK30 := Lib.hid (show Kept W (w6.alloc (.cells #[.int .i64 wd, .int .i64 sl', .slice A6 n c6] 24)) [(w6.heap.size, 24, #[.int .i64 wd, .int .i64 sl', .slice A6 n c6]), (w4.heap.size, 24, #[.int .i64 wd, .int .i64 sl, .slice A4 n c4]), (w3.heap.size, 24, #[.int .i64 wd, .int .i64 sl', .slice A3 n c3]), (w2.heap.size, 24, #[.int .i64 wd, .int .i64 sl', .slice A2 n c2]), (W.heap.size, 24, #[.int .i64 wd, .int .i64 sl, .slice A n c])] from HK29.out.alloc 24 #[.int .i64 wd, .int .i64 sl', .slice A6 n c6])
    clear HK29
    have HW31 := Lib.hid (show WinAt (w6.alloc (.cells #[.int .i64 wd, .int .i64 sl', .slice A6 n c6] 24)) [w6.heap.size, w4.heap.size, w3.heap.size, w2.heap.size, W.heap.size] A n cs from HW25.out.alloc _)
    clear HW25
    have HW32 := Lib.hid (show WinAt (w6.alloc (.cells #[.int .i64 wd, .int .i64 sl', .slice A6 n c6] 24)) [w6.heap.size, w4.heap.size, w3.heap.size, w2.heap.size, W.heap.size] A2 n cs' from HW26.out.alloc _)
    clear HW26
    have HW33 := Lib.hid (show WinAt (w6.alloc (.cells #[.int .i64 wd, .int .i64 sl', .slice A6 n c6] 24)) [w6.heap.size, w4.heap.size, w3.heap.size, w2.heap.size, W.heap.size] A3 n cs' from HW27.out.alloc _)
    clear HW27
    have HW34 := Lib.hid (show WinAt (w6.alloc (.cells #[.int .i64 wd, .int .i64 sl', .slice A6 n c6] 24)) [w6.heap.size, w4.heap.size, w3.heap.size, w2.heap.size, W.heap.size] A4 n cs from HW28.out.alloc _)
    clear HW28
    have HW35 := Lib.hid (show WinAt (w6.alloc (.cells #[.int .i64 wd, .int .i64 sl', .slice A6 n c6] 24)) [w6.heap.size, w4.heap.size, w3.heap.size, w2.heap.size, W.heap.size] A6 n cs2 from HN6.out.alloc _)
    clear HN6
    generalize w6.alloc (.cells #[.int .i64 wd, .int .i64 sl', .slice A6 n c6] 24) = v6 at HK30 HW31 HW32 HW33 HW34 HW35 ⊢
    clear hlt60 hlt61 hlt62 hlt63
    with_reducible refine (Add_c wd sl' A2 n c2 v6.heap.size cs' a ok v6 HW32.out.rd (Nat.le_refl _) (by omega)).mono ?_
    rw [R3.out]
    rintro e w7 ⟨A7, n7, c7, rfl, hr7, hb7, hlo7⟩
    dsimp only at hr7
    have hx7 : n7 = n := by have := hr7.cell_len; omega
    subst n7
    have HN7 := Lib.hid (show WinAt w7 [w6.heap.size, w4.heap.size, w3.heap.size, w2.heap.size, W.heap.size] A7 n cs2 from HW32.out.res hb7.size hr7 hlo7 rfl)
    clear hr7 hlo7
    have HW36 := Lib.hid (show WinAt w7 [w6.heap.size, w4.heap.size, w3.heap.size, w2.heap.size, W.heap.size] A n cs from HW31.out.next hb7)
    clear HW31
    have HW37 := Lib.hid (show WinAt w7 [w6.heap.size, w4.heap.size, w3.heap.size, w2.heap.size, W.heap.size] A2 n cs' from HW32.out.next hb7)
    clear HW32
    have HW38 := Lib.hid (show WinAt w7 [w6.heap.size, w4.heap.size, w3.heap.size, w2.heap.size, W.heap.size] A3 n cs' from HW33.out.next hb7)
    clear HW33
    have HW39 := Lib.hid (show WinAt w7 [w6.heap.size, w4.heap.size, w3.heap.size, w2.heap.size, W.heap.size] A4 n cs from HW34.out.next hb7)
    clear HW34
    have HW40 := Lib.hid (show WinAt w7 [w6.heap.size, w4.heap.size, w3.heap.size, w2.heap.size, W.heap.size] A6 n cs2 from HW35.out.next hb7)
    clear HW35
    have HK41 := Lib.hid (show Kept W w7 [(w6.heap.size, 24, #[.int .i64 wd, .int .i64 sl', .slice A6 n c6]), (w4.heap.size, 24, #[.int .i64 wd, .int .i64 sl, .slice A4 n c4]), (w3.heap.size, 24, #[.int .i64 wd, .int .i64 sl', .slice A3 n c3]), (w2.heap.size, 24, #[.int .i64 wd, .int .i64 sl', .slice A2 n c2]), (W.heap.size, 24, #[.int .i64 wd, .int .i64 sl, .slice A n c])] from HK30.out.next hb7)
    clear HK30
    clear hb7
    have c_f_0 : w7.cell? ⟨W.heap.size, 0, none⟩ = some (.int .i64 wd) := HK41.out.cell 4 rfl 0
    have c_f_1 : w7.cell? ⟨W.heap.size, 1, none⟩ = some (.int .i64 sl) := HK41.out.cell 4 rfl 1
    have c_f_2 : w7.cell? ⟨W.heap.size, 2, none⟩ = some (.slice A n c) := HK41.out.cell 4 rfl 2
    have c_x_0 : w7.cell? ⟨w2.heap.size, 0, none⟩ = some (.int .i64 wd) := HK41.out.cell 3 rfl 0
    have c_x_1 : w7.cell? ⟨w2.heap.size, 1, none⟩ = some (.int .i64 sl') := HK41.out.cell 3 rfl 1
    have c_x_2 : w7.cell? ⟨w2.heap.size, 2, none⟩ = some (.slice A2 n c2) := HK41.out.cell 3 rfl 2
    have c_p_0 : w7.cell? ⟨w6.heap.size, 0, none⟩ = some (.int .i64 wd) := HK41.out.cell 0 rfl 0
    have c_p_1 : w7.cell? ⟨w6.heap.size, 1, none⟩ = some (.int .i64 sl') := HK41.out.cell 0 rfl 1
    have c_p_2 : w7.cell? ⟨w6.heap.size, 2, none⟩ = some (.slice A6 n c6) := HK41.out.cell 0 rfl 2
    have hlt70 := HK41.out.lt 0 rfl
    have hlt71 := HK41.out.lt 1 rfl
    have hlt72 := HK41.out.lt 2 rfl
    have hlt73 := HK41.out.lt 3 rfl
    have hlt74 := HK41.out.lt 4 rfl
    go_wp2_with fail
    clear c_f_0 c_f_1 c_f_2 c_x_0 c_x_1 c_x_2 c_p_0 c_p_1 c_p_2
    have HK42 := Lib.hid (show Kept W (w7.alloc (.cells #[.int .i64 wd, .int .i64 sl', .slice A7 n c7] 24)) [(w7.heap.size, 24, #[.int .i64 wd, .int .i64 sl', .slice A7 n c7]), (w6.heap.size, 24, #[.int .i64 wd, .int .i64 sl', .slice A6 n c6]), (w4.heap.size, 24, #[.int .i64 wd, .int .i64 sl, .slice A4 n c4]), (w3.heap.size, 24, #[.int .i64 wd, .int .i64 sl', .slice A3 n c3]), (w2.heap.size, 24, #[.int .i64 wd, .int .i64 sl', .slice A2 n c2]), (W.heap.size, 24, #[.int .i64 wd, .int .i64 sl, .slice A n c])] from HK41.out.alloc 24 #[.int .i64 wd, .int .i64 sl', .slice A7 n c7])
    clear HK41
    have HW43 := Lib.hid (show WinAt (w7.alloc (.cells #[.int .i64 wd, .int .i64 sl', .slice A7 n c7] 24)) [w7.heap.size, w6.heap.size, w4.heap.size, w3.heap.size, w2.heap.size, W.heap.size] A n cs from HW36.out.alloc _)
    clear HW36
    have HW44 := Lib.hid (show WinAt (w7.alloc (.cells #[.int .i64 wd, .int .i64 sl', .slice A7 n c7] 24)) [w7.heap.size, w6.heap.size, w4.heap.size, w3.heap.size, w2.heap.size, W.heap.size] A2 n cs' from HW37.out.alloc _)
    clear HW37
    have HW45 := Lib.hid (show WinAt (w7.alloc (.cells #[.int .i64 wd, .int .i64 sl', .slice A7 n c7] 24)) [w7.heap.size, w6.heap.size, w4.heap.size, w3.heap.size, w2.heap.size, W.heap.size] A3 n cs' from HW38.out.alloc _)
    clear HW38
    have HW46 := Lib.hid (show WinAt (w7.alloc (.cells #[.int .i64 wd, .int .i64 sl', .slice A7 n c7] 24)) [w7.heap.size, w6.heap.size, w4.heap.size, w3.heap.size, w2.heap.size, W.heap.size] A4 n cs from HW39.out.alloc _)
    clear HW39
    have HW47 := Lib.hid (show WinAt (w7.alloc (.cells #[.int .i64 wd, .int .i64 sl', .slice A7 n c7] 24)) [w7.heap.size, w6.heap.size, w4.heap.size, w3.heap.size, w2.heap.size, W.heap.size] A6 n cs2 from HW40.out.alloc _)
    clear HW40
    have HW48 := Lib.hid (show WinAt (w7.alloc (.cells #[.int .i64 wd, .int .i64 sl', .slice A7 n c7] 24)) [w7.heap.size, w6.heap.size, w4.heap.size, w3.heap.size, w2.heap.size, W.heap.size] A7 n cs2 from HN7.out.alloc _)
    clear HN7
    generalize w7.alloc (.cells #[.int .i64 wd, .int .i64 sl', .slice A7 n c7] 24) = v7 at HK42 HW43 HW44 HW45 HW46 HW47 HW48 ⊢
    clear hlt70 hlt71 hlt72 hlt73 hlt74
    with_reducible refine (wSame_c wd sl' A6 n c6 cs2 wd sl' A7 n c7 cs2 v7.heap.size _ HW47.out.rd HW48.out.rd (Nat.le_refl _) (by omega) (by omega)).mono ?_
    rw [sameW_self]
    rintro e w8 ⟨rfl, hb8⟩
    have HW49 := Lib.hid (show WinAt w8 [w7.heap.size, w6.heap.size, w4.heap.size, w3.heap.size, w2.heap.size, W.heap.size] A n cs from HW43.out.next hb8)
    clear HW43
    have HW50 := Lib.hid (show WinAt w8 [w7.heap.size, w6.heap.size, w4.heap.size, w3.heap.size, w2.heap.size, W.heap.size] A2 n cs' from HW44.out.next hb8)
    clear HW44
    have HW51 := Lib.hid (show WinAt w8 [w7.heap.size, w6.heap.size, w4.heap.size, w3.heap.size, w2.heap.size, W.heap.size] A3 n cs' from HW45.out.next hb8)
    clear HW45
    have HW52 := Lib.hid (show WinAt w8 [w7.heap.size, w6.heap.size, w4.heap.size, w3.heap.size, w2.heap.size, W.heap.size] A4 n cs from HW46.out.next hb8)
    clear HW46
    have HW53 := Lib.hid (show WinAt w8 [w7.heap.size, w6.heap.size, w4.heap.size, w3.heap.size, w2.heap.size, W.heap.size] A6 n cs2 from HW47.out.next hb8)
    clear HW47
    have HW54 := Lib.hid (show WinAt w8 [w7.heap.size, w6.heap.size, w4.heap.size, w3.heap.size, w2.heap.size, W.heap.size] A7 n cs2 from HW48.out.next hb8)
    clear HW48
    have HK55 := Lib.hid (show Kept W w8 [(w7.heap.size, 24, #[.int .i64 wd, .int .i64 sl', .slice A7 n c7]), (w6.heap.size, 24, #[.int .i64 wd, .int .i64 sl', .slice A6 n c6]), (w4.heap.size, 24, #[.int .i64 wd, .int .i64 sl, .slice A4 n c4]), (w3.heap.size, 24, #[.int .i64 wd, .int .i64 sl', .slice A3 n c3]), (w2.heap.size, 24, #[.int .i64 wd, .int .i64 sl', .slice A2 n c2]), (W.heap.size, 24, #[.int .i64 wd, .int .i64 sl, .slice A n c])] from HK42.out.next hb8)
    clear HK42
    clear hb8
    go_wp2
    go_ret
    exact ⟨rfl, HK55.out.bel⟩
  · obtain ⟨sz, cz, hz, hlz, k1, k2, k3, -⟩ := moveR_good hg1 hth
    have hzy := moveR_two hg1 hm hg2 hth (show a ≤ b from by omega)
    rw [hz] at hzy
    rw [hl] at hlz
    obtain ⟨⟨g1, -⟩, -⟩ := rightW_iff.1 hg1
    have R6 := Lib.hid (moveR_stay (a := a) k3 hg2 (by have := Int.ediv_le_ediv (show 0 < wd from by omega) (show a ≤ b from by omega); omega))
    have R4 := Lib.hid hzy
    have R5 := Lib.hid hz
    clear hm hg1 hg2 h1 h2 h3 hth hz hzy k1 k2 k3 g1
    go_enter Try.func5, Try.ntmps5
    go_wp2_with fail
    with_reducible refine (awake_c _).mono ?_
    rintro e w1 ⟨rfl, hb1⟩
    have HW2 := Lib.hid (show WinAt w1 [W.heap.size] A n cs from HWa.out.next hb1)
    clear HWa
    have HK3 := Lib.hid (show Kept W w1 [(W.heap.size, 24, #[.int .i64 wd, .int .i64 sl, .slice A n c])] from HK1.out.next hb1)
    clear HK1
    clear hb1
    have c_f_0 : w1.cell? ⟨W.heap.size, 0, none⟩ = some (.int .i64 wd) := HK3.out.cell 0 rfl 0
    have c_f_1 : w1.cell? ⟨W.heap.size, 1, none⟩ = some (.int .i64 sl) := HK3.out.cell 0 rfl 1
    have c_f_2 : w1.cell? ⟨W.heap.size, 2, none⟩ = some (.slice A n c) := HK3.out.cell 0 rfl 2
    go_wp2_with fail
    with_reducible refine (Move_c wd sl A n c w1.heap.size cs a w1 HW2.out.rd (Nat.le_refl _) (by omega)).mono ?_
    rw [R1.out]
    rintro e w2 ⟨A2, n2, c2, rfl, hr2, hb2, hlo2⟩
    dsimp only at hr2
    have hx2 : n2 = n := by have := hr2.cell_len; omega
    subst n2
    have HN2 := Lib.hid (show WinAt w2 [W.heap.size] A2 n cs' from HW2.out.res hb2.size hr2 hlo2 rfl)
    clear hr2 hlo2
    have HW4 := Lib.hid (show WinAt w2 [W.heap.size] A n cs from HW2.out.next hb2)
    clear HW2
    clear c_f_0 c_f_1 c_f_2
    have HK5 := Lib.hid (show Kept W w2 [(W.heap.size, 24, #[.int .i64 wd, .int .i64 sl, .slice A n c])] from HK3.out.next hb2)
    clear HK3
    clear hb2
    have c_f_0 : w2.cell? ⟨W.heap.size, 0, none⟩ = some (.int .i64 wd) := HK5.out.cell 0 rfl 0
    have c_f_1 : w2.cell? ⟨W.heap.size, 1, none⟩ = some (.int .i64 sl) := HK5.out.cell 0 rfl 1
    have c_f_2 : w2.cell? ⟨W.heap.size, 2, none⟩ = some (.slice A n c) := HK5.out.cell 0 rfl 2
    have hlt20 := HK5.out.lt 0 rfl
    go_wp2_with fail
    clear c_f_0 c_f_1 c_f_2
    have HK6 := Lib.hid (show Kept W (w2.alloc (.cells #[.int .i64 wd, .int .i64 sl', .slice A2 n c2] 24)) [(w2.heap.size, 24, #[.int .i64 wd, .int .i64 sl', .slice A2 n c2]), (W.heap.size, 24, #[.int .i64 wd, .int .i64 sl, .slice A n c])] from HK5.out.alloc 24 #[.int .i64 wd, .int .i64 sl', .slice A2 n c2])
    clear HK5
    have HW7 := Lib.hid (show WinAt (w2.alloc (.cells #[.int .i64 wd, .int .i64 sl', .slice A2 n c2] 24)) [w2.heap.size, W.heap.size] A n cs from HW4.out.alloc _)
    clear HW4
    have HW8 := Lib.hid (show WinAt (w2.alloc (.cells #[.int .i64 wd, .int .i64 sl', .slice A2 n c2] 24)) [w2.heap.size, W.heap.size] A2 n cs' from HN2.out.alloc _)
    clear HN2
    generalize w2.alloc (.cells #[.int .i64 wd, .int .i64 sl', .slice A2 n c2] 24) = v2 at HK6 HW7 HW8 ⊢
    clear hlt20
    with_reducible refine (Move_c wd sl' A2 n c2 v2.heap.size cs' b v2 HW8.out.rd (Nat.le_refl _) (by omega)).mono ?_
    rw [R4.out]
    rintro e w3 ⟨A3, n3, c3, rfl, hr3, hb3, hlo3⟩
    dsimp only at hr3
    have hx3 : n3 = n := by have := hr3.cell_len; omega
    subst n3
    have HN3 := Lib.hid (show WinAt w3 [w2.heap.size, W.heap.size] A3 n cz from HW8.out.res hb3.size hr3 hlo3 rfl)
    clear hr3 hlo3
    have HW9 := Lib.hid (show WinAt w3 [w2.heap.size, W.heap.size] A n cs from HW7.out.next hb3)
    clear HW7
    have HW10 := Lib.hid (show WinAt w3 [w2.heap.size, W.heap.size] A2 n cs' from HW8.out.next hb3)
    clear HW8
    have HK11 := Lib.hid (show Kept W w3 [(w2.heap.size, 24, #[.int .i64 wd, .int .i64 sl', .slice A2 n c2]), (W.heap.size, 24, #[.int .i64 wd, .int .i64 sl, .slice A n c])] from HK6.out.next hb3)
    clear HK6
    clear hb3
    have c_f_0 : w3.cell? ⟨W.heap.size, 0, none⟩ = some (.int .i64 wd) := HK11.out.cell 1 rfl 0
    have c_f_1 : w3.cell? ⟨W.heap.size, 1, none⟩ = some (.int .i64 sl) := HK11.out.cell 1 rfl 1
    have c_f_2 : w3.cell? ⟨W.heap.size, 2, none⟩ = some (.slice A n c) := HK11.out.cell 1 rfl 2
    have c_x_0 : w3.cell? ⟨w2.heap.size, 0, none⟩ = some (.int .i64 wd) := HK11.out.cell 0 rfl 0
    have c_x_1 : w3.cell? ⟨w2.heap.size, 1, none⟩ = some (.int .i64 sl') := HK11.out.cell 0 rfl 1
    have c_x_2 : w3.cell? ⟨w2.heap.size, 2, none⟩ = some (.slice A2 n c2) := HK11.out.cell 0 rfl 2
    have hlt30 := HK11.out.lt 0 rfl
    have hlt31 := HK11.out.lt 1 rfl
    go_wp2_with fail
    clear c_f_0 c_f_1 c_f_2 c_x_0 c_x_1 c_x_2
    have HK12 := Lib.hid (show Kept W (w3.alloc (.cells #[.int .i64 wd, .int .i64 sz, .slice A3 n c3] 24)) [(w3.heap.size, 24, #[.int .i64 wd, .int .i64 sz, .slice A3 n c3]), (w2.heap.size, 24, #[.int .i64 wd, .int .i64 sl', .slice A2 n c2]), (W.heap.size, 24, #[.int .i64 wd, .int .i64 sl, .slice A n c])] from HK11.out.alloc 24 #[.int .i64 wd, .int .i64 sz, .slice A3 n c3])
    clear HK11
    have HW13 := Lib.hid (show WinAt (w3.alloc (.cells #[.int .i64 wd, .int .i64 sz, .slice A3 n c3] 24)) [w3.heap.size, w2.heap.size, W.heap.size] A n cs from HW9.out.alloc _)
    clear HW9
    have HW14 := Lib.hid (show WinAt (w3.alloc (.cells #[.int .i64 wd, .int .i64 sz, .slice A3 n c3] 24)) [w3.heap.size, w2.heap.size, W.heap.size] A2 n cs' from HW10.out.alloc _)
    clear HW10
    have HW15 := Lib.hid (show WinAt (w3.alloc (.cells #[.int .i64 wd, .int .i64 sz, .slice A3 n c3] 24)) [w3.heap.size, w2.heap.size, W.heap.size] A3 n cz from HN3.out.alloc _)
    clear HN3
    generalize w3.alloc (.cells #[.int .i64 wd, .int .i64 sz, .slice A3 n c3] 24) = v3 at HK12 HW13 HW14 HW15 ⊢
    clear hlt30 hlt31
    with_reducible refine (Move_c wd sl A n c v3.heap.size cs b v3 HW13.out.rd (Nat.le_refl _) (by omega)).mono ?_
    rw [R5.out]
    rintro e w4 ⟨A4, n4, c4, rfl, hr4, hb4, hlo4⟩
    dsimp only at hr4
    have hx4 : n4 = n := by have := hr4.cell_len; omega
    subst n4
    have HN4 := Lib.hid (show WinAt w4 [w3.heap.size, w2.heap.size, W.heap.size] A4 n cz from HW13.out.res hb4.size hr4 hlo4 rfl)
    clear hr4 hlo4
    have HW16 := Lib.hid (show WinAt w4 [w3.heap.size, w2.heap.size, W.heap.size] A n cs from HW13.out.next hb4)
    clear HW13
    have HW17 := Lib.hid (show WinAt w4 [w3.heap.size, w2.heap.size, W.heap.size] A2 n cs' from HW14.out.next hb4)
    clear HW14
    have HW18 := Lib.hid (show WinAt w4 [w3.heap.size, w2.heap.size, W.heap.size] A3 n cz from HW15.out.next hb4)
    clear HW15
    have HK19 := Lib.hid (show Kept W w4 [(w3.heap.size, 24, #[.int .i64 wd, .int .i64 sz, .slice A3 n c3]), (w2.heap.size, 24, #[.int .i64 wd, .int .i64 sl', .slice A2 n c2]), (W.heap.size, 24, #[.int .i64 wd, .int .i64 sl, .slice A n c])] from HK12.out.next hb4)
    clear HK12
    clear hb4
    have c_f_0 : w4.cell? ⟨W.heap.size, 0, none⟩ = some (.int .i64 wd) := HK19.out.cell 2 rfl 0
    have c_f_1 : w4.cell? ⟨W.heap.size, 1, none⟩ = some (.int .i64 sl) := HK19.out.cell 2 rfl 1
    have c_f_2 : w4.cell? ⟨W.heap.size, 2, none⟩ = some (.slice A n c) := HK19.out.cell 2 rfl 2
    have c_x_0 : w4.cell? ⟨w2.heap.size, 0, none⟩ = some (.int .i64 wd) := HK19.out.cell 1 rfl 0
    have c_x_1 : w4.cell? ⟨w2.heap.size, 1, none⟩ = some (.int .i64 sl') := HK19.out.cell 1 rfl 1
    have c_x_2 : w4.cell? ⟨w2.heap.size, 2, none⟩ = some (.slice A2 n c2) := HK19.out.cell 1 rfl 2
    have c_y_0 : w4.cell? ⟨w3.heap.size, 0, none⟩ = some (.int .i64 wd) := HK19.out.cell 0 rfl 0
    have c_y_1 : w4.cell? ⟨w3.heap.size, 1, none⟩ = some (.int .i64 sz) := HK19.out.cell 0 rfl 1
    have c_y_2 : w4.cell? ⟨w3.heap.size, 2, none⟩ = some (.slice A3 n c3) := HK19.out.cell 0 rfl 2
    have hlt40 := HK19.out.lt 0 rfl
    have hlt41 := HK19.out.lt 1 rfl
    have hlt42 := HK19.out.lt 2 rfl
    go_wp2_with fail
    clear c_f_0 c_f_1 c_f_2 c_x_0 c_x_1 c_x_2 c_y_0 c_y_1 c_y_2
    have HK20 := Lib.hid (show Kept W (w4.alloc (.cells #[.int .i64 wd, .int .i64 sz, .slice A4 n c4] 24)) [(w4.heap.size, 24, #[.int .i64 wd, .int .i64 sz, .slice A4 n c4]), (w3.heap.size, 24, #[.int .i64 wd, .int .i64 sz, .slice A3 n c3]), (w2.heap.size, 24, #[.int .i64 wd, .int .i64 sl', .slice A2 n c2]), (W.heap.size, 24, #[.int .i64 wd, .int .i64 sl, .slice A n c])] from HK19.out.alloc 24 #[.int .i64 wd, .int .i64 sz, .slice A4 n c4])
    clear HK19
    have HW21 := Lib.hid (show WinAt (w4.alloc (.cells #[.int .i64 wd, .int .i64 sz, .slice A4 n c4] 24)) [w4.heap.size, w3.heap.size, w2.heap.size, W.heap.size] A n cs from HW16.out.alloc _)
    clear HW16
    have HW22 := Lib.hid (show WinAt (w4.alloc (.cells #[.int .i64 wd, .int .i64 sz, .slice A4 n c4] 24)) [w4.heap.size, w3.heap.size, w2.heap.size, W.heap.size] A2 n cs' from HW17.out.alloc _)
    clear HW17
    have HW23 := Lib.hid (show WinAt (w4.alloc (.cells #[.int .i64 wd, .int .i64 sz, .slice A4 n c4] 24)) [w4.heap.size, w3.heap.size, w2.heap.size, W.heap.size] A3 n cz from HW18.out.alloc _)
    clear HW18
    have HW24 := Lib.hid (show WinAt (w4.alloc (.cells #[.int .i64 wd, .int .i64 sz, .slice A4 n c4] 24)) [w4.heap.size, w3.heap.size, w2.heap.size, W.heap.size] A4 n cz from HN4.out.alloc _)
    clear HN4
    generalize w4.alloc (.cells #[.int .i64 wd, .int .i64 sz, .slice A4 n c4] 24) = v4 at HK20 HW21 HW22 HW23 HW24 ⊢
    clear hlt40 hlt41 hlt42
    with_reducible refine (wSame_c wd sz A3 n c3 cz wd sz A4 n c4 cz v4.heap.size _ HW23.out.rd HW24.out.rd (Nat.le_refl _) (by omega) (by omega)).mono ?_
    rw [sameW_self]
    rintro e w5 ⟨rfl, hb5⟩
    have HW25 := Lib.hid (show WinAt w5 [w4.heap.size, w3.heap.size, w2.heap.size, W.heap.size] A n cs from HW21.out.next hb5)
    clear HW21
    have HW26 := Lib.hid (show WinAt w5 [w4.heap.size, w3.heap.size, w2.heap.size, W.heap.size] A2 n cs' from HW22.out.next hb5)
    clear HW22
    have HW27 := Lib.hid (show WinAt w5 [w4.heap.size, w3.heap.size, w2.heap.size, W.heap.size] A3 n cz from HW23.out.next hb5)
    clear HW23
    have HW28 := Lib.hid (show WinAt w5 [w4.heap.size, w3.heap.size, w2.heap.size, W.heap.size] A4 n cz from HW24.out.next hb5)
    clear HW24
    have HK29 := Lib.hid (show Kept W w5 [(w4.heap.size, 24, #[.int .i64 wd, .int .i64 sz, .slice A4 n c4]), (w3.heap.size, 24, #[.int .i64 wd, .int .i64 sz, .slice A3 n c3]), (w2.heap.size, 24, #[.int .i64 wd, .int .i64 sl', .slice A2 n c2]), (W.heap.size, 24, #[.int .i64 wd, .int .i64 sl, .slice A n c])] from HK20.out.next hb5)
    clear HK20
    clear hb5
    have c_f_0 : w5.cell? ⟨W.heap.size, 0, none⟩ = some (.int .i64 wd) := HK29.out.cell 3 rfl 0
    have c_f_1 : w5.cell? ⟨W.heap.size, 1, none⟩ = some (.int .i64 sl) := HK29.out.cell 3 rfl 1
    have c_f_2 : w5.cell? ⟨W.heap.size, 2, none⟩ = some (.slice A n c) := HK29.out.cell 3 rfl 2
    go_wp2_with fail
    clear c_f_0 c_f_1 c_f_2
    with_reducible refine (Add_c wd sl A n c w5.heap.size cs a ok w5 HW25.out.rd (Nat.le_refl _) (by omega)).mono ?_
    rw [R2.out]
    rintro e w6 ⟨A6, n6, c6, rfl, hr6, hb6, hlo6⟩
    dsimp only at hr6
    have hx6 : n6 = n := by have := hr6.cell_len; omega
    subst n6
    have HN6 := Lib.hid (show WinAt w6 [w4.heap.size, w3.heap.size, w2.heap.size, W.heap.size] A6 n cs2 from HW25.out.res hb6.size hr6 hlo6 rfl)
    clear hr6 hlo6
    have HW30 := Lib.hid (show WinAt w6 [w4.heap.size, w3.heap.size, w2.heap.size, W.heap.size] A n cs from HW25.out.next hb6)
    clear HW25
    have HW31 := Lib.hid (show WinAt w6 [w4.heap.size, w3.heap.size, w2.heap.size, W.heap.size] A2 n cs' from HW26.out.next hb6)
    clear HW26
    have HW32 := Lib.hid (show WinAt w6 [w4.heap.size, w3.heap.size, w2.heap.size, W.heap.size] A3 n cz from HW27.out.next hb6)
    clear HW27
    have HW33 := Lib.hid (show WinAt w6 [w4.heap.size, w3.heap.size, w2.heap.size, W.heap.size] A4 n cz from HW28.out.next hb6)
    clear HW28
    have HK34 := Lib.hid (show Kept W w6 [(w4.heap.size, 24, #[.int .i64 wd, .int .i64 sz, .slice A4 n c4]), (w3.heap.size, 24, #[.int .i64 wd, .int .i64 sz, .slice A3 n c3]), (w2.heap.size, 24, #[.int .i64 wd, .int .i64 sl', .slice A2 n c2]), (W.heap.size, 24, #[.int .i64 wd, .int .i64 sl, .slice A n c])] from HK29.out.next hb6)
    clear HK29
    clear hb6
    have c_f_0 : w6.cell? ⟨W.heap.size, 0, none⟩ = some (.int .i64 wd) := HK34.out.cell 3 rfl 0
    have c_f_1 : w6.cell? ⟨W.heap.size, 1, none⟩ = some (.int .i64 sl) := HK34.out.cell 3 rfl 1
    have c_f_2 : w6.cell? ⟨W.heap.size, 2, none⟩ = some (.slice A n c) := HK34.out.cell 3 rfl 2
    have c_x_0 : w6.cell? ⟨w2.heap.size, 0, none⟩ = some (.int .i64 wd) := HK34.out.cell 2 rfl 0
    have c_x_1 : w6.cell? ⟨w2.heap.size, 1, none⟩ = some (.int .i64 sl') := HK34.out.cell 2 rfl 1
    have c_x_2 : w6.cell? ⟨w2.heap.size, 2, none⟩ = some (.slice A2 n c2) := HK34.out.cell 2 rfl 2
    have hlt60 := HK34.out.lt 0 rfl
    have hlt61 := HK34.out.lt 1 rfl
    have hlt62 := HK34.out.lt 2 rfl
    have hlt63 := HK34.out.lt 3 rfl
    go_wp2_with fail
    clear c_f_0 c_f_1 c_f_2 c_x_0 c_x_1 c_x_2
    have HK35 := Lib.hid (show Kept W (w6.alloc (.cells #[.int .i64 wd, .int .i64 sl', .slice A6 n c6] 24)) [(w6.heap.size, 24, #[.int .i64 wd, .int .i64 sl', .slice A6 n c6]), (w4.heap.size, 24, #[.int .i64 wd, .int .i64 sz, .slice A4 n c4]), (w3.heap.size, 24, #[.int .i64 wd, .int .i64 sz, .slice A3 n c3]), (w2.heap.size, 24, #[.int .i64 wd, .int .i64 sl', .slice A2 n c2]), (W.heap.size, 24, #[.int .i64 wd, .int .i64 sl, .slice A n c])] from HK34.out.alloc 24 #[.int .i64 wd, .int .i64 sl', .slice A6 n c6])
    clear HK34
    have HW36 := Lib.hid (show WinAt (w6.alloc (.cells #[.int .i64 wd, .int .i64 sl', .slice A6 n c6] 24)) [w6.heap.size, w4.heap.size, w3.heap.size, w2.heap.size, W.heap.size] A n cs from HW30.out.alloc _)
    clear HW30
    have HW37 := Lib.hid (show WinAt (w6.alloc (.cells #[.int .i64 wd, .int .i64 sl', .slice A6 n c6] 24)) [w6.heap.size, w4.heap.size, w3.heap.size, w2.heap.size, W.heap.size] A2 n cs' from HW31.out.alloc _)
    clear HW31
    have HW38 := Lib.hid (show WinAt (w6.alloc (.cells #[.int .i64 wd, .int .i64 sl', .slice A6 n c6] 24)) [w6.heap.size, w4.heap.size, w3.heap.size, w2.heap.size, W.heap.size] A3 n cz from HW32.out.alloc _)
    clear HW32
    have HW39 := Lib.hid (show WinAt (w6.alloc (.cells #[.int .i64 wd, .int .i64 sl', .slice A6 n c6] 24)) [w6.heap.size, w4.heap.size, w3.heap.size, w2.heap.size, W.heap.size] A4 n cz from HW33.out.alloc _)
    clear HW33
    have HW40 := Lib.hid (show WinAt (w6.alloc (.cells #[.int .i64 wd, .int .i64 sl', .slice A6 n c6] 24)) [w6.heap.size, w4.heap.size, w3.heap.size, w2.heap.size, W.heap.size] A6 n cs2 from HN6.out.alloc _)
    clear HN6
    generalize w6.alloc (.cells #[.int .i64 wd, .int .i64 sl', .slice A6 n c6] 24) = v6 at HK35 HW36 HW37 HW38 HW39 HW40 ⊢
    clear hlt60 hlt61 hlt62 hlt63
    with_reducible refine (Add_c wd sl' A2 n c2 v6.heap.size cs' a ok v6 HW37.out.rd (Nat.le_refl _) (by omega)).mono ?_
    rw [R3.out]
    rintro e w7 ⟨A7, n7, c7, rfl, hr7, hb7, hlo7⟩
    dsimp only at hr7
    have hx7 : n7 = n := by have := hr7.cell_len; omega
    subst n7
    have HN7 := Lib.hid (show WinAt w7 [w6.heap.size, w4.heap.size, w3.heap.size, w2.heap.size, W.heap.size] A7 n cs2 from HW37.out.res hb7.size hr7 hlo7 rfl)
    clear hr7 hlo7
    have HW41 := Lib.hid (show WinAt w7 [w6.heap.size, w4.heap.size, w3.heap.size, w2.heap.size, W.heap.size] A n cs from HW36.out.next hb7)
    clear HW36
    have HW42 := Lib.hid (show WinAt w7 [w6.heap.size, w4.heap.size, w3.heap.size, w2.heap.size, W.heap.size] A2 n cs' from HW37.out.next hb7)
    clear HW37
    have HW43 := Lib.hid (show WinAt w7 [w6.heap.size, w4.heap.size, w3.heap.size, w2.heap.size, W.heap.size] A3 n cz from HW38.out.next hb7)
    clear HW38
    have HW44 := Lib.hid (show WinAt w7 [w6.heap.size, w4.heap.size, w3.heap.size, w2.heap.size, W.heap.size] A4 n cz from HW39.out.next hb7)
    clear HW39
    have HW45 := Lib.hid (show WinAt w7 [w6.heap.size, w4.heap.size, w3.heap.size, w2.heap.size, W.heap.size] A6 n cs2 from HW40.out.next hb7)
    clear HW40
    have HK46 := Lib.hid (show Kept W w7 [(w6.heap.size, 24, #[.int .i64 wd, .int .i64 sl', .slice A6 n c6]), (w4.heap.size, 24, #[.int .i64 wd, .int .i64 sz, .slice A4 n c4]), (w3.heap.size, 24, #[.int .i64 wd, .int .i64 sz, .slice A3 n c3]), (w2.heap.size, 24, #[.int .i64 wd, .int .i64 sl', .slice A2 n c2]), (W.heap.size, 24, #[.int .i64 wd, .int .i64 sl, .slice A n c])] from HK35.out.next hb7)
    clear HK35
    clear hb7
    have c_f_0 : w7.cell? ⟨W.heap.size, 0, none⟩ = some (.int .i64 wd) := HK46.out.cell 4 rfl 0
    have c_f_1 : w7.cell? ⟨W.heap.size, 1, none⟩ = some (.int .i64 sl) := HK46.out.cell 4 rfl 1
    have c_f_2 : w7.cell? ⟨W.heap.size, 2, none⟩ = some (.slice A n c) := HK46.out.cell 4 rfl 2
    have c_x_0 : w7.cell? ⟨w2.heap.size, 0, none⟩ = some (.int .i64 wd) := HK46.out.cell 3 rfl 0
    have c_x_1 : w7.cell? ⟨w2.heap.size, 1, none⟩ = some (.int .i64 sl') := HK46.out.cell 3 rfl 1
    have c_x_2 : w7.cell? ⟨w2.heap.size, 2, none⟩ = some (.slice A2 n c2) := HK46.out.cell 3 rfl 2
    have c_p_0 : w7.cell? ⟨w6.heap.size, 0, none⟩ = some (.int .i64 wd) := HK46.out.cell 0 rfl 0
    have c_p_1 : w7.cell? ⟨w6.heap.size, 1, none⟩ = some (.int .i64 sl') := HK46.out.cell 0 rfl 1
    have c_p_2 : w7.cell? ⟨w6.heap.size, 2, none⟩ = some (.slice A6 n c6) := HK46.out.cell 0 rfl 2
    have hlt70 := HK46.out.lt 0 rfl
    have hlt71 := HK46.out.lt 1 rfl
    have hlt72 := HK46.out.lt 2 rfl
    have hlt73 := HK46.out.lt 3 rfl
    have hlt74 := HK46.out.lt 4 rfl
    go_wp2_with fail
    clear c_f_0 c_f_1 c_f_2 c_x_0 c_x_1 c_x_2 c_p_0 c_p_1 c_p_2
    have HK47 := Lib.hid (show Kept W (w7.alloc (.cells #[.int .i64 wd, .int .i64 sl', .slice A7 n c7] 24)) [(w7.heap.size, 24, #[.int .i64 wd, .int .i64 sl', .slice A7 n c7]), (w6.heap.size, 24, #[.int .i64 wd, .int .i64 sl', .slice A6 n c6]), (w4.heap.size, 24, #[.int .i64 wd, .int .i64 sz, .slice A4 n c4]), (w3.heap.size, 24, #[.int .i64 wd, .int .i64 sz, .slice A3 n c3]), (w2.heap.size, 24, #[.int .i64 wd, .int .i64 sl', .slice A2 n c2]), (W.heap.size, 24, #[.int .i64 wd, .int .i64 sl, .slice A n c])] from HK46.out.alloc 24 #[.int .i64 wd, .int .i64 sl', .slice A7 n c7])
    clear HK46
    have HW48 := Lib.hid (show WinAt (w7.alloc (.cells #[.int .i64 wd, .int .i64 sl', .slice A7 n c7] 24)) [w7.heap.size, w6.heap.size, w4.heap.size, w3.heap.size, w2.heap.size, W.heap.size] A n cs from HW41.out.alloc _)
    clear HW41
    have HW49 := Lib.hid (show WinAt (w7.alloc (.cells #[.int .i64 wd, .int .i64 sl', .slice A7 n c7] 24)) [w7.heap.size, w6.heap.size, w4.heap.size, w3.heap.size, w2.heap.size, W.heap.size] A2 n cs' from HW42.out.alloc _)
    clear HW42
    have HW50 := Lib.hid (show WinAt (w7.alloc (.cells #[.int .i64 wd, .int .i64 sl', .slice A7 n c7] 24)) [w7.heap.size, w6.heap.size, w4.heap.size, w3.heap.size, w2.heap.size, W.heap.size] A3 n cz from HW43.out.alloc _)
    clear HW43
    have HW51 := Lib.hid (show WinAt (w7.alloc (.cells #[.int .i64 wd, .int .i64 sl', .slice A7 n c7] 24)) [w7.heap.size, w6.heap.size, w4.heap.size, w3.heap.size, w2.heap.size, W.heap.size] A4 n cz from HW44.out.alloc _)
    clear HW44
    have HW52 := Lib.hid (show WinAt (w7.alloc (.cells #[.int .i64 wd, .int .i64 sl', .slice A7 n c7] 24)) [w7.heap.size, w6.heap.size, w4.heap.size, w3.heap.size, w2.heap.size, W.heap.size] A6 n cs2 from HW45.out.alloc _)
    clear HW45
    have HW53 := Lib.hid (show WinAt (w7.alloc (.cells #[.int .i64 wd, .int .i64 sl', .slice A7 n c7] 24)) [w7.heap.size, w6.heap.size, w4.heap.size, w3.heap.size, w2.heap.size, W.heap.size] A7 n cs2 from HN7.out.alloc _)
    clear HN7
    generalize w7.alloc (.cells #[.int .i64 wd, .int .i64 sl', .slice A7 n c7] 24) = v7 at HK47 HW48 HW49 HW50 HW51 HW52 HW53 ⊢
    clear hlt70 hlt71 hlt72 hlt73 hlt74
    with_reducible refine (wSame_c wd sl' A6 n c6 cs2 wd sl' A7 n c7 cs2 v7.heap.size _ HW52.out.rd HW53.out.rd (Nat.le_refl _) (by omega) (by omega)).mono ?_
    rw [sameW_self]
    rintro e w8 ⟨rfl, hb8⟩
    have HW54 := Lib.hid (show WinAt w8 [w7.heap.size, w6.heap.size, w4.heap.size, w3.heap.size, w2.heap.size, W.heap.size] A n cs from HW48.out.next hb8)
    clear HW48
    have HW55 := Lib.hid (show WinAt w8 [w7.heap.size, w6.heap.size, w4.heap.size, w3.heap.size, w2.heap.size, W.heap.size] A2 n cs' from HW49.out.next hb8)
    clear HW49
    have HW56 := Lib.hid (show WinAt w8 [w7.heap.size, w6.heap.size, w4.heap.size, w3.heap.size, w2.heap.size, W.heap.size] A3 n cz from HW50.out.next hb8)
    clear HW50
    have HW57 := Lib.hid (show WinAt w8 [w7.heap.size, w6.heap.size, w4.heap.size, w3.heap.size, w2.heap.size, W.heap.size] A4 n cz from HW51.out.next hb8)
    clear HW51
    have HW58 := Lib.hid (show WinAt w8 [w7.heap.size, w6.heap.size, w4.heap.size, w3.heap.size, w2.heap.size, W.heap.size] A6 n cs2 from HW52.out.next hb8)
    clear HW52
    have HW59 := Lib.hid (show WinAt w8 [w7.heap.size, w6.heap.size, w4.heap.size, w3.heap.size, w2.heap.size, W.heap.size] A7 n cs2 from HW53.out.next hb8)
    clear HW53
    have HK60 := Lib.hid (show Kept W w8 [(w7.heap.size, 24, #[.int .i64 wd, .int .i64 sl', .slice A7 n c7]), (w6.heap.size, 24, #[.int .i64 wd, .int .i64 sl', .slice A6 n c6]), (w4.heap.size, 24, #[.int .i64 wd, .int .i64 sz, .slice A4 n c4]), (w3.heap.size, 24, #[.int .i64 wd, .int .i64 sz, .slice A3 n c3]), (w2.heap.size, 24, #[.int .i64 wd, .int .i64 sl', .slice A2 n c2]), (W.heap.size, 24, #[.int .i64 wd, .int .i64 sl, .slice A n c])] from HK47.out.next hb8)
    clear HK47
    clear hb8
    have c_z_0 : w8.cell? ⟨w4.heap.size, 0, none⟩ = some (.int .i64 wd) := HK60.out.cell 2 rfl 0
    have c_z_1 : w8.cell? ⟨w4.heap.size, 1, none⟩ = some (.int .i64 sz) := HK60.out.cell 2 rfl 1
    have c_z_2 : w8.cell? ⟨w4.heap.size, 2, none⟩ = some (.slice A4 n c4) := HK60.out.cell 2 rfl 2
    go_wp2_with fail
    clear c_z_0 c_z_1 c_z_2
    with_reducible refine (Move_c wd sz A4 n c4 w8.heap.size cz a w8 HW57.out.rd (Nat.le_refl _) (by omega)).mono ?_
    rw [R6.out]
    rintro e w9 ⟨A9, n9, c9, rfl, hr9, hb9, hlo9⟩
    dsimp only at hr9
    have hx9 : n9 = n := by have := hr9.cell_len; omega
    subst n9
    have HN9 := Lib.hid (show WinAt w9 [w7.heap.size, w6.heap.size, w4.heap.size, w3.heap.size, w2.heap.size, W.heap.size] A9 n cz from HW57.out.res hb9.size hr9 hlo9 rfl)
    clear hr9 hlo9
    have HW61 := Lib.hid (show WinAt w9 [w7.heap.size, w6.heap.size, w4.heap.size, w3.heap.size, w2.heap.size, W.heap.size] A n cs from HW54.out.next hb9)
    clear HW54
    have HW62 := Lib.hid (show WinAt w9 [w7.heap.size, w6.heap.size, w4.heap.size, w3.heap.size, w2.heap.size, W.heap.size] A2 n cs' from HW55.out.next hb9)
    clear HW55
    have HW63 := Lib.hid (show WinAt w9 [w7.heap.size, w6.heap.size, w4.heap.size, w3.heap.size, w2.heap.size, W.heap.size] A3 n cz from HW56.out.next hb9)
    clear HW56
    have HW64 := Lib.hid (show WinAt w9 [w7.heap.size, w6.heap.size, w4.heap.size, w3.heap.size, w2.heap.size, W.heap.size] A4 n cz from HW57.out.next hb9)
    clear HW57
    have HW65 := Lib.hid (show WinAt w9 [w7.heap.size, w6.heap.size, w4.heap.size, w3.heap.size, w2.heap.size, W.heap.size] A6 n cs2 from HW58.out.next hb9)
    clear HW58
    have HW66 := Lib.hid (show WinAt w9 [w7.heap.size, w6.heap.size, w4.heap.size, w3.heap.size, w2.heap.size, W.heap.size] A7 n cs2 from HW59.out.next hb9)
    clear HW59
    have HK67 := Lib.hid (show Kept W w9 [(w7.heap.size, 24, #[.int .i64 wd, .int .i64 sl', .slice A7 n c7]), (w6.heap.size, 24, #[.int .i64 wd, .int .i64 sl', .slice A6 n c6]), (w4.heap.size, 24, #[.int .i64 wd, .int .i64 sz, .slice A4 n c4]), (w3.heap.size, 24, #[.int .i64 wd, .int .i64 sz, .slice A3 n c3]), (w2.heap.size, 24, #[.int .i64 wd, .int .i64 sl', .slice A2 n c2]), (W.heap.size, 24, #[.int .i64 wd, .int .i64 sl, .slice A n c])] from HK60.out.next hb9)
    clear HK60
    clear hb9
    have c_z_0 : w9.cell? ⟨w4.heap.size, 0, none⟩ = some (.int .i64 wd) := HK67.out.cell 2 rfl 0
    have c_z_1 : w9.cell? ⟨w4.heap.size, 1, none⟩ = some (.int .i64 sz) := HK67.out.cell 2 rfl 1
    have c_z_2 : w9.cell? ⟨w4.heap.size, 2, none⟩ = some (.slice A4 n c4) := HK67.out.cell 2 rfl 2
    have hlt90 := HK67.out.lt 0 rfl
    have hlt91 := HK67.out.lt 1 rfl
    have hlt92 := HK67.out.lt 2 rfl
    have hlt93 := HK67.out.lt 3 rfl
    have hlt94 := HK67.out.lt 4 rfl
    have hlt95 := HK67.out.lt 5 rfl
    go_wp2_with fail
    clear c_z_0 c_z_1 c_z_2
    have HK68 := Lib.hid (show Kept W (w9.alloc (.cells #[.int .i64 wd, .int .i64 sz, .slice A9 n c9] 24)) [(w9.heap.size, 24, #[.int .i64 wd, .int .i64 sz, .slice A9 n c9]), (w7.heap.size, 24, #[.int .i64 wd, .int .i64 sl', .slice A7 n c7]), (w6.heap.size, 24, #[.int .i64 wd, .int .i64 sl', .slice A6 n c6]), (w4.heap.size, 24, #[.int .i64 wd, .int .i64 sz, .slice A4 n c4]), (w3.heap.size, 24, #[.int .i64 wd, .int .i64 sz, .slice A3 n c3]), (w2.heap.size, 24, #[.int .i64 wd, .int .i64 sl', .slice A2 n c2]), (W.heap.size, 24, #[.int .i64 wd, .int .i64 sl, .slice A n c])] from HK67.out.alloc 24 #[.int .i64 wd, .int .i64 sz, .slice A9 n c9])
    clear HK67
    have HW69 := Lib.hid (show WinAt (w9.alloc (.cells #[.int .i64 wd, .int .i64 sz, .slice A9 n c9] 24)) [w9.heap.size, w7.heap.size, w6.heap.size, w4.heap.size, w3.heap.size, w2.heap.size, W.heap.size] A n cs from HW61.out.alloc _)
    clear HW61
    have HW70 := Lib.hid (show WinAt (w9.alloc (.cells #[.int .i64 wd, .int .i64 sz, .slice A9 n c9] 24)) [w9.heap.size, w7.heap.size, w6.heap.size, w4.heap.size, w3.heap.size, w2.heap.size, W.heap.size] A2 n cs' from HW62.out.alloc _)
    clear HW62
    have HW71 := Lib.hid (show WinAt (w9.alloc (.cells #[.int .i64 wd, .int .i64 sz, .slice A9 n c9] 24)) [w9.heap.size, w7.heap.size, w6.heap.size, w4.heap.size, w3.heap.size, w2.heap.size, W.heap.size] A3 n cz from HW63.out.alloc _)
    clear HW63
    have HW72 := Lib.hid (show WinAt (w9.alloc (.cells #[.int .i64 wd, .int .i64 sz, .slice A9 n c9] 24)) [w9.heap.size, w7.heap.size, w6.heap.size, w4.heap.size, w3.heap.size, w2.heap.size, W.heap.size] A4 n cz from HW64.out.alloc _)
    clear HW64
    have HW73 := Lib.hid (show WinAt (w9.alloc (.cells #[.int .i64 wd, .int .i64 sz, .slice A9 n c9] 24)) [w9.heap.size, w7.heap.size, w6.heap.size, w4.heap.size, w3.heap.size, w2.heap.size, W.heap.size] A6 n cs2 from HW65.out.alloc _)
    clear HW65
    have HW74 := Lib.hid (show WinAt (w9.alloc (.cells #[.int .i64 wd, .int .i64 sz, .slice A9 n c9] 24)) [w9.heap.size, w7.heap.size, w6.heap.size, w4.heap.size, w3.heap.size, w2.heap.size, W.heap.size] A7 n cs2 from HW66.out.alloc _)
    clear HW66
    have HW75 := Lib.hid (show WinAt (w9.alloc (.cells #[.int .i64 wd, .int .i64 sz, .slice A9 n c9] 24)) [w9.heap.size, w7.heap.size, w6.heap.size, w4.heap.size, w3.heap.size, w2.heap.size, W.heap.size] A9 n cz from HN9.out.alloc _)
    clear HN9
    generalize w9.alloc (.cells #[.int .i64 wd, .int .i64 sz, .slice A9 n c9] 24) = v9 at HK68 HW69 HW70 HW71 HW72 HW73 HW74 HW75 ⊢
    clear hlt90 hlt91 hlt92 hlt93 hlt94 hlt95
    with_reducible refine (wSame_c wd sz A9 n c9 cz wd sz A4 n c4 cz v9.heap.size _ HW75.out.rd HW72.out.rd (Nat.le_refl _) (by omega) (by omega)).mono ?_
    rw [sameW_self]
    rintro e w10 ⟨rfl, hb10⟩
    have HW76 := Lib.hid (show WinAt w10 [w9.heap.size, w7.heap.size, w6.heap.size, w4.heap.size, w3.heap.size, w2.heap.size, W.heap.size] A n cs from HW69.out.next hb10)
    clear HW69
    have HW77 := Lib.hid (show WinAt w10 [w9.heap.size, w7.heap.size, w6.heap.size, w4.heap.size, w3.heap.size, w2.heap.size, W.heap.size] A2 n cs' from HW70.out.next hb10)
    clear HW70
    have HW78 := Lib.hid (show WinAt w10 [w9.heap.size, w7.heap.size, w6.heap.size, w4.heap.size, w3.heap.size, w2.heap.size, W.heap.size] A3 n cz from HW71.out.next hb10)
    clear HW71
    have HW79 := Lib.hid (show WinAt w10 [w9.heap.size, w7.heap.size, w6.heap.size, w4.heap.size, w3.heap.size, w2.heap.size, W.heap.size] A4 n cz from HW72.out.next hb10)
    clear HW72
    have HW80 := Lib.hid (show WinAt w10 [w9.heap.size, w7.heap.size, w6.heap.size, w4.heap.size, w3.heap.size, w2.heap.size, W.heap.size] A6 n cs2 from HW73.out.next hb10)
    clear HW73
    have HW81 := Lib.hid (show WinAt w10 [w9.heap.size, w7.heap.size, w6.heap.size, w4.heap.size, w3.heap.size, w2.heap.size, W.heap.size] A7 n cs2 from HW74.out.next hb10)
    clear HW74
    have HW82 := Lib.hid (show WinAt w10 [w9.heap.size, w7.heap.size, w6.heap.size, w4.heap.size, w3.heap.size, w2.heap.size, W.heap.size] A9 n cz from HW75.out.next hb10)
    clear HW75
    have HK83 := Lib.hid (show Kept W w10 [(w9.heap.size, 24, #[.int .i64 wd, .int .i64 sz, .slice A9 n c9]), (w7.heap.size, 24, #[.int .i64 wd, .int .i64 sl', .slice A7 n c7]), (w6.heap.size, 24, #[.int .i64 wd, .int .i64 sl', .slice A6 n c6]), (w4.heap.size, 24, #[.int .i64 wd, .int .i64 sz, .slice A4 n c4]), (w3.heap.size, 24, #[.int .i64 wd, .int .i64 sz, .slice A3 n c3]), (w2.heap.size, 24, #[.int .i64 wd, .int .i64 sl', .slice A2 n c2]), (W.heap.size, 24, #[.int .i64 wd, .int .i64 sl, .slice A n c])] from HK68.out.next hb10)
    clear HK68
    clear hb10
    go_wp2
    go_ret
    exact ⟨rfl, HK83.out.bel⟩

set_option maxRecDepth 100000 in
set_option maxHeartbeats 8000000 in
theorem WindowMoves_walk2 (wd sl : Int) (A : Option Addr) (n c : Nat) (cs : List (Int × Int)) (a b : Int) (ok : Bool) (W : World) (h : CellArg W A n c cs) (hab : b < a) : Calls Try.prog 5 #[.agg (winA wd sl A n c), .int .i64 a, .int .i64 b, .bool ok] W fun e w' => e = .returned (.bool true) ∧ Below W.heap.size W w' := by
  have hr := h.1
  clear h
  have hl := hr.cell_len
  by_cases h99 : 99 < n
  · have dl : decide ((99 : Int) < (n : Int)) = true := by simp; omega
    have HK1 := Lib.hid (show Kept W (W.alloc (.cells #[.int .i64 wd, .int .i64 sl, .slice A n c] 24)) [(W.heap.size, 24, #[.int .i64 wd, .int .i64 sl, .slice A n c])] from ((Kept.start W).alloc_at 24 #[.int .i64 wd, .int .i64 sl, .slice A n c] (W.heap.size) (by simp)))
    go_enter Try.func5, Try.ntmps5
    go_wp2_with fail
    with_reducible refine (awake_c _).mono ?_
    rintro e w1 ⟨rfl, hb1⟩
    have HK2 := Lib.hid (show Kept W w1 [(W.heap.size, 24, #[.int .i64 wd, .int .i64 sl, .slice A n c])] from HK1.out.next hb1)
    clear HK1
    clear hb1
    have c_f_0 : w1.cell? ⟨W.heap.size, 0, none⟩ = some (.int .i64 wd) := HK2.out.cell 0 rfl 0
    have c_f_1 : w1.cell? ⟨W.heap.size, 1, none⟩ = some (.int .i64 sl) := HK2.out.cell 0 rfl 1
    have c_f_2 : w1.cell? ⟨W.heap.size, 2, none⟩ = some (.slice A n c) := HK2.out.cell 0 rfl 2
    go_wp2
    go_ret
    exact ⟨rfl, HK2.out.bel⟩
  have dl : decide ((99 : Int) < (n : Int)) = false := by simp; omega
  have HW0 := Lib.hid (show WinAt W [] A n cs from WinAt.start hr)
  clear hr
  have HK1 := Lib.hid (show Kept W (W.alloc (.cells #[.int .i64 wd, .int .i64 sl, .slice A n c] 24)) [(W.heap.size, 24, #[.int .i64 wd, .int .i64 sl, .slice A n c])] from ((Kept.start W).alloc_at 24 #[.int .i64 wd, .int .i64 sl, .slice A n c] (W.heap.size) (by simp)))
  have HWa := Lib.hid (show WinAt (W.alloc (.cells #[.int .i64 wd, .int .i64 sl, .slice A n c] 24)) [W.heap.size] A n cs from HW0.out.alloc _)
  clear HW0
  by_cases hg : (rightW wd sl cs && timeB b) = false
  · have R1 := Lib.hid (moveR_bad hg)
    have R2 := Lib.hid (addR_bad (ok := ok) hg)
    clear hg
    go_enter Try.func5, Try.ntmps5
    go_wp2_with fail
    with_reducible refine (awake_c _).mono ?_
    rintro e w1 ⟨rfl, hb1⟩
    have HW2 := Lib.hid (show WinAt w1 [W.heap.size] A n cs from HWa.out.next hb1)
    clear HWa
    have HK3 := Lib.hid (show Kept W w1 [(W.heap.size, 24, #[.int .i64 wd, .int .i64 sl, .slice A n c])] from HK1.out.next hb1)
    clear HK1
    clear hb1
    have c_f_0 : w1.cell? ⟨W.heap.size, 0, none⟩ = some (.int .i64 wd) := HK3.out.cell 0 rfl 0
    have c_f_1 : w1.cell? ⟨W.heap.size, 1, none⟩ = some (.int .i64 sl) := HK3.out.cell 0 rfl 1
    have c_f_2 : w1.cell? ⟨W.heap.size, 2, none⟩ = some (.slice A n c) := HK3.out.cell 0 rfl 2
    go_wp2_with fail
    with_reducible refine (Move_c wd sl A n c w1.heap.size cs b w1 HW2.out.rd (Nat.le_refl _) (by omega)).mono ?_
    rw [R1.out]
    rintro e w2 ⟨A2, n2, c2, rfl, hr2, hb2, hlo2⟩
    dsimp only at hr2
    have hx2 : n2 = n := by have := hr2.cell_len; omega
    subst n2
    have HN2 := Lib.hid (show WinAt w2 [W.heap.size] A2 n cs from HW2.out.res hb2.size hr2 hlo2 rfl)
    clear hr2 hlo2
    have HW4 := Lib.hid (show WinAt w2 [W.heap.size] A n cs from HW2.out.next hb2)
    clear HW2
    clear c_f_0 c_f_1 c_f_2
    have HK5 := Lib.hid (show Kept W w2 [(W.heap.size, 24, #[.int .i64 wd, .int .i64 sl, .slice A n c])] from HK3.out.next hb2)
    clear HK3
    clear hb2
    have c_f_0 : w2.cell? ⟨W.heap.size, 0, none⟩ = some (.int .i64 wd) := HK5.out.cell 0 rfl 0
    have c_f_1 : w2.cell? ⟨W.heap.size, 1, none⟩ = some (.int .i64 sl) := HK5.out.cell 0 rfl 1
    have c_f_2 : w2.cell? ⟨W.heap.size, 2, none⟩ = some (.slice A n c) := HK5.out.cell 0 rfl 2
    have hlt20 := HK5.out.lt 0 rfl
    go_wp2_with fail
    clear c_f_0 c_f_1 c_f_2
    have HK6 := Lib.hid (show Kept W (w2.alloc (.cells #[.int .i64 wd, .int .i64 sl, .slice A2 n c2] 24)) [(w2.heap.size, 24, #[.int .i64 wd, .int .i64 sl, .slice A2 n c2]), (W.heap.size, 24, #[.int .i64 wd, .int .i64 sl, .slice A n c])] from HK5.out.alloc 24 #[.int .i64 wd, .int .i64 sl, .slice A2 n c2])
    clear HK5
    have HW7 := Lib.hid (show WinAt (w2.alloc (.cells #[.int .i64 wd, .int .i64 sl, .slice A2 n c2] 24)) [w2.heap.size, W.heap.size] A n cs from HW4.out.alloc _)
    clear HW4
    have HW8 := Lib.hid (show WinAt (w2.alloc (.cells #[.int .i64 wd, .int .i64 sl, .slice A2 n c2] 24)) [w2.heap.size, W.heap.size] A2 n cs from HN2.out.alloc _)
    clear HN2
    generalize w2.alloc (.cells #[.int .i64 wd, .int .i64 sl, .slice A2 n c2] 24) = v2 at HK6 HW7 HW8 ⊢
    clear hlt20
    with_reducible refine (Add_c wd sl A n c v2.heap.size cs b ok v2 HW7.out.rd (Nat.le_refl _) (by omega)).mono ?_
    rw [R2.out]
    rintro e w3 ⟨A3, n3, c3, rfl, hr3, hb3, hlo3⟩
    dsimp only at hr3
    have hx3 : n3 = n := by have := hr3.cell_len; omega
    subst n3
    have HN3 := Lib.hid (show WinAt w3 [w2.heap.size, W.heap.size] A3 n cs from HW7.out.res hb3.size hr3 hlo3 rfl)
    clear hr3 hlo3
    have HW9 := Lib.hid (show WinAt w3 [w2.heap.size, W.heap.size] A n cs from HW7.out.next hb3)
    clear HW7
    have HW10 := Lib.hid (show WinAt w3 [w2.heap.size, W.heap.size] A2 n cs from HW8.out.next hb3)
    clear HW8
    have HK11 := Lib.hid (show Kept W w3 [(w2.heap.size, 24, #[.int .i64 wd, .int .i64 sl, .slice A2 n c2]), (W.heap.size, 24, #[.int .i64 wd, .int .i64 sl, .slice A n c])] from HK6.out.next hb3)
    clear HK6
    clear hb3
    have c_f_0 : w3.cell? ⟨W.heap.size, 0, none⟩ = some (.int .i64 wd) := HK11.out.cell 1 rfl 0
    have c_f_1 : w3.cell? ⟨W.heap.size, 1, none⟩ = some (.int .i64 sl) := HK11.out.cell 1 rfl 1
    have c_f_2 : w3.cell? ⟨W.heap.size, 2, none⟩ = some (.slice A n c) := HK11.out.cell 1 rfl 2
    have c_x_0 : w3.cell? ⟨w2.heap.size, 0, none⟩ = some (.int .i64 wd) := HK11.out.cell 0 rfl 0
    have c_x_1 : w3.cell? ⟨w2.heap.size, 1, none⟩ = some (.int .i64 sl) := HK11.out.cell 0 rfl 1
    have c_x_2 : w3.cell? ⟨w2.heap.size, 2, none⟩ = some (.slice A2 n c2) := HK11.out.cell 0 rfl 2
    have hlt30 := HK11.out.lt 0 rfl
    have hlt31 := HK11.out.lt 1 rfl
    go_wp2_with fail
    clear c_f_0 c_f_1 c_f_2 c_x_0 c_x_1 c_x_2
    have HK12 := Lib.hid (show Kept W (w3.alloc (.cells #[.int .i64 wd, .int .i64 sl, .slice A3 n c3] 24)) [(w3.heap.size, 24, #[.int .i64 wd, .int .i64 sl, .slice A3 n c3]), (w2.heap.size, 24, #[.int .i64 wd, .int .i64 sl, .slice A2 n c2]), (W.heap.size, 24, #[.int .i64 wd, .int .i64 sl, .slice A n c])] from HK11.out.alloc 24 #[.int .i64 wd, .int .i64 sl, .slice A3 n c3])
    clear HK11
    have HW13 := Lib.hid (show WinAt (w3.alloc (.cells #[.int .i64 wd, .int .i64 sl, .slice A3 n c3] 24)) [w3.heap.size, w2.heap.size, W.heap.size] A n cs from HW9.out.alloc _)
    clear HW9
    have HW14 := Lib.hid (show WinAt (w3.alloc (.cells #[.int .i64 wd, .int .i64 sl, .slice A3 n c3] 24)) [w3.heap.size, w2.heap.size, W.heap.size] A2 n cs from HW10.out.alloc _)
    clear HW10
    have HW15 := Lib.hid (show WinAt (w3.alloc (.cells #[.int .i64 wd, .int .i64 sl, .slice A3 n c3] 24)) [w3.heap.size, w2.heap.size, W.heap.size] A3 n cs from HN3.out.alloc _)
    clear HN3
    generalize w3.alloc (.cells #[.int .i64 wd, .int .i64 sl, .slice A3 n c3] 24) = v3 at HK12 HW13 HW14 HW15 ⊢
    clear hlt30 hlt31
    with_reducible refine (wSame_c wd sl A2 n c2 cs wd sl A n c cs v3.heap.size _ HW14.out.rd HW13.out.rd (Nat.le_refl _) (by omega) (by omega)).mono ?_
    rw [sameW_self]
    rintro e w4 ⟨rfl, hb4⟩
    have HW16 := Lib.hid (show WinAt w4 [w3.heap.size, w2.heap.size, W.heap.size] A n cs from HW13.out.next hb4)
    clear HW13
    have HW17 := Lib.hid (show WinAt w4 [w3.heap.size, w2.heap.size, W.heap.size] A2 n cs from HW14.out.next hb4)
    clear HW14
    have HW18 := Lib.hid (show WinAt w4 [w3.heap.size, w2.heap.size, W.heap.size] A3 n cs from HW15.out.next hb4)
    clear HW15
    have HK19 := Lib.hid (show Kept W w4 [(w3.heap.size, 24, #[.int .i64 wd, .int .i64 sl, .slice A3 n c3]), (w2.heap.size, 24, #[.int .i64 wd, .int .i64 sl, .slice A2 n c2]), (W.heap.size, 24, #[.int .i64 wd, .int .i64 sl, .slice A n c])] from HK12.out.next hb4)
    clear HK12
    clear hb4
    have c_p_0 : w4.cell? ⟨w3.heap.size, 0, none⟩ = some (.int .i64 wd) := HK19.out.cell 0 rfl 0
    have c_p_1 : w4.cell? ⟨w3.heap.size, 1, none⟩ = some (.int .i64 sl) := HK19.out.cell 0 rfl 1
    have c_p_2 : w4.cell? ⟨w3.heap.size, 2, none⟩ = some (.slice A3 n c3) := HK19.out.cell 0 rfl 2
    have c_f_0 : w4.cell? ⟨W.heap.size, 0, none⟩ = some (.int .i64 wd) := HK19.out.cell 2 rfl 0
    have c_f_1 : w4.cell? ⟨W.heap.size, 1, none⟩ = some (.int .i64 sl) := HK19.out.cell 2 rfl 1
    have c_f_2 : w4.cell? ⟨W.heap.size, 2, none⟩ = some (.slice A n c) := HK19.out.cell 2 rfl 2
    go_wp2_with fail
    clear c_p_0 c_p_1 c_p_2 c_f_0 c_f_1 c_f_2
    with_reducible refine (wSame_c wd sl A3 n c3 cs wd sl A n c cs w4.heap.size _ HW18.out.rd HW16.out.rd (Nat.le_refl _) (by omega) (by omega)).mono ?_
    rw [sameW_self]
    rintro e w5 ⟨rfl, hb5⟩
    have HW20 := Lib.hid (show WinAt w5 [w3.heap.size, w2.heap.size, W.heap.size] A n cs from HW16.out.next hb5)
    clear HW16
    have HW21 := Lib.hid (show WinAt w5 [w3.heap.size, w2.heap.size, W.heap.size] A2 n cs from HW17.out.next hb5)
    clear HW17
    have HW22 := Lib.hid (show WinAt w5 [w3.heap.size, w2.heap.size, W.heap.size] A3 n cs from HW18.out.next hb5)
    clear HW18
    have HK23 := Lib.hid (show Kept W w5 [(w3.heap.size, 24, #[.int .i64 wd, .int .i64 sl, .slice A3 n c3]), (w2.heap.size, 24, #[.int .i64 wd, .int .i64 sl, .slice A2 n c2]), (W.heap.size, 24, #[.int .i64 wd, .int .i64 sl, .slice A n c])] from HK19.out.next hb5)
    clear HK19
    clear hb5
    go_wp2
    go_ret
    exact ⟨rfl, HK23.out.bel⟩
  have hg' : (rightW wd sl cs && timeB b) = true := by simpa using hg
  rw [Bool.and_eq_true] at hg'
  obtain ⟨hg1, hg2⟩ := hg'
  clear hg
  obtain ⟨sl', cs', hm, hl', h1, h2, h3, -⟩ := moveR_good hg1 hg2
  rw [hl] at hl'
  obtain ⟨cs2, ha1, ha2, hl2⟩ := addR_good (ok := ok) hg1 hg2 hm
  rw [hl'] at hl2
  have R1 := Lib.hid hm
  have R2 := Lib.hid ha1
  have R3 := Lib.hid ha2
  clear ha1 ha2
  cases hth : timeB a
  · have R4 := Lib.hid (show moveR wd sl' cs' a = ⟨wd, sl', cs', 1⟩ from moveR_bad (by rw [hth, Bool.and_false]))
    have R5 := Lib.hid (show moveR wd sl cs a = ⟨wd, sl, cs, 1⟩ from moveR_bad (by rw [hth, Bool.and_false]))
    clear hm hg1 hg2 h1 h2 h3 hth
    go_enter Try.func5, Try.ntmps5
    go_wp2_with fail
    with_reducible refine (awake_c _).mono ?_
    rintro e w1 ⟨rfl, hb1⟩
    have HW2 := Lib.hid (show WinAt w1 [W.heap.size] A n cs from HWa.out.next hb1)
    clear HWa
    have HK3 := Lib.hid (show Kept W w1 [(W.heap.size, 24, #[.int .i64 wd, .int .i64 sl, .slice A n c])] from HK1.out.next hb1)
    clear HK1
    clear hb1
    have c_f_0 : w1.cell? ⟨W.heap.size, 0, none⟩ = some (.int .i64 wd) := HK3.out.cell 0 rfl 0
    have c_f_1 : w1.cell? ⟨W.heap.size, 1, none⟩ = some (.int .i64 sl) := HK3.out.cell 0 rfl 1
    have c_f_2 : w1.cell? ⟨W.heap.size, 2, none⟩ = some (.slice A n c) := HK3.out.cell 0 rfl 2
    go_wp2_with fail
    with_reducible refine (Move_c wd sl A n c w1.heap.size cs b w1 HW2.out.rd (Nat.le_refl _) (by omega)).mono ?_
    rw [R1.out]
    rintro e w2 ⟨A2, n2, c2, rfl, hr2, hb2, hlo2⟩
    dsimp only at hr2
    have hx2 : n2 = n := by have := hr2.cell_len; omega
    subst n2
    have HN2 := Lib.hid (show WinAt w2 [W.heap.size] A2 n cs' from HW2.out.res hb2.size hr2 hlo2 rfl)
    clear hr2 hlo2
    have HW4 := Lib.hid (show WinAt w2 [W.heap.size] A n cs from HW2.out.next hb2)
    clear HW2
    clear c_f_0 c_f_1 c_f_2
    have HK5 := Lib.hid (show Kept W w2 [(W.heap.size, 24, #[.int .i64 wd, .int .i64 sl, .slice A n c])] from HK3.out.next hb2)
    clear HK3
    clear hb2
    have c_f_0 : w2.cell? ⟨W.heap.size, 0, none⟩ = some (.int .i64 wd) := HK5.out.cell 0 rfl 0
    have c_f_1 : w2.cell? ⟨W.heap.size, 1, none⟩ = some (.int .i64 sl) := HK5.out.cell 0 rfl 1
    have c_f_2 : w2.cell? ⟨W.heap.size, 2, none⟩ = some (.slice A n c) := HK5.out.cell 0 rfl 2
    have hlt20 := HK5.out.lt 0 rfl
    go_wp2_with fail
    clear c_f_0 c_f_1 c_f_2
    have HK6 := Lib.hid (show Kept W (w2.alloc (.cells #[.int .i64 wd, .int .i64 sl', .slice A2 n c2] 24)) [(w2.heap.size, 24, #[.int .i64 wd, .int .i64 sl', .slice A2 n c2]), (W.heap.size, 24, #[.int .i64 wd, .int .i64 sl, .slice A n c])] from HK5.out.alloc 24 #[.int .i64 wd, .int .i64 sl', .slice A2 n c2])
    clear HK5
    have HW7 := Lib.hid (show WinAt (w2.alloc (.cells #[.int .i64 wd, .int .i64 sl', .slice A2 n c2] 24)) [w2.heap.size, W.heap.size] A n cs from HW4.out.alloc _)
    clear HW4
    have HW8 := Lib.hid (show WinAt (w2.alloc (.cells #[.int .i64 wd, .int .i64 sl', .slice A2 n c2] 24)) [w2.heap.size, W.heap.size] A2 n cs' from HN2.out.alloc _)
    clear HN2
    generalize w2.alloc (.cells #[.int .i64 wd, .int .i64 sl', .slice A2 n c2] 24) = v2 at HK6 HW7 HW8 ⊢
    clear hlt20
    with_reducible refine (Move_c wd sl' A2 n c2 v2.heap.size cs' a v2 HW8.out.rd (Nat.le_refl _) (by omega)).mono ?_
    rw [R4.out]
    rintro e w3 ⟨A3, n3, c3, rfl, hr3, hb3, hlo3⟩
    dsimp only at hr3
    have hx3 : n3 = n := by have := hr3.cell_len; omega
    subst n3
    have HN3 := Lib.hid (show WinAt w3 [w2.heap.size, W.heap.size] A3 n cs' from HW8.out.res hb3.size hr3 hlo3 rfl)
    clear hr3 hlo3
    have HW9 := Lib.hid (show WinAt w3 [w2.heap.size, W.heap.size] A n cs from HW7.out.next hb3)
    clear HW7
    have HW10 := Lib.hid (show WinAt w3 [w2.heap.size, W.heap.size] A2 n cs' from HW8.out.next hb3)
    clear HW8
    have HK11 := Lib.hid (show Kept W w3 [(w2.heap.size, 24, #[.int .i64 wd, .int .i64 sl', .slice A2 n c2]), (W.heap.size, 24, #[.int .i64 wd, .int .i64 sl, .slice A n c])] from HK6.out.next hb3)
    clear HK6
    clear hb3
    have c_f_0 : w3.cell? ⟨W.heap.size, 0, none⟩ = some (.int .i64 wd) := HK11.out.cell 1 rfl 0
    have c_f_1 : w3.cell? ⟨W.heap.size, 1, none⟩ = some (.int .i64 sl) := HK11.out.cell 1 rfl 1
    have c_f_2 : w3.cell? ⟨W.heap.size, 2, none⟩ = some (.slice A n c) := HK11.out.cell 1 rfl 2
    have c_x_0 : w3.cell? ⟨w2.heap.size, 0, none⟩ = some (.int .i64 wd) := HK11.out.cell 0 rfl 0
    have c_x_1 : w3.cell? ⟨w2.heap.size, 1, none⟩ = some (.int .i64 sl') := HK11.out.cell 0 rfl 1
    have c_x_2 : w3.cell? ⟨w2.heap.size, 2, none⟩ = some (.slice A2 n c2) := HK11.out.cell 0 rfl 2
    have hlt30 := HK11.out.lt 0 rfl
    have hlt31 := HK11.out.lt 1 rfl
    go_wp2_with fail
    clear c_f_0 c_f_1 c_f_2 c_x_0 c_x_1 c_x_2
    have HK12 := Lib.hid (show Kept W (w3.alloc (.cells #[.int .i64 wd, .int .i64 sl', .slice A3 n c3] 24)) [(w3.heap.size, 24, #[.int .i64 wd, .int .i64 sl', .slice A3 n c3]), (w2.heap.size, 24, #[.int .i64 wd, .int .i64 sl', .slice A2 n c2]), (W.heap.size, 24, #[.int .i64 wd, .int .i64 sl, .slice A n c])] from HK11.out.alloc 24 #[.int .i64 wd, .int .i64 sl', .slice A3 n c3])
    clear HK11
    have HW13 := Lib.hid (show WinAt (w3.alloc (.cells #[.int .i64 wd, .int .i64 sl', .slice A3 n c3] 24)) [w3.heap.size, w2.heap.size, W.heap.size] A n cs from HW9.out.alloc _)
    clear HW9
    have HW14 := Lib.hid (show WinAt (w3.alloc (.cells #[.int .i64 wd, .int .i64 sl', .slice A3 n c3] 24)) [w3.heap.size, w2.heap.size, W.heap.size] A2 n cs' from HW10.out.alloc _)
    clear HW10
    have HW15 := Lib.hid (show WinAt (w3.alloc (.cells #[.int .i64 wd, .int .i64 sl', .slice A3 n c3] 24)) [w3.heap.size, w2.heap.size, W.heap.size] A3 n cs' from HN3.out.alloc _)
    clear HN3
    generalize w3.alloc (.cells #[.int .i64 wd, .int .i64 sl', .slice A3 n c3] 24) = v3 at HK12 HW13 HW14 HW15 ⊢
    clear hlt30 hlt31
    with_reducible refine (Move_c wd sl A n c v3.heap.size cs a v3 HW13.out.rd (Nat.le_refl _) (by omega)).mono ?_
    rw [R5.out]
    rintro e w4 ⟨A4, n4, c4, rfl, hr4, hb4, hlo4⟩
    dsimp only at hr4
    have hx4 : n4 = n := by have := hr4.cell_len; omega
    subst n4
    have HN4 := Lib.hid (show WinAt w4 [w3.heap.size, w2.heap.size, W.heap.size] A4 n cs from HW13.out.res hb4.size hr4 hlo4 rfl)
    clear hr4 hlo4
    have HW16 := Lib.hid (show WinAt w4 [w3.heap.size, w2.heap.size, W.heap.size] A n cs from HW13.out.next hb4)
    clear HW13
    have HW17 := Lib.hid (show WinAt w4 [w3.heap.size, w2.heap.size, W.heap.size] A2 n cs' from HW14.out.next hb4)
    clear HW14
    have HW18 := Lib.hid (show WinAt w4 [w3.heap.size, w2.heap.size, W.heap.size] A3 n cs' from HW15.out.next hb4)
    clear HW15
    have HK19 := Lib.hid (show Kept W w4 [(w3.heap.size, 24, #[.int .i64 wd, .int .i64 sl', .slice A3 n c3]), (w2.heap.size, 24, #[.int .i64 wd, .int .i64 sl', .slice A2 n c2]), (W.heap.size, 24, #[.int .i64 wd, .int .i64 sl, .slice A n c])] from HK12.out.next hb4)
    clear HK12
    clear hb4
    have c_f_0 : w4.cell? ⟨W.heap.size, 0, none⟩ = some (.int .i64 wd) := HK19.out.cell 2 rfl 0
    have c_f_1 : w4.cell? ⟨W.heap.size, 1, none⟩ = some (.int .i64 sl) := HK19.out.cell 2 rfl 1
    have c_f_2 : w4.cell? ⟨W.heap.size, 2, none⟩ = some (.slice A n c) := HK19.out.cell 2 rfl 2
    have c_x_0 : w4.cell? ⟨w2.heap.size, 0, none⟩ = some (.int .i64 wd) := HK19.out.cell 1 rfl 0
    have c_x_1 : w4.cell? ⟨w2.heap.size, 1, none⟩ = some (.int .i64 sl') := HK19.out.cell 1 rfl 1
    have c_x_2 : w4.cell? ⟨w2.heap.size, 2, none⟩ = some (.slice A2 n c2) := HK19.out.cell 1 rfl 2
    have c_y_0 : w4.cell? ⟨w3.heap.size, 0, none⟩ = some (.int .i64 wd) := HK19.out.cell 0 rfl 0
    have c_y_1 : w4.cell? ⟨w3.heap.size, 1, none⟩ = some (.int .i64 sl') := HK19.out.cell 0 rfl 1
    have c_y_2 : w4.cell? ⟨w3.heap.size, 2, none⟩ = some (.slice A3 n c3) := HK19.out.cell 0 rfl 2
    have hlt40 := HK19.out.lt 0 rfl
    have hlt41 := HK19.out.lt 1 rfl
    have hlt42 := HK19.out.lt 2 rfl
    go_wp2_with fail
    clear c_f_0 c_f_1 c_f_2 c_x_0 c_x_1 c_x_2 c_y_0 c_y_1 c_y_2
    have HK20 := Lib.hid (show Kept W (w4.alloc (.cells #[.int .i64 wd, .int .i64 sl, .slice A4 n c4] 24)) [(w4.heap.size, 24, #[.int .i64 wd, .int .i64 sl, .slice A4 n c4]), (w3.heap.size, 24, #[.int .i64 wd, .int .i64 sl', .slice A3 n c3]), (w2.heap.size, 24, #[.int .i64 wd, .int .i64 sl', .slice A2 n c2]), (W.heap.size, 24, #[.int .i64 wd, .int .i64 sl, .slice A n c])] from HK19.out.alloc 24 #[.int .i64 wd, .int .i64 sl, .slice A4 n c4])
    clear HK19
    have HW21 := Lib.hid (show WinAt (w4.alloc (.cells #[.int .i64 wd, .int .i64 sl, .slice A4 n c4] 24)) [w4.heap.size, w3.heap.size, w2.heap.size, W.heap.size] A n cs from HW16.out.alloc _)
    clear HW16
    have HW22 := Lib.hid (show WinAt (w4.alloc (.cells #[.int .i64 wd, .int .i64 sl, .slice A4 n c4] 24)) [w4.heap.size, w3.heap.size, w2.heap.size, W.heap.size] A2 n cs' from HW17.out.alloc _)
    clear HW17
    have HW23 := Lib.hid (show WinAt (w4.alloc (.cells #[.int .i64 wd, .int .i64 sl, .slice A4 n c4] 24)) [w4.heap.size, w3.heap.size, w2.heap.size, W.heap.size] A3 n cs' from HW18.out.alloc _)
    clear HW18
    have HW24 := Lib.hid (show WinAt (w4.alloc (.cells #[.int .i64 wd, .int .i64 sl, .slice A4 n c4] 24)) [w4.heap.size, w3.heap.size, w2.heap.size, W.heap.size] A4 n cs from HN4.out.alloc _)
    clear HN4
    generalize w4.alloc (.cells #[.int .i64 wd, .int .i64 sl, .slice A4 n c4] 24) = v4 at HK20 HW21 HW22 HW23 HW24 ⊢
    clear hlt40 hlt41 hlt42
    with_reducible refine (Add_c wd sl A n c v4.heap.size cs b ok v4 HW21.out.rd (Nat.le_refl _) (by omega)).mono ?_
    rw [R2.out]
    rintro e w6 ⟨A6, n6, c6, rfl, hr6, hb6, hlo6⟩
    dsimp only at hr6
    have hx6 : n6 = n := by have := hr6.cell_len; omega
    subst n6
    have HN6 := Lib.hid (show WinAt w6 [w4.heap.size, w3.heap.size, w2.heap.size, W.heap.size] A6 n cs2 from HW21.out.res hb6.size hr6 hlo6 rfl)
    clear hr6 hlo6
    have HW25 := Lib.hid (show WinAt w6 [w4.heap.size, w3.heap.size, w2.heap.size, W.heap.size] A n cs from HW21.out.next hb6)
    clear HW21
    have HW26 := Lib.hid (show WinAt w6 [w4.heap.size, w3.heap.size, w2.heap.size, W.heap.size] A2 n cs' from HW22.out.next hb6)
    clear HW22
    have HW27 := Lib.hid (show WinAt w6 [w4.heap.size, w3.heap.size, w2.heap.size, W.heap.size] A3 n cs' from HW23.out.next hb6)
    clear HW23
    have HW28 := Lib.hid (show WinAt w6 [w4.heap.size, w3.heap.size, w2.heap.size, W.heap.size] A4 n cs from HW24.out.next hb6)
    clear HW24
    have HK29 := Lib.hid (show Kept W w6 [(w4.heap.size, 24, #[.int .i64 wd, .int .i64 sl, .slice A4 n c4]), (w3.heap.size, 24, #[.int .i64 wd, .int .i64 sl', .slice A3 n c3]), (w2.heap.size, 24, #[.int .i64 wd, .int .i64 sl', .slice A2 n c2]), (W.heap.size, 24, #[.int .i64 wd, .int .i64 sl, .slice A n c])] from HK20.out.next hb6)
    clear HK20
    clear hb6
    have c_f_0 : w6.cell? ⟨W.heap.size, 0, none⟩ = some (.int .i64 wd) := HK29.out.cell 3 rfl 0
    have c_f_1 : w6.cell? ⟨W.heap.size, 1, none⟩ = some (.int .i64 sl) := HK29.out.cell 3 rfl 1
    have c_f_2 : w6.cell? ⟨W.heap.size, 2, none⟩ = some (.slice A n c) := HK29.out.cell 3 rfl 2
    have c_x_0 : w6.cell? ⟨w2.heap.size, 0, none⟩ = some (.int .i64 wd) := HK29.out.cell 2 rfl 0
    have c_x_1 : w6.cell? ⟨w2.heap.size, 1, none⟩ = some (.int .i64 sl') := HK29.out.cell 2 rfl 1
    have c_x_2 : w6.cell? ⟨w2.heap.size, 2, none⟩ = some (.slice A2 n c2) := HK29.out.cell 2 rfl 2
    have hlt60 := HK29.out.lt 0 rfl
    have hlt61 := HK29.out.lt 1 rfl
    have hlt62 := HK29.out.lt 2 rfl
    have hlt63 := HK29.out.lt 3 rfl
    go_wp2_with fail
    clear c_f_0 c_f_1 c_f_2 c_x_0 c_x_1 c_x_2
    have HK30 := Lib.hid (show Kept W (w6.alloc (.cells #[.int .i64 wd, .int .i64 sl', .slice A6 n c6] 24)) [(w6.heap.size, 24, #[.int .i64 wd, .int .i64 sl', .slice A6 n c6]), (w4.heap.size, 24, #[.int .i64 wd, .int .i64 sl, .slice A4 n c4]), (w3.heap.size, 24, #[.int .i64 wd, .int .i64 sl', .slice A3 n c3]), (w2.heap.size, 24, #[.int .i64 wd, .int .i64 sl', .slice A2 n c2]), (W.heap.size, 24, #[.int .i64 wd, .int .i64 sl, .slice A n c])] from HK29.out.alloc 24 #[.int .i64 wd, .int .i64 sl', .slice A6 n c6])
    clear HK29
    have HW31 := Lib.hid (show WinAt (w6.alloc (.cells #[.int .i64 wd, .int .i64 sl', .slice A6 n c6] 24)) [w6.heap.size, w4.heap.size, w3.heap.size, w2.heap.size, W.heap.size] A n cs from HW25.out.alloc _)
    clear HW25
    have HW32 := Lib.hid (show WinAt (w6.alloc (.cells #[.int .i64 wd, .int .i64 sl', .slice A6 n c6] 24)) [w6.heap.size, w4.heap.size, w3.heap.size, w2.heap.size, W.heap.size] A2 n cs' from HW26.out.alloc _)
    clear HW26
    have HW33 := Lib.hid (show WinAt (w6.alloc (.cells #[.int .i64 wd, .int .i64 sl', .slice A6 n c6] 24)) [w6.heap.size, w4.heap.size, w3.heap.size, w2.heap.size, W.heap.size] A3 n cs' from HW27.out.alloc _)
    clear HW27
    have HW34 := Lib.hid (show WinAt (w6.alloc (.cells #[.int .i64 wd, .int .i64 sl', .slice A6 n c6] 24)) [w6.heap.size, w4.heap.size, w3.heap.size, w2.heap.size, W.heap.size] A4 n cs from HW28.out.alloc _)
    clear HW28
    have HW35 := Lib.hid (show WinAt (w6.alloc (.cells #[.int .i64 wd, .int .i64 sl', .slice A6 n c6] 24)) [w6.heap.size, w4.heap.size, w3.heap.size, w2.heap.size, W.heap.size] A6 n cs2 from HN6.out.alloc _)
    clear HN6
    generalize w6.alloc (.cells #[.int .i64 wd, .int .i64 sl', .slice A6 n c6] 24) = v6 at HK30 HW31 HW32 HW33 HW34 HW35 ⊢
    clear hlt60 hlt61 hlt62 hlt63
    with_reducible refine (Add_c wd sl' A2 n c2 v6.heap.size cs' b ok v6 HW32.out.rd (Nat.le_refl _) (by omega)).mono ?_
    rw [R3.out]
    rintro e w7 ⟨A7, n7, c7, rfl, hr7, hb7, hlo7⟩
    dsimp only at hr7
    have hx7 : n7 = n := by have := hr7.cell_len; omega
    subst n7
    have HN7 := Lib.hid (show WinAt w7 [w6.heap.size, w4.heap.size, w3.heap.size, w2.heap.size, W.heap.size] A7 n cs2 from HW32.out.res hb7.size hr7 hlo7 rfl)
    clear hr7 hlo7
    have HW36 := Lib.hid (show WinAt w7 [w6.heap.size, w4.heap.size, w3.heap.size, w2.heap.size, W.heap.size] A n cs from HW31.out.next hb7)
    clear HW31
    have HW37 := Lib.hid (show WinAt w7 [w6.heap.size, w4.heap.size, w3.heap.size, w2.heap.size, W.heap.size] A2 n cs' from HW32.out.next hb7)
    clear HW32
    have HW38 := Lib.hid (show WinAt w7 [w6.heap.size, w4.heap.size, w3.heap.size, w2.heap.size, W.heap.size] A3 n cs' from HW33.out.next hb7)
    clear HW33
    have HW39 := Lib.hid (show WinAt w7 [w6.heap.size, w4.heap.size, w3.heap.size, w2.heap.size, W.heap.size] A4 n cs from HW34.out.next hb7)
    clear HW34
    have HW40 := Lib.hid (show WinAt w7 [w6.heap.size, w4.heap.size, w3.heap.size, w2.heap.size, W.heap.size] A6 n cs2 from HW35.out.next hb7)
    clear HW35
    have HK41 := Lib.hid (show Kept W w7 [(w6.heap.size, 24, #[.int .i64 wd, .int .i64 sl', .slice A6 n c6]), (w4.heap.size, 24, #[.int .i64 wd, .int .i64 sl, .slice A4 n c4]), (w3.heap.size, 24, #[.int .i64 wd, .int .i64 sl', .slice A3 n c3]), (w2.heap.size, 24, #[.int .i64 wd, .int .i64 sl', .slice A2 n c2]), (W.heap.size, 24, #[.int .i64 wd, .int .i64 sl, .slice A n c])] from HK30.out.next hb7)
    clear HK30
    clear hb7
    have c_f_0 : w7.cell? ⟨W.heap.size, 0, none⟩ = some (.int .i64 wd) := HK41.out.cell 4 rfl 0
    have c_f_1 : w7.cell? ⟨W.heap.size, 1, none⟩ = some (.int .i64 sl) := HK41.out.cell 4 rfl 1
    have c_f_2 : w7.cell? ⟨W.heap.size, 2, none⟩ = some (.slice A n c) := HK41.out.cell 4 rfl 2
    have c_x_0 : w7.cell? ⟨w2.heap.size, 0, none⟩ = some (.int .i64 wd) := HK41.out.cell 3 rfl 0
    have c_x_1 : w7.cell? ⟨w2.heap.size, 1, none⟩ = some (.int .i64 sl') := HK41.out.cell 3 rfl 1
    have c_x_2 : w7.cell? ⟨w2.heap.size, 2, none⟩ = some (.slice A2 n c2) := HK41.out.cell 3 rfl 2
    have c_p_0 : w7.cell? ⟨w6.heap.size, 0, none⟩ = some (.int .i64 wd) := HK41.out.cell 0 rfl 0
    have c_p_1 : w7.cell? ⟨w6.heap.size, 1, none⟩ = some (.int .i64 sl') := HK41.out.cell 0 rfl 1
    have c_p_2 : w7.cell? ⟨w6.heap.size, 2, none⟩ = some (.slice A6 n c6) := HK41.out.cell 0 rfl 2
    have hlt70 := HK41.out.lt 0 rfl
    have hlt71 := HK41.out.lt 1 rfl
    have hlt72 := HK41.out.lt 2 rfl
    have hlt73 := HK41.out.lt 3 rfl
    have hlt74 := HK41.out.lt 4 rfl
    go_wp2_with fail
    clear c_f_0 c_f_1 c_f_2 c_x_0 c_x_1 c_x_2 c_p_0 c_p_1 c_p_2
    have HK42 := Lib.hid (show Kept W (w7.alloc (.cells #[.int .i64 wd, .int .i64 sl', .slice A7 n c7] 24)) [(w7.heap.size, 24, #[.int .i64 wd, .int .i64 sl', .slice A7 n c7]), (w6.heap.size, 24, #[.int .i64 wd, .int .i64 sl', .slice A6 n c6]), (w4.heap.size, 24, #[.int .i64 wd, .int .i64 sl, .slice A4 n c4]), (w3.heap.size, 24, #[.int .i64 wd, .int .i64 sl', .slice A3 n c3]), (w2.heap.size, 24, #[.int .i64 wd, .int .i64 sl', .slice A2 n c2]), (W.heap.size, 24, #[.int .i64 wd, .int .i64 sl, .slice A n c])] from HK41.out.alloc 24 #[.int .i64 wd, .int .i64 sl', .slice A7 n c7])
    clear HK41
    have HW43 := Lib.hid (show WinAt (w7.alloc (.cells #[.int .i64 wd, .int .i64 sl', .slice A7 n c7] 24)) [w7.heap.size, w6.heap.size, w4.heap.size, w3.heap.size, w2.heap.size, W.heap.size] A n cs from HW36.out.alloc _)
    clear HW36
    have HW44 := Lib.hid (show WinAt (w7.alloc (.cells #[.int .i64 wd, .int .i64 sl', .slice A7 n c7] 24)) [w7.heap.size, w6.heap.size, w4.heap.size, w3.heap.size, w2.heap.size, W.heap.size] A2 n cs' from HW37.out.alloc _)
    clear HW37
    have HW45 := Lib.hid (show WinAt (w7.alloc (.cells #[.int .i64 wd, .int .i64 sl', .slice A7 n c7] 24)) [w7.heap.size, w6.heap.size, w4.heap.size, w3.heap.size, w2.heap.size, W.heap.size] A3 n cs' from HW38.out.alloc _)
    clear HW38
    have HW46 := Lib.hid (show WinAt (w7.alloc (.cells #[.int .i64 wd, .int .i64 sl', .slice A7 n c7] 24)) [w7.heap.size, w6.heap.size, w4.heap.size, w3.heap.size, w2.heap.size, W.heap.size] A4 n cs from HW39.out.alloc _)
    clear HW39
    have HW47 := Lib.hid (show WinAt (w7.alloc (.cells #[.int .i64 wd, .int .i64 sl', .slice A7 n c7] 24)) [w7.heap.size, w6.heap.size, w4.heap.size, w3.heap.size, w2.heap.size, W.heap.size] A6 n cs2 from HW40.out.alloc _)
    clear HW40
    have HW48 := Lib.hid (show WinAt (w7.alloc (.cells #[.int .i64 wd, .int .i64 sl', .slice A7 n c7] 24)) [w7.heap.size, w6.heap.size, w4.heap.size, w3.heap.size, w2.heap.size, W.heap.size] A7 n cs2 from HN7.out.alloc _)
    clear HN7
    generalize w7.alloc (.cells #[.int .i64 wd, .int .i64 sl', .slice A7 n c7] 24) = v7 at HK42 HW43 HW44 HW45 HW46 HW47 HW48 ⊢
    clear hlt70 hlt71 hlt72 hlt73 hlt74
    with_reducible refine (wSame_c wd sl' A6 n c6 cs2 wd sl' A7 n c7 cs2 v7.heap.size _ HW47.out.rd HW48.out.rd (Nat.le_refl _) (by omega) (by omega)).mono ?_
    rw [sameW_self]
    rintro e w8 ⟨rfl, hb8⟩
    have HW49 := Lib.hid (show WinAt w8 [w7.heap.size, w6.heap.size, w4.heap.size, w3.heap.size, w2.heap.size, W.heap.size] A n cs from HW43.out.next hb8)
    clear HW43
    have HW50 := Lib.hid (show WinAt w8 [w7.heap.size, w6.heap.size, w4.heap.size, w3.heap.size, w2.heap.size, W.heap.size] A2 n cs' from HW44.out.next hb8)
    clear HW44
    have HW51 := Lib.hid (show WinAt w8 [w7.heap.size, w6.heap.size, w4.heap.size, w3.heap.size, w2.heap.size, W.heap.size] A3 n cs' from HW45.out.next hb8)
    clear HW45
    have HW52 := Lib.hid (show WinAt w8 [w7.heap.size, w6.heap.size, w4.heap.size, w3.heap.size, w2.heap.size, W.heap.size] A4 n cs from HW46.out.next hb8)
    clear HW46
    have HW53 := Lib.hid (show WinAt w8 [w7.heap.size, w6.heap.size, w4.heap.size, w3.heap.size, w2.heap.size, W.heap.size] A6 n cs2 from HW47.out.next hb8)
    clear HW47
    have HW54 := Lib.hid (show WinAt w8 [w7.heap.size, w6.heap.size, w4.heap.size, w3.heap.size, w2.heap.size, W.heap.size] A7 n cs2 from HW48.out.next hb8)
    clear HW48
    have HK55 := Lib.hid (show Kept W w8 [(w7.heap.size, 24, #[.int .i64 wd, .int .i64 sl', .slice A7 n c7]), (w6.heap.size, 24, #[.int .i64 wd, .int .i64 sl', .slice A6 n c6]), (w4.heap.size, 24, #[.int .i64 wd, .int .i64 sl, .slice A4 n c4]), (w3.heap.size, 24, #[.int .i64 wd, .int .i64 sl', .slice A3 n c3]), (w2.heap.size, 24, #[.int .i64 wd, .int .i64 sl', .slice A2 n c2]), (W.heap.size, 24, #[.int .i64 wd, .int .i64 sl, .slice A n c])] from HK42.out.next hb8)
    clear HK42
    clear hb8
    go_wp2
    go_ret
    exact ⟨rfl, HK55.out.bel⟩
  · obtain ⟨sz, cz, hz, hlz, k1, k2, k3, -⟩ := moveR_good hg1 hth
    have hzy := moveR_two hg1 hm hg2 hth (show b ≤ a from by omega)
    rw [hz] at hzy
    rw [hl] at hlz
    obtain ⟨⟨g1, -⟩, -⟩ := rightW_iff.1 hg1
    have R6 := Lib.hid (moveR_stay (a := b) k3 hg2 (by have := Int.ediv_le_ediv (show 0 < wd from by omega) (show b ≤ a from by omega); omega))
    have R4 := Lib.hid hzy
    have R5 := Lib.hid hz
    clear hm hg1 hg2 h1 h2 h3 hth hz hzy k1 k2 k3 g1
    go_enter Try.func5, Try.ntmps5
    go_wp2_with fail
    with_reducible refine (awake_c _).mono ?_
    rintro e w1 ⟨rfl, hb1⟩
    have HW2 := Lib.hid (show WinAt w1 [W.heap.size] A n cs from HWa.out.next hb1)
    clear HWa
    have HK3 := Lib.hid (show Kept W w1 [(W.heap.size, 24, #[.int .i64 wd, .int .i64 sl, .slice A n c])] from HK1.out.next hb1)
    clear HK1
    clear hb1
    have c_f_0 : w1.cell? ⟨W.heap.size, 0, none⟩ = some (.int .i64 wd) := HK3.out.cell 0 rfl 0
    have c_f_1 : w1.cell? ⟨W.heap.size, 1, none⟩ = some (.int .i64 sl) := HK3.out.cell 0 rfl 1
    have c_f_2 : w1.cell? ⟨W.heap.size, 2, none⟩ = some (.slice A n c) := HK3.out.cell 0 rfl 2
    go_wp2_with fail
    with_reducible refine (Move_c wd sl A n c w1.heap.size cs b w1 HW2.out.rd (Nat.le_refl _) (by omega)).mono ?_
    rw [R1.out]
    rintro e w2 ⟨A2, n2, c2, rfl, hr2, hb2, hlo2⟩
    dsimp only at hr2
    have hx2 : n2 = n := by have := hr2.cell_len; omega
    subst n2
    have HN2 := Lib.hid (show WinAt w2 [W.heap.size] A2 n cs' from HW2.out.res hb2.size hr2 hlo2 rfl)
    clear hr2 hlo2
    have HW4 := Lib.hid (show WinAt w2 [W.heap.size] A n cs from HW2.out.next hb2)
    clear HW2
    clear c_f_0 c_f_1 c_f_2
    have HK5 := Lib.hid (show Kept W w2 [(W.heap.size, 24, #[.int .i64 wd, .int .i64 sl, .slice A n c])] from HK3.out.next hb2)
    clear HK3
    clear hb2
    have c_f_0 : w2.cell? ⟨W.heap.size, 0, none⟩ = some (.int .i64 wd) := HK5.out.cell 0 rfl 0
    have c_f_1 : w2.cell? ⟨W.heap.size, 1, none⟩ = some (.int .i64 sl) := HK5.out.cell 0 rfl 1
    have c_f_2 : w2.cell? ⟨W.heap.size, 2, none⟩ = some (.slice A n c) := HK5.out.cell 0 rfl 2
    have hlt20 := HK5.out.lt 0 rfl
    go_wp2_with fail
    clear c_f_0 c_f_1 c_f_2
    have HK6 := Lib.hid (show Kept W (w2.alloc (.cells #[.int .i64 wd, .int .i64 sl', .slice A2 n c2] 24)) [(w2.heap.size, 24, #[.int .i64 wd, .int .i64 sl', .slice A2 n c2]), (W.heap.size, 24, #[.int .i64 wd, .int .i64 sl, .slice A n c])] from HK5.out.alloc 24 #[.int .i64 wd, .int .i64 sl', .slice A2 n c2])
    clear HK5
    have HW7 := Lib.hid (show WinAt (w2.alloc (.cells #[.int .i64 wd, .int .i64 sl', .slice A2 n c2] 24)) [w2.heap.size, W.heap.size] A n cs from HW4.out.alloc _)
    clear HW4
    have HW8 := Lib.hid (show WinAt (w2.alloc (.cells #[.int .i64 wd, .int .i64 sl', .slice A2 n c2] 24)) [w2.heap.size, W.heap.size] A2 n cs' from HN2.out.alloc _)
    clear HN2
    generalize w2.alloc (.cells #[.int .i64 wd, .int .i64 sl', .slice A2 n c2] 24) = v2 at HK6 HW7 HW8 ⊢
    clear hlt20
    with_reducible refine (Move_c wd sl' A2 n c2 v2.heap.size cs' a v2 HW8.out.rd (Nat.le_refl _) (by omega)).mono ?_
    rw [R4.out]
    rintro e w3 ⟨A3, n3, c3, rfl, hr3, hb3, hlo3⟩
    dsimp only at hr3
    have hx3 : n3 = n := by have := hr3.cell_len; omega
    subst n3
    have HN3 := Lib.hid (show WinAt w3 [w2.heap.size, W.heap.size] A3 n cz from HW8.out.res hb3.size hr3 hlo3 rfl)
    clear hr3 hlo3
    have HW9 := Lib.hid (show WinAt w3 [w2.heap.size, W.heap.size] A n cs from HW7.out.next hb3)
    clear HW7
    have HW10 := Lib.hid (show WinAt w3 [w2.heap.size, W.heap.size] A2 n cs' from HW8.out.next hb3)
    clear HW8
    have HK11 := Lib.hid (show Kept W w3 [(w2.heap.size, 24, #[.int .i64 wd, .int .i64 sl', .slice A2 n c2]), (W.heap.size, 24, #[.int .i64 wd, .int .i64 sl, .slice A n c])] from HK6.out.next hb3)
    clear HK6
    clear hb3
    have c_f_0 : w3.cell? ⟨W.heap.size, 0, none⟩ = some (.int .i64 wd) := HK11.out.cell 1 rfl 0
    have c_f_1 : w3.cell? ⟨W.heap.size, 1, none⟩ = some (.int .i64 sl) := HK11.out.cell 1 rfl 1
    have c_f_2 : w3.cell? ⟨W.heap.size, 2, none⟩ = some (.slice A n c) := HK11.out.cell 1 rfl 2
    have c_x_0 : w3.cell? ⟨w2.heap.size, 0, none⟩ = some (.int .i64 wd) := HK11.out.cell 0 rfl 0
    have c_x_1 : w3.cell? ⟨w2.heap.size, 1, none⟩ = some (.int .i64 sl') := HK11.out.cell 0 rfl 1
    have c_x_2 : w3.cell? ⟨w2.heap.size, 2, none⟩ = some (.slice A2 n c2) := HK11.out.cell 0 rfl 2
    have hlt30 := HK11.out.lt 0 rfl
    have hlt31 := HK11.out.lt 1 rfl
    go_wp2_with fail
    clear c_f_0 c_f_1 c_f_2 c_x_0 c_x_1 c_x_2
    have HK12 := Lib.hid (show Kept W (w3.alloc (.cells #[.int .i64 wd, .int .i64 sz, .slice A3 n c3] 24)) [(w3.heap.size, 24, #[.int .i64 wd, .int .i64 sz, .slice A3 n c3]), (w2.heap.size, 24, #[.int .i64 wd, .int .i64 sl', .slice A2 n c2]), (W.heap.size, 24, #[.int .i64 wd, .int .i64 sl, .slice A n c])] from HK11.out.alloc 24 #[.int .i64 wd, .int .i64 sz, .slice A3 n c3])
    clear HK11
    have HW13 := Lib.hid (show WinAt (w3.alloc (.cells #[.int .i64 wd, .int .i64 sz, .slice A3 n c3] 24)) [w3.heap.size, w2.heap.size, W.heap.size] A n cs from HW9.out.alloc _)
    clear HW9
    have HW14 := Lib.hid (show WinAt (w3.alloc (.cells #[.int .i64 wd, .int .i64 sz, .slice A3 n c3] 24)) [w3.heap.size, w2.heap.size, W.heap.size] A2 n cs' from HW10.out.alloc _)
    clear HW10
    have HW15 := Lib.hid (show WinAt (w3.alloc (.cells #[.int .i64 wd, .int .i64 sz, .slice A3 n c3] 24)) [w3.heap.size, w2.heap.size, W.heap.size] A3 n cz from HN3.out.alloc _)
    clear HN3
    generalize w3.alloc (.cells #[.int .i64 wd, .int .i64 sz, .slice A3 n c3] 24) = v3 at HK12 HW13 HW14 HW15 ⊢
    clear hlt30 hlt31
    with_reducible refine (Move_c wd sl A n c v3.heap.size cs a v3 HW13.out.rd (Nat.le_refl _) (by omega)).mono ?_
    rw [R5.out]
    rintro e w4 ⟨A4, n4, c4, rfl, hr4, hb4, hlo4⟩
    dsimp only at hr4
    have hx4 : n4 = n := by have := hr4.cell_len; omega
    subst n4
    have HN4 := Lib.hid (show WinAt w4 [w3.heap.size, w2.heap.size, W.heap.size] A4 n cz from HW13.out.res hb4.size hr4 hlo4 rfl)
    clear hr4 hlo4
    have HW16 := Lib.hid (show WinAt w4 [w3.heap.size, w2.heap.size, W.heap.size] A n cs from HW13.out.next hb4)
    clear HW13
    have HW17 := Lib.hid (show WinAt w4 [w3.heap.size, w2.heap.size, W.heap.size] A2 n cs' from HW14.out.next hb4)
    clear HW14
    have HW18 := Lib.hid (show WinAt w4 [w3.heap.size, w2.heap.size, W.heap.size] A3 n cz from HW15.out.next hb4)
    clear HW15
    have HK19 := Lib.hid (show Kept W w4 [(w3.heap.size, 24, #[.int .i64 wd, .int .i64 sz, .slice A3 n c3]), (w2.heap.size, 24, #[.int .i64 wd, .int .i64 sl', .slice A2 n c2]), (W.heap.size, 24, #[.int .i64 wd, .int .i64 sl, .slice A n c])] from HK12.out.next hb4)
    clear HK12
    clear hb4
    have c_f_0 : w4.cell? ⟨W.heap.size, 0, none⟩ = some (.int .i64 wd) := HK19.out.cell 2 rfl 0
    have c_f_1 : w4.cell? ⟨W.heap.size, 1, none⟩ = some (.int .i64 sl) := HK19.out.cell 2 rfl 1
    have c_f_2 : w4.cell? ⟨W.heap.size, 2, none⟩ = some (.slice A n c) := HK19.out.cell 2 rfl 2
    have c_x_0 : w4.cell? ⟨w2.heap.size, 0, none⟩ = some (.int .i64 wd) := HK19.out.cell 1 rfl 0
    have c_x_1 : w4.cell? ⟨w2.heap.size, 1, none⟩ = some (.int .i64 sl') := HK19.out.cell 1 rfl 1
    have c_x_2 : w4.cell? ⟨w2.heap.size, 2, none⟩ = some (.slice A2 n c2) := HK19.out.cell 1 rfl 2
    have c_y_0 : w4.cell? ⟨w3.heap.size, 0, none⟩ = some (.int .i64 wd) := HK19.out.cell 0 rfl 0
    have c_y_1 : w4.cell? ⟨w3.heap.size, 1, none⟩ = some (.int .i64 sz) := HK19.out.cell 0 rfl 1
    have c_y_2 : w4.cell? ⟨w3.heap.size, 2, none⟩ = some (.slice A3 n c3) := HK19.out.cell 0 rfl 2
    have hlt40 := HK19.out.lt 0 rfl
    have hlt41 := HK19.out.lt 1 rfl
    have hlt42 := HK19.out.lt 2 rfl
    go_wp2_with fail
    clear c_f_0 c_f_1 c_f_2 c_x_0 c_x_1 c_x_2 c_y_0 c_y_1 c_y_2
    have HK20 := Lib.hid (show Kept W (w4.alloc (.cells #[.int .i64 wd, .int .i64 sz, .slice A4 n c4] 24)) [(w4.heap.size, 24, #[.int .i64 wd, .int .i64 sz, .slice A4 n c4]), (w3.heap.size, 24, #[.int .i64 wd, .int .i64 sz, .slice A3 n c3]), (w2.heap.size, 24, #[.int .i64 wd, .int .i64 sl', .slice A2 n c2]), (W.heap.size, 24, #[.int .i64 wd, .int .i64 sl, .slice A n c])] from HK19.out.alloc 24 #[.int .i64 wd, .int .i64 sz, .slice A4 n c4])
    clear HK19
    have HW21 := Lib.hid (show WinAt (w4.alloc (.cells #[.int .i64 wd, .int .i64 sz, .slice A4 n c4] 24)) [w4.heap.size, w3.heap.size, w2.heap.size, W.heap.size] A n cs from HW16.out.alloc _)
    clear HW16
    have HW22 := Lib.hid (show WinAt (w4.alloc (.cells #[.int .i64 wd, .int .i64 sz, .slice A4 n c4] 24)) [w4.heap.size, w3.heap.size, w2.heap.size, W.heap.size] A2 n cs' from HW17.out.alloc _)
    clear HW17
    have HW23 := Lib.hid (show WinAt (w4.alloc (.cells #[.int .i64 wd, .int .i64 sz, .slice A4 n c4] 24)) [w4.heap.size, w3.heap.size, w2.heap.size, W.heap.size] A3 n cz from HW18.out.alloc _)
    clear HW18
    have HW24 := Lib.hid (show WinAt (w4.alloc (.cells #[.int .i64 wd, .int .i64 sz, .slice A4 n c4] 24)) [w4.heap.size, w3.heap.size, w2.heap.size, W.heap.size] A4 n cz from HN4.out.alloc _)
    clear HN4
    generalize w4.alloc (.cells #[.int .i64 wd, .int .i64 sz, .slice A4 n c4] 24) = v4 at HK20 HW21 HW22 HW23 HW24 ⊢
    clear hlt40 hlt41 hlt42
    with_reducible refine (wSame_c wd sz A3 n c3 cz wd sz A4 n c4 cz v4.heap.size _ HW23.out.rd HW24.out.rd (Nat.le_refl _) (by omega) (by omega)).mono ?_
    rw [sameW_self]
    rintro e w5 ⟨rfl, hb5⟩
    have HW25 := Lib.hid (show WinAt w5 [w4.heap.size, w3.heap.size, w2.heap.size, W.heap.size] A n cs from HW21.out.next hb5)
    clear HW21
    have HW26 := Lib.hid (show WinAt w5 [w4.heap.size, w3.heap.size, w2.heap.size, W.heap.size] A2 n cs' from HW22.out.next hb5)
    clear HW22
    have HW27 := Lib.hid (show WinAt w5 [w4.heap.size, w3.heap.size, w2.heap.size, W.heap.size] A3 n cz from HW23.out.next hb5)
    clear HW23
    have HW28 := Lib.hid (show WinAt w5 [w4.heap.size, w3.heap.size, w2.heap.size, W.heap.size] A4 n cz from HW24.out.next hb5)
    clear HW24
    have HK29 := Lib.hid (show Kept W w5 [(w4.heap.size, 24, #[.int .i64 wd, .int .i64 sz, .slice A4 n c4]), (w3.heap.size, 24, #[.int .i64 wd, .int .i64 sz, .slice A3 n c3]), (w2.heap.size, 24, #[.int .i64 wd, .int .i64 sl', .slice A2 n c2]), (W.heap.size, 24, #[.int .i64 wd, .int .i64 sl, .slice A n c])] from HK20.out.next hb5)
    clear HK20
    clear hb5
    have c_f_0 : w5.cell? ⟨W.heap.size, 0, none⟩ = some (.int .i64 wd) := HK29.out.cell 3 rfl 0
    have c_f_1 : w5.cell? ⟨W.heap.size, 1, none⟩ = some (.int .i64 sl) := HK29.out.cell 3 rfl 1
    have c_f_2 : w5.cell? ⟨W.heap.size, 2, none⟩ = some (.slice A n c) := HK29.out.cell 3 rfl 2
    go_wp2_with fail
    clear c_f_0 c_f_1 c_f_2
    with_reducible refine (Add_c wd sl A n c w5.heap.size cs b ok w5 HW25.out.rd (Nat.le_refl _) (by omega)).mono ?_
    rw [R2.out]
    rintro e w6 ⟨A6, n6, c6, rfl, hr6, hb6, hlo6⟩
    dsimp only at hr6
    have hx6 : n6 = n := by have := hr6.cell_len; omega
    subst n6
    have HN6 := Lib.hid (show WinAt w6 [w4.heap.size, w3.heap.size, w2.heap.size, W.heap.size] A6 n cs2 from HW25.out.res hb6.size hr6 hlo6 rfl)
    clear hr6 hlo6
    have HW30 := Lib.hid (show WinAt w6 [w4.heap.size, w3.heap.size, w2.heap.size, W.heap.size] A n cs from HW25.out.next hb6)
    clear HW25
    have HW31 := Lib.hid (show WinAt w6 [w4.heap.size, w3.heap.size, w2.heap.size, W.heap.size] A2 n cs' from HW26.out.next hb6)
    clear HW26
    have HW32 := Lib.hid (show WinAt w6 [w4.heap.size, w3.heap.size, w2.heap.size, W.heap.size] A3 n cz from HW27.out.next hb6)
    clear HW27
    have HW33 := Lib.hid (show WinAt w6 [w4.heap.size, w3.heap.size, w2.heap.size, W.heap.size] A4 n cz from HW28.out.next hb6)
    clear HW28
    have HK34 := Lib.hid (show Kept W w6 [(w4.heap.size, 24, #[.int .i64 wd, .int .i64 sz, .slice A4 n c4]), (w3.heap.size, 24, #[.int .i64 wd, .int .i64 sz, .slice A3 n c3]), (w2.heap.size, 24, #[.int .i64 wd, .int .i64 sl', .slice A2 n c2]), (W.heap.size, 24, #[.int .i64 wd, .int .i64 sl, .slice A n c])] from HK29.out.next hb6)
    clear HK29
    clear hb6
    have c_f_0 : w6.cell? ⟨W.heap.size, 0, none⟩ = some (.int .i64 wd) := HK34.out.cell 3 rfl 0
    have c_f_1 : w6.cell? ⟨W.heap.size, 1, none⟩ = some (.int .i64 sl) := HK34.out.cell 3 rfl 1
    have c_f_2 : w6.cell? ⟨W.heap.size, 2, none⟩ = some (.slice A n c) := HK34.out.cell 3 rfl 2
    have c_x_0 : w6.cell? ⟨w2.heap.size, 0, none⟩ = some (.int .i64 wd) := HK34.out.cell 2 rfl 0
    have c_x_1 : w6.cell? ⟨w2.heap.size, 1, none⟩ = some (.int .i64 sl') := HK34.out.cell 2 rfl 1
    have c_x_2 : w6.cell? ⟨w2.heap.size, 2, none⟩ = some (.slice A2 n c2) := HK34.out.cell 2 rfl 2
    have hlt60 := HK34.out.lt 0 rfl
    have hlt61 := HK34.out.lt 1 rfl
    have hlt62 := HK34.out.lt 2 rfl
    have hlt63 := HK34.out.lt 3 rfl
    go_wp2_with fail
    clear c_f_0 c_f_1 c_f_2 c_x_0 c_x_1 c_x_2
    have HK35 := Lib.hid (show Kept W (w6.alloc (.cells #[.int .i64 wd, .int .i64 sl', .slice A6 n c6] 24)) [(w6.heap.size, 24, #[.int .i64 wd, .int .i64 sl', .slice A6 n c6]), (w4.heap.size, 24, #[.int .i64 wd, .int .i64 sz, .slice A4 n c4]), (w3.heap.size, 24, #[.int .i64 wd, .int .i64 sz, .slice A3 n c3]), (w2.heap.size, 24, #[.int .i64 wd, .int .i64 sl', .slice A2 n c2]), (W.heap.size, 24, #[.int .i64 wd, .int .i64 sl, .slice A n c])] from HK34.out.alloc 24 #[.int .i64 wd, .int .i64 sl', .slice A6 n c6])
    clear HK34
    have HW36 := Lib.hid (show WinAt (w6.alloc (.cells #[.int .i64 wd, .int .i64 sl', .slice A6 n c6] 24)) [w6.heap.size, w4.heap.size, w3.heap.size, w2.heap.size, W.heap.size] A n cs from HW30.out.alloc _)
    clear HW30
    have HW37 := Lib.hid (show WinAt (w6.alloc (.cells #[.int .i64 wd, .int .i64 sl', .slice A6 n c6] 24)) [w6.heap.size, w4.heap.size, w3.heap.size, w2.heap.size, W.heap.size] A2 n cs' from HW31.out.alloc _)
    clear HW31
    have HW38 := Lib.hid (show WinAt (w6.alloc (.cells #[.int .i64 wd, .int .i64 sl', .slice A6 n c6] 24)) [w6.heap.size, w4.heap.size, w3.heap.size, w2.heap.size, W.heap.size] A3 n cz from HW32.out.alloc _)
    clear HW32
    have HW39 := Lib.hid (show WinAt (w6.alloc (.cells #[.int .i64 wd, .int .i64 sl', .slice A6 n c6] 24)) [w6.heap.size, w4.heap.size, w3.heap.size, w2.heap.size, W.heap.size] A4 n cz from HW33.out.alloc _)
    clear HW33
    have HW40 := Lib.hid (show WinAt (w6.alloc (.cells #[.int .i64 wd, .int .i64 sl', .slice A6 n c6] 24)) [w6.heap.size, w4.heap.size, w3.heap.size, w2.heap.size, W.heap.size] A6 n cs2 from HN6.out.alloc _)
    clear HN6
    generalize w6.alloc (.cells #[.int .i64 wd, .int .i64 sl', .slice A6 n c6] 24) = v6 at HK35 HW36 HW37 HW38 HW39 HW40 ⊢
    clear hlt60 hlt61 hlt62 hlt63
    with_reducible refine (Add_c wd sl' A2 n c2 v6.heap.size cs' b ok v6 HW37.out.rd (Nat.le_refl _) (by omega)).mono ?_
    rw [R3.out]
    rintro e w7 ⟨A7, n7, c7, rfl, hr7, hb7, hlo7⟩
    dsimp only at hr7
    have hx7 : n7 = n := by have := hr7.cell_len; omega
    subst n7
    have HN7 := Lib.hid (show WinAt w7 [w6.heap.size, w4.heap.size, w3.heap.size, w2.heap.size, W.heap.size] A7 n cs2 from HW37.out.res hb7.size hr7 hlo7 rfl)
    clear hr7 hlo7
    have HW41 := Lib.hid (show WinAt w7 [w6.heap.size, w4.heap.size, w3.heap.size, w2.heap.size, W.heap.size] A n cs from HW36.out.next hb7)
    clear HW36
    have HW42 := Lib.hid (show WinAt w7 [w6.heap.size, w4.heap.size, w3.heap.size, w2.heap.size, W.heap.size] A2 n cs' from HW37.out.next hb7)
    clear HW37
    have HW43 := Lib.hid (show WinAt w7 [w6.heap.size, w4.heap.size, w3.heap.size, w2.heap.size, W.heap.size] A3 n cz from HW38.out.next hb7)
    clear HW38
    have HW44 := Lib.hid (show WinAt w7 [w6.heap.size, w4.heap.size, w3.heap.size, w2.heap.size, W.heap.size] A4 n cz from HW39.out.next hb7)
    clear HW39
    have HW45 := Lib.hid (show WinAt w7 [w6.heap.size, w4.heap.size, w3.heap.size, w2.heap.size, W.heap.size] A6 n cs2 from HW40.out.next hb7)
    clear HW40
    have HK46 := Lib.hid (show Kept W w7 [(w6.heap.size, 24, #[.int .i64 wd, .int .i64 sl', .slice A6 n c6]), (w4.heap.size, 24, #[.int .i64 wd, .int .i64 sz, .slice A4 n c4]), (w3.heap.size, 24, #[.int .i64 wd, .int .i64 sz, .slice A3 n c3]), (w2.heap.size, 24, #[.int .i64 wd, .int .i64 sl', .slice A2 n c2]), (W.heap.size, 24, #[.int .i64 wd, .int .i64 sl, .slice A n c])] from HK35.out.next hb7)
    clear HK35
    clear hb7
    have c_f_0 : w7.cell? ⟨W.heap.size, 0, none⟩ = some (.int .i64 wd) := HK46.out.cell 4 rfl 0
    have c_f_1 : w7.cell? ⟨W.heap.size, 1, none⟩ = some (.int .i64 sl) := HK46.out.cell 4 rfl 1
    have c_f_2 : w7.cell? ⟨W.heap.size, 2, none⟩ = some (.slice A n c) := HK46.out.cell 4 rfl 2
    have c_x_0 : w7.cell? ⟨w2.heap.size, 0, none⟩ = some (.int .i64 wd) := HK46.out.cell 3 rfl 0
    have c_x_1 : w7.cell? ⟨w2.heap.size, 1, none⟩ = some (.int .i64 sl') := HK46.out.cell 3 rfl 1
    have c_x_2 : w7.cell? ⟨w2.heap.size, 2, none⟩ = some (.slice A2 n c2) := HK46.out.cell 3 rfl 2
    have c_p_0 : w7.cell? ⟨w6.heap.size, 0, none⟩ = some (.int .i64 wd) := HK46.out.cell 0 rfl 0
    have c_p_1 : w7.cell? ⟨w6.heap.size, 1, none⟩ = some (.int .i64 sl') := HK46.out.cell 0 rfl 1
    have c_p_2 : w7.cell? ⟨w6.heap.size, 2, none⟩ = some (.slice A6 n c6) := HK46.out.cell 0 rfl 2
    have hlt70 := HK46.out.lt 0 rfl
    have hlt71 := HK46.out.lt 1 rfl
    have hlt72 := HK46.out.lt 2 rfl
    have hlt73 := HK46.out.lt 3 rfl
    have hlt74 := HK46.out.lt 4 rfl
    go_wp2_with fail
    clear c_f_0 c_f_1 c_f_2 c_x_0 c_x_1 c_x_2 c_p_0 c_p_1 c_p_2
    have HK47 := Lib.hid (show Kept W (w7.alloc (.cells #[.int .i64 wd, .int .i64 sl', .slice A7 n c7] 24)) [(w7.heap.size, 24, #[.int .i64 wd, .int .i64 sl', .slice A7 n c7]), (w6.heap.size, 24, #[.int .i64 wd, .int .i64 sl', .slice A6 n c6]), (w4.heap.size, 24, #[.int .i64 wd, .int .i64 sz, .slice A4 n c4]), (w3.heap.size, 24, #[.int .i64 wd, .int .i64 sz, .slice A3 n c3]), (w2.heap.size, 24, #[.int .i64 wd, .int .i64 sl', .slice A2 n c2]), (W.heap.size, 24, #[.int .i64 wd, .int .i64 sl, .slice A n c])] from HK46.out.alloc 24 #[.int .i64 wd, .int .i64 sl', .slice A7 n c7])
    clear HK46
    have HW48 := Lib.hid (show WinAt (w7.alloc (.cells #[.int .i64 wd, .int .i64 sl', .slice A7 n c7] 24)) [w7.heap.size, w6.heap.size, w4.heap.size, w3.heap.size, w2.heap.size, W.heap.size] A n cs from HW41.out.alloc _)
    clear HW41
    have HW49 := Lib.hid (show WinAt (w7.alloc (.cells #[.int .i64 wd, .int .i64 sl', .slice A7 n c7] 24)) [w7.heap.size, w6.heap.size, w4.heap.size, w3.heap.size, w2.heap.size, W.heap.size] A2 n cs' from HW42.out.alloc _)
    clear HW42
    have HW50 := Lib.hid (show WinAt (w7.alloc (.cells #[.int .i64 wd, .int .i64 sl', .slice A7 n c7] 24)) [w7.heap.size, w6.heap.size, w4.heap.size, w3.heap.size, w2.heap.size, W.heap.size] A3 n cz from HW43.out.alloc _)
    clear HW43
    have HW51 := Lib.hid (show WinAt (w7.alloc (.cells #[.int .i64 wd, .int .i64 sl', .slice A7 n c7] 24)) [w7.heap.size, w6.heap.size, w4.heap.size, w3.heap.size, w2.heap.size, W.heap.size] A4 n cz from HW44.out.alloc _)
    clear HW44
    have HW52 := Lib.hid (show WinAt (w7.alloc (.cells #[.int .i64 wd, .int .i64 sl', .slice A7 n c7] 24)) [w7.heap.size, w6.heap.size, w4.heap.size, w3.heap.size, w2.heap.size, W.heap.size] A6 n cs2 from HW45.out.alloc _)
    clear HW45
    have HW53 := Lib.hid (show WinAt (w7.alloc (.cells #[.int .i64 wd, .int .i64 sl', .slice A7 n c7] 24)) [w7.heap.size, w6.heap.size, w4.heap.size, w3.heap.size, w2.heap.size, W.heap.size] A7 n cs2 from HN7.out.alloc _)
    clear HN7
    generalize w7.alloc (.cells #[.int .i64 wd, .int .i64 sl', .slice A7 n c7] 24) = v7 at HK47 HW48 HW49 HW50 HW51 HW52 HW53 ⊢
    clear hlt70 hlt71 hlt72 hlt73 hlt74
    with_reducible refine (wSame_c wd sl' A6 n c6 cs2 wd sl' A7 n c7 cs2 v7.heap.size _ HW52.out.rd HW53.out.rd (Nat.le_refl _) (by omega) (by omega)).mono ?_
    rw [sameW_self]
    rintro e w8 ⟨rfl, hb8⟩
    have HW54 := Lib.hid (show WinAt w8 [w7.heap.size, w6.heap.size, w4.heap.size, w3.heap.size, w2.heap.size, W.heap.size] A n cs from HW48.out.next hb8)
    clear HW48
    have HW55 := Lib.hid (show WinAt w8 [w7.heap.size, w6.heap.size, w4.heap.size, w3.heap.size, w2.heap.size, W.heap.size] A2 n cs' from HW49.out.next hb8)
    clear HW49
    have HW56 := Lib.hid (show WinAt w8 [w7.heap.size, w6.heap.size, w4.heap.size, w3.heap.size, w2.heap.size, W.heap.size] A3 n cz from HW50.out.next hb8)
    clear HW50
    have HW57 := Lib.hid (show WinAt w8 [w7.heap.size, w6.heap.size, w4.heap.size, w3.heap.size, w2.heap.size, W.heap.size] A4 n cz from HW51.out.next hb8)
    clear HW51
    have HW58 := Lib.hid (show WinAt w8 [w7.heap.size, w6.heap.size, w4.heap.size, w3.heap.size, w2.heap.size, W.heap.size] A6 n cs2 from HW52.out.next hb8)
    clear HW52
    have HW59 := Lib.hid (show WinAt w8 [w7.heap.size, w6.heap.size, w4.heap.size, w3.heap.size, w2.heap.size, W.heap.size] A7 n cs2 from HW53.out.next hb8)
    clear HW53
    have HK60 := Lib.hid (show Kept W w8 [(w7.heap.size, 24, #[.int .i64 wd, .int .i64 sl', .slice A7 n c7]), (w6.heap.size, 24, #[.int .i64 wd, .int .i64 sl', .slice A6 n c6]), (w4.heap.size, 24, #[.int .i64 wd, .int .i64 sz, .slice A4 n c4]), (w3.heap.size, 24, #[.int .i64 wd, .int .i64 sz, .slice A3 n c3]), (w2.heap.size, 24, #[.int .i64 wd, .int .i64 sl', .slice A2 n c2]), (W.heap.size, 24, #[.int .i64 wd, .int .i64 sl, .slice A n c])] from HK47.out.next hb8)
    clear HK47
    clear hb8
    have c_z_0 : w8.cell? ⟨w4.heap.size, 0, none⟩ = some (.int .i64 wd) := HK60.out.cell 2 rfl 0
    have c_z_1 : w8.cell? ⟨w4.heap.size, 1, none⟩ = some (.int .i64 sz) := HK60.out.cell 2 rfl 1
    have c_z_2 : w8.cell? ⟨w4.heap.size, 2, none⟩ = some (.slice A4 n c4) := HK60.out.cell 2 rfl 2
    go_wp2_with fail
    clear c_z_0 c_z_1 c_z_2
    with_reducible refine (Move_c wd sz A4 n c4 w8.heap.size cz b w8 HW57.out.rd (Nat.le_refl _) (by omega)).mono ?_
    rw [R6.out]
    rintro e w9 ⟨A9, n9, c9, rfl, hr9, hb9, hlo9⟩
    dsimp only at hr9
    have hx9 : n9 = n := by have := hr9.cell_len; omega
    subst n9
    have HN9 := Lib.hid (show WinAt w9 [w7.heap.size, w6.heap.size, w4.heap.size, w3.heap.size, w2.heap.size, W.heap.size] A9 n cz from HW57.out.res hb9.size hr9 hlo9 rfl)
    clear hr9 hlo9
    have HW61 := Lib.hid (show WinAt w9 [w7.heap.size, w6.heap.size, w4.heap.size, w3.heap.size, w2.heap.size, W.heap.size] A n cs from HW54.out.next hb9)
    clear HW54
    have HW62 := Lib.hid (show WinAt w9 [w7.heap.size, w6.heap.size, w4.heap.size, w3.heap.size, w2.heap.size, W.heap.size] A2 n cs' from HW55.out.next hb9)
    clear HW55
    have HW63 := Lib.hid (show WinAt w9 [w7.heap.size, w6.heap.size, w4.heap.size, w3.heap.size, w2.heap.size, W.heap.size] A3 n cz from HW56.out.next hb9)
    clear HW56
    have HW64 := Lib.hid (show WinAt w9 [w7.heap.size, w6.heap.size, w4.heap.size, w3.heap.size, w2.heap.size, W.heap.size] A4 n cz from HW57.out.next hb9)
    clear HW57
    have HW65 := Lib.hid (show WinAt w9 [w7.heap.size, w6.heap.size, w4.heap.size, w3.heap.size, w2.heap.size, W.heap.size] A6 n cs2 from HW58.out.next hb9)
    clear HW58
    have HW66 := Lib.hid (show WinAt w9 [w7.heap.size, w6.heap.size, w4.heap.size, w3.heap.size, w2.heap.size, W.heap.size] A7 n cs2 from HW59.out.next hb9)
    clear HW59
    have HK67 := Lib.hid (show Kept W w9 [(w7.heap.size, 24, #[.int .i64 wd, .int .i64 sl', .slice A7 n c7]), (w6.heap.size, 24, #[.int .i64 wd, .int .i64 sl', .slice A6 n c6]), (w4.heap.size, 24, #[.int .i64 wd, .int .i64 sz, .slice A4 n c4]), (w3.heap.size, 24, #[.int .i64 wd, .int .i64 sz, .slice A3 n c3]), (w2.heap.size, 24, #[.int .i64 wd, .int .i64 sl', .slice A2 n c2]), (W.heap.size, 24, #[.int .i64 wd, .int .i64 sl, .slice A n c])] from HK60.out.next hb9)
    clear HK60
    clear hb9
    have c_z_0 : w9.cell? ⟨w4.heap.size, 0, none⟩ = some (.int .i64 wd) := HK67.out.cell 2 rfl 0
    have c_z_1 : w9.cell? ⟨w4.heap.size, 1, none⟩ = some (.int .i64 sz) := HK67.out.cell 2 rfl 1
    have c_z_2 : w9.cell? ⟨w4.heap.size, 2, none⟩ = some (.slice A4 n c4) := HK67.out.cell 2 rfl 2
    have hlt90 := HK67.out.lt 0 rfl
    have hlt91 := HK67.out.lt 1 rfl
    have hlt92 := HK67.out.lt 2 rfl
    have hlt93 := HK67.out.lt 3 rfl
    have hlt94 := HK67.out.lt 4 rfl
    have hlt95 := HK67.out.lt 5 rfl
    go_wp2_with fail
    clear c_z_0 c_z_1 c_z_2
    have HK68 := Lib.hid (show Kept W (w9.alloc (.cells #[.int .i64 wd, .int .i64 sz, .slice A9 n c9] 24)) [(w9.heap.size, 24, #[.int .i64 wd, .int .i64 sz, .slice A9 n c9]), (w7.heap.size, 24, #[.int .i64 wd, .int .i64 sl', .slice A7 n c7]), (w6.heap.size, 24, #[.int .i64 wd, .int .i64 sl', .slice A6 n c6]), (w4.heap.size, 24, #[.int .i64 wd, .int .i64 sz, .slice A4 n c4]), (w3.heap.size, 24, #[.int .i64 wd, .int .i64 sz, .slice A3 n c3]), (w2.heap.size, 24, #[.int .i64 wd, .int .i64 sl', .slice A2 n c2]), (W.heap.size, 24, #[.int .i64 wd, .int .i64 sl, .slice A n c])] from HK67.out.alloc 24 #[.int .i64 wd, .int .i64 sz, .slice A9 n c9])
    clear HK67
    have HW69 := Lib.hid (show WinAt (w9.alloc (.cells #[.int .i64 wd, .int .i64 sz, .slice A9 n c9] 24)) [w9.heap.size, w7.heap.size, w6.heap.size, w4.heap.size, w3.heap.size, w2.heap.size, W.heap.size] A n cs from HW61.out.alloc _)
    clear HW61
    have HW70 := Lib.hid (show WinAt (w9.alloc (.cells #[.int .i64 wd, .int .i64 sz, .slice A9 n c9] 24)) [w9.heap.size, w7.heap.size, w6.heap.size, w4.heap.size, w3.heap.size, w2.heap.size, W.heap.size] A2 n cs' from HW62.out.alloc _)
    clear HW62
    have HW71 := Lib.hid (show WinAt (w9.alloc (.cells #[.int .i64 wd, .int .i64 sz, .slice A9 n c9] 24)) [w9.heap.size, w7.heap.size, w6.heap.size, w4.heap.size, w3.heap.size, w2.heap.size, W.heap.size] A3 n cz from HW63.out.alloc _)
    clear HW63
    have HW72 := Lib.hid (show WinAt (w9.alloc (.cells #[.int .i64 wd, .int .i64 sz, .slice A9 n c9] 24)) [w9.heap.size, w7.heap.size, w6.heap.size, w4.heap.size, w3.heap.size, w2.heap.size, W.heap.size] A4 n cz from HW64.out.alloc _)
    clear HW64
    have HW73 := Lib.hid (show WinAt (w9.alloc (.cells #[.int .i64 wd, .int .i64 sz, .slice A9 n c9] 24)) [w9.heap.size, w7.heap.size, w6.heap.size, w4.heap.size, w3.heap.size, w2.heap.size, W.heap.size] A6 n cs2 from HW65.out.alloc _)
    clear HW65
    have HW74 := Lib.hid (show WinAt (w9.alloc (.cells #[.int .i64 wd, .int .i64 sz, .slice A9 n c9] 24)) [w9.heap.size, w7.heap.size, w6.heap.size, w4.heap.size, w3.heap.size, w2.heap.size, W.heap.size] A7 n cs2 from HW66.out.alloc _)
    clear HW66
    have HW75 := Lib.hid (show WinAt (w9.alloc (.cells #[.int .i64 wd, .int .i64 sz, .slice A9 n c9] 24)) [w9.heap.size, w7.heap.size, w6.heap.size, w4.heap.size, w3.heap.size, w2.heap.size, W.heap.size] A9 n cz from HN9.out.alloc _)
    clear HN9
    generalize w9.alloc (.cells #[.int .i64 wd, .int .i64 sz, .slice A9 n c9] 24) = v9 at HK68 HW69 HW70 HW71 HW72 HW73 HW74 HW75 ⊢
    clear hlt90 hlt91 hlt92 hlt93 hlt94 hlt95
    with_reducible refine (wSame_c wd sz A9 n c9 cz wd sz A4 n c4 cz v9.heap.size _ HW75.out.rd HW72.out.rd (Nat.le_refl _) (by omega) (by omega)).mono ?_
    rw [sameW_self]
    rintro e w10 ⟨rfl, hb10⟩
    have HW76 := Lib.hid (show WinAt w10 [w9.heap.size, w7.heap.size, w6.heap.size, w4.heap.size, w3.heap.size, w2.heap.size, W.heap.size] A n cs from HW69.out.next hb10)
    clear HW69
    have HW77 := Lib.hid (show WinAt w10 [w9.heap.size, w7.heap.size, w6.heap.size, w4.heap.size, w3.heap.size, w2.heap.size, W.heap.size] A2 n cs' from HW70.out.next hb10)
    clear HW70
    have HW78 := Lib.hid (show WinAt w10 [w9.heap.size, w7.heap.size, w6.heap.size, w4.heap.size, w3.heap.size, w2.heap.size, W.heap.size] A3 n cz from HW71.out.next hb10)
    clear HW71
    have HW79 := Lib.hid (show WinAt w10 [w9.heap.size, w7.heap.size, w6.heap.size, w4.heap.size, w3.heap.size, w2.heap.size, W.heap.size] A4 n cz from HW72.out.next hb10)
    clear HW72
    have HW80 := Lib.hid (show WinAt w10 [w9.heap.size, w7.heap.size, w6.heap.size, w4.heap.size, w3.heap.size, w2.heap.size, W.heap.size] A6 n cs2 from HW73.out.next hb10)
    clear HW73
    have HW81 := Lib.hid (show WinAt w10 [w9.heap.size, w7.heap.size, w6.heap.size, w4.heap.size, w3.heap.size, w2.heap.size, W.heap.size] A7 n cs2 from HW74.out.next hb10)
    clear HW74
    have HW82 := Lib.hid (show WinAt w10 [w9.heap.size, w7.heap.size, w6.heap.size, w4.heap.size, w3.heap.size, w2.heap.size, W.heap.size] A9 n cz from HW75.out.next hb10)
    clear HW75
    have HK83 := Lib.hid (show Kept W w10 [(w9.heap.size, 24, #[.int .i64 wd, .int .i64 sz, .slice A9 n c9]), (w7.heap.size, 24, #[.int .i64 wd, .int .i64 sl', .slice A7 n c7]), (w6.heap.size, 24, #[.int .i64 wd, .int .i64 sl', .slice A6 n c6]), (w4.heap.size, 24, #[.int .i64 wd, .int .i64 sz, .slice A4 n c4]), (w3.heap.size, 24, #[.int .i64 wd, .int .i64 sz, .slice A3 n c3]), (w2.heap.size, 24, #[.int .i64 wd, .int .i64 sl', .slice A2 n c2]), (W.heap.size, 24, #[.int .i64 wd, .int .i64 sl, .slice A n c])] from HK68.out.next hb10)
    clear HK68
    clear hb10
    go_wp2
    go_ret
    exact ⟨rfl, HK83.out.bel⟩

set_option maxRecDepth 100000 in
set_option maxHeartbeats 8000000 in
theorem WindowMoves_walk3 (wd sl : Int) (A : Option Addr) (n c : Nat) (cs : List (Int × Int)) (a : Int) (ok : Bool) (W : World) (h : CellArg W A n c cs) : Calls Try.prog 5 #[.agg (winA wd sl A n c), .int .i64 a, .int .i64 a, .bool ok] W fun e w' => e = .returned (.bool true) ∧ Below W.heap.size W w' := by
  have hr := h.1
  clear h
  have hl := hr.cell_len
  by_cases h99 : 99 < n
  · have dl : decide ((99 : Int) < (n : Int)) = true := by simp; omega
    have HK1 := Lib.hid (show Kept W (W.alloc (.cells #[.int .i64 wd, .int .i64 sl, .slice A n c] 24)) [(W.heap.size, 24, #[.int .i64 wd, .int .i64 sl, .slice A n c])] from ((Kept.start W).alloc_at 24 #[.int .i64 wd, .int .i64 sl, .slice A n c] (W.heap.size) (by simp)))
    go_enter Try.func5, Try.ntmps5
    go_wp2_with fail
    with_reducible refine (awake_c _).mono ?_
    rintro e w1 ⟨rfl, hb1⟩
    have HK2 := Lib.hid (show Kept W w1 [(W.heap.size, 24, #[.int .i64 wd, .int .i64 sl, .slice A n c])] from HK1.out.next hb1)
    clear HK1
    clear hb1
    have c_f_0 : w1.cell? ⟨W.heap.size, 0, none⟩ = some (.int .i64 wd) := HK2.out.cell 0 rfl 0
    have c_f_1 : w1.cell? ⟨W.heap.size, 1, none⟩ = some (.int .i64 sl) := HK2.out.cell 0 rfl 1
    have c_f_2 : w1.cell? ⟨W.heap.size, 2, none⟩ = some (.slice A n c) := HK2.out.cell 0 rfl 2
    go_wp2
    go_ret
    exact ⟨rfl, HK2.out.bel⟩
  have dl : decide ((99 : Int) < (n : Int)) = false := by simp; omega
  have HW0 := Lib.hid (show WinAt W [] A n cs from WinAt.start hr)
  clear hr
  have HK1 := Lib.hid (show Kept W (W.alloc (.cells #[.int .i64 wd, .int .i64 sl, .slice A n c] 24)) [(W.heap.size, 24, #[.int .i64 wd, .int .i64 sl, .slice A n c])] from ((Kept.start W).alloc_at 24 #[.int .i64 wd, .int .i64 sl, .slice A n c] (W.heap.size) (by simp)))
  have HWa := Lib.hid (show WinAt (W.alloc (.cells #[.int .i64 wd, .int .i64 sl, .slice A n c] 24)) [W.heap.size] A n cs from HW0.out.alloc _)
  clear HW0
  by_cases hg : (rightW wd sl cs && timeB a) = false
  · have R1 := Lib.hid (moveR_bad hg)
    have R2 := Lib.hid (addR_bad (ok := ok) hg)
    clear hg
    go_enter Try.func5, Try.ntmps5
    go_wp2_with fail
    with_reducible refine (awake_c _).mono ?_
    rintro e w1 ⟨rfl, hb1⟩
    have HW2 := Lib.hid (show WinAt w1 [W.heap.size] A n cs from HWa.out.next hb1)
    clear HWa
    have HK3 := Lib.hid (show Kept W w1 [(W.heap.size, 24, #[.int .i64 wd, .int .i64 sl, .slice A n c])] from HK1.out.next hb1)
    clear HK1
    clear hb1
    have c_f_0 : w1.cell? ⟨W.heap.size, 0, none⟩ = some (.int .i64 wd) := HK3.out.cell 0 rfl 0
    have c_f_1 : w1.cell? ⟨W.heap.size, 1, none⟩ = some (.int .i64 sl) := HK3.out.cell 0 rfl 1
    have c_f_2 : w1.cell? ⟨W.heap.size, 2, none⟩ = some (.slice A n c) := HK3.out.cell 0 rfl 2
    go_wp2_with fail
    with_reducible refine (Move_c wd sl A n c w1.heap.size cs a w1 HW2.out.rd (Nat.le_refl _) (by omega)).mono ?_
    rw [R1.out]
    rintro e w2 ⟨A2, n2, c2, rfl, hr2, hb2, hlo2⟩
    dsimp only at hr2
    have hx2 : n2 = n := by have := hr2.cell_len; omega
    subst n2
    have HN2 := Lib.hid (show WinAt w2 [W.heap.size] A2 n cs from HW2.out.res hb2.size hr2 hlo2 rfl)
    clear hr2 hlo2
    have HW4 := Lib.hid (show WinAt w2 [W.heap.size] A n cs from HW2.out.next hb2)
    clear HW2
    clear c_f_0 c_f_1 c_f_2
    have HK5 := Lib.hid (show Kept W w2 [(W.heap.size, 24, #[.int .i64 wd, .int .i64 sl, .slice A n c])] from HK3.out.next hb2)
    clear HK3
    clear hb2
    have c_f_0 : w2.cell? ⟨W.heap.size, 0, none⟩ = some (.int .i64 wd) := HK5.out.cell 0 rfl 0
    have c_f_1 : w2.cell? ⟨W.heap.size, 1, none⟩ = some (.int .i64 sl) := HK5.out.cell 0 rfl 1
    have c_f_2 : w2.cell? ⟨W.heap.size, 2, none⟩ = some (.slice A n c) := HK5.out.cell 0 rfl 2
    have hlt20 := HK5.out.lt 0 rfl
    go_wp2_with fail
    clear c_f_0 c_f_1 c_f_2
    have HK6 := Lib.hid (show Kept W (w2.alloc (.cells #[.int .i64 wd, .int .i64 sl, .slice A2 n c2] 24)) [(w2.heap.size, 24, #[.int .i64 wd, .int .i64 sl, .slice A2 n c2]), (W.heap.size, 24, #[.int .i64 wd, .int .i64 sl, .slice A n c])] from HK5.out.alloc 24 #[.int .i64 wd, .int .i64 sl, .slice A2 n c2])
    clear HK5
    have HW7 := Lib.hid (show WinAt (w2.alloc (.cells #[.int .i64 wd, .int .i64 sl, .slice A2 n c2] 24)) [w2.heap.size, W.heap.size] A n cs from HW4.out.alloc _)
    clear HW4
    have HW8 := Lib.hid (show WinAt (w2.alloc (.cells #[.int .i64 wd, .int .i64 sl, .slice A2 n c2] 24)) [w2.heap.size, W.heap.size] A2 n cs from HN2.out.alloc _)
    clear HN2
    generalize w2.alloc (.cells #[.int .i64 wd, .int .i64 sl, .slice A2 n c2] 24) = v2 at HK6 HW7 HW8 ⊢
    clear hlt20
    with_reducible refine (Add_c wd sl A n c v2.heap.size cs a ok v2 HW7.out.rd (Nat.le_refl _) (by omega)).mono ?_
    rw [R2.out]
    rintro e w3 ⟨A3, n3, c3, rfl, hr3, hb3, hlo3⟩
    dsimp only at hr3
    have hx3 : n3 = n := by have := hr3.cell_len; omega
    subst n3
    have HN3 := Lib.hid (show WinAt w3 [w2.heap.size, W.heap.size] A3 n cs from HW7.out.res hb3.size hr3 hlo3 rfl)
    clear hr3 hlo3
    have HW9 := Lib.hid (show WinAt w3 [w2.heap.size, W.heap.size] A n cs from HW7.out.next hb3)
    clear HW7
    have HW10 := Lib.hid (show WinAt w3 [w2.heap.size, W.heap.size] A2 n cs from HW8.out.next hb3)
    clear HW8
    have HK11 := Lib.hid (show Kept W w3 [(w2.heap.size, 24, #[.int .i64 wd, .int .i64 sl, .slice A2 n c2]), (W.heap.size, 24, #[.int .i64 wd, .int .i64 sl, .slice A n c])] from HK6.out.next hb3)
    clear HK6
    clear hb3
    have c_f_0 : w3.cell? ⟨W.heap.size, 0, none⟩ = some (.int .i64 wd) := HK11.out.cell 1 rfl 0
    have c_f_1 : w3.cell? ⟨W.heap.size, 1, none⟩ = some (.int .i64 sl) := HK11.out.cell 1 rfl 1
    have c_f_2 : w3.cell? ⟨W.heap.size, 2, none⟩ = some (.slice A n c) := HK11.out.cell 1 rfl 2
    have c_x_0 : w3.cell? ⟨w2.heap.size, 0, none⟩ = some (.int .i64 wd) := HK11.out.cell 0 rfl 0
    have c_x_1 : w3.cell? ⟨w2.heap.size, 1, none⟩ = some (.int .i64 sl) := HK11.out.cell 0 rfl 1
    have c_x_2 : w3.cell? ⟨w2.heap.size, 2, none⟩ = some (.slice A2 n c2) := HK11.out.cell 0 rfl 2
    have hlt30 := HK11.out.lt 0 rfl
    have hlt31 := HK11.out.lt 1 rfl
    go_wp2_with fail
    clear c_f_0 c_f_1 c_f_2 c_x_0 c_x_1 c_x_2
    have HK12 := Lib.hid (show Kept W (w3.alloc (.cells #[.int .i64 wd, .int .i64 sl, .slice A3 n c3] 24)) [(w3.heap.size, 24, #[.int .i64 wd, .int .i64 sl, .slice A3 n c3]), (w2.heap.size, 24, #[.int .i64 wd, .int .i64 sl, .slice A2 n c2]), (W.heap.size, 24, #[.int .i64 wd, .int .i64 sl, .slice A n c])] from HK11.out.alloc 24 #[.int .i64 wd, .int .i64 sl, .slice A3 n c3])
    clear HK11
    have HW13 := Lib.hid (show WinAt (w3.alloc (.cells #[.int .i64 wd, .int .i64 sl, .slice A3 n c3] 24)) [w3.heap.size, w2.heap.size, W.heap.size] A n cs from HW9.out.alloc _)
    clear HW9
    have HW14 := Lib.hid (show WinAt (w3.alloc (.cells #[.int .i64 wd, .int .i64 sl, .slice A3 n c3] 24)) [w3.heap.size, w2.heap.size, W.heap.size] A2 n cs from HW10.out.alloc _)
    clear HW10
    have HW15 := Lib.hid (show WinAt (w3.alloc (.cells #[.int .i64 wd, .int .i64 sl, .slice A3 n c3] 24)) [w3.heap.size, w2.heap.size, W.heap.size] A3 n cs from HN3.out.alloc _)
    clear HN3
    generalize w3.alloc (.cells #[.int .i64 wd, .int .i64 sl, .slice A3 n c3] 24) = v3 at HK12 HW13 HW14 HW15 ⊢
    clear hlt30 hlt31
    with_reducible refine (wSame_c wd sl A2 n c2 cs wd sl A n c cs v3.heap.size _ HW14.out.rd HW13.out.rd (Nat.le_refl _) (by omega) (by omega)).mono ?_
    rw [sameW_self]
    rintro e w4 ⟨rfl, hb4⟩
    have HW16 := Lib.hid (show WinAt w4 [w3.heap.size, w2.heap.size, W.heap.size] A n cs from HW13.out.next hb4)
    clear HW13
    have HW17 := Lib.hid (show WinAt w4 [w3.heap.size, w2.heap.size, W.heap.size] A2 n cs from HW14.out.next hb4)
    clear HW14
    have HW18 := Lib.hid (show WinAt w4 [w3.heap.size, w2.heap.size, W.heap.size] A3 n cs from HW15.out.next hb4)
    clear HW15
    have HK19 := Lib.hid (show Kept W w4 [(w3.heap.size, 24, #[.int .i64 wd, .int .i64 sl, .slice A3 n c3]), (w2.heap.size, 24, #[.int .i64 wd, .int .i64 sl, .slice A2 n c2]), (W.heap.size, 24, #[.int .i64 wd, .int .i64 sl, .slice A n c])] from HK12.out.next hb4)
    clear HK12
    clear hb4
    have c_p_0 : w4.cell? ⟨w3.heap.size, 0, none⟩ = some (.int .i64 wd) := HK19.out.cell 0 rfl 0
    have c_p_1 : w4.cell? ⟨w3.heap.size, 1, none⟩ = some (.int .i64 sl) := HK19.out.cell 0 rfl 1
    have c_p_2 : w4.cell? ⟨w3.heap.size, 2, none⟩ = some (.slice A3 n c3) := HK19.out.cell 0 rfl 2
    have c_f_0 : w4.cell? ⟨W.heap.size, 0, none⟩ = some (.int .i64 wd) := HK19.out.cell 2 rfl 0
    have c_f_1 : w4.cell? ⟨W.heap.size, 1, none⟩ = some (.int .i64 sl) := HK19.out.cell 2 rfl 1
    have c_f_2 : w4.cell? ⟨W.heap.size, 2, none⟩ = some (.slice A n c) := HK19.out.cell 2 rfl 2
    go_wp2_with fail
    clear c_p_0 c_p_1 c_p_2 c_f_0 c_f_1 c_f_2
    with_reducible refine (wSame_c wd sl A3 n c3 cs wd sl A n c cs w4.heap.size _ HW18.out.rd HW16.out.rd (Nat.le_refl _) (by omega) (by omega)).mono ?_
    rw [sameW_self]
    rintro e w5 ⟨rfl, hb5⟩
    have HW20 := Lib.hid (show WinAt w5 [w3.heap.size, w2.heap.size, W.heap.size] A n cs from HW16.out.next hb5)
    clear HW16
    have HW21 := Lib.hid (show WinAt w5 [w3.heap.size, w2.heap.size, W.heap.size] A2 n cs from HW17.out.next hb5)
    clear HW17
    have HW22 := Lib.hid (show WinAt w5 [w3.heap.size, w2.heap.size, W.heap.size] A3 n cs from HW18.out.next hb5)
    clear HW18
    have HK23 := Lib.hid (show Kept W w5 [(w3.heap.size, 24, #[.int .i64 wd, .int .i64 sl, .slice A3 n c3]), (w2.heap.size, 24, #[.int .i64 wd, .int .i64 sl, .slice A2 n c2]), (W.heap.size, 24, #[.int .i64 wd, .int .i64 sl, .slice A n c])] from HK19.out.next hb5)
    clear HK19
    clear hb5
    go_wp2
    go_ret
    exact ⟨rfl, HK23.out.bel⟩
  have hg' : (rightW wd sl cs && timeB a) = true := by simpa using hg
  rw [Bool.and_eq_true] at hg'
  obtain ⟨hg1, hg2⟩ := hg'
  clear hg
  obtain ⟨sl', cs', hm, hl', h1, h2, h3, -⟩ := moveR_good hg1 hg2
  rw [hl] at hl'
  obtain ⟨cs2, ha1, ha2, hl2⟩ := addR_good (ok := ok) hg1 hg2 hm
  rw [hl'] at hl2
  have R1 := Lib.hid hm
  have R2 := Lib.hid ha1
  have R3 := Lib.hid ha2
  clear ha1 ha2
  cases hth : timeB a
  · have R4 := Lib.hid (show moveR wd sl' cs' a = ⟨wd, sl', cs', 1⟩ from moveR_bad (by rw [hth, Bool.and_false]))
    have R5 := Lib.hid (show moveR wd sl cs a = ⟨wd, sl, cs, 1⟩ from moveR_bad (by rw [hth, Bool.and_false]))
    clear hm hg1 hg2 h1 h2 h3 hth
    go_enter Try.func5, Try.ntmps5
    go_wp2_with fail
    with_reducible refine (awake_c _).mono ?_
    rintro e w1 ⟨rfl, hb1⟩
    have HW2 := Lib.hid (show WinAt w1 [W.heap.size] A n cs from HWa.out.next hb1)
    clear HWa
    have HK3 := Lib.hid (show Kept W w1 [(W.heap.size, 24, #[.int .i64 wd, .int .i64 sl, .slice A n c])] from HK1.out.next hb1)
    clear HK1
    clear hb1
    have c_f_0 : w1.cell? ⟨W.heap.size, 0, none⟩ = some (.int .i64 wd) := HK3.out.cell 0 rfl 0
    have c_f_1 : w1.cell? ⟨W.heap.size, 1, none⟩ = some (.int .i64 sl) := HK3.out.cell 0 rfl 1
    have c_f_2 : w1.cell? ⟨W.heap.size, 2, none⟩ = some (.slice A n c) := HK3.out.cell 0 rfl 2
    go_wp2_with fail
    with_reducible refine (Move_c wd sl A n c w1.heap.size cs a w1 HW2.out.rd (Nat.le_refl _) (by omega)).mono ?_
    rw [R1.out]
    rintro e w2 ⟨A2, n2, c2, rfl, hr2, hb2, hlo2⟩
    dsimp only at hr2
    have hx2 : n2 = n := by have := hr2.cell_len; omega
    subst n2
    have HN2 := Lib.hid (show WinAt w2 [W.heap.size] A2 n cs' from HW2.out.res hb2.size hr2 hlo2 rfl)
    clear hr2 hlo2
    have HW4 := Lib.hid (show WinAt w2 [W.heap.size] A n cs from HW2.out.next hb2)
    clear HW2
    clear c_f_0 c_f_1 c_f_2
    have HK5 := Lib.hid (show Kept W w2 [(W.heap.size, 24, #[.int .i64 wd, .int .i64 sl, .slice A n c])] from HK3.out.next hb2)
    clear HK3
    clear hb2
    have c_f_0 : w2.cell? ⟨W.heap.size, 0, none⟩ = some (.int .i64 wd) := HK5.out.cell 0 rfl 0
    have c_f_1 : w2.cell? ⟨W.heap.size, 1, none⟩ = some (.int .i64 sl) := HK5.out.cell 0 rfl 1
    have c_f_2 : w2.cell? ⟨W.heap.size, 2, none⟩ = some (.slice A n c) := HK5.out.cell 0 rfl 2
    have hlt20 := HK5.out.lt 0 rfl
    go_wp2_with fail
    clear c_f_0 c_f_1 c_f_2
    have HK6 := Lib.hid (show Kept W (w2.alloc (.cells #[.int .i64 wd, .int .i64 sl', .slice A2 n c2] 24)) [(w2.heap.size, 24, #[.int .i64 wd, .int .i64 sl', .slice A2 n c2]), (W.heap.size, 24, #[.int .i64 wd, .int .i64 sl, .slice A n c])] from HK5.out.alloc 24 #[.int .i64 wd, .int .i64 sl', .slice A2 n c2])
    clear HK5
    have HW7 := Lib.hid (show WinAt (w2.alloc (.cells #[.int .i64 wd, .int .i64 sl', .slice A2 n c2] 24)) [w2.heap.size, W.heap.size] A n cs from HW4.out.alloc _)
    clear HW4
    have HW8 := Lib.hid (show WinAt (w2.alloc (.cells #[.int .i64 wd, .int .i64 sl', .slice A2 n c2] 24)) [w2.heap.size, W.heap.size] A2 n cs' from HN2.out.alloc _)
    clear HN2
    generalize w2.alloc (.cells #[.int .i64 wd, .int .i64 sl', .slice A2 n c2] 24) = v2 at HK6 HW7 HW8 ⊢
    clear hlt20
    with_reducible refine (Move_c wd sl' A2 n c2 v2.heap.size cs' a v2 HW8.out.rd (Nat.le_refl _) (by omega)).mono ?_
    rw [R4.out]
    rintro e w3 ⟨A3, n3, c3, rfl, hr3, hb3, hlo3⟩
    dsimp only at hr3
    have hx3 : n3 = n := by have := hr3.cell_len; omega
    subst n3
    have HN3 := Lib.hid (show WinAt w3 [w2.heap.size, W.heap.size] A3 n cs' from HW8.out.res hb3.size hr3 hlo3 rfl)
    clear hr3 hlo3
    have HW9 := Lib.hid (show WinAt w3 [w2.heap.size, W.heap.size] A n cs from HW7.out.next hb3)
    clear HW7
    have HW10 := Lib.hid (show WinAt w3 [w2.heap.size, W.heap.size] A2 n cs' from HW8.out.next hb3)
    clear HW8
    have HK11 := Lib.hid (show Kept W w3 [(w2.heap.size, 24, #[.int .i64 wd, .int .i64 sl', .slice A2 n c2]), (W.heap.size, 24, #[.int .i64 wd, .int .i64 sl, .slice A n c])] from HK6.out.next hb3)
    clear HK6
    clear hb3
    have c_f_0 : w3.cell? ⟨W.heap.size, 0, none⟩ = some (.int .i64 wd) := HK11.out.cell 1 rfl 0
    have c_f_1 : w3.cell? ⟨W.heap.size, 1, none⟩ = some (.int .i64 sl) := HK11.out.cell 1 rfl 1
    have c_f_2 : w3.cell? ⟨W.heap.size, 2, none⟩ = some (.slice A n c) := HK11.out.cell 1 rfl 2
    have c_x_0 : w3.cell? ⟨w2.heap.size, 0, none⟩ = some (.int .i64 wd) := HK11.out.cell 0 rfl 0
    have c_x_1 : w3.cell? ⟨w2.heap.size, 1, none⟩ = some (.int .i64 sl') := HK11.out.cell 0 rfl 1
    have c_x_2 : w3.cell? ⟨w2.heap.size, 2, none⟩ = some (.slice A2 n c2) := HK11.out.cell 0 rfl 2
    have hlt30 := HK11.out.lt 0 rfl
    have hlt31 := HK11.out.lt 1 rfl
    go_wp2_with fail
    clear c_f_0 c_f_1 c_f_2 c_x_0 c_x_1 c_x_2
    have HK12 := Lib.hid (show Kept W (w3.alloc (.cells #[.int .i64 wd, .int .i64 sl', .slice A3 n c3] 24)) [(w3.heap.size, 24, #[.int .i64 wd, .int .i64 sl', .slice A3 n c3]), (w2.heap.size, 24, #[.int .i64 wd, .int .i64 sl', .slice A2 n c2]), (W.heap.size, 24, #[.int .i64 wd, .int .i64 sl, .slice A n c])] from HK11.out.alloc 24 #[.int .i64 wd, .int .i64 sl', .slice A3 n c3])
    clear HK11
    have HW13 := Lib.hid (show WinAt (w3.alloc (.cells #[.int .i64 wd, .int .i64 sl', .slice A3 n c3] 24)) [w3.heap.size, w2.heap.size, W.heap.size] A n cs from HW9.out.alloc _)
    clear HW9
    have HW14 := Lib.hid (show WinAt (w3.alloc (.cells #[.int .i64 wd, .int .i64 sl', .slice A3 n c3] 24)) [w3.heap.size, w2.heap.size, W.heap.size] A2 n cs' from HW10.out.alloc _)
    clear HW10
    have HW15 := Lib.hid (show WinAt (w3.alloc (.cells #[.int .i64 wd, .int .i64 sl', .slice A3 n c3] 24)) [w3.heap.size, w2.heap.size, W.heap.size] A3 n cs' from HN3.out.alloc _)
    clear HN3
    generalize w3.alloc (.cells #[.int .i64 wd, .int .i64 sl', .slice A3 n c3] 24) = v3 at HK12 HW13 HW14 HW15 ⊢
    clear hlt30 hlt31
    with_reducible refine (Move_c wd sl A n c v3.heap.size cs a v3 HW13.out.rd (Nat.le_refl _) (by omega)).mono ?_
    rw [R5.out]
    rintro e w4 ⟨A4, n4, c4, rfl, hr4, hb4, hlo4⟩
    dsimp only at hr4
    have hx4 : n4 = n := by have := hr4.cell_len; omega
    subst n4
    have HN4 := Lib.hid (show WinAt w4 [w3.heap.size, w2.heap.size, W.heap.size] A4 n cs from HW13.out.res hb4.size hr4 hlo4 rfl)
    clear hr4 hlo4
    have HW16 := Lib.hid (show WinAt w4 [w3.heap.size, w2.heap.size, W.heap.size] A n cs from HW13.out.next hb4)
    clear HW13
    have HW17 := Lib.hid (show WinAt w4 [w3.heap.size, w2.heap.size, W.heap.size] A2 n cs' from HW14.out.next hb4)
    clear HW14
    have HW18 := Lib.hid (show WinAt w4 [w3.heap.size, w2.heap.size, W.heap.size] A3 n cs' from HW15.out.next hb4)
    clear HW15
    have HK19 := Lib.hid (show Kept W w4 [(w3.heap.size, 24, #[.int .i64 wd, .int .i64 sl', .slice A3 n c3]), (w2.heap.size, 24, #[.int .i64 wd, .int .i64 sl', .slice A2 n c2]), (W.heap.size, 24, #[.int .i64 wd, .int .i64 sl, .slice A n c])] from HK12.out.next hb4)
    clear HK12
    clear hb4
    have c_f_0 : w4.cell? ⟨W.heap.size, 0, none⟩ = some (.int .i64 wd) := HK19.out.cell 2 rfl 0
    have c_f_1 : w4.cell? ⟨W.heap.size, 1, none⟩ = some (.int .i64 sl) := HK19.out.cell 2 rfl 1
    have c_f_2 : w4.cell? ⟨W.heap.size, 2, none⟩ = some (.slice A n c) := HK19.out.cell 2 rfl 2
    have c_x_0 : w4.cell? ⟨w2.heap.size, 0, none⟩ = some (.int .i64 wd) := HK19.out.cell 1 rfl 0
    have c_x_1 : w4.cell? ⟨w2.heap.size, 1, none⟩ = some (.int .i64 sl') := HK19.out.cell 1 rfl 1
    have c_x_2 : w4.cell? ⟨w2.heap.size, 2, none⟩ = some (.slice A2 n c2) := HK19.out.cell 1 rfl 2
    have c_y_0 : w4.cell? ⟨w3.heap.size, 0, none⟩ = some (.int .i64 wd) := HK19.out.cell 0 rfl 0
    have c_y_1 : w4.cell? ⟨w3.heap.size, 1, none⟩ = some (.int .i64 sl') := HK19.out.cell 0 rfl 1
    have c_y_2 : w4.cell? ⟨w3.heap.size, 2, none⟩ = some (.slice A3 n c3) := HK19.out.cell 0 rfl 2
    have hlt40 := HK19.out.lt 0 rfl
    have hlt41 := HK19.out.lt 1 rfl
    have hlt42 := HK19.out.lt 2 rfl
    go_wp2_with fail
    clear c_f_0 c_f_1 c_f_2 c_x_0 c_x_1 c_x_2 c_y_0 c_y_1 c_y_2
    have HK20 := Lib.hid (show Kept W (w4.alloc (.cells #[.int .i64 wd, .int .i64 sl, .slice A4 n c4] 24)) [(w4.heap.size, 24, #[.int .i64 wd, .int .i64 sl, .slice A4 n c4]), (w3.heap.size, 24, #[.int .i64 wd, .int .i64 sl', .slice A3 n c3]), (w2.heap.size, 24, #[.int .i64 wd, .int .i64 sl', .slice A2 n c2]), (W.heap.size, 24, #[.int .i64 wd, .int .i64 sl, .slice A n c])] from HK19.out.alloc 24 #[.int .i64 wd, .int .i64 sl, .slice A4 n c4])
    clear HK19
    have HW21 := Lib.hid (show WinAt (w4.alloc (.cells #[.int .i64 wd, .int .i64 sl, .slice A4 n c4] 24)) [w4.heap.size, w3.heap.size, w2.heap.size, W.heap.size] A n cs from HW16.out.alloc _)
    clear HW16
    have HW22 := Lib.hid (show WinAt (w4.alloc (.cells #[.int .i64 wd, .int .i64 sl, .slice A4 n c4] 24)) [w4.heap.size, w3.heap.size, w2.heap.size, W.heap.size] A2 n cs' from HW17.out.alloc _)
    clear HW17
    have HW23 := Lib.hid (show WinAt (w4.alloc (.cells #[.int .i64 wd, .int .i64 sl, .slice A4 n c4] 24)) [w4.heap.size, w3.heap.size, w2.heap.size, W.heap.size] A3 n cs' from HW18.out.alloc _)
    clear HW18
    have HW24 := Lib.hid (show WinAt (w4.alloc (.cells #[.int .i64 wd, .int .i64 sl, .slice A4 n c4] 24)) [w4.heap.size, w3.heap.size, w2.heap.size, W.heap.size] A4 n cs from HN4.out.alloc _)
    clear HN4
    generalize w4.alloc (.cells #[.int .i64 wd, .int .i64 sl, .slice A4 n c4] 24) = v4 at HK20 HW21 HW22 HW23 HW24 ⊢
    clear hlt40 hlt41 hlt42
    with_reducible refine (Add_c wd sl A n c v4.heap.size cs a ok v4 HW21.out.rd (Nat.le_refl _) (by omega)).mono ?_
    rw [R2.out]
    rintro e w6 ⟨A6, n6, c6, rfl, hr6, hb6, hlo6⟩
    dsimp only at hr6
    have hx6 : n6 = n := by have := hr6.cell_len; omega
    subst n6
    have HN6 := Lib.hid (show WinAt w6 [w4.heap.size, w3.heap.size, w2.heap.size, W.heap.size] A6 n cs2 from HW21.out.res hb6.size hr6 hlo6 rfl)
    clear hr6 hlo6
    have HW25 := Lib.hid (show WinAt w6 [w4.heap.size, w3.heap.size, w2.heap.size, W.heap.size] A n cs from HW21.out.next hb6)
    clear HW21
    have HW26 := Lib.hid (show WinAt w6 [w4.heap.size, w3.heap.size, w2.heap.size, W.heap.size] A2 n cs' from HW22.out.next hb6)
    clear HW22
    have HW27 := Lib.hid (show WinAt w6 [w4.heap.size, w3.heap.size, w2.heap.size, W.heap.size] A3 n cs' from HW23.out.next hb6)
    clear HW23
    have HW28 := Lib.hid (show WinAt w6 [w4.heap.size, w3.heap.size, w2.heap.size, W.heap.size] A4 n cs from HW24.out.next hb6)
    clear HW24
    have HK29 := Lib.hid (show Kept W w6 [(w4.heap.size, 24, #[.int .i64 wd, .int .i64 sl, .slice A4 n c4]), (w3.heap.size, 24, #[.int .i64 wd, .int .i64 sl', .slice A3 n c3]), (w2.heap.size, 24, #[.int .i64 wd, .int .i64 sl', .slice A2 n c2]), (W.heap.size, 24, #[.int .i64 wd, .int .i64 sl, .slice A n c])] from HK20.out.next hb6)
    clear HK20
    clear hb6
    have c_f_0 : w6.cell? ⟨W.heap.size, 0, none⟩ = some (.int .i64 wd) := HK29.out.cell 3 rfl 0
    have c_f_1 : w6.cell? ⟨W.heap.size, 1, none⟩ = some (.int .i64 sl) := HK29.out.cell 3 rfl 1
    have c_f_2 : w6.cell? ⟨W.heap.size, 2, none⟩ = some (.slice A n c) := HK29.out.cell 3 rfl 2
    have c_x_0 : w6.cell? ⟨w2.heap.size, 0, none⟩ = some (.int .i64 wd) := HK29.out.cell 2 rfl 0
    have c_x_1 : w6.cell? ⟨w2.heap.size, 1, none⟩ = some (.int .i64 sl') := HK29.out.cell 2 rfl 1
    have c_x_2 : w6.cell? ⟨w2.heap.size, 2, none⟩ = some (.slice A2 n c2) := HK29.out.cell 2 rfl 2
    have hlt60 := HK29.out.lt 0 rfl
    have hlt61 := HK29.out.lt 1 rfl
    have hlt62 := HK29.out.lt 2 rfl
    have hlt63 := HK29.out.lt 3 rfl
    go_wp2_with fail
    clear c_f_0 c_f_1 c_f_2 c_x_0 c_x_1 c_x_2
    have HK30 := Lib.hid (show Kept W (w6.alloc (.cells #[.int .i64 wd, .int .i64 sl', .slice A6 n c6] 24)) [(w6.heap.size, 24, #[.int .i64 wd, .int .i64 sl', .slice A6 n c6]), (w4.heap.size, 24, #[.int .i64 wd, .int .i64 sl, .slice A4 n c4]), (w3.heap.size, 24, #[.int .i64 wd, .int .i64 sl', .slice A3 n c3]), (w2.heap.size, 24, #[.int .i64 wd, .int .i64 sl', .slice A2 n c2]), (W.heap.size, 24, #[.int .i64 wd, .int .i64 sl, .slice A n c])] from HK29.out.alloc 24 #[.int .i64 wd, .int .i64 sl', .slice A6 n c6])
    clear HK29
    have HW31 := Lib.hid (show WinAt (w6.alloc (.cells #[.int .i64 wd, .int .i64 sl', .slice A6 n c6] 24)) [w6.heap.size, w4.heap.size, w3.heap.size, w2.heap.size, W.heap.size] A n cs from HW25.out.alloc _)
    clear HW25
    have HW32 := Lib.hid (show WinAt (w6.alloc (.cells #[.int .i64 wd, .int .i64 sl', .slice A6 n c6] 24)) [w6.heap.size, w4.heap.size, w3.heap.size, w2.heap.size, W.heap.size] A2 n cs' from HW26.out.alloc _)
    clear HW26
    have HW33 := Lib.hid (show WinAt (w6.alloc (.cells #[.int .i64 wd, .int .i64 sl', .slice A6 n c6] 24)) [w6.heap.size, w4.heap.size, w3.heap.size, w2.heap.size, W.heap.size] A3 n cs' from HW27.out.alloc _)
    clear HW27
    have HW34 := Lib.hid (show WinAt (w6.alloc (.cells #[.int .i64 wd, .int .i64 sl', .slice A6 n c6] 24)) [w6.heap.size, w4.heap.size, w3.heap.size, w2.heap.size, W.heap.size] A4 n cs from HW28.out.alloc _)
    clear HW28
    have HW35 := Lib.hid (show WinAt (w6.alloc (.cells #[.int .i64 wd, .int .i64 sl', .slice A6 n c6] 24)) [w6.heap.size, w4.heap.size, w3.heap.size, w2.heap.size, W.heap.size] A6 n cs2 from HN6.out.alloc _)
    clear HN6
    generalize w6.alloc (.cells #[.int .i64 wd, .int .i64 sl', .slice A6 n c6] 24) = v6 at HK30 HW31 HW32 HW33 HW34 HW35 ⊢
    clear hlt60 hlt61 hlt62 hlt63
    with_reducible refine (Add_c wd sl' A2 n c2 v6.heap.size cs' a ok v6 HW32.out.rd (Nat.le_refl _) (by omega)).mono ?_
    rw [R3.out]
    rintro e w7 ⟨A7, n7, c7, rfl, hr7, hb7, hlo7⟩
    dsimp only at hr7
    have hx7 : n7 = n := by have := hr7.cell_len; omega
    subst n7
    have HN7 := Lib.hid (show WinAt w7 [w6.heap.size, w4.heap.size, w3.heap.size, w2.heap.size, W.heap.size] A7 n cs2 from HW32.out.res hb7.size hr7 hlo7 rfl)
    clear hr7 hlo7
    have HW36 := Lib.hid (show WinAt w7 [w6.heap.size, w4.heap.size, w3.heap.size, w2.heap.size, W.heap.size] A n cs from HW31.out.next hb7)
    clear HW31
    have HW37 := Lib.hid (show WinAt w7 [w6.heap.size, w4.heap.size, w3.heap.size, w2.heap.size, W.heap.size] A2 n cs' from HW32.out.next hb7)
    clear HW32
    have HW38 := Lib.hid (show WinAt w7 [w6.heap.size, w4.heap.size, w3.heap.size, w2.heap.size, W.heap.size] A3 n cs' from HW33.out.next hb7)
    clear HW33
    have HW39 := Lib.hid (show WinAt w7 [w6.heap.size, w4.heap.size, w3.heap.size, w2.heap.size, W.heap.size] A4 n cs from HW34.out.next hb7)
    clear HW34
    have HW40 := Lib.hid (show WinAt w7 [w6.heap.size, w4.heap.size, w3.heap.size, w2.heap.size, W.heap.size] A6 n cs2 from HW35.out.next hb7)
    clear HW35
    have HK41 := Lib.hid (show Kept W w7 [(w6.heap.size, 24, #[.int .i64 wd, .int .i64 sl', .slice A6 n c6]), (w4.heap.size, 24, #[.int .i64 wd, .int .i64 sl, .slice A4 n c4]), (w3.heap.size, 24, #[.int .i64 wd, .int .i64 sl', .slice A3 n c3]), (w2.heap.size, 24, #[.int .i64 wd, .int .i64 sl', .slice A2 n c2]), (W.heap.size, 24, #[.int .i64 wd, .int .i64 sl, .slice A n c])] from HK30.out.next hb7)
    clear HK30
    clear hb7
    have c_f_0 : w7.cell? ⟨W.heap.size, 0, none⟩ = some (.int .i64 wd) := HK41.out.cell 4 rfl 0
    have c_f_1 : w7.cell? ⟨W.heap.size, 1, none⟩ = some (.int .i64 sl) := HK41.out.cell 4 rfl 1
    have c_f_2 : w7.cell? ⟨W.heap.size, 2, none⟩ = some (.slice A n c) := HK41.out.cell 4 rfl 2
    have c_x_0 : w7.cell? ⟨w2.heap.size, 0, none⟩ = some (.int .i64 wd) := HK41.out.cell 3 rfl 0
    have c_x_1 : w7.cell? ⟨w2.heap.size, 1, none⟩ = some (.int .i64 sl') := HK41.out.cell 3 rfl 1
    have c_x_2 : w7.cell? ⟨w2.heap.size, 2, none⟩ = some (.slice A2 n c2) := HK41.out.cell 3 rfl 2
    have c_p_0 : w7.cell? ⟨w6.heap.size, 0, none⟩ = some (.int .i64 wd) := HK41.out.cell 0 rfl 0
    have c_p_1 : w7.cell? ⟨w6.heap.size, 1, none⟩ = some (.int .i64 sl') := HK41.out.cell 0 rfl 1
    have c_p_2 : w7.cell? ⟨w6.heap.size, 2, none⟩ = some (.slice A6 n c6) := HK41.out.cell 0 rfl 2
    have hlt70 := HK41.out.lt 0 rfl
    have hlt71 := HK41.out.lt 1 rfl
    have hlt72 := HK41.out.lt 2 rfl
    have hlt73 := HK41.out.lt 3 rfl
    have hlt74 := HK41.out.lt 4 rfl
    go_wp2_with fail
    clear c_f_0 c_f_1 c_f_2 c_x_0 c_x_1 c_x_2 c_p_0 c_p_1 c_p_2
    have HK42 := Lib.hid (show Kept W (w7.alloc (.cells #[.int .i64 wd, .int .i64 sl', .slice A7 n c7] 24)) [(w7.heap.size, 24, #[.int .i64 wd, .int .i64 sl', .slice A7 n c7]), (w6.heap.size, 24, #[.int .i64 wd, .int .i64 sl', .slice A6 n c6]), (w4.heap.size, 24, #[.int .i64 wd, .int .i64 sl, .slice A4 n c4]), (w3.heap.size, 24, #[.int .i64 wd, .int .i64 sl', .slice A3 n c3]), (w2.heap.size, 24, #[.int .i64 wd, .int .i64 sl', .slice A2 n c2]), (W.heap.size, 24, #[.int .i64 wd, .int .i64 sl, .slice A n c])] from HK41.out.alloc 24 #[.int .i64 wd, .int .i64 sl', .slice A7 n c7])
    clear HK41
    have HW43 := Lib.hid (show WinAt (w7.alloc (.cells #[.int .i64 wd, .int .i64 sl', .slice A7 n c7] 24)) [w7.heap.size, w6.heap.size, w4.heap.size, w3.heap.size, w2.heap.size, W.heap.size] A n cs from HW36.out.alloc _)
    clear HW36
    have HW44 := Lib.hid (show WinAt (w7.alloc (.cells #[.int .i64 wd, .int .i64 sl', .slice A7 n c7] 24)) [w7.heap.size, w6.heap.size, w4.heap.size, w3.heap.size, w2.heap.size, W.heap.size] A2 n cs' from HW37.out.alloc _)
    clear HW37
    have HW45 := Lib.hid (show WinAt (w7.alloc (.cells #[.int .i64 wd, .int .i64 sl', .slice A7 n c7] 24)) [w7.heap.size, w6.heap.size, w4.heap.size, w3.heap.size, w2.heap.size, W.heap.size] A3 n cs' from HW38.out.alloc _)
    clear HW38
    have HW46 := Lib.hid (show WinAt (w7.alloc (.cells #[.int .i64 wd, .int .i64 sl', .slice A7 n c7] 24)) [w7.heap.size, w6.heap.size, w4.heap.size, w3.heap.size, w2.heap.size, W.heap.size] A4 n cs from HW39.out.alloc _)
    clear HW39
    have HW47 := Lib.hid (show WinAt (w7.alloc (.cells #[.int .i64 wd, .int .i64 sl', .slice A7 n c7] 24)) [w7.heap.size, w6.heap.size, w4.heap.size, w3.heap.size, w2.heap.size, W.heap.size] A6 n cs2 from HW40.out.alloc _)
    clear HW40
    have HW48 := Lib.hid (show WinAt (w7.alloc (.cells #[.int .i64 wd, .int .i64 sl', .slice A7 n c7] 24)) [w7.heap.size, w6.heap.size, w4.heap.size, w3.heap.size, w2.heap.size, W.heap.size] A7 n cs2 from HN7.out.alloc _)
    clear HN7
    generalize w7.alloc (.cells #[.int .i64 wd, .int .i64 sl', .slice A7 n c7] 24) = v7 at HK42 HW43 HW44 HW45 HW46 HW47 HW48 ⊢
    clear hlt70 hlt71 hlt72 hlt73 hlt74
    with_reducible refine (wSame_c wd sl' A6 n c6 cs2 wd sl' A7 n c7 cs2 v7.heap.size _ HW47.out.rd HW48.out.rd (Nat.le_refl _) (by omega) (by omega)).mono ?_
    rw [sameW_self]
    rintro e w8 ⟨rfl, hb8⟩
    have HW49 := Lib.hid (show WinAt w8 [w7.heap.size, w6.heap.size, w4.heap.size, w3.heap.size, w2.heap.size, W.heap.size] A n cs from HW43.out.next hb8)
    clear HW43
    have HW50 := Lib.hid (show WinAt w8 [w7.heap.size, w6.heap.size, w4.heap.size, w3.heap.size, w2.heap.size, W.heap.size] A2 n cs' from HW44.out.next hb8)
    clear HW44
    have HW51 := Lib.hid (show WinAt w8 [w7.heap.size, w6.heap.size, w4.heap.size, w3.heap.size, w2.heap.size, W.heap.size] A3 n cs' from HW45.out.next hb8)
    clear HW45
    have HW52 := Lib.hid (show WinAt w8 [w7.heap.size, w6.heap.size, w4.heap.size, w3.heap.size, w2.heap.size, W.heap.size] A4 n cs from HW46.out.next hb8)
    clear HW46
    have HW53 := Lib.hid (show WinAt w8 [w7.heap.size, w6.heap.size, w4.heap.size, w3.heap.size, w2.heap.size, W.heap.size] A6 n cs2 from HW47.out.next hb8)
    clear HW47
    have HW54 := Lib.hid (show WinAt w8 [w7.heap.size, w6.heap.size, w4.heap.size, w3.heap.size, w2.heap.size, W.heap.size] A7 n cs2 from HW48.out.next hb8)
    clear HW48
    have HK55 := Lib.hid (show Kept W w8 [(w7.heap.size, 24, #[.int .i64 wd, .int .i64 sl', .slice A7 n c7]), (w6.heap.size, 24, #[.int .i64 wd, .int .i64 sl', .slice A6 n c6]), (w4.heap.size, 24, #[.int .i64 wd, .int .i64 sl, .slice A4 n c4]), (w3.heap.size, 24, #[.int .i64 wd, .int .i64 sl', .slice A3 n c3]), (w2.heap.size, 24, #[.int .i64 wd, .int .i64 sl', .slice A2 n c2]), (W.heap.size, 24, #[.int .i64 wd, .int .i64 sl, .slice A n c])] from HK42.out.next hb8)
    clear HK42
    clear hb8
    go_wp2
    go_ret
    exact ⟨rfl, HK55.out.bel⟩
  · obtain ⟨sz, cz, hz, hlz, k1, k2, k3, -⟩ := moveR_good hg1 hth
    have hzy := moveR_two hg1 hm hg2 hth (show a ≤ a from by omega)
    rw [hz] at hzy
    rw [hl] at hlz
    obtain ⟨⟨g1, -⟩, -⟩ := rightW_iff.1 hg1
    have R6 := Lib.hid (moveR_stay (a := a) k3 hg2 (by have := Int.ediv_le_ediv (show 0 < wd from by omega) (show a ≤ a from by omega); omega))
    have R4 := Lib.hid hzy
    have R5 := Lib.hid hz
    clear hm hg1 hg2 h1 h2 h3 hth hz hzy k1 k2 k3 g1
    go_enter Try.func5, Try.ntmps5
    go_wp2_with fail
    with_reducible refine (awake_c _).mono ?_
    rintro e w1 ⟨rfl, hb1⟩
    have HW2 := Lib.hid (show WinAt w1 [W.heap.size] A n cs from HWa.out.next hb1)
    clear HWa
    have HK3 := Lib.hid (show Kept W w1 [(W.heap.size, 24, #[.int .i64 wd, .int .i64 sl, .slice A n c])] from HK1.out.next hb1)
    clear HK1
    clear hb1
    have c_f_0 : w1.cell? ⟨W.heap.size, 0, none⟩ = some (.int .i64 wd) := HK3.out.cell 0 rfl 0
    have c_f_1 : w1.cell? ⟨W.heap.size, 1, none⟩ = some (.int .i64 sl) := HK3.out.cell 0 rfl 1
    have c_f_2 : w1.cell? ⟨W.heap.size, 2, none⟩ = some (.slice A n c) := HK3.out.cell 0 rfl 2
    go_wp2_with fail
    with_reducible refine (Move_c wd sl A n c w1.heap.size cs a w1 HW2.out.rd (Nat.le_refl _) (by omega)).mono ?_
    rw [R1.out]
    rintro e w2 ⟨A2, n2, c2, rfl, hr2, hb2, hlo2⟩
    dsimp only at hr2
    have hx2 : n2 = n := by have := hr2.cell_len; omega
    subst n2
    have HN2 := Lib.hid (show WinAt w2 [W.heap.size] A2 n cs' from HW2.out.res hb2.size hr2 hlo2 rfl)
    clear hr2 hlo2
    have HW4 := Lib.hid (show WinAt w2 [W.heap.size] A n cs from HW2.out.next hb2)
    clear HW2
    clear c_f_0 c_f_1 c_f_2
    have HK5 := Lib.hid (show Kept W w2 [(W.heap.size, 24, #[.int .i64 wd, .int .i64 sl, .slice A n c])] from HK3.out.next hb2)
    clear HK3
    clear hb2
    have c_f_0 : w2.cell? ⟨W.heap.size, 0, none⟩ = some (.int .i64 wd) := HK5.out.cell 0 rfl 0
    have c_f_1 : w2.cell? ⟨W.heap.size, 1, none⟩ = some (.int .i64 sl) := HK5.out.cell 0 rfl 1
    have c_f_2 : w2.cell? ⟨W.heap.size, 2, none⟩ = some (.slice A n c) := HK5.out.cell 0 rfl 2
    have hlt20 := HK5.out.lt 0 rfl
    go_wp2_with fail
    clear c_f_0 c_f_1 c_f_2
    have HK6 := Lib.hid (show Kept W (w2.alloc (.cells #[.int .i64 wd, .int .i64 sl', .slice A2 n c2] 24)) [(w2.heap.size, 24, #[.int .i64 wd, .int .i64 sl', .slice A2 n c2]), (W.heap.size, 24, #[.int .i64 wd, .int .i64 sl, .slice A n c])] from HK5.out.alloc 24 #[.int .i64 wd, .int .i64 sl', .slice A2 n c2])
    clear HK5
    have HW7 := Lib.hid (show WinAt (w2.alloc (.cells #[.int .i64 wd, .int .i64 sl', .slice A2 n c2] 24)) [w2.heap.size, W.heap.size] A n cs from HW4.out.alloc _)
    clear HW4
    have HW8 := Lib.hid (show WinAt (w2.alloc (.cells #[.int .i64 wd, .int .i64 sl', .slice A2 n c2] 24)) [w2.heap.size, W.heap.size] A2 n cs' from HN2.out.alloc _)
    clear HN2
    generalize w2.alloc (.cells #[.int .i64 wd, .int .i64 sl', .slice A2 n c2] 24) = v2 at HK6 HW7 HW8 ⊢
    clear hlt20
    with_reducible refine (Move_c wd sl' A2 n c2 v2.heap.size cs' a v2 HW8.out.rd (Nat.le_refl _) (by omega)).mono ?_
    rw [R4.out]
    rintro e w3 ⟨A3, n3, c3, rfl, hr3, hb3, hlo3⟩
    dsimp only at hr3
    have hx3 : n3 = n := by have := hr3.cell_len; omega
    subst n3
    have HN3 := Lib.hid (show WinAt w3 [w2.heap.size, W.heap.size] A3 n cz from HW8.out.res hb3.size hr3 hlo3 rfl)
    clear hr3 hlo3
    have HW9 := Lib.hid (show WinAt w3 [w2.heap.size, W.heap.size] A n cs from HW7.out.next hb3)
    clear HW7
    have HW10 := Lib.hid (show WinAt w3 [w2.heap.size, W.heap.size] A2 n cs' from HW8.out.next hb3)
    clear HW8
    have HK11 := Lib.hid (show Kept W w3 [(w2.heap.size, 24, #[.int .i64 wd, .int .i64 sl', .slice A2 n c2]), (W.heap.size, 24, #[.int .i64 wd, .int .i64 sl, .slice A n c])] from HK6.out.next hb3)
    clear HK6
    clear hb3
    have c_f_0 : w3.cell? ⟨W.heap.size, 0, none⟩ = some (.int .i64 wd) := HK11.out.cell 1 rfl 0
    have c_f_1 : w3.cell? ⟨W.heap.size, 1, none⟩ = some (.int .i64 sl) := HK11.out.cell 1 rfl 1
    have c_f_2 : w3.cell? ⟨W.heap.size, 2, none⟩ = some (.slice A n c) := HK11.out.cell 1 rfl 2
    have c_x_0 : w3.cell? ⟨w2.heap.size, 0, none⟩ = some (.int .i64 wd) := HK11.out.cell 0 rfl 0
    have c_x_1 : w3.cell? ⟨w2.heap.size, 1, none⟩ = some (.int .i64 sl') := HK11.out.cell 0 rfl 1
    have c_x_2 : w3.cell? ⟨w2.heap.size, 2, none⟩ = some (.slice A2 n c2) := HK11.out.cell 0 rfl 2
    have hlt30 := HK11.out.lt 0 rfl
    have hlt31 := HK11.out.lt 1 rfl
    go_wp2_with fail
    clear c_f_0 c_f_1 c_f_2 c_x_0 c_x_1 c_x_2
    have HK12 := Lib.hid (show Kept W (w3.alloc (.cells #[.int .i64 wd, .int .i64 sz, .slice A3 n c3] 24)) [(w3.heap.size, 24, #[.int .i64 wd, .int .i64 sz, .slice A3 n c3]), (w2.heap.size, 24, #[.int .i64 wd, .int .i64 sl', .slice A2 n c2]), (W.heap.size, 24, #[.int .i64 wd, .int .i64 sl, .slice A n c])] from HK11.out.alloc 24 #[.int .i64 wd, .int .i64 sz, .slice A3 n c3])
    clear HK11
    have HW13 := Lib.hid (show WinAt (w3.alloc (.cells #[.int .i64 wd, .int .i64 sz, .slice A3 n c3] 24)) [w3.heap.size, w2.heap.size, W.heap.size] A n cs from HW9.out.alloc _)
    clear HW9
    have HW14 := Lib.hid (show WinAt (w3.alloc (.cells #[.int .i64 wd, .int .i64 sz, .slice A3 n c3] 24)) [w3.heap.size, w2.heap.size, W.heap.size] A2 n cs' from HW10.out.alloc _)
    clear HW10
    have HW15 := Lib.hid (show WinAt (w3.alloc (.cells #[.int .i64 wd, .int .i64 sz, .slice A3 n c3] 24)) [w3.heap.size, w2.heap.size, W.heap.size] A3 n cz from HN3.out.alloc _)
    clear HN3
    generalize w3.alloc (.cells #[.int .i64 wd, .int .i64 sz, .slice A3 n c3] 24) = v3 at HK12 HW13 HW14 HW15 ⊢
    clear hlt30 hlt31
    with_reducible refine (Move_c wd sl A n c v3.heap.size cs a v3 HW13.out.rd (Nat.le_refl _) (by omega)).mono ?_
    rw [R5.out]
    rintro e w4 ⟨A4, n4, c4, rfl, hr4, hb4, hlo4⟩
    dsimp only at hr4
    have hx4 : n4 = n := by have := hr4.cell_len; omega
    subst n4
    have HN4 := Lib.hid (show WinAt w4 [w3.heap.size, w2.heap.size, W.heap.size] A4 n cz from HW13.out.res hb4.size hr4 hlo4 rfl)
    clear hr4 hlo4
    have HW16 := Lib.hid (show WinAt w4 [w3.heap.size, w2.heap.size, W.heap.size] A n cs from HW13.out.next hb4)
    clear HW13
    have HW17 := Lib.hid (show WinAt w4 [w3.heap.size, w2.heap.size, W.heap.size] A2 n cs' from HW14.out.next hb4)
    clear HW14
    have HW18 := Lib.hid (show WinAt w4 [w3.heap.size, w2.heap.size, W.heap.size] A3 n cz from HW15.out.next hb4)
    clear HW15
    have HK19 := Lib.hid (show Kept W w4 [(w3.heap.size, 24, #[.int .i64 wd, .int .i64 sz, .slice A3 n c3]), (w2.heap.size, 24, #[.int .i64 wd, .int .i64 sl', .slice A2 n c2]), (W.heap.size, 24, #[.int .i64 wd, .int .i64 sl, .slice A n c])] from HK12.out.next hb4)
    clear HK12
    clear hb4
    have c_f_0 : w4.cell? ⟨W.heap.size, 0, none⟩ = some (.int .i64 wd) := HK19.out.cell 2 rfl 0
    have c_f_1 : w4.cell? ⟨W.heap.size, 1, none⟩ = some (.int .i64 sl) := HK19.out.cell 2 rfl 1
    have c_f_2 : w4.cell? ⟨W.heap.size, 2, none⟩ = some (.slice A n c) := HK19.out.cell 2 rfl 2
    have c_x_0 : w4.cell? ⟨w2.heap.size, 0, none⟩ = some (.int .i64 wd) := HK19.out.cell 1 rfl 0
    have c_x_1 : w4.cell? ⟨w2.heap.size, 1, none⟩ = some (.int .i64 sl') := HK19.out.cell 1 rfl 1
    have c_x_2 : w4.cell? ⟨w2.heap.size, 2, none⟩ = some (.slice A2 n c2) := HK19.out.cell 1 rfl 2
    have c_y_0 : w4.cell? ⟨w3.heap.size, 0, none⟩ = some (.int .i64 wd) := HK19.out.cell 0 rfl 0
    have c_y_1 : w4.cell? ⟨w3.heap.size, 1, none⟩ = some (.int .i64 sz) := HK19.out.cell 0 rfl 1
    have c_y_2 : w4.cell? ⟨w3.heap.size, 2, none⟩ = some (.slice A3 n c3) := HK19.out.cell 0 rfl 2
    have hlt40 := HK19.out.lt 0 rfl
    have hlt41 := HK19.out.lt 1 rfl
    have hlt42 := HK19.out.lt 2 rfl
    go_wp2_with fail
    clear c_f_0 c_f_1 c_f_2 c_x_0 c_x_1 c_x_2 c_y_0 c_y_1 c_y_2
    have HK20 := Lib.hid (show Kept W (w4.alloc (.cells #[.int .i64 wd, .int .i64 sz, .slice A4 n c4] 24)) [(w4.heap.size, 24, #[.int .i64 wd, .int .i64 sz, .slice A4 n c4]), (w3.heap.size, 24, #[.int .i64 wd, .int .i64 sz, .slice A3 n c3]), (w2.heap.size, 24, #[.int .i64 wd, .int .i64 sl', .slice A2 n c2]), (W.heap.size, 24, #[.int .i64 wd, .int .i64 sl, .slice A n c])] from HK19.out.alloc 24 #[.int .i64 wd, .int .i64 sz, .slice A4 n c4])
    clear HK19
    have HW21 := Lib.hid (show WinAt (w4.alloc (.cells #[.int .i64 wd, .int .i64 sz, .slice A4 n c4] 24)) [w4.heap.size, w3.heap.size, w2.heap.size, W.heap.size] A n cs from HW16.out.alloc _)
    clear HW16
    have HW22 := Lib.hid (show WinAt (w4.alloc (.cells #[.int .i64 wd, .int .i64 sz, .slice A4 n c4] 24)) [w4.heap.size, w3.heap.size, w2.heap.size, W.heap.size] A2 n cs' from HW17.out.alloc _)
    clear HW17
    have HW23 := Lib.hid (show WinAt (w4.alloc (.cells #[.int .i64 wd, .int .i64 sz, .slice A4 n c4] 24)) [w4.heap.size, w3.heap.size, w2.heap.size, W.heap.size] A3 n cz from HW18.out.alloc _)
    clear HW18
    have HW24 := Lib.hid (show WinAt (w4.alloc (.cells #[.int .i64 wd, .int .i64 sz, .slice A4 n c4] 24)) [w4.heap.size, w3.heap.size, w2.heap.size, W.heap.size] A4 n cz from HN4.out.alloc _)
    clear HN4
    generalize w4.alloc (.cells #[.int .i64 wd, .int .i64 sz, .slice A4 n c4] 24) = v4 at HK20 HW21 HW22 HW23 HW24 ⊢
    clear hlt40 hlt41 hlt42
    with_reducible refine (wSame_c wd sz A3 n c3 cz wd sz A4 n c4 cz v4.heap.size _ HW23.out.rd HW24.out.rd (Nat.le_refl _) (by omega) (by omega)).mono ?_
    rw [sameW_self]
    rintro e w5 ⟨rfl, hb5⟩
    have HW25 := Lib.hid (show WinAt w5 [w4.heap.size, w3.heap.size, w2.heap.size, W.heap.size] A n cs from HW21.out.next hb5)
    clear HW21
    have HW26 := Lib.hid (show WinAt w5 [w4.heap.size, w3.heap.size, w2.heap.size, W.heap.size] A2 n cs' from HW22.out.next hb5)
    clear HW22
    have HW27 := Lib.hid (show WinAt w5 [w4.heap.size, w3.heap.size, w2.heap.size, W.heap.size] A3 n cz from HW23.out.next hb5)
    clear HW23
    have HW28 := Lib.hid (show WinAt w5 [w4.heap.size, w3.heap.size, w2.heap.size, W.heap.size] A4 n cz from HW24.out.next hb5)
    clear HW24
    have HK29 := Lib.hid (show Kept W w5 [(w4.heap.size, 24, #[.int .i64 wd, .int .i64 sz, .slice A4 n c4]), (w3.heap.size, 24, #[.int .i64 wd, .int .i64 sz, .slice A3 n c3]), (w2.heap.size, 24, #[.int .i64 wd, .int .i64 sl', .slice A2 n c2]), (W.heap.size, 24, #[.int .i64 wd, .int .i64 sl, .slice A n c])] from HK20.out.next hb5)
    clear HK20
    clear hb5
    have c_f_0 : w5.cell? ⟨W.heap.size, 0, none⟩ = some (.int .i64 wd) := HK29.out.cell 3 rfl 0
    have c_f_1 : w5.cell? ⟨W.heap.size, 1, none⟩ = some (.int .i64 sl) := HK29.out.cell 3 rfl 1
    have c_f_2 : w5.cell? ⟨W.heap.size, 2, none⟩ = some (.slice A n c) := HK29.out.cell 3 rfl 2
    go_wp2_with fail
    clear c_f_0 c_f_1 c_f_2
    with_reducible refine (Add_c wd sl A n c w5.heap.size cs a ok w5 HW25.out.rd (Nat.le_refl _) (by omega)).mono ?_
    rw [R2.out]
    rintro e w6 ⟨A6, n6, c6, rfl, hr6, hb6, hlo6⟩
    dsimp only at hr6
    have hx6 : n6 = n := by have := hr6.cell_len; omega
    subst n6
    have HN6 := Lib.hid (show WinAt w6 [w4.heap.size, w3.heap.size, w2.heap.size, W.heap.size] A6 n cs2 from HW25.out.res hb6.size hr6 hlo6 rfl)
    clear hr6 hlo6
    have HW30 := Lib.hid (show WinAt w6 [w4.heap.size, w3.heap.size, w2.heap.size, W.heap.size] A n cs from HW25.out.next hb6)
    clear HW25
    have HW31 := Lib.hid (show WinAt w6 [w4.heap.size, w3.heap.size, w2.heap.size, W.heap.size] A2 n cs' from HW26.out.next hb6)
    clear HW26
    have HW32 := Lib.hid (show WinAt w6 [w4.heap.size, w3.heap.size, w2.heap.size, W.heap.size] A3 n cz from HW27.out.next hb6)
    clear HW27
    have HW33 := Lib.hid (show WinAt w6 [w4.heap.size, w3.heap.size, w2.heap.size, W.heap.size] A4 n cz from HW28.out.next hb6)
    clear HW28
    have HK34 := Lib.hid (show Kept W w6 [(w4.heap.size, 24, #[.int .i64 wd, .int .i64 sz, .slice A4 n c4]), (w3.heap.size, 24, #[.int .i64 wd, .int .i64 sz, .slice A3 n c3]), (w2.heap.size, 24, #[.int .i64 wd, .int .i64 sl', .slice A2 n c2]), (W.heap.size, 24, #[.int .i64 wd, .int .i64 sl, .slice A n c])] from HK29.out.next hb6)
    clear HK29
    clear hb6
    have c_f_0 : w6.cell? ⟨W.heap.size, 0, none⟩ = some (.int .i64 wd) := HK34.out.cell 3 rfl 0
    have c_f_1 : w6.cell? ⟨W.heap.size, 1, none⟩ = some (.int .i64 sl) := HK34.out.cell 3 rfl 1
    have c_f_2 : w6.cell? ⟨W.heap.size, 2, none⟩ = some (.slice A n c) := HK34.out.cell 3 rfl 2
    have c_x_0 : w6.cell? ⟨w2.heap.size, 0, none⟩ = some (.int .i64 wd) := HK34.out.cell 2 rfl 0
    have c_x_1 : w6.cell? ⟨w2.heap.size, 1, none⟩ = some (.int .i64 sl') := HK34.out.cell 2 rfl 1
    have c_x_2 : w6.cell? ⟨w2.heap.size, 2, none⟩ = some (.slice A2 n c2) := HK34.out.cell 2 rfl 2
    have hlt60 := HK34.out.lt 0 rfl
    have hlt61 := HK34.out.lt 1 rfl
    have hlt62 := HK34.out.lt 2 rfl
    have hlt63 := HK34.out.lt 3 rfl
    go_wp2_with fail
    clear c_f_0 c_f_1 c_f_2 c_x_0 c_x_1 c_x_2
    have HK35 := Lib.hid (show Kept W (w6.alloc (.cells #[.int .i64 wd, .int .i64 sl', .slice A6 n c6] 24)) [(w6.heap.size, 24, #[.int .i64 wd, .int .i64 sl', .slice A6 n c6]), (w4.heap.size, 24, #[.int .i64 wd, .int .i64 sz, .slice A4 n c4]), (w3.heap.size, 24, #[.int .i64 wd, .int .i64 sz, .slice A3 n c3]), (w2.heap.size, 24, #[.int .i64 wd, .int .i64 sl', .slice A2 n c2]), (W.heap.size, 24, #[.int .i64 wd, .int .i64 sl, .slice A n c])] from HK34.out.alloc 24 #[.int .i64 wd, .int .i64 sl', .slice A6 n c6])
    clear HK34
    have HW36 := Lib.hid (show WinAt (w6.alloc (.cells #[.int .i64 wd, .int .i64 sl', .slice A6 n c6] 24)) [w6.heap.size, w4.heap.size, w3.heap.size, w2.heap.size, W.heap.size] A n cs from HW30.out.alloc _)
    clear HW30
    have HW37 := Lib.hid (show WinAt (w6.alloc (.cells #[.int .i64 wd, .int .i64 sl', .slice A6 n c6] 24)) [w6.heap.size, w4.heap.size, w3.heap.size, w2.heap.size, W.heap.size] A2 n cs' from HW31.out.alloc _)
    clear HW31
    have HW38 := Lib.hid (show WinAt (w6.alloc (.cells #[.int .i64 wd, .int .i64 sl', .slice A6 n c6] 24)) [w6.heap.size, w4.heap.size, w3.heap.size, w2.heap.size, W.heap.size] A3 n cz from HW32.out.alloc _)
    clear HW32
    have HW39 := Lib.hid (show WinAt (w6.alloc (.cells #[.int .i64 wd, .int .i64 sl', .slice A6 n c6] 24)) [w6.heap.size, w4.heap.size, w3.heap.size, w2.heap.size, W.heap.size] A4 n cz from HW33.out.alloc _)
    clear HW33
    have HW40 := Lib.hid (show WinAt (w6.alloc (.cells #[.int .i64 wd, .int .i64 sl', .slice A6 n c6] 24)) [w6.heap.size, w4.heap.size, w3.heap.size, w2.heap.size, W.heap.size] A6 n cs2 from HN6.out.alloc _)
    clear HN6
    generalize w6.alloc (.cells #[.int .i64 wd, .int .i64 sl', .slice A6 n c6] 24) = v6 at HK35 HW36 HW37 HW38 HW39 HW40 ⊢
    clear hlt60 hlt61 hlt62 hlt63
    with_reducible refine (Add_c wd sl' A2 n c2 v6.heap.size cs' a ok v6 HW37.out.rd (Nat.le_refl _) (by omega)).mono ?_
    rw [R3.out]
    rintro e w7 ⟨A7, n7, c7, rfl, hr7, hb7, hlo7⟩
    dsimp only at hr7
    have hx7 : n7 = n := by have := hr7.cell_len; omega
    subst n7
    have HN7 := Lib.hid (show WinAt w7 [w6.heap.size, w4.heap.size, w3.heap.size, w2.heap.size, W.heap.size] A7 n cs2 from HW37.out.res hb7.size hr7 hlo7 rfl)
    clear hr7 hlo7
    have HW41 := Lib.hid (show WinAt w7 [w6.heap.size, w4.heap.size, w3.heap.size, w2.heap.size, W.heap.size] A n cs from HW36.out.next hb7)
    clear HW36
    have HW42 := Lib.hid (show WinAt w7 [w6.heap.size, w4.heap.size, w3.heap.size, w2.heap.size, W.heap.size] A2 n cs' from HW37.out.next hb7)
    clear HW37
    have HW43 := Lib.hid (show WinAt w7 [w6.heap.size, w4.heap.size, w3.heap.size, w2.heap.size, W.heap.size] A3 n cz from HW38.out.next hb7)
    clear HW38
    have HW44 := Lib.hid (show WinAt w7 [w6.heap.size, w4.heap.size, w3.heap.size, w2.heap.size, W.heap.size] A4 n cz from HW39.out.next hb7)
    clear HW39
    have HW45 := Lib.hid (show WinAt w7 [w6.heap.size, w4.heap.size, w3.heap.size, w2.heap.size, W.heap.size] A6 n cs2 from HW40.out.next hb7)
    clear HW40
    have HK46 := Lib.hid (show Kept W w7 [(w6.heap.size, 24, #[.int .i64 wd, .int .i64 sl', .slice A6 n c6]), (w4.heap.size, 24, #[.int .i64 wd, .int .i64 sz, .slice A4 n c4]), (w3.heap.size, 24, #[.int .i64 wd, .int .i64 sz, .slice A3 n c3]), (w2.heap.size, 24, #[.int .i64 wd, .int .i64 sl', .slice A2 n c2]), (W.heap.size, 24, #[.int .i64 wd, .int .i64 sl, .slice A n c])] from HK35.out.next hb7)
    clear HK35
    clear hb7
    have c_f_0 : w7.cell? ⟨W.heap.size, 0, none⟩ = some (.int .i64 wd) := HK46.out.cell 4 rfl 0
    have c_f_1 : w7.cell? ⟨W.heap.size, 1, none⟩ = some (.int .i64 sl) := HK46.out.cell 4 rfl 1
    have c_f_2 : w7.cell? ⟨W.heap.size, 2, none⟩ = some (.slice A n c) := HK46.out.cell 4 rfl 2
    have c_x_0 : w7.cell? ⟨w2.heap.size, 0, none⟩ = some (.int .i64 wd) := HK46.out.cell 3 rfl 0
    have c_x_1 : w7.cell? ⟨w2.heap.size, 1, none⟩ = some (.int .i64 sl') := HK46.out.cell 3 rfl 1
    have c_x_2 : w7.cell? ⟨w2.heap.size, 2, none⟩ = some (.slice A2 n c2) := HK46.out.cell 3 rfl 2
    have c_p_0 : w7.cell? ⟨w6.heap.size, 0, none⟩ = some (.int .i64 wd) := HK46.out.cell 0 rfl 0
    have c_p_1 : w7.cell? ⟨w6.heap.size, 1, none⟩ = some (.int .i64 sl') := HK46.out.cell 0 rfl 1
    have c_p_2 : w7.cell? ⟨w6.heap.size, 2, none⟩ = some (.slice A6 n c6) := HK46.out.cell 0 rfl 2
    have hlt70 := HK46.out.lt 0 rfl
    have hlt71 := HK46.out.lt 1 rfl
    have hlt72 := HK46.out.lt 2 rfl
    have hlt73 := HK46.out.lt 3 rfl
    have hlt74 := HK46.out.lt 4 rfl
    go_wp2_with fail
    clear c_f_0 c_f_1 c_f_2 c_x_0 c_x_1 c_x_2 c_p_0 c_p_1 c_p_2
    have HK47 := Lib.hid (show Kept W (w7.alloc (.cells #[.int .i64 wd, .int .i64 sl', .slice A7 n c7] 24)) [(w7.heap.size, 24, #[.int .i64 wd, .int .i64 sl', .slice A7 n c7]), (w6.heap.size, 24, #[.int .i64 wd, .int .i64 sl', .slice A6 n c6]), (w4.heap.size, 24, #[.int .i64 wd, .int .i64 sz, .slice A4 n c4]), (w3.heap.size, 24, #[.int .i64 wd, .int .i64 sz, .slice A3 n c3]), (w2.heap.size, 24, #[.int .i64 wd, .int .i64 sl', .slice A2 n c2]), (W.heap.size, 24, #[.int .i64 wd, .int .i64 sl, .slice A n c])] from HK46.out.alloc 24 #[.int .i64 wd, .int .i64 sl', .slice A7 n c7])
    clear HK46
    have HW48 := Lib.hid (show WinAt (w7.alloc (.cells #[.int .i64 wd, .int .i64 sl', .slice A7 n c7] 24)) [w7.heap.size, w6.heap.size, w4.heap.size, w3.heap.size, w2.heap.size, W.heap.size] A n cs from HW41.out.alloc _)
    clear HW41
    have HW49 := Lib.hid (show WinAt (w7.alloc (.cells #[.int .i64 wd, .int .i64 sl', .slice A7 n c7] 24)) [w7.heap.size, w6.heap.size, w4.heap.size, w3.heap.size, w2.heap.size, W.heap.size] A2 n cs' from HW42.out.alloc _)
    clear HW42
    have HW50 := Lib.hid (show WinAt (w7.alloc (.cells #[.int .i64 wd, .int .i64 sl', .slice A7 n c7] 24)) [w7.heap.size, w6.heap.size, w4.heap.size, w3.heap.size, w2.heap.size, W.heap.size] A3 n cz from HW43.out.alloc _)
    clear HW43
    have HW51 := Lib.hid (show WinAt (w7.alloc (.cells #[.int .i64 wd, .int .i64 sl', .slice A7 n c7] 24)) [w7.heap.size, w6.heap.size, w4.heap.size, w3.heap.size, w2.heap.size, W.heap.size] A4 n cz from HW44.out.alloc _)
    clear HW44
    have HW52 := Lib.hid (show WinAt (w7.alloc (.cells #[.int .i64 wd, .int .i64 sl', .slice A7 n c7] 24)) [w7.heap.size, w6.heap.size, w4.heap.size, w3.heap.size, w2.heap.size, W.heap.size] A6 n cs2 from HW45.out.alloc _)
    clear HW45
    have HW53 := Lib.hid (show WinAt (w7.alloc (.cells #[.int .i64 wd, .int .i64 sl', .slice A7 n c7] 24)) [w7.heap.size, w6.heap.size, w4.heap.size, w3.heap.size, w2.heap.size, W.heap.size] A7 n cs2 from HN7.out.alloc _)
    clear HN7
    generalize w7.alloc (.cells #[.int .i64 wd, .int .i64 sl', .slice A7 n c7] 24) = v7 at HK47 HW48 HW49 HW50 HW51 HW52 HW53 ⊢
    clear hlt70 hlt71 hlt72 hlt73 hlt74
    with_reducible refine (wSame_c wd sl' A6 n c6 cs2 wd sl' A7 n c7 cs2 v7.heap.size _ HW52.out.rd HW53.out.rd (Nat.le_refl _) (by omega) (by omega)).mono ?_
    rw [sameW_self]
    rintro e w8 ⟨rfl, hb8⟩
    have HW54 := Lib.hid (show WinAt w8 [w7.heap.size, w6.heap.size, w4.heap.size, w3.heap.size, w2.heap.size, W.heap.size] A n cs from HW48.out.next hb8)
    clear HW48
    have HW55 := Lib.hid (show WinAt w8 [w7.heap.size, w6.heap.size, w4.heap.size, w3.heap.size, w2.heap.size, W.heap.size] A2 n cs' from HW49.out.next hb8)
    clear HW49
    have HW56 := Lib.hid (show WinAt w8 [w7.heap.size, w6.heap.size, w4.heap.size, w3.heap.size, w2.heap.size, W.heap.size] A3 n cz from HW50.out.next hb8)
    clear HW50
    have HW57 := Lib.hid (show WinAt w8 [w7.heap.size, w6.heap.size, w4.heap.size, w3.heap.size, w2.heap.size, W.heap.size] A4 n cz from HW51.out.next hb8)
    clear HW51
    have HW58 := Lib.hid (show WinAt w8 [w7.heap.size, w6.heap.size, w4.heap.size, w3.heap.size, w2.heap.size, W.heap.size] A6 n cs2 from HW52.out.next hb8)
    clear HW52
    have HW59 := Lib.hid (show WinAt w8 [w7.heap.size, w6.heap.size, w4.heap.size, w3.heap.size, w2.heap.size, W.heap.size] A7 n cs2 from HW53.out.next hb8)
    clear HW53
    have HK60 := Lib.hid (show Kept W w8 [(w7.heap.size, 24, #[.int .i64 wd, .int .i64 sl', .slice A7 n c7]), (w6.heap.size, 24, #[.int .i64 wd, .int .i64 sl', .slice A6 n c6]), (w4.heap.size, 24, #[.int .i64 wd, .int .i64 sz, .slice A4 n c4]), (w3.heap.size, 24, #[.int .i64 wd, .int .i64 sz, .slice A3 n c3]), (w2.heap.size, 24, #[.int .i64 wd, .int .i64 sl', .slice A2 n c2]), (W.heap.size, 24, #[.int .i64 wd, .int .i64 sl, .slice A n c])] from HK47.out.next hb8)
    clear HK47
    clear hb8
    have c_z_0 : w8.cell? ⟨w4.heap.size, 0, none⟩ = some (.int .i64 wd) := HK60.out.cell 2 rfl 0
    have c_z_1 : w8.cell? ⟨w4.heap.size, 1, none⟩ = some (.int .i64 sz) := HK60.out.cell 2 rfl 1
    have c_z_2 : w8.cell? ⟨w4.heap.size, 2, none⟩ = some (.slice A4 n c4) := HK60.out.cell 2 rfl 2
    go_wp2_with fail
    clear c_z_0 c_z_1 c_z_2
    with_reducible refine (Move_c wd sz A4 n c4 w8.heap.size cz a w8 HW57.out.rd (Nat.le_refl _) (by omega)).mono ?_
    rw [R6.out]
    rintro e w9 ⟨A9, n9, c9, rfl, hr9, hb9, hlo9⟩
    dsimp only at hr9
    have hx9 : n9 = n := by have := hr9.cell_len; omega
    subst n9
    have HN9 := Lib.hid (show WinAt w9 [w7.heap.size, w6.heap.size, w4.heap.size, w3.heap.size, w2.heap.size, W.heap.size] A9 n cz from HW57.out.res hb9.size hr9 hlo9 rfl)
    clear hr9 hlo9
    have HW61 := Lib.hid (show WinAt w9 [w7.heap.size, w6.heap.size, w4.heap.size, w3.heap.size, w2.heap.size, W.heap.size] A n cs from HW54.out.next hb9)
    clear HW54
    have HW62 := Lib.hid (show WinAt w9 [w7.heap.size, w6.heap.size, w4.heap.size, w3.heap.size, w2.heap.size, W.heap.size] A2 n cs' from HW55.out.next hb9)
    clear HW55
    have HW63 := Lib.hid (show WinAt w9 [w7.heap.size, w6.heap.size, w4.heap.size, w3.heap.size, w2.heap.size, W.heap.size] A3 n cz from HW56.out.next hb9)
    clear HW56
    have HW64 := Lib.hid (show WinAt w9 [w7.heap.size, w6.heap.size, w4.heap.size, w3.heap.size, w2.heap.size, W.heap.size] A4 n cz from HW57.out.next hb9)
    clear HW57
    have HW65 := Lib.hid (show WinAt w9 [w7.heap.size, w6.heap.size, w4.heap.size, w3.heap.size, w2.heap.size, W.heap.size] A6 n cs2 from HW58.out.next hb9)
    clear HW58
    have HW66 := Lib.hid (show WinAt w9 [w7.heap.size, w6.heap.size, w4.heap.size, w3.heap.size, w2.heap.size, W.heap.size] A7 n cs2 from HW59.out.next hb9)
    clear HW59
    have HK67 := Lib.hid (show Kept W w9 [(w7.heap.size, 24, #[.int .i64 wd, .int .i64 sl', .slice A7 n c7]), (w6.heap.size, 24, #[.int .i64 wd, .int .i64 sl', .slice A6 n c6]), (w4.heap.size, 24, #[.int .i64 wd, .int .i64 sz, .slice A4 n c4]), (w3.heap.size, 24, #[.int .i64 wd, .int .i64 sz, .slice A3 n c3]), (w2.heap.size, 24, #[.int .i64 wd, .int .i64 sl', .slice A2 n c2]), (W.heap.size, 24, #[.int .i64 wd, .int .i64 sl, .slice A n c])] from HK60.out.next hb9)
    clear HK60
    clear hb9
    have c_z_0 : w9.cell? ⟨w4.heap.size, 0, none⟩ = some (.int .i64 wd) := HK67.out.cell 2 rfl 0
    have c_z_1 : w9.cell? ⟨w4.heap.size, 1, none⟩ = some (.int .i64 sz) := HK67.out.cell 2 rfl 1
    have c_z_2 : w9.cell? ⟨w4.heap.size, 2, none⟩ = some (.slice A4 n c4) := HK67.out.cell 2 rfl 2
    have hlt90 := HK67.out.lt 0 rfl
    have hlt91 := HK67.out.lt 1 rfl
    have hlt92 := HK67.out.lt 2 rfl
    have hlt93 := HK67.out.lt 3 rfl
    have hlt94 := HK67.out.lt 4 rfl
    have hlt95 := HK67.out.lt 5 rfl
    go_wp2_with fail
    clear c_z_0 c_z_1 c_z_2
    have HK68 := Lib.hid (show Kept W (w9.alloc (.cells #[.int .i64 wd, .int .i64 sz, .slice A9 n c9] 24)) [(w9.heap.size, 24, #[.int .i64 wd, .int .i64 sz, .slice A9 n c9]), (w7.heap.size, 24, #[.int .i64 wd, .int .i64 sl', .slice A7 n c7]), (w6.heap.size, 24, #[.int .i64 wd, .int .i64 sl', .slice A6 n c6]), (w4.heap.size, 24, #[.int .i64 wd, .int .i64 sz, .slice A4 n c4]), (w3.heap.size, 24, #[.int .i64 wd, .int .i64 sz, .slice A3 n c3]), (w2.heap.size, 24, #[.int .i64 wd, .int .i64 sl', .slice A2 n c2]), (W.heap.size, 24, #[.int .i64 wd, .int .i64 sl, .slice A n c])] from HK67.out.alloc 24 #[.int .i64 wd, .int .i64 sz, .slice A9 n c9])
    clear HK67
    have HW69 := Lib.hid (show WinAt (w9.alloc (.cells #[.int .i64 wd, .int .i64 sz, .slice A9 n c9] 24)) [w9.heap.size, w7.heap.size, w6.heap.size, w4.heap.size, w3.heap.size, w2.heap.size, W.heap.size] A n cs from HW61.out.alloc _)
    clear HW61
    have HW70 := Lib.hid (show WinAt (w9.alloc (.cells #[.int .i64 wd, .int .i64 sz, .slice A9 n c9] 24)) [w9.heap.size, w7.heap.size, w6.heap.size, w4.heap.size, w3.heap.size, w2.heap.size, W.heap.size] A2 n cs' from HW62.out.alloc _)
    clear HW62
    have HW71 := Lib.hid (show WinAt (w9.alloc (.cells #[.int .i64 wd, .int .i64 sz, .slice A9 n c9] 24)) [w9.heap.size, w7.heap.size, w6.heap.size, w4.heap.size, w3.heap.size, w2.heap.size, W.heap.size] A3 n cz from HW63.out.alloc _)
    clear HW63
    have HW72 := Lib.hid (show WinAt (w9.alloc (.cells #[.int .i64 wd, .int .i64 sz, .slice A9 n c9] 24)) [w9.heap.size, w7.heap.size, w6.heap.size, w4.heap.size, w3.heap.size, w2.heap.size, W.heap.size] A4 n cz from HW64.out.alloc _)
    clear HW64
    have HW73 := Lib.hid (show WinAt (w9.alloc (.cells #[.int .i64 wd, .int .i64 sz, .slice A9 n c9] 24)) [w9.heap.size, w7.heap.size, w6.heap.size, w4.heap.size, w3.heap.size, w2.heap.size, W.heap.size] A6 n cs2 from HW65.out.alloc _)
    clear HW65
    have HW74 := Lib.hid (show WinAt (w9.alloc (.cells #[.int .i64 wd, .int .i64 sz, .slice A9 n c9] 24)) [w9.heap.size, w7.heap.size, w6.heap.size, w4.heap.size, w3.heap.size, w2.heap.size, W.heap.size] A7 n cs2 from HW66.out.alloc _)
    clear HW66
    have HW75 := Lib.hid (show WinAt (w9.alloc (.cells #[.int .i64 wd, .int .i64 sz, .slice A9 n c9] 24)) [w9.heap.size, w7.heap.size, w6.heap.size, w4.heap.size, w3.heap.size, w2.heap.size, W.heap.size] A9 n cz from HN9.out.alloc _)
    clear HN9
    generalize w9.alloc (.cells #[.int .i64 wd, .int .i64 sz, .slice A9 n c9] 24) = v9 at HK68 HW69 HW70 HW71 HW72 HW73 HW74 HW75 ⊢
    clear hlt90 hlt91 hlt92 hlt93 hlt94 hlt95
    with_reducible refine (wSame_c wd sz A9 n c9 cz wd sz A4 n c4 cz v9.heap.size _ HW75.out.rd HW72.out.rd (Nat.le_refl _) (by omega) (by omega)).mono ?_
    rw [sameW_self]
    rintro e w10 ⟨rfl, hb10⟩
    have HW76 := Lib.hid (show WinAt w10 [w9.heap.size, w7.heap.size, w6.heap.size, w4.heap.size, w3.heap.size, w2.heap.size, W.heap.size] A n cs from HW69.out.next hb10)
    clear HW69
    have HW77 := Lib.hid (show WinAt w10 [w9.heap.size, w7.heap.size, w6.heap.size, w4.heap.size, w3.heap.size, w2.heap.size, W.heap.size] A2 n cs' from HW70.out.next hb10)
    clear HW70
    have HW78 := Lib.hid (show WinAt w10 [w9.heap.size, w7.heap.size, w6.heap.size, w4.heap.size, w3.heap.size, w2.heap.size, W.heap.size] A3 n cz from HW71.out.next hb10)
    clear HW71
    have HW79 := Lib.hid (show WinAt w10 [w9.heap.size, w7.heap.size, w6.heap.size, w4.heap.size, w3.heap.size, w2.heap.size, W.heap.size] A4 n cz from HW72.out.next hb10)
    clear HW72
    have HW80 := Lib.hid (show WinAt w10 [w9.heap.size, w7.heap.size, w6.heap.size, w4.heap.size, w3.heap.size, w2.heap.size, W.heap.size] A6 n cs2 from HW73.out.next hb10)
    clear HW73
    have HW81 := Lib.hid (show WinAt w10 [w9.heap.size, w7.heap.size, w6.heap.size, w4.heap.size, w3.heap.size, w2.heap.size, W.heap.size] A7 n cs2 from HW74.out.next hb10)
    clear HW74
    have HW82 := Lib.hid (show WinAt w10 [w9.heap.size, w7.heap.size, w6.heap.size, w4.heap.size, w3.heap.size, w2.heap.size, W.heap.size] A9 n cz from HW75.out.next hb10)
    clear HW75
    have HK83 := Lib.hid (show Kept W w10 [(w9.heap.size, 24, #[.int .i64 wd, .int .i64 sz, .slice A9 n c9]), (w7.heap.size, 24, #[.int .i64 wd, .int .i64 sl', .slice A7 n c7]), (w6.heap.size, 24, #[.int .i64 wd, .int .i64 sl', .slice A6 n c6]), (w4.heap.size, 24, #[.int .i64 wd, .int .i64 sz, .slice A4 n c4]), (w3.heap.size, 24, #[.int .i64 wd, .int .i64 sz, .slice A3 n c3]), (w2.heap.size, 24, #[.int .i64 wd, .int .i64 sl', .slice A2 n c2]), (W.heap.size, 24, #[.int .i64 wd, .int .i64 sl, .slice A n c])] from HK68.out.next hb10)
    clear HK68
    clear hb10
    go_wp2
    go_ret
    exact ⟨rfl, HK83.out.bel⟩
theorem WindowMoves_walk (wd sl : Int) (A : Option Addr) (n c : Nat) (cs : List (Int × Int)) (a b : Int) (ok : Bool) (W : World) (h : CellArg W A n c cs) : Calls Try.prog 5 #[.agg (winA wd sl A n c), .int .i64 a, .int .i64 b, .bool ok] W fun e w' => e = .returned (.bool true) ∧ Below W.heap.size W w' := by
  rcases Int.lt_trichotomy a b with hab | rfl | hab
  · exact WindowMoves_walk1 wd sl A n c cs a b ok W h hab
  · exact WindowMoves_walk3 wd sl A n c cs a ok W h
  · exact WindowMoves_walk2 wd sl A n c cs a b ok W h hab
end Go.Proofs.Ytmkjfpmailihjaa
