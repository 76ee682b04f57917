/- The contract of window.Add. -/
import Derived.Test.YtmkjfpmailihjaaWin7
namespace Go.Proofs.Ytmkjfpmailihjaa
set_option linter.unusedVariables false
open Go.RowKit Go.ChangeShapes

/-- one more of what went well, or wrong. -/
def bump (ok : Bool) (e : Int × Int) : Int × Int := if ok = true then (up e.1 1, e.2) else (e.1, up e.2 1)
def addR (wd sl : Int) (cs : List (Int × Int)) (a : Int) (ok : Bool) : Wr :=
  if (moveR wd sl cs a).err = 0 then (if a / wd ≤ (moveR wd sl cs a).sl - (moveR wd sl cs a).cs.length then moveR wd sl cs a else ⟨wd, (moveR wd sl cs a).sl, (moveR wd sl cs a).cs.set (a / wd % (moveR wd sl cs a).cs.length).toNat (bump ok ((moveR wd sl cs a).cs.getD (a / wd % (moveR wd sl cs a).cs.length).toNat (0, 0))), 0⟩) else moveR wd sl cs a
theorem rightW_iff {wd sl : Int} {cs : List (Int × Int)} : rightW wd sl cs = true ↔ (1 ≤ wd ∧ wd ≤ 2147483647 ∧ 0 ≤ sl ∧ sl ≤ 1099511627776 ∧ 1 ≤ cs.length ∧ cs.length ≤ 16) ∧ ∀ e ∈ cs, wrongB e = false := by
  unfold rightW
  rw [Bool.and_eq_true, decide_eq_true_eq]
  simp
theorem moved_right {cs : List (Int × Int)} {sl to : Int} (h : ∀ e ∈ cs, wrongB e = false) : ∀ e ∈ moved cs sl to, wrongB e = false := by
  intro e he
  unfold moved at he
  rw [List.mem_map] at he
  obtain ⟨i, hi, rfl⟩ := he
  rw [List.mem_range] at hi
  split
  · rfl
  · refine h _ ?_
    rw [List.getD_eq_getElem?_getD, List.getElem?_eq_getElem hi]
    exact List.getElem_mem hi
theorem moveR_good {wd sl a : Int} {cs : List (Int × Int)} (h1 : rightW wd sl cs = true) (h2 : timeB a = true) : ∃ sl' cs', moveR wd sl cs a = ⟨wd, sl', cs', 0⟩ ∧ cs'.length = cs.length ∧ sl ≤ sl' ∧ a / wd ≤ sl' ∧ rightW wd sl' cs' = true ∧ (sl' = sl ∧ cs' = cs ∧ a / wd ≤ sl ∨ sl' = a / wd ∧ cs' = moved cs sl (a / wd) ∧ sl < a / wd) := by
  by_cases h : a / wd ≤ sl
  · exact ⟨sl, cs, moveR_back h1 h2 h, rfl, Int.le_refl _, h, h1, .inl ⟨rfl, rfl, h⟩⟩
  · refine ⟨a / wd, moved cs sl (a / wd), moveR_on h1 h2 h, moved_length .., by omega, Int.le_refl _, ?_, .inr ⟨rfl, rfl, by omega⟩⟩
    obtain ⟨g, g2⟩ := rightW_iff.1 h1
    obtain ⟨t1, t2⟩ := timeB_facts h2
    have hd1 : 0 ≤ a / wd := Int.ediv_nonneg t1 (by omega)
    have hd2 : a / wd ≤ 1099511627776 := Int.le_trans (Int.ediv_le_self wd t1) t2
    exact rightW_iff.2 ⟨by rw [moved_length]; omega, moved_right g2⟩
theorem addR_bad {wd sl a : Int} {cs : List (Int × Int)} {ok : Bool} (h : (rightW wd sl cs && timeB a) = false) : addR wd sl cs a ok = ⟨wd, sl, cs, 1⟩ := by unfold addR; rw [moveR_bad h]; rfl
theorem addR_late {wd sl a sl' : Int} {cs cs' : List (Int × Int)} {ok : Bool} (hm : moveR wd sl cs a = ⟨wd, sl', cs', 0⟩) (h : a / wd ≤ sl' - cs'.length) : addR wd sl cs a ok = ⟨wd, sl', cs', 0⟩ := by unfold addR; rw [hm, if_pos rfl, if_pos h]
theorem addR_ok {wd sl a sl' : Int} {cs cs' : List (Int × Int)} {ok : Bool} (hm : moveR wd sl cs a = ⟨wd, sl', cs', 0⟩) (h : ¬ a / wd ≤ sl' - cs'.length) : addR wd sl cs a ok = ⟨wd, sl', cs'.set (a / wd % cs'.length).toNat (bump ok (cs'.getD (a / wd % cs'.length).toNat (0, 0))), 0⟩ := by unfold addR; rw [hm, if_pos rfl, if_neg h]
theorem cellCells_set0 : ∀ (cs : List (Int × Int)) (i : Nat) (x y x' : Int), cs[i]? = some (x, y) → (cellCells cs).set (i * 2) (.int .i64 x') = cellCells (cs.set i (x', y))
  | [], i, x, y, _, h => by simp at h
  | e :: l, 0, x, y, x', h => by simp at h; subst h; rw [cellCells_cons, List.set_cons_zero, cellCells_cons]; simp
  | e :: l, i + 1, x, y, x', h => by
    rw [cellCells_cons, List.set_cons_succ, cellCells_cons, ← cellCells_set0 l i x y x' (by simpa using h), show (i + 1) * 2 = i * 2 + 2 from by omega]
    simp
theorem cellCells_set1 : ∀ (cs : List (Int × Int)) (i : Nat) (x y y' : Int), cs[i]? = some (x, y) → (cellCells cs).set (i * 2 + 1) (.int .i64 y') = cellCells (cs.set i (x, y'))
  | [], i, x, y, _, h => by simp at h
  | e :: l, 0, x, y, y', h => by simp at h; subst h; rw [cellCells_cons, List.set_cons_zero, cellCells_cons]; simp
  | e :: l, i + 1, x, y, y', h => by
    rw [cellCells_cons, List.set_cons_succ, cellCells_cons, ← cellCells_set1 l i x y y' (by simpa using h), show (i + 1) * 2 + 1 = i * 2 + 1 + 2 from by omega]
    simp
theorem own_put {W : World} {base g n cap j : Nat} {cs cs' : List (Int × Int)} {u : Value} (h : W.ownsRow base 40 2 (.slice (some ⟨g, 0, none⟩) n cap) n (cellCells cs)) (hs : (cellCells cs).set j u = cellCells cs') :
    (W.setCell ⟨g, j, none⟩ u).ownsRow base 40 2 (.slice (some ⟨g, 0, none⟩) n cap) n (cellCells cs') := by
  have hlen := h.1
  rcases h.2 with ⟨e, _⟩ | ⟨g', cap', cur, hv, hb, hg, h1, h2, h3, h4⟩
  · cases e
  · injection hv with e1 e2 e3
    injection e1 with e1
    injection e1 with e1
    subst e1 e3
    refine ⟨by rw [← hs, List.length_set, hlen], .inr ⟨g, cap, cur.setIfInBounds j u, rfl, hb, Blk.set_ (t := 40) hg j _, h1, h2, by simp [h3], ?_⟩⟩
    rw [← hs, ← h4]
    simp only [Array.toList_setIfInBounds]
    rw [List.take_set]
theorem Add_res {W : World} {g : Nat} {x0 x1 x2 : Value} (h : Blk W g 24 #[x0, x1, x2]) (tmps : Array Value) (u : Value) (ht : tmps[6]?.getD undef = .pointer (some ⟨g, 0, none⟩)) (hu : tmps[7]?.getD undef = u) : (results Try.f14 tmps).run Try.prog W = .ok (.tuple #[.agg #[x0, x1, x2], u]) W := by
  have c0 : W.cell? ⟨g, 0, none⟩ = some x0 := h.cell 0
  have c1 : W.cell? ⟨g, 1, none⟩ = some x1 := h.cell 1
  have c2 : W.cell? ⟨g, 2, none⟩ = some x2 := h.cell 2
  simp [results, Try.results14, go_sem, ht, hu, c0, c1, c2]

set_option maxRecDepth 100000 in
set_option maxHeartbeats 4000000 in
theorem Add_c (wd sl : Int) (A : Option Addr) (n c B : Nat) (cs : List (Int × Int)) (a : Int) (ok : Bool) (W : World) (hr : Reads W B 2 A n (cellCells cs)) (hB : B ≤ W.heap.size) (hn : n ≤ 9223372036854775807) : Calls Try.prog 14 #[.agg (winA wd sl A n c), .int .i64 a, .bool ok] W (WinOk A W (addR wd sl cs a ok)) := by
  have HR := Lib.hid hr
  have HL := Lib.hid hr.cell_len
  clear hr
  have HK1 := Lib.hid (show Kept W ((W.alloc (.cells #[.int .i64 wd, .int .i64 sl, .slice A n c] 24)).alloc (.cells #[.int .i64 0, .int .i64 0, .slice none 0 0] 24)) [(W.heap.size + 1, 24, #[.int .i64 0, .int .i64 0, .slice none 0 0]), (W.heap.size, 24, #[.int .i64 wd, .int .i64 sl, .slice A n c])] from (((Kept.start W).alloc_at 24 #[.int .i64 wd, .int .i64 sl, .slice A n c] (W.heap.size) (by simp)).alloc_at 24 #[.int .i64 0, .int .i64 0, .slice none 0 0] (W.heap.size + 1) (by simp)))
  by_cases hg : (rightW wd sl cs && timeB a) = false
  · have HE := Lib.hid (addR_bad (ok := ok) hg)
    go_enter Try.func14, Try.ntmps14
    go_wp2_with fail
    with_reducible refine (Move_c wd sl A n c B cs a _ (HR.out.below (HK1.out.bel.mono hB)) (Nat.le_trans hB HK1.out.size) hn).mono ?_
    rw [moveR_bad hg]
    clear hg
    rintro e w1 ⟨A1, n1, c1, rfl, hr1, hb1, hlo⟩
    have HR1 := Lib.hid hr1
    have hn1 : n1 = n := by have h1 := hr1.cell_len; have h2 := HL.out; simp only at h1; omega
    subst n1
    clear hr1
    have HLO := Lib.hid (show ∀ ad, A1 = some ad → A1 = A ∨ W.heap.size + 2 ≤ ad.block from fun ad e => by
      rcases hlo ad e with h | h
      · exact .inl h
      · simp at h; exact .inr (by omega))
    clear hlo
    have HNF := Lib.hid (show 0 < n → ∀ ad, A1 = some ad → ad.block ≠ W.heap.size from fun h ad e => by
      rcases HLO.out ad e with h' | h'
      · rw [h'] at e; have := HR.out.lo h ad e; omega
      · omega)
    have HNR := Lib.hid (show 0 < n → ∀ ad, A1 = some ad → ad.block ≠ W.heap.size + 1 from fun h ad e => by
      rcases HLO.out ad e with h' | h'
      · rw [h'] at e; have := HR.out.lo h ad e; omega
      · omega)
    have HLB := Lib.hid (show ∀ ad, A1 = some ad → A1 = A ∨ W.heap.size ≤ ad.block from fun ad e => (HLO.out ad e).imp id (fun h => by omega))
    have HK2 := Lib.hid (show Kept W w1 [(W.heap.size + 1, 24, #[.int .i64 0, .int .i64 0, .slice none 0 0]), (W.heap.size, 24, #[.int .i64 wd, .int .i64 sl, .slice A n c])] from HK1.out.next hb1)
    clear HK1
    clear hb1
    have c_f_0 : w1.cell? ⟨W.heap.size, 0, none⟩ = some (.int .i64 wd) := HK2.out.cell 1 rfl 0
    have z_f_0 : w1.frozen? ⟨W.heap.size, 0, none⟩ = false := HK2.out.frozen 1 rfl 0
    have c_f_1 : w1.cell? ⟨W.heap.size, 1, none⟩ = some (.int .i64 sl) := HK2.out.cell 1 rfl 1
    have z_f_1 : w1.frozen? ⟨W.heap.size, 1, none⟩ = false := HK2.out.frozen 1 rfl 1
    have c_f_2 : w1.cell? ⟨W.heap.size, 2, none⟩ = some (.slice A n c) := HK2.out.cell 1 rfl 2
    have z_f_2 : w1.frozen? ⟨W.heap.size, 2, none⟩ = false := HK2.out.frozen 1 rfl 2
    have c_r_0 : w1.cell? ⟨W.heap.size + 1, 0, none⟩ = some (.int .i64 0) := HK2.out.cell 0 rfl 0
    have z_r_0 : w1.frozen? ⟨W.heap.size + 1, 0, none⟩ = false := HK2.out.frozen 0 rfl 0
    have c_r_1 : w1.cell? ⟨W.heap.size + 1, 1, none⟩ = some (.int .i64 0) := HK2.out.cell 0 rfl 1
    have z_r_1 : w1.frozen? ⟨W.heap.size + 1, 1, none⟩ = false := HK2.out.frozen 0 rfl 1
    have c_r_2 : w1.cell? ⟨W.heap.size + 1, 2, none⟩ = some (.slice none 0 0) := HK2.out.cell 0 rfl 2
    have z_r_2 : w1.frozen? ⟨W.heap.size + 1, 2, none⟩ = false := HK2.out.frozen 0 rfl 2
    go_wp2
    exact bodyPost_ret (Add_res (put3 ((((HK2.out.set_ 1 rfl 0 (.int .i64 wd)).set_ 1 rfl 1 (.int .i64 sl)).set_ 1 rfl 2 (.slice A1 n c1)).blk 0 rfl)) _ (.int .i64 1) rfl rfl) rfl (WinOk.of HE.out ⟨A1, n, c1, rfl, by simp only [World.size_setCell]; exact reads_put3 (reads_put3 HR1.out HNF.out) HNR.out, put3_below (((HK2.out.set_ 1 rfl 0 (.int .i64 wd)).set_ 1 rfl 1 (.int .i64 sl)).set_ 1 rfl 2 (.slice A1 n c1)).bel (by omega), HLB.out⟩)
  have hg' : (rightW wd sl cs && timeB a) = true := by simpa using hg
  rw [Bool.and_eq_true] at hg'
  obtain ⟨hg1, hg2⟩ := hg'
  obtain ⟨sl', cs', hm, hl', h1, h2, h3, -⟩ := moveR_good hg1 hg2
  obtain ⟨⟨r1, r2, r3, r4, r5, r6⟩, -⟩ := rightW_iff.1 h3
  rw [hl'] at r5 r6
  have HL' := Lib.hid hl'
  rw [HL.out] at r5 r6 hl'
  obtain ⟨t1, t2⟩ := timeB_facts hg2
  have HLate := Lib.hid (addR_late (ok := ok) hm)
  have HGo := Lib.hid (addR_ok (ok := ok) hm)
  rw [hl'] at HLate HGo
  clear hg hg1 hg2 h3
  have hqq := quo_in (a := a) (wd := wd) t1 t2 r1
  have hw0 : ¬ wd = 0 := by omega
  have hq : (wd == 0) = false := by rw [beq_eq_false_iff_ne]; omega
  have hd1 : 0 ≤ a / wd := Int.ediv_nonneg t1 (by omega)
  go_enter Try.func14, Try.ntmps14
  go_wp2_with fail
  with_reducible refine (Move_c wd sl A n c B cs a _ (HR.out.below (HK1.out.bel.mono hB)) (Nat.le_trans hB HK1.out.size) hn).mono ?_
  rw [hm]
  rintro e w1 ⟨A1, n1, c1, rfl, hr1, hb1, hlo⟩
  have HR1 := Lib.hid hr1
  have hn1 : n1 = n := by have := hr1.cell_len; simp only at this; omega
  subst n1
  clear hr1 hm
  dsimp only at HR1
  generalize a / wd = to at h2 HLate HGo hqq hd1
  have HLO := Lib.hid (show ∀ ad, A1 = some ad → A1 = A ∨ W.heap.size + 2 ≤ ad.block from fun ad e => by
    rcases hlo ad e with h | h
    · exact .inl h
    · simp at h; exact .inr (by omega))
  clear hlo
  have HNF := Lib.hid (show 0 < n → ∀ ad, A1 = some ad → ad.block ≠ W.heap.size from fun h ad e => by
    rcases HLO.out ad e with h' | h'
    · rw [h'] at e; have := HR.out.lo h ad e; omega
    · omega)
  have HNR := Lib.hid (show 0 < n → ∀ ad, A1 = some ad → ad.block ≠ W.heap.size + 1 from fun h ad e => by
    rcases HLO.out ad e with h' | h'
    · rw [h'] at e; have := HR.out.lo h ad e; omega
    · omega)
  have HLB := Lib.hid (show ∀ ad, A1 = some ad → A1 = A ∨ W.heap.size ≤ ad.block from fun ad e => (HLO.out ad e).imp id (fun h => by omega))
  have HK2 := Lib.hid (show Kept W w1 [(W.heap.size + 1, 24, #[.int .i64 0, .int .i64 0, .slice none 0 0]), (W.heap.size, 24, #[.int .i64 wd, .int .i64 sl, .slice A n c])] from HK1.out.next hb1)
  clear HK1
  clear hb1
  have c_f_0 : w1.cell? ⟨W.heap.size, 0, none⟩ = some (.int .i64 wd) := HK2.out.cell 1 rfl 0
  have z_f_0 : w1.frozen? ⟨W.heap.size, 0, none⟩ = false := HK2.out.frozen 1 rfl 0
  have c_f_1 : w1.cell? ⟨W.heap.size, 1, none⟩ = some (.int .i64 sl) := HK2.out.cell 1 rfl 1
  have z_f_1 : w1.frozen? ⟨W.heap.size, 1, none⟩ = false := HK2.out.frozen 1 rfl 1
  have c_f_2 : w1.cell? ⟨W.heap.size, 2, none⟩ = some (.slice A n c) := HK2.out.cell 1 rfl 2
  have z_f_2 : w1.frozen? ⟨W.heap.size, 2, none⟩ = false := HK2.out.frozen 1 rfl 2
  have c_r_0 : w1.cell? ⟨W.heap.size + 1, 0, none⟩ = some (.int .i64 0) := HK2.out.cell 0 rfl 0
  have z_r_0 : w1.frozen? ⟨W.heap.size + 1, 0, none⟩ = false := HK2.out.frozen 0 rfl 0
  have c_r_1 : w1.cell? ⟨W.heap.size + 1, 1, none⟩ = some (.int .i64 0) := HK2.out.cell 0 rfl 1
  have z_r_1 : w1.frozen? ⟨W.heap.size + 1, 1, none⟩ = false := HK2.out.frozen 0 rfl 1
  have c_r_2 : w1.cell? ⟨W.heap.size + 1, 2, none⟩ = some (.slice none 0 0) := HK2.out.cell 0 rfl 2
  have z_r_2 : w1.frozen? ⟨W.heap.size + 1, 2, none⟩ = false := HK2.out.frozen 0 rfl 2
  by_cases hle : to ≤ sl' - (n : Int)
  · have dle : decide (to ≤ sl' - (n : Int)) = true := by simpa using hle
    have HE := Lib.hid (HLate.out (by omega))
    clear HLate HGo
    go_wp2
    exact bodyPost_ret (Add_res (put3 ((((HK2.out.set_ 1 rfl 0 (.int .i64 wd)).set_ 1 rfl 1 (.int .i64 sl')).set_ 1 rfl 2 (.slice A1 n c1)).blk 0 rfl)) _ (.int .i64 0) rfl rfl) rfl (WinOk.of HE.out ⟨A1, n, c1, rfl, by simp only [World.size_setCell]; exact reads_put3 (reads_put3 HR1.out HNF.out) HNR.out, put3_below (((HK2.out.set_ 1 rfl 0 (.int .i64 wd)).set_ 1 rfl 1 (.int .i64 sl')).set_ 1 rfl 2 (.slice A1 n c1)).bel (by omega), HLB.out⟩)
  have dle : decide (to ≤ sl' - (n : Int)) = false := by simpa using hle
  have HE := Lib.hid (HGo.out (by omega))
  clear HLate HGo
  go_wp2_with fail
  clear c_f_0 z_f_0 c_f_1 z_f_1 c_f_2 z_f_2 c_r_0 z_r_0 c_r_1 z_r_1 c_r_2 z_r_2
  have HK3 := Lib.hid (show Kept W (w1.setCell ⟨W.heap.size, 0, none⟩ (.int .i64 wd)) [(W.heap.size + 1, 24, #[.int .i64 0, .int .i64 0, .slice none 0 0]), (W.heap.size, 24, #[.int .i64 wd, .int .i64 sl, .slice A n c])] from HK2.out.set_ 1 rfl 0 (.int .i64 wd))
  clear HK2
  have HK4 := Lib.hid (show Kept W ((w1.setCell ⟨W.heap.size, 0, none⟩ (.int .i64 wd)).setCell ⟨W.heap.size, 1, none⟩ (.int .i64 sl')) [(W.heap.size + 1, 24, #[.int .i64 0, .int .i64 0, .slice none 0 0]), (W.heap.size, 24, #[.int .i64 wd, .int .i64 sl', .slice A n c])] from HK3.out.set_ 1 rfl 1 (.int .i64 sl'))
  clear HK3
  have HK5 := Lib.hid (show Kept W (((w1.setCell ⟨W.heap.size, 0, none⟩ (.int .i64 wd)).setCell ⟨W.heap.size, 1, none⟩ (.int .i64 sl')).setCell ⟨W.heap.size, 2, none⟩ (.slice A1 n c1)) [(W.heap.size + 1, 24, #[.int .i64 0, .int .i64 0, .slice none 0 0]), (W.heap.size, 24, #[.int .i64 wd, .int .i64 sl', .slice A1 n c1])] from HK4.out.set_ 1 rfl 2 (.slice A1 n c1))
  clear HK4
  have HR2 := Lib.hid (show Reads (((w1.setCell ⟨W.heap.size, 0, none⟩ (.int .i64 wd)).setCell ⟨W.heap.size, 1, none⟩ (.int .i64 sl')).setCell ⟨W.heap.size, 2, none⟩ (.slice A1 n c1)) w1.heap.size 2 A1 n (cellCells cs') from reads_put3 HR1.out HNF.out)
  clear HR1
  have hz2 : ((((w1.setCell ⟨W.heap.size, 0, none⟩ (.int .i64 wd)).setCell ⟨W.heap.size, 1, none⟩ (.int .i64 sl')).setCell ⟨W.heap.size, 2, none⟩ (.slice A1 n c1))).heap.size = w1.heap.size := by simp only [World.size_setCell]
  generalize ((w1.setCell ⟨W.heap.size, 0, none⟩ (.int .i64 wd)).setCell ⟨W.heap.size, 1, none⟩ (.int .i64 sl')).setCell ⟨W.heap.size, 2, none⟩ (.slice A1 n c1) = w2 at HK5 HR2 hz2 ⊢
  with_reducible refine (CloneC_c A1 n c1 w2.heap.size cs' _ (HR2.out.more (by omega)) (Nat.le_refl _) (by omega)).mono ?_
  rintro e w3 ⟨v3, rfl, hown3, hb3⟩
  obtain ⟨g3, cap3, rfl, hg3, hg3l⟩ := hown3.form (by omega)
  have HO3 := Lib.hid (ownsRow_base (base' := W.heap.size + 2) hown3 (HK5.out.lt 0 rfl))
  clear hown3 dle HR2 HLO HNF HNR HLB hz2
  have HK6 := Lib.hid (show Kept W w3 [(W.heap.size + 1, 24, #[.int .i64 0, .int .i64 0, .slice none 0 0]), (W.heap.size, 24, #[.int .i64 wd, .int .i64 sl', .slice A1 n c1])] from HK5.out.next hb3)
  clear HK5
  clear hb3
  have c_r_0 : w3.cell? ⟨W.heap.size + 1, 0, none⟩ = some (.int .i64 0) := HK6.out.cell 0 rfl 0
  have c_r_1 : w3.cell? ⟨W.heap.size + 1, 1, none⟩ = some (.int .i64 0) := HK6.out.cell 0 rfl 1
  have c_r_2 : w3.cell? ⟨W.heap.size + 1, 2, none⟩ = some (.slice none 0 0) := HK6.out.cell 0 rfl 2
  have c_f_0 : w3.cell? ⟨W.heap.size, 0, none⟩ = some (.int .i64 wd) := HK6.out.cell 1 rfl 0
  have z_f_0 : w3.frozen? ⟨W.heap.size, 0, none⟩ = false := HK6.out.frozen 1 rfl 0
  have c_f_1 : w3.cell? ⟨W.heap.size, 1, none⟩ = some (.int .i64 sl') := HK6.out.cell 1 rfl 1
  have z_f_1 : w3.frozen? ⟨W.heap.size, 1, none⟩ = false := HK6.out.frozen 1 rfl 1
  have c_f_2 : w3.cell? ⟨W.heap.size, 2, none⟩ = some (.slice A1 n c1) := HK6.out.cell 1 rfl 2
  have z_f_2 : w3.frozen? ⟨W.heap.size, 2, none⟩ = false := HK6.out.frozen 1 rfl 2
  go_wp2_with fail
  clear c_r_0 c_r_1 c_r_2 c_f_0 z_f_0 c_f_1 z_f_1 c_f_2 z_f_2
  have HG := Lib.hid (own_ge HO3.out g3 rfl)
  have HO4 := Lib.hid (own_setCell HO3.out (p := ⟨W.heap.size, 2, none⟩) (by simp [Value.ownBlock]; have := HG.out; omega) (.slice (some ⟨g3, 0, none⟩) n cap3))
  have hsz4 := HG.out.2
  have HK7 := Lib.hid (show Kept W (w3.setCell ⟨W.heap.size, 2, none⟩ (.slice (some ⟨g3, 0, none⟩) n cap3)) [(W.heap.size + 1, 24, #[.int .i64 0, .int .i64 0, .slice none 0 0]), (W.heap.size, 24, #[.int .i64 wd, .int .i64 sl', .slice (some ⟨g3, 0, none⟩) n cap3])] from HK6.out.set_ 1 rfl 2 (.slice (some ⟨g3, 0, none⟩) n cap3))
  clear HK6
  clear HO3
  generalize w3.setCell ⟨W.heap.size, 2, none⟩ (.slice (some ⟨g3, 0, none⟩) n cap3) = w4 at HK7 HO4 ⊢
  have i1 : (0 : Int) ≤ to % (n : Int) := Int.emod_nonneg _ (by omega)
  have i2 : to % (n : Int) < (n : Int) := Int.emod_lt_of_pos _ (by omega)
  have hin : (to % (n : Int)).toNat < n := by omega
  have hn0 : ¬ n = 0 := by omega
  have htm : to.tmod (n : Int) = to % (n : Int) := Int.tmod_eq_emod_of_nonneg hd1
  obtain ⟨x, y, q0, q1, q2, q3, hx⟩ := own_cell HO4.out hin
  rw [getD_of_get hx] at HE
  have HX := Lib.hid hx
  clear hx hsz4
  generalize to % (n : Int) = ix at i1 i2 hin HE HX htm q0 q1 q2 q3
  refine wp_region_noPanic ?_
  refine wp_region_held_drew (S := fun W' => Kept W W' [(W.heap.size + 1, 24, #[.int .i64 0, .int .i64 0, .slice none 0 0]), (W.heap.size, 24, #[.int .i64 wd, .int .i64 sl', .slice (some ⟨g3, 0, none⟩) n cap3])]) (by kernel_rfl) HK7.out.drew (fun hHeld => ?_)
  refine takeH 0 (v := ?v0u16) rfl (by kernel_rfl) (by kernel_rfl) (by kernel_rfl) rfl (fun _ _ _ h => h) (Or.inl ⟨by rfl, ?y0u16⟩) hHeld ?r0u16
  case y0u16 => (intro W hSW; (try dsimp only at hSW); go_simp; try with_reducible rfl)
  simp only [Act.put, List.setIfInBounds_toArray, List.set_cons_zero, List.set_cons_succ]
  refine takeH 1 (v := ?v1u17) rfl (by kernel_rfl) (by kernel_rfl) (by kernel_rfl) rfl (fun _ _ _ h => h) (Or.inl ⟨by rfl, ?y1u17⟩) hHeld ?r1u17
  case y1u17 => (intro W hSW; (try dsimp only at hSW); have q0 := hSW.cell 1 rfl 2; simp only [List.getElem?_toArray, List.getElem?_cons_zero, List.getElem?_cons_succ] at q0; go_simp; try with_reducible rfl)
  simp only [Act.put, List.setIfInBounds_toArray, List.set_cons_zero, List.set_cons_succ]
  refine takeH 2 (v := ?v2u18) rfl (by kernel_rfl) (by kernel_rfl) (by kernel_rfl) rfl (fun _ _ _ h => h) (Or.inl ⟨by rfl, ?y2u18⟩) hHeld ?r2u18
  case y2u18 => (intro W hSW; (try dsimp only at hSW); go_simp; try with_reducible rfl)
  simp only [Act.put, List.setIfInBounds_toArray, List.set_cons_zero, List.set_cons_succ]
  refine takeH 3 (v := ?v3u19) rfl (by kernel_rfl) (by kernel_rfl) (by kernel_rfl) rfl (fun _ _ _ h => h) (Or.inl ⟨by rfl, ?y3u19⟩) hHeld ?r3u19
  case y3u19 => (intro W hSW; (try dsimp only at hSW); go_simp; try with_reducible rfl)
  simp only [Act.put, List.setIfInBounds_toArray, List.set_cons_zero, List.set_cons_succ]
  refine takeH 4 (v := ?v4u20) rfl (by kernel_rfl) (by kernel_rfl) (by kernel_rfl) rfl (fun _ _ _ h => h) (Or.inl ⟨by rfl, ?y4u20⟩) hHeld ?r4u20
  case y4u20 => (intro W hSW; (try dsimp only at hSW); go_simp; try with_reducible rfl)
  simp only [Act.put, List.setIfInBounds_toArray, List.set_cons_zero, List.set_cons_succ]
  refine takeH 5 (v := ?v5u21) rfl (by kernel_rfl) (by kernel_rfl) (by kernel_rfl) rfl (fun _ _ _ h => h) (Or.inl ⟨by rfl, ?y5u21⟩) hHeld ?r5u21
  case y5u21 => (intro W hSW; (try dsimp only at hSW); go_simp; try with_reducible rfl)
  simp only [Act.put, List.setIfInBounds_toArray, List.set_cons_zero, List.set_cons_succ]
  refine takeH 6 (v := ?v6u22) rfl (by kernel_rfl) (by kernel_rfl) (by kernel_rfl) rfl (fun _ _ _ h => h) (Or.inl ⟨by rfl, ?y6u22⟩) hHeld ?r6u22
  case y6u22 => (intro W hSW; (try dsimp only at hSW); go_simp; try with_reducible rfl)
  simp only [Act.put, List.setIfInBounds_toArray, List.set_cons_zero, List.set_cons_succ]
  refine wpAnyH_done (by kernel_rfl) ?_ _
  refine NoPanic.normal ?_
  clear hHeld
  have HKd := Lib.hid (HK7.out.drew)
  have HO5 := Lib.hid (show w4.drew.ownsRow (W.heap.size + 2) 40 2 (.slice (some ⟨g3, 0, none⟩) n cap3) n (cellCells cs') from HO4.out)
  replace q0 : w4.drew.cell? _ = _ := q0
  replace q1 : w4.drew.cell? _ = _ := q1
  replace q2 : w4.drew.frozen? _ = _ := q2
  replace q3 : w4.drew.frozen? _ = _ := q3
  clear HO4 HK7
  generalize w4.drew = w5 at HKd HO5 q0 q1 q2 q3 ⊢
  cases ok
  · have c_f_0 : w5.cell? ⟨W.heap.size, 0, none⟩ = some (.int .i64 wd) := HKd.out.cell 1 rfl 0
    have c_f_1 : w5.cell? ⟨W.heap.size, 1, none⟩ = some (.int .i64 sl') := HKd.out.cell 1 rfl 1
    have c_f_2 : w5.cell? ⟨W.heap.size, 2, none⟩ = some (.slice (some ⟨g3, 0, none⟩) n cap3) := HKd.out.cell 1 rfl 2
    have c_r_0 : w5.cell? ⟨W.heap.size + 1, 0, none⟩ = some (.int .i64 0) := HKd.out.cell 0 rfl 0
    have z_r_0 : w5.frozen? ⟨W.heap.size + 1, 0, none⟩ = false := HKd.out.frozen 0 rfl 0
    have c_r_1 : w5.cell? ⟨W.heap.size + 1, 1, none⟩ = some (.int .i64 0) := HKd.out.cell 0 rfl 1
    have z_r_1 : w5.frozen? ⟨W.heap.size + 1, 1, none⟩ = false := HKd.out.frozen 0 rfl 1
    have c_r_2 : w5.cell? ⟨W.heap.size + 1, 2, none⟩ = some (.slice none 0 0) := HKd.out.cell 0 rfl 2
    have z_r_2 : w5.frozen? ⟨W.heap.size + 1, 2, none⟩ = false := HKd.out.frozen 0 rfl 2
    go_wp2_with fail
    refine (Up_c _ _ _).mono ?_
    rintro e w6 ⟨rfl, rfl⟩
    have HO6 := Lib.hid (own_put HO5.out (cellCells_set1 cs' ix.toNat x y (up y 1) HX.out))
    have HK6 := Lib.hid (HKd.out.put_off (p := ⟨g3, ix.toNat * 2 + 1, none⟩) (by simp; have := HG.out; omega) (by intro x hx; simp at hx; have := HG.out; rcases hx with rfl | rfl <;> simp <;> omega) (.int .i64 (up y 1)))
    clear c_f_0 c_f_1 c_f_2 c_r_0 z_r_0 c_r_1 z_r_1 c_r_2 z_r_2
    rw [show bump false (x, y) = (x, up y 1) from rfl] at HE
    have hrz := Reads.of_own HO6.out
    simp only [World.size_setCell] at hrz
    have HRz := Lib.hid hrz
    clear hrz
    have HNz := Lib.hid (show 0 < n → ∀ ad, some (⟨g3, 0, none⟩ : Addr) = some ad → ad.block ≠ W.heap.size + 1 from fun _ ad e => by injection e with e; subst e; have := HG.out; simp; omega)
    have c_f_0 : (w5.setCell ⟨g3, ix.toNat * 2 + 1, none⟩ (.int .i64 (up y 1))).cell? ⟨W.heap.size, 0, none⟩ = some (.int .i64 wd) := HK6.out.cell 1 rfl 0
    have c_f_1 : (w5.setCell ⟨g3, ix.toNat * 2 + 1, none⟩ (.int .i64 (up y 1))).cell? ⟨W.heap.size, 1, none⟩ = some (.int .i64 sl') := HK6.out.cell 1 rfl 1
    have c_f_2 : (w5.setCell ⟨g3, ix.toNat * 2 + 1, none⟩ (.int .i64 (up y 1))).cell? ⟨W.heap.size, 2, none⟩ = some (.slice (some ⟨g3, 0, none⟩) n cap3) := HK6.out.cell 1 rfl 2
    have c_r_0 : (w5.setCell ⟨g3, ix.toNat * 2 + 1, none⟩ (.int .i64 (up y 1))).cell? ⟨W.heap.size + 1, 0, none⟩ = some (.int .i64 0) := HK6.out.cell 0 rfl 0
    have z_r_0 : (w5.setCell ⟨g3, ix.toNat * 2 + 1, none⟩ (.int .i64 (up y 1))).frozen? ⟨W.heap.size + 1, 0, none⟩ = false := HK6.out.frozen 0 rfl 0
    have c_r_1 : (w5.setCell ⟨g3, ix.toNat * 2 + 1, none⟩ (.int .i64 (up y 1))).cell? ⟨W.heap.size + 1, 1, none⟩ = some (.int .i64 0) := HK6.out.cell 0 rfl 1
    have z_r_1 : (w5.setCell ⟨g3, ix.toNat * 2 + 1, none⟩ (.int .i64 (up y 1))).frozen? ⟨W.heap.size + 1, 1, none⟩ = false := HK6.out.frozen 0 rfl 1
    have c_r_2 : (w5.setCell ⟨g3, ix.toNat * 2 + 1, none⟩ (.int .i64 (up y 1))).cell? ⟨W.heap.size + 1, 2, none⟩ = some (.slice none 0 0) := HK6.out.cell 0 rfl 2
    have z_r_2 : (w5.setCell ⟨g3, ix.toNat * 2 + 1, none⟩ (.int .i64 (up y 1))).frozen? ⟨W.heap.size + 1, 2, none⟩ = false := HK6.out.frozen 0 rfl 2
    go_wp2
    exact bodyPost_ret (Add_res (put3 (HK6.out.blk 0 rfl)) _ (.int .i64 0) rfl rfl) rfl (WinOk.of HE.out ⟨_, n, cap3, rfl, by simp only [World.size_setCell]; exact reads_put3 HRz.out HNz.out, put3_below HK6.out.bel (by omega), fun ad e => .inr (by injection e with e; subst e; have := HG.out; simp; omega)⟩)
  · have c_f_0 : w5.cell? ⟨W.heap.size, 0, none⟩ = some (.int .i64 wd) := HKd.out.cell 1 rfl 0
    have c_f_1 : w5.cell? ⟨W.heap.size, 1, none⟩ = some (.int .i64 sl') := HKd.out.cell 1 rfl 1
    have c_f_2 : w5.cell? ⟨W.heap.size, 2, none⟩ = some (.slice (some ⟨g3, 0, none⟩) n cap3) := HKd.out.cell 1 rfl 2
    have c_r_0 : w5.cell? ⟨W.heap.size + 1, 0, none⟩ = some (.int .i64 0) := HKd.out.cell 0 rfl 0
    have z_r_0 : w5.frozen? ⟨W.heap.size + 1, 0, none⟩ = false := HKd.out.frozen 0 rfl 0
    have c_r_1 : w5.cell? ⟨W.heap.size + 1, 1, none⟩ = some (.int .i64 0) := HKd.out.cell 0 rfl 1
    have z_r_1 : w5.frozen? ⟨W.heap.size + 1, 1, none⟩ = false := HKd.out.frozen 0 rfl 1
    have c_r_2 : w5.cell? ⟨W.heap.size + 1, 2, none⟩ = some (.slice none 0 0) := HKd.out.cell 0 rfl 2
    have z_r_2 : w5.frozen? ⟨W.heap.size + 1, 2, none⟩ = false := HKd.out.frozen 0 rfl 2
    go_wp2_with fail
    refine (Up_c _ _ _).mono ?_
    rintro e w6 ⟨rfl, rfl⟩
    have HO6 := Lib.hid (own_put HO5.out (cellCells_set0 cs' ix.toNat x y (up x 1) HX.out))
    have HK6 := Lib.hid (HKd.out.put_off (p := ⟨g3, ix.toNat * 2, none⟩) (by simp; have := HG.out; omega) (by intro x hx; simp at hx; have := HG.out; rcases hx with rfl | rfl <;> simp <;> omega) (.int .i64 (up x 1)))
    clear c_f_0 c_f_1 c_f_2 c_r_0 z_r_0 c_r_1 z_r_1 c_r_2 z_r_2
    rw [show bump true (x, y) = (up x 1, y) from rfl] at HE
    have hrz := Reads.of_own HO6.out
    simp only [World.size_setCell] at hrz
    have HRz := Lib.hid hrz
    clear hrz
    have HNz := Lib.hid (show 0 < n → ∀ ad, some (⟨g3, 0, none⟩ : Addr) = some ad → ad.block ≠ W.heap.size + 1 from fun _ ad e => by injection e with e; subst e; have := HG.out; simp; omega)
    have c_f_0 : (w5.setCell ⟨g3, ix.toNat * 2, none⟩ (.int .i64 (up x 1))).cell? ⟨W.heap.size, 0, none⟩ = some (.int .i64 wd) := HK6.out.cell 1 rfl 0
    have c_f_1 : (w5.setCell ⟨g3, ix.toNat * 2, none⟩ (.int .i64 (up x 1))).cell? ⟨W.heap.size, 1, none⟩ = some (.int .i64 sl') := HK6.out.cell 1 rfl 1
    have c_f_2 : (w5.setCell ⟨g3, ix.toNat * 2, none⟩ (.int .i64 (up x 1))).cell? ⟨W.heap.size, 2, none⟩ = some (.slice (some ⟨g3, 0, none⟩) n cap3) := HK6.out.cell 1 rfl 2
    have c_r_0 : (w5.setCell ⟨g3, ix.toNat * 2, none⟩ (.int .i64 (up x 1))).cell? ⟨W.heap.size + 1, 0, none⟩ = some (.int .i64 0) := HK6.out.cell 0 rfl 0
    have z_r_0 : (w5.setCell ⟨g3, ix.toNat * 2, none⟩ (.int .i64 (up x 1))).frozen? ⟨W.heap.size + 1, 0, none⟩ = false := HK6.out.frozen 0 rfl 0
    have c_r_1 : (w5.setCell ⟨g3, ix.toNat * 2, none⟩ (.int .i64 (up x 1))).cell? ⟨W.heap.size + 1, 1, none⟩ = some (.int .i64 0) := HK6.out.cell 0 rfl 1
    have z_r_1 : (w5.setCell ⟨g3, ix.toNat * 2, none⟩ (.int .i64 (up x 1))).frozen? ⟨W.heap.size + 1, 1, none⟩ = false := HK6.out.frozen 0 rfl 1
    have c_r_2 : (w5.setCell ⟨g3, ix.toNat * 2, none⟩ (.int .i64 (up x 1))).cell? ⟨W.heap.size + 1, 2, none⟩ = some (.slice none 0 0) := HK6.out.cell 0 rfl 2
    have z_r_2 : (w5.setCell ⟨g3, ix.toNat * 2, none⟩ (.int .i64 (up x 1))).frozen? ⟨W.heap.size + 1, 2, none⟩ = false := HK6.out.frozen 0 rfl 2
    go_wp2
    exact bodyPost_ret (Add_res (put3 (HK6.out.blk 0 rfl)) _ (.int .i64 0) rfl rfl) rfl (WinOk.of HE.out ⟨_, n, cap3, rfl, by simp only [World.size_setCell]; exact reads_put3 HRz.out HNz.out, put3_below HK6.out.bel (by omega), fun ad e => .inr (by injection e with e; subst e; have := HG.out; simp; omega)⟩)
end Go.Proofs.Ytmkjfpmailihjaa
