/- The contract of the reference's Add. -/
import Derived.Test.YtmkjfpmailihjaaWin8
import Derived.StillTailTactics
namespace Go.Proofs.Ytmkjfpmailihjaa
set_option linter.unusedVariables false
open Go.RowKit Go.ChangeShapes

theorem rAdd_res {W : World} {g : Nat} {x0 x1 x2 : Value} (h : Blk W g 24 #[x0, x1, x2]) (tmps : Array Value) (u : Value) (ht : tmps[6]?.getD undef = .pointer (some ⟨g, 0, none⟩)) (hu : tmps[7]?.getD undef = u) : (results Try.f15 tmps).run Try.prog W = .ok (.tuple #[.agg #[x0, x1, x2], u]) W := by
  have c0 : W.cell? ⟨g, 0, none⟩ = some x0 := h.cell 0
  have c1 : W.cell? ⟨g, 1, none⟩ = some x1 := h.cell 1
  have c2 : W.cell? ⟨g, 2, none⟩ = some x2 := h.cell 2
  simp [results, Try.results15, go_sem, ht, hu, c0, c1, c2]

set_option maxRecDepth 100000 in
set_option maxHeartbeats 4000000 in
theorem rAdd_c (wd sl : Int) (A : Option Addr) (n c B : Nat) (cs : List (Int × Int)) (a : Int) (ok : Bool) (W : World) (hr : Reads W B 2 A n (cellCells cs)) (hB : B ≤ W.heap.size) (hn : n ≤ 9223372036854775807) : Calls Try.prog 15 #[.agg (winA wd sl A n c), .int .i64 a, .bool ok] W (WinOk A W (addR wd sl cs a ok)) := by
  have HR := Lib.hid hr
  have HL := Lib.hid hr.cell_len
  clear hr
  have HK1 := Lib.hid (show Kept W ((W.alloc (.cells #[.int .i64 wd, .int .i64 sl, .slice A n c] 24)).alloc (.cells #[.int .i64 0, .int .i64 0, .slice none 0 0] 24)) [(W.heap.size + 1, 24, #[.int .i64 0, .int .i64 0, .slice none 0 0]), (W.heap.size, 24, #[.int .i64 wd, .int .i64 sl, .slice A n c])] from (((Kept.start W).alloc_at 24 #[.int .i64 wd, .int .i64 sl, .slice A n c] (W.heap.size) (by simp)).alloc_at 24 #[.int .i64 0, .int .i64 0, .slice none 0 0] (W.heap.size + 1) (by simp)))
  by_cases hg : (rightW wd sl cs && timeB a) = false
  · have HE := Lib.hid (addR_bad (ok := ok) hg)
    go_enter Try.func15, Try.ntmps15
    go_wp2_with fail
    with_reducible refine (rMove_c wd sl A n c B cs a _ (HR.out.below (HK1.out.bel.mono hB)) (Nat.le_trans hB HK1.out.size) hn).mono ?_
    rw [moveR_bad hg]
    clear hg
    rintro e w1 ⟨A1, n1, c1, rfl, hr1, hb1, hlo⟩
    have HR1 := Lib.hid hr1
    have hn1 : n1 = n := by have h1 := hr1.cell_len; have h2 := HL.out; simp only at h1; omega
    subst n1
    clear hr1
    have HLO := Lib.hid (show ∀ ad, A1 = some ad → A1 = A ∨ W.heap.size + 2 ≤ ad.block from fun ad e => by
      rcases hlo ad e with h | h
      · exact .inl h
      · simp at h; exact .inr (by omega))
    clear hlo
    have HNF := Lib.hid (show 0 < n → ∀ ad, A1 = some ad → ad.block ≠ W.heap.size from fun h ad e => by
      rcases HLO.out ad e with h' | h'
      · rw [h'] at e; have := HR.out.lo h ad e; omega
      · omega)
    have HNR := Lib.hid (show 0 < n → ∀ ad, A1 = some ad → ad.block ≠ W.heap.size + 1 from fun h ad e => by
      rcases HLO.out ad e with h' | h'
      · rw [h'] at e; have := HR.out.lo h ad e; omega
      · omega)
    have HLB := Lib.hid (show ∀ ad, A1 = some ad → A1 = A ∨ W.heap.size ≤ ad.block from fun ad e => (HLO.out ad e).imp id (fun h => by omega))
    have HK2 := Lib.hid (show Kept W w1 [(W.heap.size + 1, 24, #[.int .i64 0, .int .i64 0, .slice none 0 0]), (W.heap.size, 24, #[.int .i64 wd, .int .i64 sl, .slice A n c])] from HK1.out.next hb1)
    clear HK1
    clear hb1
    have c_f_0 : w1.cell? ⟨W.heap.size, 0, none⟩ = some (.int .i64 wd) := HK2.out.cell 1 rfl 0
    have z_f_0 : w1.frozen? ⟨W.heap.size, 0, none⟩ = false := HK2.out.frozen 1 rfl 0
    have c_f_1 : w1.cell? ⟨W.heap.size, 1, none⟩ = some (.int .i64 sl) := HK2.out.cell 1 rfl 1
    have z_f_1 : w1.frozen? ⟨W.heap.size, 1, none⟩ = false := HK2.out.frozen 1 rfl 1
    have c_f_2 : w1.cell? ⟨W.heap.size, 2, none⟩ = some (.slice A n c) := HK2.out.cell 1 rfl 2
    have z_f_2 : w1.frozen? ⟨W.heap.size, 2, none⟩ = false := HK2.out.frozen 1 rfl 2
    have c_r_0 : w1.cell? ⟨W.heap.size + 1, 0, none⟩ = some (.int .i64 0) := HK2.out.cell 0 rfl 0
    have z_r_0 : w1.frozen? ⟨W.heap.size + 1, 0, none⟩ = false := HK2.out.frozen 0 rfl 0
    have c_r_1 : w1.cell? ⟨W.heap.size + 1, 1, none⟩ = some (.int .i64 0) := HK2.out.cell 0 rfl 1
    have z_r_1 : w1.frozen? ⟨W.heap.size + 1, 1, none⟩ = false := HK2.out.frozen 0 rfl 1
    have c_r_2 : w1.cell? ⟨W.heap.size + 1, 2, none⟩ = some (.slice none 0 0) := HK2.out.cell 0 rfl 2
    have z_r_2 : w1.frozen? ⟨W.heap.size + 1, 2, none⟩ = false := HK2.out.frozen 0 rfl 2
    go_wp2
    exact bodyPost_ret (rAdd_res (put3 ((((HK2.out.set_ 1 rfl 0 (.int .i64 wd)).set_ 1 rfl 1 (.int .i64 sl)).set_ 1 rfl 2 (.slice A1 n c1)).blk 0 rfl)) _ (.int .i64 1) rfl rfl) rfl (WinOk.of HE.out ⟨A1, n, c1, rfl, by simp only [World.size_setCell]; exact reads_put3 (reads_put3 HR1.out HNF.out) HNR.out, put3_below (((HK2.out.set_ 1 rfl 0 (.int .i64 wd)).set_ 1 rfl 1 (.int .i64 sl)).set_ 1 rfl 2 (.slice A1 n c1)).bel (by omega), HLB.out⟩)
  have hg' : (rightW wd sl cs && timeB a) = true := by simpa using hg
  rw [Bool.and_eq_true] at hg'
  obtain ⟨hg1, hg2⟩ := hg'
  obtain ⟨sl', cs', hm, hl', h1, h2, h3, -⟩ := moveR_good hg1 hg2
  obtain ⟨⟨r1, r2, r3, r4, r5, r6⟩, -⟩ := rightW_iff.1 h3
  rw [hl'] at r5 r6
  have HL' := Lib.hid hl'
  rw [HL.out] at r5 r6 hl'
  obtain ⟨t1, t2⟩ := timeB_facts hg2
  have HLate := Lib.hid (addR_late (ok := ok) hm)
  have HGo := Lib.hid (addR_ok (ok := ok) hm)
  rw [hl'] at HLate HGo
  clear hg hg1 hg2 h3
  have hqq := quo_in (a := a) (wd := wd) t1 t2 r1
  have hw0 : ¬ wd = 0 := by omega
  have hq : (wd == 0) = false := by rw [beq_eq_false_iff_ne]; omega
  have hd1 : 0 ≤ a / wd := Int.ediv_nonneg t1 (by omega)
  go_enter Try.func15, Try.ntmps15
  go_wp2_with fail
  with_reducible refine (rMove_c wd sl A n c B cs a _ (HR.out.below (HK1.out.bel.mono hB)) (Nat.le_trans hB HK1.out.size) hn).mono ?_
  rw [hm]
  rintro e w1 ⟨A1, n1, c1, rfl, hr1, hb1, hlo⟩
  have HR1 := Lib.hid hr1
  have hn1 : n1 = n := by have := hr1.cell_len; simp only at this; omega
  subst n1
  clear hr1 hm
  dsimp only at HR1
  generalize a / wd = to at h2 HLate HGo hqq hd1
  have HLO := Lib.hid (show ∀ ad, A1 = some ad → A1 = A ∨ W.heap.size + 2 ≤ ad.block from fun ad e => by
    rcases hlo ad e with h | h
    · exact .inl h
    · simp at h; exact .inr (by omega))
  clear hlo
  have HNF := Lib.hid (show 0 < n → ∀ ad, A1 = some ad → ad.block ≠ W.heap.size from fun h ad e => by
    rcases HLO.out ad e with h' | h'
    · rw [h'] at e; have := HR.out.lo h ad e; omega
    · omega)
  have HNR := Lib.hid (show 0 < n → ∀ ad, A1 = some ad → ad.block ≠ W.heap.size + 1 from fun h ad e => by
    rcases HLO.out ad e with h' | h'
    · rw [h'] at e; have := HR.out.lo h ad e; omega
    · omega)
  have HLB := Lib.hid (show ∀ ad, A1 = some ad → A1 = A ∨ W.heap.size ≤ ad.block from fun ad e => (HLO.out ad e).imp id (fun h => by omega))
  have HK2 := Lib.hid (show Kept W w1 [(W.heap.size + 1, 24, #[.int .i64 0, .int .i64 0, .slice none 0 0]), (W.heap.size, 24, #[.int .i64 wd, .int .i64 sl, .slice A n c])] from HK1.out.next hb1)
  clear HK1
  clear hb1
  have c_f_0 : w1.cell? ⟨W.heap.size, 0, none⟩ = some (.int .i64 wd) := HK2.out.cell 1 rfl 0
  have z_f_0 : w1.frozen? ⟨W.heap.size, 0, none⟩ = false := HK2.out.frozen 1 rfl 0
  have c_f_1 : w1.cell? ⟨W.heap.size, 1, none⟩ = some (.int .i64 sl) := HK2.out.cell 1 rfl 1
  have z_f_1 : w1.frozen? ⟨W.heap.size, 1, none⟩ = false := HK2.out.frozen 1 rfl 1
  have c_f_2 : w1.cell? ⟨W.heap.size, 2, none⟩ = some (.slice A n c) := HK2.out.cell 1 rfl 2
  have z_f_2 : w1.frozen? ⟨W.heap.size, 2, none⟩ = false := HK2.out.frozen 1 rfl 2
  have c_r_0 : w1.cell? ⟨W.heap.size + 1, 0, none⟩ = some (.int .i64 0) := HK2.out.cell 0 rfl 0
  have z_r_0 : w1.frozen? ⟨W.heap.size + 1, 0, none⟩ = false := HK2.out.frozen 0 rfl 0
  have c_r_1 : w1.cell? ⟨W.heap.size + 1, 1, none⟩ = some (.int .i64 0) := HK2.out.cell 0 rfl 1
  have z_r_1 : w1.frozen? ⟨W.heap.size + 1, 1, none⟩ = false := HK2.out.frozen 0 rfl 1
  have c_r_2 : w1.cell? ⟨W.heap.size + 1, 2, none⟩ = some (.slice none 0 0) := HK2.out.cell 0 rfl 2
  have z_r_2 : w1.frozen? ⟨W.heap.size + 1, 2, none⟩ = false := HK2.out.frozen 0 rfl 2
  by_cases hle : to ≤ sl' - (n : Int)
  · have dle : decide (to ≤ sl' - (n : Int)) = true := by simpa using hle
    have HE := Lib.hid (HLate.out (by omega))
    clear HLate HGo
    go_wp2
    exact bodyPost_ret (rAdd_res (put3 ((((HK2.out.set_ 1 rfl 0 (.int .i64 wd)).set_ 1 rfl 1 (.int .i64 sl')).set_ 1 rfl 2 (.slice A1 n c1)).blk 0 rfl)) _ (.int .i64 0) rfl rfl) rfl (WinOk.of HE.out ⟨A1, n, c1, rfl, by simp only [World.size_setCell]; exact reads_put3 (reads_put3 HR1.out HNF.out) HNR.out, put3_below (((HK2.out.set_ 1 rfl 0 (.int .i64 wd)).set_ 1 rfl 1 (.int .i64 sl')).set_ 1 rfl 2 (.slice A1 n c1)).bel (by omega), HLB.out⟩)
  have dle : decide (to ≤ sl' - (n : Int)) = false := by simpa using hle
  have HE := Lib.hid (HGo.out (by omega))
  clear HLate HGo
  have HK3 := Lib.hid (show Kept W (w1.setCell ⟨W.heap.size, 0, none⟩ (.int .i64 wd)) [(W.heap.size + 1, 24, #[.int .i64 0, .int .i64 0, .slice none 0 0]), (W.heap.size, 24, #[.int .i64 wd, .int .i64 sl, .slice A n c])] from HK2.out.set_ 1 rfl 0 (.int .i64 wd))
  clear HK2
  have HK4 := Lib.hid (show Kept W ((w1.setCell ⟨W.heap.size, 0, none⟩ (.int .i64 wd)).setCell ⟨W.heap.size, 1, none⟩ (.int .i64 sl')) [(W.heap.size + 1, 24, #[.int .i64 0, .int .i64 0, .slice none 0 0]), (W.heap.size, 24, #[.int .i64 wd, .int .i64 sl', .slice A n c])] from HK3.out.set_ 1 rfl 1 (.int .i64 sl'))
  clear HK3
  have HK5 := Lib.hid (show Kept W (((w1.setCell ⟨W.heap.size, 0, none⟩ (.int .i64 wd)).setCell ⟨W.heap.size, 1, none⟩ (.int .i64 sl')).setCell ⟨W.heap.size, 2, none⟩ (.slice A1 n c1)) [(W.heap.size + 1, 24, #[.int .i64 0, .int .i64 0, .slice none 0 0]), (W.heap.size, 24, #[.int .i64 wd, .int .i64 sl', .slice A1 n c1])] from HK4.out.set_ 1 rfl 2 (.slice A1 n c1))
  clear HK4
  have HR2 := Lib.hid (show Reads (((w1.setCell ⟨W.heap.size, 0, none⟩ (.int .i64 wd)).setCell ⟨W.heap.size, 1, none⟩ (.int .i64 sl')).setCell ⟨W.heap.size, 2, none⟩ (.slice A1 n c1)) w1.heap.size 2 A1 n (cellCells cs') from reads_put3 HR1.out HNF.out)
  clear HR1
  obtain ⟨ad, rfl, -, -⟩ := HR2.out.2 (by omega)
  obtain ⟨i0, hi0, hz0, hz1, hz2⟩ := info_parts Try.infoCell
  clear HLO HNF HNR HLB
  have he0 := own_empty (((w1.setCell ⟨W.heap.size, 0, none⟩ (.int .i64 wd)).setCell ⟨W.heap.size, 1, none⟩ (.int .i64 sl')).setCell ⟨W.heap.size, 2, none⟩ (.slice (some ad) n c1)) 40 w1.heap.size (by simp only [World.size_setCell]; exact Nat.le_refl _) 2
  simp only [World.size_setCell] at he0
  have HE0 := Lib.hid he0
  have hzz := Lib.hid (show (((w1.setCell ⟨W.heap.size, 0, none⟩ (.int .i64 wd)).setCell ⟨W.heap.size, 1, none⟩ (.int .i64 sl')).setCell ⟨W.heap.size, 2, none⟩ (.slice (some ad) n c1)).heap.size = w1.heap.size from by simp only [World.size_setCell])
  clear he0
  have hltf : W.heap.size < w1.heap.size := by have := HK5.out.lt 1 rfl; rw [hzz.out] at this; exact this
  cases ok
  · skip
    go_wp2_with (at_builtin; go_must (refine wpList_append_any _ rfl _ _ 22 rfl w1.heap.size 40 i0 _ 2 16 Try.underlying22 hi0 hz0 hz1 hz2 rfl (by omega) _ 0 [] rfl HE0.out w1.heap.size (some ad) n c1 _ rfl (HR2.out.alloc (by rw [hzz.out]; exact Nat.le_refl _) _) (cellCells_one cs') (by unfold maxLen; omega) (by omega) (by simp) ?_); intro v3 w3 hown3 hg3' hat3; clear hat3; have hb3 := below_own ((Below.refl _ _).alloc (Nat.le_refl _) _) hg3' HE0.out (by rw [hzz.out]; exact Nat.le_refl _) (by simp); clear hg3'; rw [Nat.zero_add, List.nil_append] at hown3; obtain ⟨g3, cap3, rfl, hg3, hg3l⟩ := hown3.form (by omega))
    have HO3 := Lib.hid (ownsRow_base (base' := W.heap.size + 2) hown3 (by have := HK5.out.lt 0 rfl; rw [hzz.out] at this; exact this))
    clear hown3 HE0 HR2 hzz hi0 hz0 hz1 hz2
    clear c_f_0 c_f_1 c_f_2 c_r_0 c_r_1 c_r_2 z_f_0 z_f_1 z_f_2 z_r_0 z_r_1 z_r_2
    have HK6 := Lib.hid (show Kept W w3 [(W.heap.size + 1, 24, #[.int .i64 0, .int .i64 0, .slice none 0 0]), (W.heap.size, 24, #[.int .i64 wd, .int .i64 sl', .slice (some ad) n c1])] from HK5.out.next hb3)
    clear HK5
    clear hb3
    have i1 : (0 : Int) ≤ to % (n : Int) := Int.emod_nonneg _ (by omega)
    have i2 : to % (n : Int) < (n : Int) := Int.emod_lt_of_pos _ (by omega)
    have hin : (to % (n : Int)).toNat < n := by omega
    have hn0 : ¬ n = 0 := by omega
    have htm : to.tmod (n : Int) = to % (n : Int) := Int.tmod_eq_emod_of_nonneg hd1
    have HG := Lib.hid (own_ge HO3.out g3 rfl)
    obtain ⟨x, y, q0, q1, q2, q3, hx⟩ := own_cell HO3.out hin
    rw [getD_of_get hx] at HE
    have HX := Lib.hid hx
    clear hx
    generalize to % (n : Int) = ix at i1 i2 hin HE HX htm q0 q1 q2 q3
    refine wp_region_noPanic ?_
    refine wp_region_held_drew (S := fun W' => Kept W W' [(W.heap.size + 1, 24, #[.int .i64 0, .int .i64 0, .slice none 0 0]), (W.heap.size, 24, #[.int .i64 wd, .int .i64 sl', .slice (some ad) n c1])]) (by kernel_rfl) HK6.out.drew (fun hHeld => ?_)
    have HO5 := Lib.hid (show w3.drew.ownsRow (W.heap.size + 2) 40 2 (.slice (some ⟨g3, 0, none⟩) n cap3) n (cellCells cs') from HO3.out)
    replace q0 : w3.drew.cell? _ = _ := q0
    replace q1 : w3.drew.cell? _ = _ := q1
    replace q2 : w3.drew.frozen? _ = _ := q2
    replace q3 : w3.drew.frozen? _ = _ := q3
    replace HG := Lib.hid (own_ge HO5.out g3 rfl)
    clear HO3 HK6
    generalize w3.drew = w5 at HO5 HG hHeld q0 q1 q2 q3 ⊢
    refine takeH 0 (v := ?v0u16) rfl (by kernel_rfl) (by kernel_rfl) (by kernel_rfl) rfl (fun _ _ _ h => h) (Or.inl ⟨by rfl, ?y0u16⟩) hHeld ?r0u16
    case y0u16 => (intro W hSW; (try dsimp only at hSW); go_simp; try with_reducible rfl)
    simp only [Act.put, List.setIfInBounds_toArray, List.set_cons_zero, List.set_cons_succ]
    refine takeH 1 (v := ?v1u17) rfl (by kernel_rfl) (by kernel_rfl) (by kernel_rfl) rfl (fun _ _ _ h => h) (Or.inl ⟨by rfl, ?y1u17⟩) hHeld ?r1u17
    case y1u17 => (intro W hSW; (try dsimp only at hSW); go_simp; try with_reducible rfl)
    simp only [Act.put, List.setIfInBounds_toArray, List.set_cons_zero, List.set_cons_succ]
    refine takeH 2 (v := ?v2u18) rfl (by kernel_rfl) (by kernel_rfl) (by kernel_rfl) rfl (fun _ _ _ h => h) (Or.inl ⟨by rfl, ?y2u18⟩) hHeld ?r2u18
    case y2u18 => (intro W hSW; (try dsimp only at hSW); go_simp; try with_reducible rfl)
    simp only [Act.put, List.setIfInBounds_toArray, List.set_cons_zero, List.set_cons_succ]
    refine takeH 3 (v := ?v3u19) rfl (by kernel_rfl) (by kernel_rfl) (by kernel_rfl) rfl (fun _ _ _ h => h) (Or.inl ⟨by rfl, ?y3u19⟩) hHeld ?r3u19
    case y3u19 => (intro W hSW; (try dsimp only at hSW); go_simp; try with_reducible rfl)
    simp only [Act.put, List.setIfInBounds_toArray, List.set_cons_zero, List.set_cons_succ]
    refine takeH 4 (v := ?v4u20) rfl (by kernel_rfl) (by kernel_rfl) (by kernel_rfl) rfl (fun _ _ _ h => h) (Or.inl ⟨by rfl, ?y4u20⟩) hHeld ?r4u20
    case y4u20 => (intro W hSW; (try dsimp only at hSW); go_simp; try with_reducible rfl)
    simp only [Act.put, List.setIfInBounds_toArray, List.set_cons_zero, List.set_cons_succ]
    refine takeH 5 (v := ?v5u21) rfl (by kernel_rfl) (by kernel_rfl) (by kernel_rfl) rfl (fun _ _ _ h => h) (Or.inl ⟨by rfl, ?y5u21⟩) hHeld ?r5u21
    case y5u21 => (intro W hSW; (try dsimp only at hSW); go_simp; try with_reducible rfl)
    simp only [Act.put, List.setIfInBounds_toArray, List.set_cons_zero, List.set_cons_succ]
    refine takeH 6 (v := ?v6u22) rfl (by kernel_rfl) (by kernel_rfl) (by kernel_rfl) rfl (fun _ _ _ h => h) (Or.inl ⟨by rfl, ?y6u22⟩) hHeld ?r6u22
    case y6u22 => (intro W hSW; (try dsimp only at hSW); go_simp; try with_reducible rfl)
    simp only [Act.put, List.setIfInBounds_toArray, List.set_cons_zero, List.set_cons_succ]
    refine takeH 7 (v := ?v7u23) rfl (by kernel_rfl) (by kernel_rfl) (by kernel_rfl) rfl (fun _ _ _ h => h) (Or.inl ⟨by rfl, ?y7u23⟩) hHeld ?r7u23
    case y7u23 => (intro W hSW; (try dsimp only at hSW); go_simp; try with_reducible rfl)
    simp only [Act.put, List.setIfInBounds_toArray, List.set_cons_zero, List.set_cons_succ]
    refine takeH 8 (v := ?v8u24) rfl (by kernel_rfl) (by kernel_rfl) (by kernel_rfl) rfl (fun _ _ _ h => h) (Or.inl ⟨by rfl, ?y8u24⟩) hHeld ?r8u24
    case y8u24 => (intro W hSW; (try dsimp only at hSW); go_simp; try with_reducible rfl)
    simp only [Act.put, List.setIfInBounds_toArray, List.set_cons_zero, List.set_cons_succ]
    refine takeH 9 (v := ?v9u25) rfl (by kernel_rfl) (by kernel_rfl) (by kernel_rfl) rfl (fun _ _ _ h => h) (Or.inl ⟨by rfl, ?y9u25⟩) hHeld ?r9u25
    case y9u25 => (intro W hSW; (try dsimp only at hSW); go_simp; try with_reducible rfl)
    simp only [Act.put, List.setIfInBounds_toArray, List.set_cons_zero, List.set_cons_succ]
    refine wpAnyH_ready (rs := [10]) (by kernel_rfl) (by simp) ?_
    refine AllReadyH.cons rfl (fun K hK => ?_) AllReadyH.nil
    go_simp
    refine hK.out _ _ hHeld (fun hHeld => ?_)
    clear hK K
    try simp only [Act.put, List.setIfInBounds_toArray, List.set_cons_zero, List.set_cons_succ]
    refine wpAnyH_ready (rs := [11]) (by kernel_rfl) (by simp) ?_
    refine AllReadyH.cons rfl (fun K hK => ?_) AllReadyH.nil
    go_simp
    refine (rUp_c _ _ _).mono ?_
    rintro e w6 ⟨rfl, rfl⟩
    refine hK.out _ _ hHeld (fun hHeld => ?_)
    clear hK K
    try simp only [Act.put, List.setIfInBounds_toArray, List.set_cons_zero, List.set_cons_succ]
    refine takeH 12 (v := ?v12u26) rfl (by kernel_rfl) (by kernel_rfl) (by kernel_rfl) rfl (fun _ _ _ h => h) (Or.inl ⟨by rfl, ?y12u26⟩) hHeld ?r12u26
    case y12u26 => (intro W hSW; (try dsimp only at hSW); go_simp; try with_reducible rfl)
    simp only [Act.put, List.setIfInBounds_toArray, List.set_cons_zero, List.set_cons_succ]
    refine takeH 13 (v := ?v13u27) rfl (by kernel_rfl) (by kernel_rfl) (by kernel_rfl) rfl (fun _ _ _ h => h) (Or.inl ⟨by rfl, ?y13u27⟩) hHeld ?r13u27
    case y13u27 => (intro W hSW; (try dsimp only at hSW); go_simp; try with_reducible rfl)
    simp only [Act.put, List.setIfInBounds_toArray, List.set_cons_zero, List.set_cons_succ]
    have HKd := Lib.hid hHeld
    have hlt5 : W.heap.size + 2 ≤ g3 := HG.out.1
    refine wpAnyH_ready (rs := [14]) (by kernel_rfl) (by simp) ?_
    refine AllReadyH.cons rfl (fun K hK => ?_) AllReadyH.nil
    go_simp
    refine hK.out _ _ (hHeld.put_off (by simp; omega) (by intro x hx; simp at hx; rcases hx with rfl | rfl <;> simp <;> omega) _) (fun hHeld => ?_)
    clear hK K
    try simp only [Act.put, List.setIfInBounds_toArray, List.set_cons_zero, List.set_cons_succ]
    refine wpAnyH_done (by kernel_rfl) ?_ _
    refine NoPanic.normal ?_
    clear hHeld
    have HO6 := Lib.hid (own_put HO5.out (cellCells_set1 cs' ix.toNat x y (up y 1) HX.out))
    have HK6 := Lib.hid (HKd.out.put_off (p := ⟨g3, ix.toNat * 2 + 1, none⟩) (by simp; have := HG.out; omega) (by intro x hx; simp at hx; have := HG.out; rcases hx with rfl | rfl <;> simp <;> omega) (.int .i64 (up y 1)))
    rw [show bump false (x, y) = (x, up y 1) from rfl] at HE
    have hrz := Reads.of_own HO6.out
    simp only [World.size_setCell] at hrz
    have HRz := Lib.hid hrz
    clear hrz
    have HNf := Lib.hid (show 0 < n → ∀ ad, some (⟨g3, 0, none⟩ : Addr) = some ad → ad.block ≠ W.heap.size from fun _ ad e => by injection e with e; subst e; have := HG.out; simp; omega)
    have HNz := Lib.hid (show 0 < n → ∀ ad, some (⟨g3, 0, none⟩ : Addr) = some ad → ad.block ≠ W.heap.size + 1 from fun _ ad e => by injection e with e; subst e; have := HG.out; simp; omega)
    have c_f_0 : (w5.setCell ⟨g3, ix.toNat * 2 + 1, none⟩ (.int .i64 (up y 1))).cell? ⟨W.heap.size, 0, none⟩ = some (.int .i64 wd) := HK6.out.cell 1 rfl 0
    have z_f_0 : (w5.setCell ⟨g3, ix.toNat * 2 + 1, none⟩ (.int .i64 (up y 1))).frozen? ⟨W.heap.size, 0, none⟩ = false := HK6.out.frozen 1 rfl 0
    have c_f_1 : (w5.setCell ⟨g3, ix.toNat * 2 + 1, none⟩ (.int .i64 (up y 1))).cell? ⟨W.heap.size, 1, none⟩ = some (.int .i64 sl') := HK6.out.cell 1 rfl 1
    have z_f_1 : (w5.setCell ⟨g3, ix.toNat * 2 + 1, none⟩ (.int .i64 (up y 1))).frozen? ⟨W.heap.size, 1, none⟩ = false := HK6.out.frozen 1 rfl 1
    have c_f_2 : (w5.setCell ⟨g3, ix.toNat * 2 + 1, none⟩ (.int .i64 (up y 1))).cell? ⟨W.heap.size, 2, none⟩ = some (.slice (some ad) n c1) := HK6.out.cell 1 rfl 2
    have z_f_2 : (w5.setCell ⟨g3, ix.toNat * 2 + 1, none⟩ (.int .i64 (up y 1))).frozen? ⟨W.heap.size, 2, none⟩ = false := HK6.out.frozen 1 rfl 2
    have c_r_0 : (w5.setCell ⟨g3, ix.toNat * 2 + 1, none⟩ (.int .i64 (up y 1))).cell? ⟨W.heap.size + 1, 0, none⟩ = some (.int .i64 0) := HK6.out.cell 0 rfl 0
    have z_r_0 : (w5.setCell ⟨g3, ix.toNat * 2 + 1, none⟩ (.int .i64 (up y 1))).frozen? ⟨W.heap.size + 1, 0, none⟩ = false := HK6.out.frozen 0 rfl 0
    have c_r_1 : (w5.setCell ⟨g3, ix.toNat * 2 + 1, none⟩ (.int .i64 (up y 1))).cell? ⟨W.heap.size + 1, 1, none⟩ = some (.int .i64 0) := HK6.out.cell 0 rfl 1
    have z_r_1 : (w5.setCell ⟨g3, ix.toNat * 2 + 1, none⟩ (.int .i64 (up y 1))).frozen? ⟨W.heap.size + 1, 1, none⟩ = false := HK6.out.frozen 0 rfl 1
    have c_r_2 : (w5.setCell ⟨g3, ix.toNat * 2 + 1, none⟩ (.int .i64 (up y 1))).cell? ⟨W.heap.size + 1, 2, none⟩ = some (.slice none 0 0) := HK6.out.cell 0 rfl 2
    have z_r_2 : (w5.setCell ⟨g3, ix.toNat * 2 + 1, none⟩ (.int .i64 (up y 1))).frozen? ⟨W.heap.size + 1, 2, none⟩ = false := HK6.out.frozen 0 rfl 2
    go_wp2
    exact bodyPost_ret (rAdd_res (put3 ((HK6.out.set_ 1 rfl 2 (.slice (some ⟨g3, 0, none⟩) n cap3)).blk 0 rfl)) _ (.int .i64 0) rfl rfl) rfl (WinOk.of HE.out ⟨_, n, cap3, rfl, by simp only [World.size_setCell]; exact reads_put3 (reads_set1 HRz.out HNf.out _) HNz.out, put3_below (HK6.out.set_ 1 rfl 2 (.slice (some ⟨g3, 0, none⟩) n cap3)).bel (by omega), fun ad e => .inr (by injection e with e; subst e; have := HG.out; simp; omega)⟩)
  · skip
    go_wp2_with (at_builtin; go_must (refine wpList_append_any _ rfl _ _ 22 rfl w1.heap.size 40 i0 _ 2 16 Try.underlying22 hi0 hz0 hz1 hz2 rfl (by omega) _ 0 [] rfl HE0.out w1.heap.size (some ad) n c1 _ rfl (HR2.out.alloc (by rw [hzz.out]; exact Nat.le_refl _) _) (cellCells_one cs') (by unfold maxLen; omega) (by omega) (by simp) ?_); intro v3 w3 hown3 hg3' hat3; clear hat3; have hb3 := below_own ((Below.refl _ _).alloc (Nat.le_refl _) _) hg3' HE0.out (by rw [hzz.out]; exact Nat.le_refl _) (by simp); clear hg3'; rw [Nat.zero_add, List.nil_append] at hown3; obtain ⟨g3, cap3, rfl, hg3, hg3l⟩ := hown3.form (by omega))
    have HO3 := Lib.hid (ownsRow_base (base' := W.heap.size + 2) hown3 (by have := HK5.out.lt 0 rfl; rw [hzz.out] at this; exact this))
    clear hown3 HE0 HR2 hzz hi0 hz0 hz1 hz2
    clear c_f_0 c_f_1 c_f_2 c_r_0 c_r_1 c_r_2 z_f_0 z_f_1 z_f_2 z_r_0 z_r_1 z_r_2
    have HK6 := Lib.hid (show Kept W w3 [(W.heap.size + 1, 24, #[.int .i64 0, .int .i64 0, .slice none 0 0]), (W.heap.size, 24, #[.int .i64 wd, .int .i64 sl', .slice (some ad) n c1])] from HK5.out.next hb3)
    clear HK5
    clear hb3
    have i1 : (0 : Int) ≤ to % (n : Int) := Int.emod_nonneg _ (by omega)
    have i2 : to % (n : Int) < (n : Int) := Int.emod_lt_of_pos _ (by omega)
    have hin : (to % (n : Int)).toNat < n := by omega
    have hn0 : ¬ n = 0 := by omega
    have htm : to.tmod (n : Int) = to % (n : Int) := Int.tmod_eq_emod_of_nonneg hd1
    have HG := Lib.hid (own_ge HO3.out g3 rfl)
    obtain ⟨x, y, q0, q1, q2, q3, hx⟩ := own_cell HO3.out hin
    rw [getD_of_get hx] at HE
    have HX := Lib.hid hx
    clear hx
    generalize to % (n : Int) = ix at i1 i2 hin HE HX htm q0 q1 q2 q3
    refine wp_region_noPanic ?_
    refine wp_region_held_drew (S := fun W' => Kept W W' [(W.heap.size + 1, 24, #[.int .i64 0, .int .i64 0, .slice none 0 0]), (W.heap.size, 24, #[.int .i64 wd, .int .i64 sl', .slice (some ad) n c1])]) (by kernel_rfl) HK6.out.drew (fun hHeld => ?_)
    have HO5 := Lib.hid (show w3.drew.ownsRow (W.heap.size + 2) 40 2 (.slice (some ⟨g3, 0, none⟩) n cap3) n (cellCells cs') from HO3.out)
    replace q0 : w3.drew.cell? _ = _ := q0
    replace q1 : w3.drew.cell? _ = _ := q1
    replace q2 : w3.drew.frozen? _ = _ := q2
    replace q3 : w3.drew.frozen? _ = _ := q3
    replace HG := Lib.hid (own_ge HO5.out g3 rfl)
    clear HO3 HK6
    generalize w3.drew = w5 at HO5 HG hHeld q0 q1 q2 q3 ⊢
    refine takeH 0 (v := ?v0u28) rfl (by kernel_rfl) (by kernel_rfl) (by kernel_rfl) rfl (fun _ _ _ h => h) (Or.inl ⟨by rfl, ?y0u28⟩) hHeld ?r0u28
    case y0u28 => (intro W hSW; (try dsimp only at hSW); go_simp; try with_reducible rfl)
    simp only [Act.put, List.setIfInBounds_toArray, List.set_cons_zero, List.set_cons_succ]
    refine takeH 1 (v := ?v1u29) rfl (by kernel_rfl) (by kernel_rfl) (by kernel_rfl) rfl (fun _ _ _ h => h) (Or.inl ⟨by rfl, ?y1u29⟩) hHeld ?r1u29
    case y1u29 => (intro W hSW; (try dsimp only at hSW); go_simp; try with_reducible rfl)
    simp only [Act.put, List.setIfInBounds_toArray, List.set_cons_zero, List.set_cons_succ]
    refine takeH 2 (v := ?v2u30) rfl (by kernel_rfl) (by kernel_rfl) (by kernel_rfl) rfl (fun _ _ _ h => h) (Or.inl ⟨by rfl, ?y2u30⟩) hHeld ?r2u30
    case y2u30 => (intro W hSW; (try dsimp only at hSW); go_simp; try with_reducible rfl)
    simp only [Act.put, List.setIfInBounds_toArray, List.set_cons_zero, List.set_cons_succ]
    refine takeH 3 (v := ?v3u31) rfl (by kernel_rfl) (by kernel_rfl) (by kernel_rfl) rfl (fun _ _ _ h => h) (Or.inl ⟨by rfl, ?y3u31⟩) hHeld ?r3u31
    case y3u31 => (intro W hSW; (try dsimp only at hSW); go_simp; try with_reducible rfl)
    simp only [Act.put, List.setIfInBounds_toArray, List.set_cons_zero, List.set_cons_succ]
    refine takeH 4 (v := ?v4u32) rfl (by kernel_rfl) (by kernel_rfl) (by kernel_rfl) rfl (fun _ _ _ h => h) (Or.inl ⟨by rfl, ?y4u32⟩) hHeld ?r4u32
    case y4u32 => (intro W hSW; (try dsimp only at hSW); go_simp; try with_reducible rfl)
    simp only [Act.put, List.setIfInBounds_toArray, List.set_cons_zero, List.set_cons_succ]
    refine takeH 5 (v := ?v5u33) rfl (by kernel_rfl) (by kernel_rfl) (by kernel_rfl) rfl (fun _ _ _ h => h) (Or.inl ⟨by rfl, ?y5u33⟩) hHeld ?r5u33
    case y5u33 => (intro W hSW; (try dsimp only at hSW); go_simp; try with_reducible rfl)
    simp only [Act.put, List.setIfInBounds_toArray, List.set_cons_zero, List.set_cons_succ]
    refine takeH 6 (v := ?v6u34) rfl (by kernel_rfl) (by kernel_rfl) (by kernel_rfl) rfl (fun _ _ _ h => h) (Or.inl ⟨by rfl, ?y6u34⟩) hHeld ?r6u34
    case y6u34 => (intro W hSW; (try dsimp only at hSW); go_simp; try with_reducible rfl)
    simp only [Act.put, List.setIfInBounds_toArray, List.set_cons_zero, List.set_cons_succ]
    refine takeH 7 (v := ?v7u35) rfl (by kernel_rfl) (by kernel_rfl) (by kernel_rfl) rfl (fun _ _ _ h => h) (Or.inl ⟨by rfl, ?y7u35⟩) hHeld ?r7u35
    case y7u35 => (intro W hSW; (try dsimp only at hSW); go_simp; try with_reducible rfl)
    simp only [Act.put, List.setIfInBounds_toArray, List.set_cons_zero, List.set_cons_succ]
    refine takeH 8 (v := ?v8u36) rfl (by kernel_rfl) (by kernel_rfl) (by kernel_rfl) rfl (fun _ _ _ h => h) (Or.inl ⟨by rfl, ?y8u36⟩) hHeld ?r8u36
    case y8u36 => (intro W hSW; (try dsimp only at hSW); go_simp; try with_reducible rfl)
    simp only [Act.put, List.setIfInBounds_toArray, List.set_cons_zero, List.set_cons_succ]
    refine takeH 9 (v := ?v9u37) rfl (by kernel_rfl) (by kernel_rfl) (by kernel_rfl) rfl (fun _ _ _ h => h) (Or.inl ⟨by rfl, ?y9u37⟩) hHeld ?r9u37
    case y9u37 => (intro W hSW; (try dsimp only at hSW); go_simp; try with_reducible rfl)
    simp only [Act.put, List.setIfInBounds_toArray, List.set_cons_zero, List.set_cons_succ]
    refine wpAnyH_ready (rs := [10]) (by kernel_rfl) (by simp) ?_
    refine AllReadyH.cons rfl (fun K hK => ?_) AllReadyH.nil
    go_simp
    refine hK.out _ _ hHeld (fun hHeld => ?_)
    clear hK K
    try simp only [Act.put, List.setIfInBounds_toArray, List.set_cons_zero, List.set_cons_succ]
    refine wpAnyH_ready (rs := [11]) (by kernel_rfl) (by simp) ?_
    refine AllReadyH.cons rfl (fun K hK => ?_) AllReadyH.nil
    go_simp
    refine (rUp_c _ _ _).mono ?_
    rintro e w6 ⟨rfl, rfl⟩
    refine hK.out _ _ hHeld (fun hHeld => ?_)
    clear hK K
    try simp only [Act.put, List.setIfInBounds_toArray, List.set_cons_zero, List.set_cons_succ]
    refine takeH 12 (v := ?v12u38) rfl (by kernel_rfl) (by kernel_rfl) (by kernel_rfl) rfl (fun _ _ _ h => h) (Or.inl ⟨by rfl, ?y12u38⟩) hHeld ?r12u38
    case y12u38 => (intro W hSW; (try dsimp only at hSW); go_simp; try with_reducible rfl)
    simp only [Act.put, List.setIfInBounds_toArray, List.set_cons_zero, List.set_cons_succ]
    refine takeH 13 (v := ?v13u39) rfl (by kernel_rfl) (by kernel_rfl) (by kernel_rfl) rfl (fun _ _ _ h => h) (Or.inl ⟨by rfl, ?y13u39⟩) hHeld ?r13u39
    case y13u39 => (intro W hSW; (try dsimp only at hSW); go_simp; try with_reducible rfl)
    simp only [Act.put, List.setIfInBounds_toArray, List.set_cons_zero, List.set_cons_succ]
    have HKd := Lib.hid hHeld
    have hlt5 : W.heap.size + 2 ≤ g3 := HG.out.1
    refine wpAnyH_ready (rs := [14]) (by kernel_rfl) (by simp) ?_
    refine AllReadyH.cons rfl (fun K hK => ?_) AllReadyH.nil
    go_simp
    refine hK.out _ _ (hHeld.put_off (by simp; omega) (by intro x hx; simp at hx; rcases hx with rfl | rfl <;> simp <;> omega) _) (fun hHeld => ?_)
    clear hK K
    try simp only [Act.put, List.setIfInBounds_toArray, List.set_cons_zero, List.set_cons_succ]
    refine wpAnyH_done (by kernel_rfl) ?_ _
    refine NoPanic.normal ?_
    clear hHeld
    have HO6 := Lib.hid (own_put HO5.out (cellCells_set0 cs' ix.toNat x y (up x 1) HX.out))
    have HK6 := Lib.hid (HKd.out.put_off (p := ⟨g3, ix.toNat * 2, none⟩) (by simp; have := HG.out; omega) (by intro x hx; simp at hx; have := HG.out; rcases hx with rfl | rfl <;> simp <;> omega) (.int .i64 (up x 1)))
    rw [show bump true (x, y) = (up x 1, y) from rfl] at HE
    have hrz := Reads.of_own HO6.out
    simp only [World.size_setCell] at hrz
    have HRz := Lib.hid hrz
    clear hrz
    have HNf := Lib.hid (show 0 < n → ∀ ad, some (⟨g3, 0, none⟩ : Addr) = some ad → ad.block ≠ W.heap.size from fun _ ad e => by injection e with e; subst e; have := HG.out; simp; omega)
    have HNz := Lib.hid (show 0 < n → ∀ ad, some (⟨g3, 0, none⟩ : Addr) = some ad → ad.block ≠ W.heap.size + 1 from fun _ ad e => by injection e with e; subst e; have := HG.out; simp; omega)
    have c_f_0 : (w5.setCell ⟨g3, ix.toNat * 2, none⟩ (.int .i64 (up x 1))).cell? ⟨W.heap.size, 0, none⟩ = some (.int .i64 wd) := HK6.out.cell 1 rfl 0
    have z_f_0 : (w5.setCell ⟨g3, ix.toNat * 2, none⟩ (.int .i64 (up x 1))).frozen? ⟨W.heap.size, 0, none⟩ = false := HK6.out.frozen 1 rfl 0
    have c_f_1 : (w5.setCell ⟨g3, ix.toNat * 2, none⟩ (.int .i64 (up x 1))).cell? ⟨W.heap.size, 1, none⟩ = some (.int .i64 sl') := HK6.out.cell 1 rfl 1
    have z_f_1 : (w5.setCell ⟨g3, ix.toNat * 2, none⟩ (.int .i64 (up x 1))).frozen? ⟨W.heap.size, 1, none⟩ = false := HK6.out.frozen 1 rfl 1
    have c_f_2 : (w5.setCell ⟨g3, ix.toNat * 2, none⟩ (.int .i64 (up x 1))).cell? ⟨W.heap.size, 2, none⟩ = some (.slice (some ad) n c1) := HK6.out.cell 1 rfl 2
    have z_f_2 : (w5.setCell ⟨g3, ix.toNat * 2, none⟩ (.int .i64 (up x 1))).frozen? ⟨W.heap.size, 2, none⟩ = false := HK6.out.frozen 1 rfl 2
    have c_r_0 : (w5.setCell ⟨g3, ix.toNat * 2, none⟩ (.int .i64 (up x 1))).cell? ⟨W.heap.size + 1, 0, none⟩ = some (.int .i64 0) := HK6.out.cell 0 rfl 0
    have z_r_0 : (w5.setCell ⟨g3, ix.toNat * 2, none⟩ (.int .i64 (up x 1))).frozen? ⟨W.heap.size + 1, 0, none⟩ = false := HK6.out.frozen 0 rfl 0
    have c_r_1 : (w5.setCell ⟨g3, ix.toNat * 2, none⟩ (.int .i64 (up x 1))).cell? ⟨W.heap.size + 1, 1, none⟩ = some (.int .i64 0) := HK6.out.cell 0 rfl 1
    have z_r_1 : (w5.setCell ⟨g3, ix.toNat * 2, none⟩ (.int .i64 (up x 1))).frozen? ⟨W.heap.size + 1, 1, none⟩ = false := HK6.out.frozen 0 rfl 1
    have c_r_2 : (w5.setCell ⟨g3, ix.toNat * 2, none⟩ (.int .i64 (up x 1))).cell? ⟨W.heap.size + 1, 2, none⟩ = some (.slice none 0 0) := HK6.out.cell 0 rfl 2
    have z_r_2 : (w5.setCell ⟨g3, ix.toNat * 2, none⟩ (.int .i64 (up x 1))).frozen? ⟨W.heap.size + 1, 2, none⟩ = false := HK6.out.frozen 0 rfl 2
    go_wp2
    exact bodyPost_ret (rAdd_res (put3 ((HK6.out.set_ 1 rfl 2 (.slice (some ⟨g3, 0, none⟩) n cap3)).blk 0 rfl)) _ (.int .i64 0) rfl rfl) rfl (WinOk.of HE.out ⟨_, n, cap3, rfl, by simp only [World.size_setCell]; exact reads_put3 (reads_set1 HRz.out HNf.out _) HNz.out, put3_below (HK6.out.set_ 1 rfl 2 (.slice (some ⟨g3, 0, none⟩) n cap3)).bel (by omega), fun ad e => .inr (by injection e with e; subst e; have := HG.out; simp; omega)⟩)
end Go.Proofs.Ytmkjfpmailihjaa
