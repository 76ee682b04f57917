/- Contracts of window.Sum, Part and of the references'. -/
import Derived.Test.YtmkjfpmailihjaaWin9
namespace Go.Proofs.Ytmkjfpmailihjaa
set_option linter.unusedVariables false
open Go.RowKit Go.ChangeShapes

def sumW (wd sl : Int) (cs : List (Int × Int)) : Int × Int := if rightW wd sl cs = true then sumP cs else (0, 0)
theorem wrongB_iff {e : Int × Int} : wrongB e = false ↔ 0 ≤ e.1 ∧ e.1 ≤ 1099511627776 ∧ 0 ≤ e.2 ∧ e.2 ≤ 1099511627776 := by
  unfold wrongB heldB timeB
  rw [Bool.or_eq_false_iff, Bool.not_eq_false', Bool.not_eq_false', decide_eq_true_eq, decide_eq_true_eq]
  omega
theorem sumP_pos : ∀ (l : List (Int × Int)), (∀ e ∈ l, wrongB e = false) → 0 ≤ (sumP l).1 ∧ (sumP l).1 ≤ l.length * 1099511627776 ∧ 0 ≤ (sumP l).2 ∧ (sumP l).2 ≤ l.length * 1099511627776
  | [], _ => by decide
  | e :: l, h => by
    obtain ⟨a, b, c, d⟩ := sumP_pos l (fun x hx => h x (List.mem_cons_of_mem _ hx))
    have := wrongB_iff.1 (h e (List.mem_cons_self ..))
    rw [sumP_cons]
    simp only [List.length_cons]
    omega
theorem sumP_held {l : List (Int × Int)} (h : ∀ e ∈ l, wrongB e = false) (hl : l.length ≤ 16) : 0 ≤ (sumP l).1 ∧ (sumP l).1 ≤ 17592186044416 ∧ 0 ≤ (sumP l).2 ∧ (sumP l).2 ≤ 17592186044416 := by
  have := sumP_pos l h
  omega
theorem sumW_held (wd sl : Int) (cs : List (Int × Int)) : 0 ≤ (sumW wd sl cs).1 ∧ (sumW wd sl cs).1 ≤ 17592186044416 ∧ 0 ≤ (sumW wd sl cs).2 ∧ (sumW wd sl cs).2 ≤ 17592186044416 := by
  unfold sumW
  split
  · rename_i h
    obtain ⟨h1, h2⟩ := rightW_iff.1 h
    exact sumP_held h2 h1.2.2.2.2.2
  · decide
theorem take_succ_cell {cs : List (Int × Int)} {k : Nat} {e : Int × Int} (h : cs[k]? = some e) : cs.take (k + 1) = cs.take k ++ [e] := by rw [List.take_add_one, h]; rfl
theorem wSum_res {W : World} {g : Nat} {x0 x1 : Value} (h : Blk W g 40 #[x0, x1]) (tmps : Array Value) (ht : tmps[2]?.getD undef = .pointer (some ⟨g, 0, none⟩)) : (results Try.f18 tmps).run Try.prog W = .ok (.agg #[x0, x1]) W := by
  have c0 : W.cell? ⟨g, 0, none⟩ = some x0 := h.cell 0
  have c1 : W.cell? ⟨g, 1, none⟩ = some x1 := h.cell 1
  simp [results, Try.results18, go_sem, ht, c0, c1]

set_option maxRecDepth 100000 in
set_option maxHeartbeats 4000000 in
theorem wSum_c (wd sl : Int) (A : Option Addr) (n c B : Nat) (cs : List (Int × Int)) (W : World) (hr : Reads W B 2 A n (cellCells cs)) (hB : B ≤ W.heap.size) (hn : n ≤ 9223372036854775807) : Calls Try.prog 18 #[.agg (winA wd sl A n c)] W (GetOk W (sumW wd sl cs)) := by
  have HR := Lib.hid (hr.more hB)
  have HL := Lib.hid hr.cell_len
  clear hr
  have HK1 := Lib.hid (show Kept W ((W.alloc (.cells #[.int .i64 wd, .int .i64 sl, .slice A n c] 24)).alloc (.cells #[.int .i64 0, .int .i64 0] 40)) [(W.heap.size + 1, 40, #[.int .i64 0, .int .i64 0]), (W.heap.size, 24, #[.int .i64 wd, .int .i64 sl, .slice A n c])] from (((Kept.start W).alloc_at 24 #[.int .i64 wd, .int .i64 sl, .slice A n c] (W.heap.size) (by simp)).alloc_at 40 #[.int .i64 0, .int .i64 0] (W.heap.size + 1) (by simp)))
  obtain ⟨i0, hi0, hz0, hz1, hz2⟩ := info_parts Try.infoC128
  go_enter Try.func18, Try.ntmps18
  go_wp2_with fail
  with_reducible refine (wRight_c wd sl A n c W.heap.size cs _ (HR.out.below HK1.out.bel) HK1.out.size hn).mono ?_
  rintro e w1 ⟨rfl, hb1⟩
  have HK2 := Lib.hid (show Kept W w1 [(W.heap.size + 1, 40, #[.int .i64 0, .int .i64 0]), (W.heap.size, 24, #[.int .i64 wd, .int .i64 sl, .slice A n c])] from HK1.out.next hb1)
  clear HK1
  clear hb1
  cases hrt : rightW wd sl cs
  · have HE := Lib.hid (show sumW wd sl cs = (0, 0) from by unfold sumW; rw [hrt]; rfl)
    clear hrt
    have c_r_0 : w1.cell? ⟨W.heap.size + 1, 0, none⟩ = some (.int .i64 0) := HK2.out.cell 0 rfl 0
    have z_r_0 : w1.frozen? ⟨W.heap.size + 1, 0, none⟩ = false := HK2.out.frozen 0 rfl 0
    have c_r_1 : w1.cell? ⟨W.heap.size + 1, 1, none⟩ = some (.int .i64 0) := HK2.out.cell 0 rfl 1
    have z_r_1 : w1.frozen? ⟨W.heap.size + 1, 1, none⟩ = false := HK2.out.frozen 0 rfl 1
    go_wp2
    exact bodyPost_ret (wSum_res (put2 (HK2.out.blk 0 rfl)) _ rfl) rfl (GetOk.of HE.out ⟨rfl, (HK2.out.bel.setCell (by simp) _).setCell (by simp) _⟩)
  · have HE := Lib.hid (show sumW wd sl cs = sumP cs from by unfold sumW; rw [hrt]; rfl)
    obtain ⟨⟨r1, r2, r3, r4, r5, r6⟩, hw⟩ := rightW_iff.1 hrt
    have HW := Lib.hid hw
    rw [HL.out] at r5 r6
    clear hrt hw r1 r2 r3 r4
    have c_f_0 : w1.cell? ⟨W.heap.size, 0, none⟩ = some (.int .i64 wd) := HK2.out.cell 1 rfl 0
    have c_f_1 : w1.cell? ⟨W.heap.size, 1, none⟩ = some (.int .i64 sl) := HK2.out.cell 1 rfl 1
    have c_f_2 : w1.cell? ⟨W.heap.size, 2, none⟩ = some (.slice A n c) := HK2.out.cell 1 rfl 2
    go_wp2_with (at_make; go_must (refine wpList_make_own _ rfl _ _ 59 rfl w1.heap.size 60 i0 _ 1 Try.underlying59 hi0 hz0 hz1 _ _ _ n rfl rfl (by omega) (by rw [hz2]; omega) (by unfold maxLen; omega) (Nat.le_refl _) ?_); intro w2 hown2 hg2; have HKm := Lib.hid (HK2.out.own hg2 (fun g h => by cases h)); clear c_f_0 c_f_1 c_f_2; have c_f_2 := HKm.out.cell 1 rfl 2; simp only [List.getElem?_toArray, List.getElem?_cons_zero, List.getElem?_cons_succ] at c_f_2)
    have HO := Lib.hid (show ∃ ps, w2.ownsRow (W.heap.size + 2) 60 1 (.slice (some ⟨w1.heap.size, 0, none⟩) 0 n) 0 (ps.map cxv) ∧ FlL ps (cs.take 0) from ⟨[], ownsRow_base hown2 (HK2.out.lt 0 rfl), FlL.nil⟩)
    clear hown2 hg2 c_f_2
    clear HK2
    go_loopw [3, 19] (fun v i wr => ∃ k : Nat, k ≤ n ∧ i = .int .i64 k ∧ Hid (∃ ps, wr.ownsRow (W.heap.size + 2) 60 1 v k (ps.map cxv) ∧ FlL ps (cs.take k)) ∧ Hid (Kept W wr [(W.heap.size + 1, 40, #[.int .i64 0, .int .i64 0]), (W.heap.size, 24, #[.int .i64 wd, .int .i64 sl, .slice A n c])])) (fun _ i _ => n - (intOf i).toNat)
    case atStart => exact ⟨0, Nat.zero_le _, rfl, HO, HKm⟩
    case round =>
      obtain ⟨k, hk, rfl, HP, HK⟩ := hrel
      clear HO HKm
      obtain ⟨ps, hown, hf⟩ := HP.out
      have HF := Lib.hid hf
      have HO := Lib.hid hown
      clear HP hf hown
      by_cases hlt : k < n
      · obtain ⟨ad, e, rfl, hb, he, d0, d1⟩ := cell_in (HR.out.below HK.out.bel) hlt
        have i1 : (0 : Int) ≤ (k : Int) := by omega
        have i2 : (k : Int) < (n : Int) := by omega
        have hbd := wrongB_iff.1 (HW.out e (List.mem_of_getElem? he))
        have HT := Lib.hid (take_succ_cell he)
        clear he
        have HKa := Lib.hid (HK.out.alloc_off (.cells (cellA e) 40))
        have HOa := Lib.hid (own_below HO.out ((Below.refl _ _).alloc (Nat.le_refl _) (.cells (cellA e) 40)) (Nat.le_refl _))
        have hsz := HKa.out.lt 0 rfl
        go_wp2_with fail
        refine (Of_c _ _ _).mono ?_
        rintro e' w' ⟨v1, rfl, hv1, rfl⟩
        rw [hold_id _ hbd.1 hbd.2.1, hold_id _ hbd.2.2.1 hbd.2.2.2] at hv1
        obtain ⟨p, rfl, hfp⟩ := FlL.snoc HF.out hv1
        rw [show cs.take k ++ [(e.1, e.2)] = cs.take (k + 1) from HT.out.symm] at hfp
        have HFP := Lib.hid hfp
        clear hfp hv1
        generalize wr.alloc (.cells (cellA e) 40) = wq at HKa HOa hsz ⊢
        clear HO HK
        go_wp2_with (at_builtin; go_must (refine wpList_append_one wq rfl _ _ 59 rfl (W.heap.size + 2) 60 i0 _ 16 Try.underlying59 hi0 hz0 hz1 hz2 rfl _ _ _ HOa.out rfl (.complex .f64 p.1 p.2) rfl rfl (by unfold maxLen; omega) (by omega) hsz ?_); intro v' w3 hown3 hg3)
        have HKn := Lib.hid (HKa.out.own hg3 (fun g h => by have := own_ge HOa.out g h; exact ⟨by omega, fun x hx => by simp at hx; rcases hx with rfl | rfl <;> simp <;> omega⟩))
        have HN := Lib.hid (show ∃ ps, w3.ownsRow (W.heap.size + 2) 60 1 v' (k + 1) (ps.map cxv) ∧ FlL ps (cs.take (k + 1)) from ⟨ps ++ [p], by rw [List.map_append]; exact hown3, HFP.out⟩)
        clear hown3 hg3
        go_roundw
        case rel => exact ⟨k + 1, by omega, by go_num, HN, HKn⟩
        case measure => simp [intOf]; omega
      · obtain rfl : n = k := by omega
        rw [List.take_of_length_le (by rw [HL.out]; exact Nat.le_refl _)] at HF
        obtain ⟨A2, c2, rfl, _, _, _, hr2⟩ := own_reads HO.out
        have HR2 := Lib.hid hr2
        clear hr2
        go_wp2_with fail
        refine (Sum_c A2 n c2 _ ps _ _ HR2.out HF.out (fun z hz => by have := wrongB_iff.1 (HW.out z hz); unfold smallP; omega) (by omega)).mono ?_
        rintro e w' ⟨a, b, rfl, ha, hb, rfl⟩
        have HA := Lib.hid ha
        have HB2 := Lib.hid hb
        clear ha hb
        go_wp2_with fail
        refine (Parts_c HA.out HB2.out _).mono ?_
        rintro e w' ⟨rfl, rfl⟩
        have c_r_0 : wr.cell? ⟨W.heap.size + 1, 0, none⟩ = some (.int .i64 0) := HK.out.cell 0 rfl 0
        have z_r_0 : wr.frozen? ⟨W.heap.size + 1, 0, none⟩ = false := HK.out.frozen 0 rfl 0
        have c_r_1 : wr.cell? ⟨W.heap.size + 1, 1, none⟩ = some (.int .i64 0) := HK.out.cell 0 rfl 1
        have z_r_1 : wr.frozen? ⟨W.heap.size + 1, 1, none⟩ = false := HK.out.frozen 0 rfl 1
        go_wp2
        exact bodyPost_ret (wSum_res (put2 (HK.out.blk 0 rfl)) _ rfl) rfl (GetOk.of HE.out ⟨rfl, (HK.out.bel.setCell (by simp) _).setCell (by simp) _⟩)
end Go.Proofs.Ytmkjfpmailihjaa
