/- Contracts of the reference's Sum, and of Part and the reference's. -/
import Derived.Test.YtmkjfpmailihjaaWin10
import Derived.StillTailTactics
namespace Go.Proofs.Ytmkjfpmailihjaa
set_option linter.unusedVariables false
open Go.RowKit Go.ChangeShapes

theorem cell_at {w : World} {B n i : Nat} {ad : Addr} {e : Int × Int} {cs : List (Int × Int)} (h : Reads w B 2 (some ad) n (cellCells cs)) (hi : i < n) (he : cs[i]? = some e) : w.cell? (ad.add (i * 2)) = some (.int .i64 e.1) ∧ w.cell? ⟨(ad.add (i * 2)).block, (ad.add (i * 2)).off + 1, none⟩ = some (.int .i64 e.2) := by
  obtain ⟨ad', e', hA, -, he', d0, d1⟩ := cell_in h hi
  injection hA with hA
  subst hA
  obtain rfl : e = e' := Option.some.inj (he.symm.trans he')
  exact ⟨d0, d1⟩
theorem rwSum_res {W : World} {g : Nat} {x0 x1 : Value} (h : Blk W g 40 #[x0, x1]) (tmps : Array Value) (ht : tmps[2]?.getD undef = .pointer (some ⟨g, 0, none⟩)) : (results Try.f19 tmps).run Try.prog W = .ok (.agg #[x0, x1]) W := by
  have c0 : W.cell? ⟨g, 0, none⟩ = some x0 := h.cell 0
  have c1 : W.cell? ⟨g, 1, none⟩ = some x1 := h.cell 1
  simp [results, Try.results19, go_sem, ht, c0, c1]

set_option maxRecDepth 100000 in
set_option maxHeartbeats 4000000 in
theorem rwSum_c (wd sl : Int) (A : Option Addr) (n c B : Nat) (cs : List (Int × Int)) (W : World) (hr : Reads W B 2 A n (cellCells cs)) (hB : B ≤ W.heap.size) (hn : n ≤ 9223372036854775807) : Calls Try.prog 19 #[.agg (winA wd sl A n c)] W (GetOk W (sumW wd sl cs)) := by
  have HR := Lib.hid (hr.more hB)
  have HL := Lib.hid hr.cell_len
  clear hr
  have HK1 := Lib.hid (show Kept W (((W.alloc (.cells #[.int .i64 wd, .int .i64 sl, .slice A n c] 24)).alloc (.cells #[.int .i64 0, .int .i64 0] 40)).alloc (.cells #[.int .i64 0, .int .i64 0] 40)) [(W.heap.size + 2, 40, #[.int .i64 0, .int .i64 0]), (W.heap.size + 1, 40, #[.int .i64 0, .int .i64 0]), (W.heap.size, 24, #[.int .i64 wd, .int .i64 sl, .slice A n c])] from ((((Kept.start W).alloc_at 24 #[.int .i64 wd, .int .i64 sl, .slice A n c] (W.heap.size) (by simp)).alloc_at 40 #[.int .i64 0, .int .i64 0] (W.heap.size + 1) (by simp)).alloc_at 40 #[.int .i64 0, .int .i64 0] (W.heap.size + 2) (by simp)))
  go_enter Try.func19, Try.ntmps19
  go_wp2
  go_loopw [4] (fun i wr => ∃ (k : Nat) (s : Int × Int), k ≤ n ∧ i = .int .i64 k ∧ Hid (s = sumP (cs.take k) ∧ (rightW wd sl cs = false → k = 0)) ∧ Hid (Kept W wr [(W.heap.size + 2, 40, #[.int .i64 s.1, .int .i64 s.2]), (W.heap.size + 1, 40, #[.int .i64 0, .int .i64 0]), (W.heap.size, 24, #[.int .i64 wd, .int .i64 sl, .slice A n c])])) (fun i _ => n - (intOf i).toNat)
  case atStart => exact ⟨0, (0, 0), Nat.zero_le _, rfl, Lib.hid ⟨rfl, fun _ => rfl⟩, HK1⟩
  case round =>
    clear HK1
    obtain ⟨k, s, hk, rfl, HS, HK⟩ := hrel
    by_cases hlt : k < n
    · obtain ⟨ad, e, rfl, -, he, -, -⟩ := cell_in (HR.out.below HK.out.bel) hlt
      have HEE := Lib.hid he
      clear he
      have c_f_0 : wr.cell? ⟨W.heap.size, 0, none⟩ = some (.int .i64 wd) := HK.out.cell 2 rfl 0
      have c_f_1 : wr.cell? ⟨W.heap.size, 1, none⟩ = some (.int .i64 sl) := HK.out.cell 2 rfl 1
      have c_f_2 : wr.cell? ⟨W.heap.size, 2, none⟩ = some (.slice (some ad) n c) := HK.out.cell 2 rfl 2
      go_wp2_with fail
      with_reducible refine (rwRight_c wd sl (some ad) n c W.heap.size cs _ (HR.out.below HK.out.bel) HK.out.size hn).mono ?_
      rintro e w1 ⟨rfl, hb1⟩
      clear c_f_0 c_f_1 c_f_2
      have HK2 := Lib.hid (show Kept W w1 [(W.heap.size + 2, 40, #[.int .i64 s.1, .int .i64 s.2]), (W.heap.size + 1, 40, #[.int .i64 0, .int .i64 0]), (W.heap.size, 24, #[.int .i64 wd, .int .i64 sl, .slice (some ad) n c])] from HK.out.next hb1)
      clear HK
      clear hb1
      cases hrt : rightW wd sl cs
      · have HE := Lib.hid (show sumW wd sl cs = s from by unfold sumW; rw [hrt, HS.out.1, HS.out.2 hrt]; rfl)
        clear hrt
        have c_o_0 : w1.cell? ⟨W.heap.size + 2, 0, none⟩ = some (.int .i64 s.1) := HK2.out.cell 0 rfl 0
        have c_o_1 : w1.cell? ⟨W.heap.size + 2, 1, none⟩ = some (.int .i64 s.2) := HK2.out.cell 0 rfl 1
        have c_r_0 : w1.cell? ⟨W.heap.size + 1, 0, none⟩ = some (.int .i64 0) := HK2.out.cell 1 rfl 0
        have z_r_0 : w1.frozen? ⟨W.heap.size + 1, 0, none⟩ = false := HK2.out.frozen 1 rfl 0
        have c_r_1 : w1.cell? ⟨W.heap.size + 1, 1, none⟩ = some (.int .i64 0) := HK2.out.cell 1 rfl 1
        have z_r_1 : w1.frozen? ⟨W.heap.size + 1, 1, none⟩ = false := HK2.out.frozen 1 rfl 1
        go_wp2
        exact bodyPost_ret (rwSum_res (put2 (HK2.out.blk 1 rfl)) _ rfl) rfl (GetOk.of HE.out ⟨rfl, (HK2.out.bel.setCell (by simp; try omega) _).setCell (by simp; try omega) _⟩)
      · obtain ⟨⟨r1, r2, r3, r4, r5, r6⟩, hw⟩ := rightW_iff.1 hrt
        rw [HL.out] at r5 r6
        have he := HEE.out
        have hbd := wrongB_iff.1 (hw e (List.mem_of_getElem? he))
        obtain ⟨s1, s2, s3, s4⟩ := sumP_held (l := cs.take k) (fun x hx => hw x (List.mem_of_mem_take hx)) (by rw [List.length_take]; omega)
        rw [← HS.out.1] at s1 s2 s3 s4
        have HS2 := Lib.hid (show ((s.1 + e.1, s.2 + e.2) : Int × Int) = sumP (cs.take (k + 1)) ∧ (rightW wd sl cs = false → k + 1 = 0) from ⟨by rw [take_succ_cell he, sumP_snoc, ← HS.out.1], fun h => by rw [hrt] at h; cases h⟩)
        clear hw he hrt r1 r2 r3 r4
        have i1 : (0 : Int) ≤ (k : Int) := by omega
        have i2 : (k : Int) < (n : Int) := by omega
        have hwr1 : IntKind.i64.wrap (s.1 + e.1) = s.1 + e.1 := IntWalk.i64_in _ (by omega)
        have hwr2 : IntKind.i64.wrap (s.2 + e.2) = s.2 + e.2 := IntWalk.i64_in _ (by omega)
        obtain ⟨a, b⟩ := s
        obtain ⟨x, y⟩ := e
        dsimp only at *
        have c_f_0 : w1.cell? ⟨W.heap.size, 0, none⟩ = some (.int .i64 wd) := HK2.out.cell 2 rfl 0
        have c_f_1 : w1.cell? ⟨W.heap.size, 1, none⟩ = some (.int .i64 sl) := HK2.out.cell 2 rfl 1
        have c_f_2 : w1.cell? ⟨W.heap.size, 2, none⟩ = some (.slice (some ad) n c) := HK2.out.cell 2 rfl 2
        have c_o_0 : w1.cell? ⟨W.heap.size + 2, 0, none⟩ = some (.int .i64 a) := HK2.out.cell 0 rfl 0
        have z_o_0 : w1.frozen? ⟨W.heap.size + 2, 0, none⟩ = false := HK2.out.frozen 0 rfl 0
        have c_o_1 : w1.cell? ⟨W.heap.size + 2, 1, none⟩ = some (.int .i64 b) := HK2.out.cell 0 rfl 1
        have z_o_1 : w1.frozen? ⟨W.heap.size + 2, 1, none⟩ = false := HK2.out.frozen 0 rfl 1
        obtain ⟨d0, d1⟩ := cell_at (HR.out.below HK2.out.bel) hlt HEE.out
        dsimp only at d0 d1
        go_wp2
        go_still_tail 9, (by kernel_rfl)
        change wpList _ _ _ _ _ w1.drew
        have HKd := Lib.hid HK2.out.drew
        clear c_f_0 c_f_1 c_f_2 c_o_0 z_o_0 c_o_1 z_o_1
        clear HK2 d0 d1
        generalize w1.drew = wd0 at HKd ⊢
        have HKe0 := HKd
        clear HKd
        have c_f_0 : wd0.cell? ⟨W.heap.size, 0, none⟩ = some (.int .i64 wd) := HKe0.out.cell 2 rfl 0
        have c_f_1 : wd0.cell? ⟨W.heap.size, 1, none⟩ = some (.int .i64 sl) := HKe0.out.cell 2 rfl 1
        have c_f_2 : wd0.cell? ⟨W.heap.size, 2, none⟩ = some (.slice (some ad) n c) := HKe0.out.cell 2 rfl 2
        have c_o_0 : wd0.cell? ⟨W.heap.size + 2, 0, none⟩ = some (.int .i64 a) := HKe0.out.cell 0 rfl 0
        have z_o_0 : wd0.frozen? ⟨W.heap.size + 2, 0, none⟩ = false := HKe0.out.frozen 0 rfl 0
        have c_o_1 : wd0.cell? ⟨W.heap.size + 2, 1, none⟩ = some (.int .i64 b) := HKe0.out.cell 0 rfl 1
        have z_o_1 : wd0.frozen? ⟨W.heap.size + 2, 1, none⟩ = false := HKe0.out.frozen 0 rfl 1
        go_wp2
        clear c_f_0 c_f_1 c_f_2 c_o_0 z_o_0 c_o_1 z_o_1
        have HK3 := Lib.hid (show Kept W (wd0.setCell ⟨W.heap.size + 2, 0, none⟩ (.int .i64 (a + x))) [(W.heap.size + 2, 40, #[.int .i64 (a + x), .int .i64 b]), (W.heap.size + 1, 40, #[.int .i64 0, .int .i64 0]), (W.heap.size, 24, #[.int .i64 wd, .int .i64 sl, .slice (some ad) n c])] from HKe0.out.set_ 0 rfl 0 (.int .i64 (a + x)))
        clear HKe0
        generalize wd0.setCell ⟨W.heap.size + 2, 0, none⟩ (.int .i64 (a + x)) = wx at HK3 ⊢
        have c_f_0 : wx.cell? ⟨W.heap.size, 0, none⟩ = some (.int .i64 wd) := HK3.out.cell 2 rfl 0
        have c_f_1 : wx.cell? ⟨W.heap.size, 1, none⟩ = some (.int .i64 sl) := HK3.out.cell 2 rfl 1
        have c_f_2 : wx.cell? ⟨W.heap.size, 2, none⟩ = some (.slice (some ad) n c) := HK3.out.cell 2 rfl 2
        have c_o_0 : wx.cell? ⟨W.heap.size + 2, 0, none⟩ = some (.int .i64 (a + x)) := HK3.out.cell 0 rfl 0
        have z_o_0 : wx.frozen? ⟨W.heap.size + 2, 0, none⟩ = false := HK3.out.frozen 0 rfl 0
        have c_o_1 : wx.cell? ⟨W.heap.size + 2, 1, none⟩ = some (.int .i64 b) := HK3.out.cell 0 rfl 1
        have z_o_1 : wx.frozen? ⟨W.heap.size + 2, 1, none⟩ = false := HK3.out.frozen 0 rfl 1
        obtain ⟨d0, d1⟩ := cell_at (HR.out.below HK3.out.bel) hlt HEE.out
        dsimp only at d0 d1
        skip
        go_still_tail 9, (by kernel_rfl)
        change wpList _ _ _ _ _ wx.drew
        have HKd := Lib.hid HK3.out.drew
        clear c_f_0 c_f_1 c_f_2 c_o_0 z_o_0 c_o_1 z_o_1
        clear HK3 d0 d1
        generalize wx.drew = wd1 at HKd ⊢
        have HKe1 := HKd
        clear HKd
        have c_f_0 : wd1.cell? ⟨W.heap.size, 0, none⟩ = some (.int .i64 wd) := HKe1.out.cell 2 rfl 0
        have c_f_1 : wd1.cell? ⟨W.heap.size, 1, none⟩ = some (.int .i64 sl) := HKe1.out.cell 2 rfl 1
        have c_f_2 : wd1.cell? ⟨W.heap.size, 2, none⟩ = some (.slice (some ad) n c) := HKe1.out.cell 2 rfl 2
        have c_o_0 : wd1.cell? ⟨W.heap.size + 2, 0, none⟩ = some (.int .i64 (a + x)) := HKe1.out.cell 0 rfl 0
        have z_o_0 : wd1.frozen? ⟨W.heap.size + 2, 0, none⟩ = false := HKe1.out.frozen 0 rfl 0
        have c_o_1 : wd1.cell? ⟨W.heap.size + 2, 1, none⟩ = some (.int .i64 b) := HKe1.out.cell 0 rfl 1
        have z_o_1 : wd1.frozen? ⟨W.heap.size + 2, 1, none⟩ = false := HKe1.out.frozen 0 rfl 1
        go_wp2
        clear c_f_0 c_f_1 c_f_2 c_o_0 z_o_0 c_o_1 z_o_1
        have HK4 := Lib.hid (show Kept W (wd1.setCell ⟨W.heap.size + 2, 1, none⟩ (.int .i64 (b + y))) [(W.heap.size + 2, 40, #[.int .i64 (a + x), .int .i64 (b + y)]), (W.heap.size + 1, 40, #[.int .i64 0, .int .i64 0]), (W.heap.size, 24, #[.int .i64 wd, .int .i64 sl, .slice (some ad) n c])] from HKe1.out.set_ 0 rfl 1 (.int .i64 (b + y)))
        clear HKe1
        refine ⟨⟨k + 1, (a + x, b + y), by omega, by go_num, HS2, HK4⟩, by simp [intOf]; omega⟩
    · obtain rfl : n = k := by omega
      have HE := Lib.hid (show sumW wd sl cs = s from by
        unfold sumW
        rw [HS.out.1]
        split
        · rw [List.take_of_length_le (by rw [HL.out]; exact Nat.le_refl _)]
        · rename_i h; rw [HS.out.2 (by simpa using h)]; rfl)
      have c_f_0 : wr.cell? ⟨W.heap.size, 0, none⟩ = some (.int .i64 wd) := HK.out.cell 2 rfl 0
      have c_f_1 : wr.cell? ⟨W.heap.size, 1, none⟩ = some (.int .i64 sl) := HK.out.cell 2 rfl 1
      have c_f_2 : wr.cell? ⟨W.heap.size, 2, none⟩ = some (.slice A n c) := HK.out.cell 2 rfl 2
      have c_o_0 : wr.cell? ⟨W.heap.size + 2, 0, none⟩ = some (.int .i64 s.1) := HK.out.cell 0 rfl 0
      have c_o_1 : wr.cell? ⟨W.heap.size + 2, 1, none⟩ = some (.int .i64 s.2) := HK.out.cell 0 rfl 1
      have c_r_0 : wr.cell? ⟨W.heap.size + 1, 0, none⟩ = some (.int .i64 0) := HK.out.cell 1 rfl 0
      have z_r_0 : wr.frozen? ⟨W.heap.size + 1, 0, none⟩ = false := HK.out.frozen 1 rfl 0
      have c_r_1 : wr.cell? ⟨W.heap.size + 1, 1, none⟩ = some (.int .i64 0) := HK.out.cell 1 rfl 1
      have z_r_1 : wr.frozen? ⟨W.heap.size + 1, 1, none⟩ = false := HK.out.frozen 1 rfl 1
      go_wp2
      exact bodyPost_ret (rwSum_res (put2 (HK.out.blk 1 rfl)) _ rfl) rfl (GetOk.of HE.out ⟨rfl, (HK.out.bel.setCell (by simp; try omega) _).setCell (by simp; try omega) _⟩)
end Go.Proofs.Ytmkjfpmailihjaa
