/- Contracts of window.Part, Beat and of the references'. -/
import Derived.Test.YtmkjfpmailihjaaWin11
import Derived.StillTailTactics
namespace Go.Proofs.Ytmkjfpmailihjaa
set_option linter.unusedVariables false
open Go.RowKit Go.ChangeShapes

def partW (c : Int × Int) : Int := if c.1 + c.2 = 0 then 0 else 1000 * c.2 / (c.1 + c.2)

set_option maxRecDepth 100000 in
set_option maxHeartbeats 4000000 in
theorem wPart_c (wd sl : Int) (A : Option Addr) (n c B : Nat) (cs : List (Int × Int)) (W : World) (hr : Reads W B 2 A n (cellCells cs)) (hB : B ≤ W.heap.size) (hn : n ≤ 9223372036854775807) : Calls Try.prog 20 #[.agg (winA wd sl A n c)] W (fun e w' => e = .returned (.int .i64 (partW (sumW wd sl cs))) ∧ Below W.heap.size W w') := by
  have HR := Lib.hid (hr.more hB)
  have HL := Lib.hid hr.cell_len
  clear hr
  obtain ⟨s1, s2, s3, s4⟩ := sumW_held wd sl cs
  obtain ⟨s, hs⟩ : ∃ s, s = sumW wd sl cs := ⟨_, rfl⟩
  rw [← hs] at s1 s2 s3 s4 ⊢
  have HSS := Lib.hid hs
  clear hs
  obtain ⟨x, y⟩ := s
  dsimp only at s1 s2 s3 s4
  have HK1 := Lib.hid (show Kept W (W.alloc (.cells #[.int .i64 wd, .int .i64 sl, .slice A n c] 24)) [(W.heap.size, 24, #[.int .i64 wd, .int .i64 sl, .slice A n c])] from ((Kept.start W).alloc_at 24 #[.int .i64 wd, .int .i64 sl, .slice A n c] (W.heap.size) (by simp)))
  go_enter Try.func20, Try.ntmps20
  go_wp2_with fail
  with_reducible refine (wSum_c wd sl A n c W.heap.size cs _ (HR.out.below HK1.out.bel) HK1.out.size hn).mono ?_
  rw [← HSS.out]
  rintro e w1 ⟨rfl, hb1⟩
  have HK2 := Lib.hid (show Kept W w1 [(W.heap.size, 24, #[.int .i64 wd, .int .i64 sl, .slice A n c])] from HK1.out.next hb1)
  clear HK1
  clear hb1
  have HKa := Lib.hid (HK2.out.alloc_off (.cells (cellA (x, y)) 40))
  by_cases hz : x + y = 0
  · have HE := Lib.hid (show partW (x, y) = 0 from by unfold partW; rw [if_pos hz])
    go_wp2
    go_ret
    exact ⟨ret_int HE.out.symm, HKa.out.bel⟩
  have HE := Lib.hid (show partW (x, y) = 1000 * y / (x + y) from by unfold partW; rw [if_neg hz])
  have b1 : (x + y == 0) = false := by rw [beq_eq_false_iff_ne]; exact hz
  have hqq : IntKind.i64.wrap ((1000 * y).tdiv (x + y)) = 1000 * y / (x + y) := by
    rw [Int.tdiv_eq_ediv_of_nonneg (by omega)]
    have h1 := Int.ediv_le_self (x + y) (show 0 ≤ 1000 * y by omega)
    have h2 := Int.ediv_nonneg (show 0 ≤ 1000 * y by omega) (show 0 ≤ x + y by omega)
    exact IntWalk.i64_in _ (by omega)
  go_wp2
  go_ret
  exact ⟨ret_int HE.out.symm, HKa.out.bel⟩

set_option maxRecDepth 100000 in
set_option maxHeartbeats 4000000 in
theorem rwPart_c (wd sl : Int) (A : Option Addr) (n c B : Nat) (cs : List (Int × Int)) (W : World) (hr : Reads W B 2 A n (cellCells cs)) (hB : B ≤ W.heap.size) (hn : n ≤ 9223372036854775807) : Calls Try.prog 21 #[.agg (winA wd sl A n c)] W (fun e w' => e = .returned (.int .i64 (partW (sumW wd sl cs))) ∧ Below W.heap.size W w') := by
  have HR := Lib.hid (hr.more hB)
  have HL := Lib.hid hr.cell_len
  clear hr
  obtain ⟨s1, s2, s3, s4⟩ := sumW_held wd sl cs
  obtain ⟨s, hs⟩ : ∃ s, s = sumW wd sl cs := ⟨_, rfl⟩
  rw [← hs] at s1 s2 s3 s4 ⊢
  have HSS := Lib.hid hs
  clear hs
  obtain ⟨x, y⟩ := s
  dsimp only at s1 s2 s3 s4
  have HK1 := Lib.hid (show Kept W (W.alloc (.cells #[.int .i64 wd, .int .i64 sl, .slice A n c] 24)) [(W.heap.size, 24, #[.int .i64 wd, .int .i64 sl, .slice A n c])] from ((Kept.start W).alloc_at 24 #[.int .i64 wd, .int .i64 sl, .slice A n c] (W.heap.size) (by simp)))
  go_enter Try.func21, Try.ntmps21
  go_wp2_with fail
  with_reducible refine (rwSum_c wd sl A n c W.heap.size cs _ (HR.out.below HK1.out.bel) HK1.out.size hn).mono ?_
  rw [← HSS.out]
  rintro e w1 ⟨rfl, hb1⟩
  have HK2 := Lib.hid (show Kept W w1 [(W.heap.size, 24, #[.int .i64 wd, .int .i64 sl, .slice A n c])] from HK1.out.next hb1)
  clear HK1
  clear hb1
  have HKa := Lib.hid (HK2.out.alloc_off (.cells (cellA (x, y)) 40))
  by_cases hx : x = 0
  · subst hx
    by_cases hy : y = 0
    · subst hy
      have HE := Lib.hid (show partW (0, 0) = 0 from by decide)
      go_wp2
      go_ret
      exact ⟨ret_int HE.out.symm, HKa.out.bel⟩
    have HE := Lib.hid (show partW (0, y) = 1000 from by unfold partW; rw [if_neg (by dsimp only; omega)]; dsimp only; rw [Int.zero_add]; exact Int.mul_ediv_cancel _ hy)
    have b0 : (y == 0) = false := by rw [beq_eq_false_iff_ne]; exact hy
    go_wp2
    go_ret
    exact ⟨ret_int HE.out.symm, HKa.out.bel⟩
  have b0 : (x == 0) = false := by rw [beq_eq_false_iff_ne]; exact hx
  have hz : ¬ x + y = 0 := by omega
  have HE := Lib.hid (show partW (x, y) = 1000 * y / (x + y) from by unfold partW; rw [if_neg hz])
  have b1 : (x + y == 0) = false := by rw [beq_eq_false_iff_ne]; exact hz
  have hqq : IntKind.i64.wrap ((1000 * y).tdiv (x + y)) = 1000 * y / (x + y) := by
    rw [Int.tdiv_eq_ediv_of_nonneg (by omega)]
    have h1 := Int.ediv_le_self (x + y) (show 0 ≤ 1000 * y by omega)
    have h2 := Int.ediv_nonneg (show 0 ≤ 1000 * y by omega) (show 0 ≤ x + y by omega)
    exact IntWalk.i64_in _ (by omega)
  go_wp2
  go_ret
  exact ⟨ret_int HE.out.symm, HKa.out.bel⟩
end Go.Proofs.Ytmkjfpmailihjaa
