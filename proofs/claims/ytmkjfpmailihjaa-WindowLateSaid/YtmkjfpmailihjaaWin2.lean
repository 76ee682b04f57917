/- Contracts of window.Right and of the reference's. -/
import Derived.Test.YtmkjfpmailihjaaWin
import Derived.Test.YtmkjfpmailihjaaTally3
import Derived.Laws.EntriesVeiled
import Derived.WideLaws
namespace Go.Proofs.Ytmkjfpmailihjaa
set_option linter.unusedVariables false
open Go.RowKit Go.ChangeShapes

def timeB (n : Int) : Bool := decide (0 ≤ n ∧ n ≤ 1099511627776)
theorem timely_c (n : Int) (w : World) : Calls Try.prog 22 #[.int .i64 n] w fun e w' => e = .returned (.bool (timeB n)) ∧ w = w' := by
  go_enter Try.func22, Try.ntmps22
  go_wp2
  all_goals
    go_ret
    refine ⟨ret_bool ?_, rfl⟩
    unfold timeB
    first | (symm; rw [decide_eq_false_iff_not]; omega) | (rw [Bool.eq_iff_iff, decide_eq_true_eq, decide_eq_true_eq]; omega)
theorem Time_c (n : Int) (w : World) : Calls Try.prog 23 #[.int .i64 n] w fun e w' => e = .returned (.bool (timeB n)) ∧ w = w' := by
  go_enter Try.func23, Try.ntmps23
  go_wp2
  all_goals
    go_ret
    refine ⟨ret_bool ?_, rfl⟩
    unfold timeB
    first | (symm; rw [decide_eq_false_iff_not]; omega) | (rw [Bool.eq_iff_iff, decide_eq_true_eq, decide_eq_true_eq]; omega)
def heldB (n : Int) : Bool := timeB n
theorem held_iff (n : Int) : (n == hold n) = heldB n := by
  unfold heldB timeB hold
  rw [Bool.eq_iff_iff, beq_iff_eq, decide_eq_true_eq]
  split
  · omega
  · split <;> omega
def wrongB (c : Int × Int) : Bool := !(heldB c.1) || !(heldB c.2)
theorem held_c (n : Int) (w : World) : Calls Try.prog 24 #[.int .i64 n] w fun e w' => e = .returned (.bool (heldB n)) ∧ w = w' := by
  go_enter Try.func24, Try.ntmps24
  go_wp2_with (go_at_call 25; refine (Hold_c _ _).mono ?_; rintro e w' ⟨rfl, rfl⟩)
  go_ret
  exact ⟨ret_bool (held_iff n), rfl⟩

theorem wrong_c (c : Int × Int) (g : Nat) (W : World) (hg : Blk W g 50 #[.func (.func 24) #[] #[]]) : Calls Try.prog 26 #[.agg (cellA c), .pointer (some ⟨g, 0, none⟩)] W fun e w' => e = .returned (.bool (wrongB c)) ∧ Below W.heap.size W w' := by
  have HG := Lib.hid (hg.alloc (.cells (cellA c) 40))
  have HW := Lib.hid ((Below.refl W.heap.size W).alloc (Nat.le_refl _) (.cells (cellA c) 40))
  clear hg
  have c0 : (W.alloc (.cells (cellA c) 40)).cell? ⟨g, 0, none⟩ = some (.func (.func 24) #[] #[]) := HG.out.cell 0
  go_enter Try.func26, Try.ntmps26
  go_wp2_with fail
  refine (held_c _ _).mono ?_
  rintro e w1 ⟨rfl, rfl⟩
  cases h1 : heldB c.1
  · have HE := Lib.hid (show wrongB c = true from by unfold wrongB; rw [h1]; rfl)
    clear h1
    go_wp2
    go_ret
    exact ⟨ret_bool HE.out.symm, HW.out⟩
  · go_wp2_with fail
    refine (held_c _ _).mono ?_
    rintro e w1 ⟨rfl, rfl⟩
    have HE := Lib.hid (show wrongB c = !(heldB c.2) from by unfold wrongB; rw [h1]; rfl)
    clear h1
    go_wp2
    go_ret
    exact ⟨ret_bool HE.out.symm, HW.out⟩

theorem any_false {cs : List (Int × Int)} {n : Nat} (hl : cs.length = n) (h : ∀ (j : Nat) e, j < n → cs[j]? = some e → wrongB e = false) : cs.any wrongB = false := by
  rw [List.any_eq_false]
  intro e he
  obtain ⟨j, hj⟩ := List.mem_iff_getElem?.1 he
  rw [h j e (by have := (List.getElem?_eq_some_iff.1 hj).1; omega) hj]
  simp
theorem any_true {cs : List (Int × Int)} {k : Nat} {e : Int × Int} (h : cs[k]? = some e) (hw : wrongB e = true) : cs.any wrongB = true := by
  rw [List.any_eq_true]
  exact ⟨e, List.mem_of_getElem? h, hw⟩

theorem Index_c (A : Option Addr) (n c B : Nat) (cs : List (Int × Int)) (g : Nat) (W : World) (hr : Reads W B 2 A n (cellCells cs)) (hB : B ≤ W.heap.size) (hn : n ≤ 1000000) (hg : Blk W g 50 #[.func (.func 24) #[] #[]]) : Calls Try.prog 37 #[.slice A n c, (.func (.func 26) #[] #[.pointer (some ⟨g, 0, none⟩)])] W fun e w' => ∃ r : Int, e = .returned (.int .i64 r) ∧ decide (0 ≤ r) = cs.any wrongB ∧ Below W.heap.size W w' := by
  have HR := Lib.hid (hr.more hB)
  have HL := Lib.hid hr.cell_len
  have HG := Lib.hid hg
  clear hr hg
  go_enter Try.func37, Try.ntmps37
  go_wp2
  go_loopw [8] (fun i wr => ∃ (k : Nat), k ≤ n ∧ i = .int .i64 k ∧ Hid (∀ (j : Nat) e, j < k → cs[j]? = some e → wrongB e = false) ∧ Hid (Below W.heap.size W wr)) (fun i _ => n - (intOf i).toNat)
  case atStart => exact ⟨0, Nat.zero_le _, rfl, Lib.hid (fun j e hj => absurd hj (by omega)), Lib.hid (Below.refl _ _)⟩
  case round =>
    obtain ⟨k, hk, rfl, HS, HB⟩ := hrel
    by_cases hlt : k < n
    · obtain ⟨ad, e, rfl, hb, he, d0, d1⟩ := cell_in (HR.out.below HB.out) hlt
      have HE := Lib.hid he
      have i1 : (0 : Int) ≤ (k : Int) := by omega
      have i2 : (k : Int) < (n : Int) := by omega
      clear he
      go_wp2_with fail
      refine (wrong_c e g wr (HG.out.below HB.out HG.out.lt)).mono ?_
      rintro e' w1 ⟨rfl, hb1⟩
      have HB1 := Lib.hid (HB.out.trans (hb1.mono HB.out.size))
      clear hb1 HB d0 d1
      cases hw : wrongB e
      · have HS2 := Lib.hid (show ∀ (j : Nat) e, j < k + 1 → cs[j]? = some e → wrongB e = false from fun j e' hj he' => by
          by_cases hjk : j < k
          · exact HS.out j e' hjk he'
          · obtain rfl : j = k := by omega
            rw [HE.out] at he'; injection he' with he'; subst he'; exact hw)
        clear hw
        go_wp2
        exact ⟨⟨k + 1, by omega, rfl, HS2, HB1⟩, by simp [intOf]; omega⟩
      · have HA := Lib.hid (any_true HE.out hw)
        clear hw
        go_wp2
        go_ret
        exact ⟨_, rfl, by rw [HA.out, decide_eq_true_eq]; omega, HB1.out⟩
    · obtain rfl : n = k := by omega
      have HA := Lib.hid (any_false HL.out HS.out)
      go_wp2
      go_ret
      exact ⟨_, rfl, by rw [HA.out]; rfl, HB.out⟩
theorem Contains_c (A : Option Addr) (n c B : Nat) (cs : List (Int × Int)) (g : Nat) (W : World) (hr : Reads W B 2 A n (cellCells cs)) (hB : B ≤ W.heap.size) (hn : n ≤ 1000000) (hg : Blk W g 50 #[.func (.func 24) #[] #[]]) : Calls Try.prog 27 #[.slice A n c, (.func (.func 26) #[] #[.pointer (some ⟨g, 0, none⟩)])] W fun e w' => e = .returned (.bool (cs.any wrongB)) ∧ Below W.heap.size W w' := by
  have HR := Lib.hid hr
  have HG := Lib.hid hg
  clear hr hg
  go_enter Try.func27, Try.ntmps27
  go_wp2_with fail
  refine (Index_c A n c B cs g _ HR.out hB hn HG.out).mono ?_
  rintro e w1 ⟨r, rfl, hr, hb⟩
  have H1 := Lib.hid hr
  clear hr
  go_wp2
  go_ret
  exact ⟨ret_bool H1.out, hb⟩
def rightW (wd sl : Int) (cs : List (Int × Int)) : Bool := decide (1 ≤ wd ∧ wd ≤ 2147483647 ∧ 0 ≤ sl ∧ sl ≤ 1099511627776 ∧ 1 ≤ cs.length ∧ cs.length ≤ 16) && !(cs.any wrongB)
abbrev winA (wd sl : Int) (A : Option Addr) (n c : Nat) : Array Value := #[.int .i64 wd, .int .i64 sl, .slice A n c]

set_option maxHeartbeats 1000000 in
theorem wRight_c (wd sl : Int) (A : Option Addr) (n c B : Nat) (cs : List (Int × Int)) (W : World) (hr : Reads W B 2 A n (cellCells cs)) (hB : B ≤ W.heap.size) (hn : n ≤ 9223372036854775807) : Calls Try.prog 10 #[.agg (winA wd sl A n c)] W fun e w' => e = .returned (.bool (rightW wd sl cs)) ∧ Below W.heap.size W w' := by
  have HR := Lib.hid hr
  have HD := Lib.hid (show rightW wd sl cs = (decide (1 ≤ wd ∧ wd ≤ 2147483647 ∧ 0 ≤ sl ∧ sl ≤ 1099511627776 ∧ 1 ≤ n ∧ n ≤ 16) && !(cs.any wrongB)) from by unfold rightW; rw [hr.cell_len])
  generalize rightW wd sl cs = res at HD ⊢
  clear hr
  have HK1 := Lib.hid (show Kept W (W.alloc (.cells #[.int .i64 wd, .int .i64 sl, .slice A n c] 24)) [(W.heap.size, 24, #[.int .i64 wd, .int .i64 sl, .slice A n c])] from ((Kept.start W).alloc_at 24 #[.int .i64 wd, .int .i64 sl, .slice A n c] (W.heap.size) (by simp)))
  by_cases g : wd < 1
  · have x0 : decide (wd < 1) = true := by simpa using g
    have HE := Lib.hid (show res = false from by rw [HD.out, decide_eq_false (by omega), Bool.false_and])
    clear HD
    go_enter Try.func10, Try.ntmps10
    go_wp2
    go_ret
    exact ⟨ret_bool HE.out.symm, HK1.out.bel⟩
  have x0 : decide (wd < 1) = false := by simpa using g
  by_cases g : 2147483647 < wd
  · have x1 : decide (2147483647 < wd) = true := by simpa using g
    have HE := Lib.hid (show res = false from by rw [HD.out, decide_eq_false (by omega), Bool.false_and])
    clear HD
    go_enter Try.func10, Try.ntmps10
    go_wp2
    go_ret
    exact ⟨ret_bool HE.out.symm, HK1.out.bel⟩
  have x1 : decide (2147483647 < wd) = false := by simpa using g
  go_enter Try.func10, Try.ntmps10
  go_wp2_with fail
  refine (timely_c sl _).mono ?_
  rintro e w1 ⟨rfl, rfl⟩
  cases ht : timeB sl
  · have HE := Lib.hid (show res = false from by unfold timeB at ht; rw [decide_eq_false_iff_not] at ht; rw [HD.out, decide_eq_false (by omega), Bool.false_and])
    clear HD ht
    go_wp2
    go_ret
    exact ⟨ret_bool HE.out.symm, HK1.out.bel⟩
  unfold timeB at ht
  rw [decide_eq_true_eq] at ht
  by_cases g : n < 1
  · have x2 : decide ((n : Int) < 1) = true := by simp; omega
    have HE := Lib.hid (show res = false from by rw [HD.out, decide_eq_false (by omega), Bool.false_and])
    clear HD
    go_wp2
    go_ret
    exact ⟨ret_bool HE.out.symm, HK1.out.bel⟩
  have x2 : decide ((n : Int) < 1) = false := by simp; omega
  by_cases g : 16 < n
  · have x3 : decide ((16 : Int) < (n : Int)) = true := by simp; omega
    have HE := Lib.hid (show res = false from by rw [HD.out, decide_eq_false (by omega), Bool.false_and])
    clear HD
    go_wp2
    go_ret
    exact ⟨ret_bool HE.out.symm, HK1.out.bel⟩
  have x3 : decide ((16 : Int) < (n : Int)) = false := by simp; omega
  have HE := Lib.hid (show res = !(cs.any wrongB) from by rw [HD.out, decide_eq_true (by omega), Bool.true_and])
  clear HD
  have HK2 := Lib.hid (show Kept W ((W.alloc (.cells #[.int .i64 wd, .int .i64 sl, .slice A n c] 24)).alloc (.cells #[.func (.func 24) #[] #[]] 50)) [(W.heap.size + 1, 50, #[.func (.func 24) #[] #[]]), (W.heap.size, 24, #[.int .i64 wd, .int .i64 sl, .slice A n c])] from HK1.out.alloc_at 50 #[.func (.func 24) #[] #[]] (W.heap.size + 1) (by simp))
  clear HK1
  go_wp2_with fail
  refine (Contains_c A n c W.heap.size cs (W.heap.size + 1) _ ((HR.out.more hB).below HK2.out.bel) HK2.out.size (by omega) (HK2.out.blk 0 rfl)).mono ?_
  rintro e w2 ⟨rfl, hb2⟩
  have HK3 := Lib.hid (show Kept W w2 [(W.heap.size + 1, 50, #[.func (.func 24) #[] #[]]), (W.heap.size, 24, #[.int .i64 wd, .int .i64 sl, .slice A n c])] from HK2.out.next hb2)
  clear HK2
  clear hb2
  go_wp2
  go_ret
  exact ⟨ret_bool HE.out.symm, HK3.out.bel⟩
end Go.Proofs.Ytmkjfpmailihjaa
