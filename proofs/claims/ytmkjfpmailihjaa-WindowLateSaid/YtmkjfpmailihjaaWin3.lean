/- Contracts of slices.Clone of cells, the reference's Right and Same of windows. -/
import Derived.Test.YtmkjfpmailihjaaWin2
import Derived.Test.YtmkjfpmailihjaaHeld
import Derived.Deep.DeepMust
import Derived.Lib.SlBytesConst
import Derived.Laws.IdiomStrings
namespace Go.Proofs.Ytmkjfpmailihjaa
set_option linter.unusedVariables false
open Go.RowKit Go.ChangeShapes

theorem CloneC_c (A : Option Addr) (n c B : Nat) (cs : List (Int × Int)) (w : World) (hr : Reads w B 2 A n (cellCells cs)) (hB : B ≤ w.heap.size) (hn : n ≤ 1000000) :
    Calls Try.prog 28 #[.slice A n c] w fun e w' => ∃ v, e = .returned v ∧ w'.ownsRow w.heap.size 40 2 v n (cellCells cs) ∧ Below w.heap.size w w' := by
  have q : ∀ (w : World) (a : Option Addr) (n c n' c' : Nat), (binOp .eql 22 (.slice a n c) (.slice none n' c')).run Try.prog w = .ok (.bool a.isNone) w := fun w a n c n' c' => Lib.run_eql_slice_nil w _ _ a n c n' c' Try.underlying22
  obtain ⟨i0, hi0, hz0, hz1, hz2⟩ := info_parts Try.infoCell
  rcases A with _ | ad
  · have hn0 : n = 0 := by
      rcases Nat.eq_zero_or_pos n with h | h
      · exact h
      · obtain ⟨_, h, _⟩ := hr.2 h; cases h
    subst hn0
    have hs : cellCells cs = [] := List.eq_nil_of_length_eq_zero (by simpa using hr.1)
    have HS := Lib.hid hs; clear hs hr
    go_enter Try.func28, Try.ntmps28
    go_wp2
    go_ret
    exact ⟨_, rfl, ⟨by rw [HS.out]; rfl, .inl ⟨rfl, rfl⟩⟩, Below.refl _ _⟩
  · have HR := Lib.hid hr; clear hr
    go_enter Try.func28, Try.ntmps28
    go_wp2_with (at_builtin; go_must (refine wpList_append_any _ rfl _ _ 22 rfl w.heap.size 40 i0 _ 2 16 Try.underlying22 hi0 hz0 hz1 hz2 rfl (by omega) _ 0 [] rfl (own_empty w 40 w.heap.size (Nat.le_refl _) 2) B (some ad) n c _ rfl (HR.out.alloc hB _) (cellCells_one cs) (by unfold maxLen; omega) (by omega) (by simp) ?_); intro v1 w1 hown1 hg1 hat1)
    go_ret
    exact ⟨v1, rfl, by simpa using hown1, below_own ((Below.refl _ _).alloc (Nat.le_refl _) _) hg1 (own_empty w 40 w.heap.size (Nat.le_refl _) 2) (Nat.le_refl _) (by simp)⟩

set_option maxHeartbeats 2000000 in
theorem rwRight_c (wd sl : Int) (A : Option Addr) (n c B : Nat) (cs : List (Int × Int)) (W : World) (hr : Reads W B 2 A n (cellCells cs)) (hB : B ≤ W.heap.size) (hn : n ≤ 9223372036854775807) : Calls Try.prog 11 #[.agg (winA wd sl A n c)] W fun e w' => e = .returned (.bool (rightW wd sl cs)) ∧ Below W.heap.size W w' := by
  have HR := Lib.hid (hr.more hB)
  have HL := Lib.hid hr.cell_len
  have HD := Lib.hid (show rightW wd sl cs = (decide (1 ≤ wd ∧ wd ≤ 2147483647 ∧ 0 ≤ sl ∧ sl ≤ 1099511627776 ∧ 1 ≤ n ∧ n ≤ 16) && !(cs.any wrongB)) from by unfold rightW; rw [hr.cell_len])
  generalize rightW wd sl cs = res at HD ⊢
  clear hr
  have HK1 := Lib.hid (show Kept W (W.alloc (.cells #[.int .i64 wd, .int .i64 sl, .slice A n c] 24)) [(W.heap.size, 24, #[.int .i64 wd, .int .i64 sl, .slice A n c])] from ((Kept.start W).alloc_at 24 #[.int .i64 wd, .int .i64 sl, .slice A n c] (W.heap.size) (by simp)))
  by_cases g : wd < 1
  · have x0 : decide (wd < 1) = true := by simpa using g
    have HE := Lib.hid (show res = false from by rw [HD.out, decide_eq_false (by omega), Bool.false_and])
    clear HD
    go_enter Try.func11, Try.ntmps11
    go_wp2
    go_ret
    exact ⟨ret_bool HE.out.symm, HK1.out.bel⟩
  have x0 : decide (wd < 1) = false := by simpa using g
  by_cases g : 2147483647 < wd
  · have x1 : decide (2147483647 < wd) = true := by simpa using g
    have HE := Lib.hid (show res = false from by rw [HD.out, decide_eq_false (by omega), Bool.false_and])
    clear HD
    go_enter Try.func11, Try.ntmps11
    go_wp2
    go_ret
    exact ⟨ret_bool HE.out.symm, HK1.out.bel⟩
  have x1 : decide (2147483647 < wd) = false := by simpa using g
  go_enter Try.func11, Try.ntmps11
  go_wp2_with fail
  refine (Time_c sl _).mono ?_
  rintro e w1 ⟨rfl, rfl⟩
  cases ht : timeB sl
  · have HE := Lib.hid (show res = false from by unfold timeB at ht; rw [decide_eq_false_iff_not] at ht; rw [HD.out, decide_eq_false (by omega), Bool.false_and])
    clear HD ht
    go_wp2
    go_ret
    exact ⟨ret_bool HE.out.symm, HK1.out.bel⟩
  unfold timeB at ht
  rw [decide_eq_true_eq] at ht
  by_cases g : n < 1
  · have x2 : decide ((n : Int) < 1) = true := by simp; omega
    have HE := Lib.hid (show res = false from by rw [HD.out, decide_eq_false (by omega), Bool.false_and])
    clear HD
    go_wp2
    go_ret
    exact ⟨ret_bool HE.out.symm, HK1.out.bel⟩
  have x2 : decide ((n : Int) < 1) = false := by simp; omega
  by_cases g : 16 < n
  · have x3 : decide ((16 : Int) < (n : Int)) = true := by simp; omega
    have HE := Lib.hid (show res = false from by rw [HD.out, decide_eq_false (by omega), Bool.false_and])
    clear HD
    go_wp2
    go_ret
    exact ⟨ret_bool HE.out.symm, HK1.out.bel⟩
  have x3 : decide ((16 : Int) < (n : Int)) = false := by simp; omega
  have HE := Lib.hid (show res = !(cs.any wrongB) from by rw [HD.out, decide_eq_true (by omega), Bool.true_and])
  clear HD
  go_wp2
  clear x0 x1 x2 x3
  go_loopw [3] (fun i wr => ∃ (k : Nat), k ≤ n ∧ i = .int .i64 k ∧ Hid (∀ (j : Nat) e, j < k → cs[j]? = some e → wrongB e = false) ∧ Hid (Kept W wr [(W.heap.size, 24, #[.int .i64 wd, .int .i64 sl, .slice A n c])])) (fun i _ => n - (intOf i).toNat)
  case atStart => exact ⟨0, Nat.zero_le _, rfl, Lib.hid (fun j e hj => absurd hj (by omega)), HK1⟩
  case round =>
    clear HK1
    obtain ⟨k, hk, rfl, HS, HK⟩ := hrel
    by_cases hlt : k < n
    · obtain ⟨ad, e, rfl, hb, he, d0, d1⟩ := cell_in (HR.out.below HK.out.bel) hlt
      have HC := Lib.hid he
      have i1 : (0 : Int) ≤ (k : Int) := by omega
      have i2 : (k : Int) < (n : Int) := by omega
      clear he
      have c_f_0 : wr.cell? ⟨W.heap.size, 0, none⟩ = some (.int .i64 wd) := HK.out.cell 0 rfl 0
      have c_f_1 : wr.cell? ⟨W.heap.size, 1, none⟩ = some (.int .i64 sl) := HK.out.cell 0 rfl 1
      have c_f_2 : wr.cell? ⟨W.heap.size, 2, none⟩ = some (.slice (some ad) n c) := HK.out.cell 0 rfl 2
      have HKa := Lib.hid (HK.out.alloc_off (.cells (cellA e) 40))
      by_cases hw : wrongB e = true
      · have HE2 := Lib.hid (show res = false from by rw [HE.out, any_true HC.out hw]; rfl)
        have hw' : e.1 < 0 ∨ 1099511627776 < e.1 ∨ e.2 < 0 ∨ 1099511627776 < e.2 := by unfold wrongB heldB timeB at hw; simp at hw; omega
        clear hw
        rcases Decidable.em (e.1 < 0) with y0 | y0
        · have z0 : decide (e.1 < 0) = true := by simpa using y0
          clear hw'
          go_wp2
          go_ret
          exact ⟨ret_bool HE2.out.symm, HKa.out.bel⟩
        have z0 : decide (e.1 < 0) = false := by simpa using y0
        rcases Decidable.em (1099511627776 < e.1) with y1 | y1
        · have z1 : decide (1099511627776 < e.1) = true := by simpa using y1
          clear hw'
          go_wp2
          go_ret
          exact ⟨ret_bool HE2.out.symm, HKa.out.bel⟩
        have z1 : decide (1099511627776 < e.1) = false := by simpa using y1
        rcases Decidable.em (e.2 < 0) with y2 | y2
        · have z2 : decide (e.2 < 0) = true := by simpa using y2
          clear hw'
          go_wp2
          go_ret
          exact ⟨ret_bool HE2.out.symm, HKa.out.bel⟩
        have z2 : decide (e.2 < 0) = false := by simpa using y2
        have z3 : decide (1099511627776 < e.2) = true := by simp; omega
        clear hw'
        go_wp2
        go_ret
        exact ⟨ret_bool HE2.out.symm, HKa.out.bel⟩
      have hw2 : wrongB e = false := by simpa using hw
      have hw' : 0 ≤ e.1 ∧ e.1 ≤ 1099511627776 ∧ 0 ≤ e.2 ∧ e.2 ≤ 1099511627776 := by unfold wrongB heldB timeB at hw2; simp at hw2; omega
      have HS2 := Lib.hid (show ∀ (j : Nat) e, j < k + 1 → cs[j]? = some e → wrongB e = false from fun j e' hj he' => by
        by_cases hjk : j < k
        · exact HS.out j e' hjk he'
        · obtain rfl : j = k := by omega
          rw [HC.out] at he'; injection he' with he'; subst he'; exact hw2)
      clear hw hw2
      have z0 : decide (e.1 < 0) = false := by simp; omega
      have z1 : decide (1099511627776 < e.1) = false := by simp; omega
      have z2 : decide (e.2 < 0) = false := by simp; omega
      have z3 : decide (1099511627776 < e.2) = false := by simp; omega
      clear hw'
      go_wp2
      exact ⟨⟨k + 1, by omega, rfl, HS2, HKa⟩, by simp [intOf]; omega⟩
    · obtain rfl : n = k := by omega
      have HE2 := Lib.hid (show res = true from by rw [HE.out, any_false HL.out HS.out]; rfl)
      have c_f_0 : wr.cell? ⟨W.heap.size, 0, none⟩ = some (.int .i64 wd) := HK.out.cell 0 rfl 0
      have c_f_1 : wr.cell? ⟨W.heap.size, 1, none⟩ = some (.int .i64 sl) := HK.out.cell 0 rfl 1
      have c_f_2 : wr.cell? ⟨W.heap.size, 2, none⟩ = some (.slice A n c) := HK.out.cell 0 rfl 2
      go_wp2
      go_ret
      exact ⟨ret_bool HE2.out.symm, HK.out.bel⟩

def sameW (wd sl : Int) (cs : List (Int × Int)) (wd2 sl2 : Int) (cs2 : List (Int × Int)) : Bool := decide (wd = wd2 ∧ sl = sl2 ∧ cs = cs2)
theorem cell_ne (e1 e2 : Int × Int) (h : e1 ≠ e2) : e1.1 = e2.1 → ¬ e1.2 = e2.2 := fun h1 h2 => h (Prod.ext h1 h2)
set_option maxHeartbeats 4000000 in
theorem wSame_c (wd sl : Int) (A : Option Addr) (n c : Nat) (cs : List (Int × Int)) (wd2 sl2 : Int) (A2 : Option Addr) (n2 c2 : Nat) (cs2 : List (Int × Int)) (B : Nat) (W : World) (hr : Reads W B 2 A n (cellCells cs)) (hr2 : Reads W B 2 A2 n2 (cellCells cs2)) (hB : B ≤ W.heap.size) (hn : n ≤ 9223372036854775807) (hn2 : n2 ≤ 9223372036854775807) : Calls Try.prog 9 #[.agg (winA wd sl A n c), .agg (winA wd2 sl2 A2 n2 c2)] W fun e w' => e = .returned (.bool (sameW wd sl cs wd2 sl2 cs2)) ∧ Below W.heap.size W w' := by
  have HR := Lib.hid (hr.more hB)
  have HR2 := Lib.hid (hr2.more hB)
  have HL := Lib.hid hr.cell_len
  have HL2 := Lib.hid hr2.cell_len
  have HD := Lib.hid (show sameW wd sl cs wd2 sl2 cs2 = decide (wd = wd2 ∧ sl = sl2 ∧ cs = cs2) from rfl)
  generalize sameW wd sl cs wd2 sl2 cs2 = res at HD ⊢
  clear hr hr2
  have HK1 := Lib.hid (show Kept W ((W.alloc (.cells #[.int .i64 wd, .int .i64 sl, .slice A n c] 24)).alloc (.cells #[.int .i64 wd2, .int .i64 sl2, .slice A2 n2 c2] 24)) [(W.heap.size + 1, 24, #[.int .i64 wd2, .int .i64 sl2, .slice A2 n2 c2]), (W.heap.size, 24, #[.int .i64 wd, .int .i64 sl, .slice A n c])] from (((Kept.start W).alloc_at 24 #[.int .i64 wd, .int .i64 sl, .slice A n c] (W.heap.size) (by simp)).alloc_at 24 #[.int .i64 wd2, .int .i64 sl2, .slice A2 n2 c2] (W.heap.size + 1) (by simp)))
  by_cases g : ¬ wd = wd2
  · have x0 : (wd != wd2) = true := by rw [bne_iff_ne]; exact g
    have HE := Lib.hid (show res = false from by rw [HD.out]; exact decide_eq_false (fun h => g h.1))
    clear HD
    go_enter Try.func9, Try.ntmps9
    go_wp2
    go_ret
    exact ⟨ret_bool HE.out.symm, HK1.out.bel⟩
  replace g := Decidable.not_not.1 g
  have x0 : (wd != wd2) = false := by rw [bne_eq_false_iff_eq]; exact g
  have G0 := Lib.hid g
  clear g
  by_cases g : ¬ sl = sl2
  · have x1 : (sl != sl2) = true := by rw [bne_iff_ne]; exact g
    have HE := Lib.hid (show res = false from by rw [HD.out]; exact decide_eq_false (fun h => g h.2.1))
    clear HD
    go_enter Try.func9, Try.ntmps9
    go_wp2
    go_ret
    exact ⟨ret_bool HE.out.symm, HK1.out.bel⟩
  replace g := Decidable.not_not.1 g
  have x1 : (sl != sl2) = false := by rw [bne_eq_false_iff_eq]; exact g
  have G1 := Lib.hid g
  clear g
  by_cases g : ¬ n = n2
  · have x2 : ((n : Int) != (n2 : Int)) = true := by rw [bne_iff_ne]; omega
    have HE := Lib.hid (show res = false from by rw [HD.out]; exact decide_eq_false (fun h => g (by rw [← HL.out, h.2.2, HL2.out])))
    clear HD
    go_enter Try.func9, Try.ntmps9
    go_wp2
    go_ret
    exact ⟨ret_bool HE.out.symm, HK1.out.bel⟩
  replace g := Decidable.not_not.1 g
  subst g
  have x2 : ((n : Int) != (n : Int)) = false := by simp
  go_enter Try.func9, Try.ntmps9
  go_wp2
  clear x0 x1 x2
  go_loopw [5] (fun i wr => ∃ (k : Nat), k ≤ n ∧ i = .int .i64 k ∧ Hid (∀ (j : Nat) e, j < k → cs[j]? = some e → cs2[j]? = some e) ∧ Hid (Kept W wr [(W.heap.size + 1, 24, #[.int .i64 wd2, .int .i64 sl2, .slice A2 n c2]), (W.heap.size, 24, #[.int .i64 wd, .int .i64 sl, .slice A n c])])) (fun i _ => n - (intOf i).toNat)
  case atStart => exact ⟨0, Nat.zero_le _, rfl, Lib.hid (fun j e hj => absurd hj (by omega)), HK1⟩
  case round =>
    clear HK1
    obtain ⟨k, hk, rfl, HS, HK⟩ := hrel
    by_cases hlt : k < n
    · obtain ⟨ad, e1, rfl, hb1, he1, d0, d1⟩ := cell_in HR.out hlt
      obtain ⟨ad2, e2, rfl, hb2, he2, d20, d21⟩ := cell_in HR2.out hlt
      have HE1 := Lib.hid he1
      have HE2 := Lib.hid he2
      clear he1 he2
      have i1 : (0 : Int) ≤ (k : Int) := by omega
      have i2 : (k : Int) < (n : Int) := by omega
      have bl : (ad.add (k * 2)).block < W.heap.size := World.block_lt_of_cell? W _ d0
      have bl2 : (ad2.add (k * 2)).block < W.heap.size := World.block_lt_of_cell? W _ d20
      have c_f_0 : wr.cell? ⟨W.heap.size, 0, none⟩ = some (.int .i64 wd) := HK.out.cell 1 rfl 0
      have c_f_1 : wr.cell? ⟨W.heap.size, 1, none⟩ = some (.int .i64 sl) := HK.out.cell 1 rfl 1
      have c_f_2 : wr.cell? ⟨W.heap.size, 2, none⟩ = some (.slice (some ad) n c) := HK.out.cell 1 rfl 2
      have c_g_0 : wr.cell? ⟨W.heap.size + 1, 0, none⟩ = some (.int .i64 wd2) := HK.out.cell 0 rfl 0
      have c_g_1 : wr.cell? ⟨W.heap.size + 1, 1, none⟩ = some (.int .i64 sl2) := HK.out.cell 0 rfl 1
      have c_g_2 : wr.cell? ⟨W.heap.size + 1, 2, none⟩ = some (.slice (some ad2) n c2) := HK.out.cell 0 rfl 2
      go_wp2_with fail
      clear c_f_0 c_f_1 c_f_2 c_g_0 c_g_1 c_g_2
      refine wp_region_noPanic ?_
      refine wp_region_held_drew (S := fun W' => Kept W W' [(W.heap.size + 1, 24, #[.int .i64 wd2, .int .i64 sl2, .slice (some ad2) n c2]), (W.heap.size, 24, #[.int .i64 wd, .int .i64 sl, .slice (some ad) n c])]) (by kernel_rfl) HK.out.drew (fun hHeld => ?_)
      refine takeH 0 (v := ?v0u16) rfl (by kernel_rfl) (by kernel_rfl) (by kernel_rfl) rfl (fun _ _ _ h => h) (Or.inl ⟨by rfl, ?y0u16⟩) hHeld ?r0u16
      case y0u16 => (intro W hSW; (try dsimp only at hSW); go_simp; try with_reducible rfl)
      simp only [Act.put, List.setIfInBounds_toArray, List.set_cons_zero, List.set_cons_succ]
      refine takeH 1 (v := ?v1u17) rfl (by kernel_rfl) (by kernel_rfl) (by kernel_rfl) rfl (fun _ _ _ h => h) (Or.inl ⟨by rfl, ?y1u17⟩) hHeld ?r1u17
      case y1u17 => (intro W hSW; (try dsimp only at hSW); have q0 := hSW.cell 1 rfl 2; simp only [List.getElem?_toArray, List.getElem?_cons_zero, List.getElem?_cons_succ] at q0; go_simp; try with_reducible rfl)
      simp only [Act.put, List.setIfInBounds_toArray, List.set_cons_zero, List.set_cons_succ]
      refine takeH 2 (v := ?v2u18) rfl (by kernel_rfl) (by kernel_rfl) (by kernel_rfl) rfl (fun _ _ _ h => h) (Or.inl ⟨by rfl, ?y2u18⟩) hHeld ?r2u18
      case y2u18 => (intro W hSW; (try dsimp only at hSW); go_simp; try with_reducible rfl)
      simp only [Act.put, List.setIfInBounds_toArray, List.set_cons_zero, List.set_cons_succ]
      refine takeH 3 (v := ?v3u19) rfl (by kernel_rfl) (by kernel_rfl) (by kernel_rfl) rfl (fun _ _ _ h => h) (Or.inl ⟨by rfl, ?y3u19⟩) hHeld ?r3u19
      case y3u19 => (intro W hSW; (try dsimp only at hSW); go_simp; try with_reducible rfl)
      simp only [Act.put, List.setIfInBounds_toArray, List.set_cons_zero, List.set_cons_succ]
      refine takeH 4 (v := ?v4u20) rfl (by kernel_rfl) (by kernel_rfl) (by kernel_rfl) rfl (fun _ _ _ h => h) (Or.inl ⟨by rfl, ?y4u20⟩) hHeld ?r4u20
      case y4u20 => (intro W hSW; (try dsimp only at hSW); have q0 := (hSW.bel.cell (p := (ad.add (k * 2))) bl).trans d0; have q1 := (hSW.bel.cell (p := ⟨(ad.add (k * 2)).block, (ad.add (k * 2)).off + 1, none⟩) bl).trans d1; go_simp; try with_reducible rfl)
      simp only [Act.put, List.setIfInBounds_toArray, List.set_cons_zero, List.set_cons_succ]
      refine takeH 5 (v := ?v5u21) rfl (by kernel_rfl) (by kernel_rfl) (by kernel_rfl) rfl (fun _ _ _ h => h) (Or.inl ⟨by rfl, ?y5u21⟩) hHeld ?r5u21
      case y5u21 => (intro W hSW; (try dsimp only at hSW); go_simp; try with_reducible rfl)
      simp only [Act.put, List.setIfInBounds_toArray, List.set_cons_zero, List.set_cons_succ]
      refine takeH 6 (v := ?v6u22) rfl (by kernel_rfl) (by kernel_rfl) (by kernel_rfl) rfl (fun _ _ _ h => h) (Or.inl ⟨by rfl, ?y6u22⟩) hHeld ?r6u22
      case y6u22 => (intro W hSW; (try dsimp only at hSW); have q0 := hSW.cell 0 rfl 2; simp only [List.getElem?_toArray, List.getElem?_cons_zero, List.getElem?_cons_succ] at q0; go_simp; try with_reducible rfl)
      simp only [Act.put, List.setIfInBounds_toArray, List.set_cons_zero, List.set_cons_succ]
      refine takeH 7 (v := ?v7u23) rfl (by kernel_rfl) (by kernel_rfl) (by kernel_rfl) rfl (fun _ _ _ h => h) (Or.inl ⟨by rfl, ?y7u23⟩) hHeld ?r7u23
      case y7u23 => (intro W hSW; (try dsimp only at hSW); go_simp; try with_reducible rfl)
      simp only [Act.put, List.setIfInBounds_toArray, List.set_cons_zero, List.set_cons_succ]
      refine takeH 8 (v := ?v8u24) rfl (by kernel_rfl) (by kernel_rfl) (by kernel_rfl) rfl (fun _ _ _ h => h) (Or.inl ⟨by rfl, ?y8u24⟩) hHeld ?r8u24
      case y8u24 => (intro W hSW; (try dsimp only at hSW); go_simp; try with_reducible rfl)
      simp only [Act.put, List.setIfInBounds_toArray, List.set_cons_zero, List.set_cons_succ]
      refine takeH 9 (v := ?v9u25) rfl (by kernel_rfl) (by kernel_rfl) (by kernel_rfl) rfl (fun _ _ _ h => h) (Or.inl ⟨by rfl, ?y9u25⟩) hHeld ?r9u25
      case y9u25 => (intro W hSW; (try dsimp only at hSW); have q0 := (hSW.bel.cell (p := (ad2.add (k * 2))) bl2).trans d20; have q1 := (hSW.bel.cell (p := ⟨(ad2.add (k * 2)).block, (ad2.add (k * 2)).off + 1, none⟩) bl2).trans d21; go_simp; try with_reducible rfl)
      simp only [Act.put, List.setIfInBounds_toArray, List.set_cons_zero, List.set_cons_succ]
      by_cases hne : e1 = e2
      · subst hne
        refine takeH 10 (v := ?v10u26) rfl (by kernel_rfl) (by kernel_rfl) (by kernel_rfl) rfl (fun _ _ _ h => h) (Or.inl ⟨by rfl, ?y10u26⟩) hHeld ?r10u26
        case y10u26 => (intro W hSW; (try dsimp only at hSW); go_simp; try with_reducible rfl)
        simp only [Act.put, List.setIfInBounds_toArray, List.set_cons_zero, List.set_cons_succ]
        refine wpAnyH_done (by kernel_rfl) ?_ _
        refine NoPanic.normal ?_
        have HS2 := Lib.hid (show ∀ (j : Nat) e, j < k + 1 → cs[j]? = some e → cs2[j]? = some e from fun j e hj he => by
          by_cases hjk : j < k
          · exact HS.out j e hjk he
          · obtain rfl : j = k := by omega
            rw [HE1.out] at he; injection he with he; subst he; exact HE2.out)
        have HKn := Lib.hid hHeld
        clear hHeld HK d0 d1 d20 d21
        go_wp2
        exact ⟨⟨k + 1, by omega, rfl, HS2, HKn⟩, by simp [intOf]; omega⟩
      · refine takeH 10 (v := .bool true) rfl (by kernel_rfl) (by kernel_rfl) (by kernel_rfl) rfl (fun _ _ _ h => h) (Or.inl ⟨by rfl, ?y10u27⟩) hHeld ?r10u27
        case y10u27 => (intro W hSW; (try dsimp only at hSW); go_simp; exact cell_ne e1 e2 hne)
        simp only [Act.put, List.setIfInBounds_toArray, List.set_cons_zero, List.set_cons_succ]
        refine wpAnyH_done (by kernel_rfl) ?_ _
        refine NoPanic.normal ?_
        have HE := Lib.hid (show res = false from by rw [HD.out]; exact decide_eq_false (fun h => hne (by have h3 := HE1.out; rw [h.2.2, HE2.out] at h3; exact (Option.some.inj h3).symm)))
        clear HK d0 d1 d20 d21 HD
        go_wp2
        go_ret
        exact ⟨ret_bool HE.out.symm, hHeld.bel⟩
    · obtain rfl : n = k := by omega
      have HE := Lib.hid (show res = true from by
        rw [HD.out]
        refine decide_eq_true ⟨G0.out, G1.out, ?_⟩
        apply List.ext_getElem?
        intro j
        by_cases hj : j < n
        · rw [HS.out j _ hj (List.getElem?_eq_getElem (by rw [HL.out]; exact hj)), List.getElem?_eq_getElem (by rw [HL.out]; exact hj)]
        · rw [List.getElem?_eq_none (by rw [HL.out]; omega), List.getElem?_eq_none (by rw [HL2.out]; omega)])
      have c_f_0 : wr.cell? ⟨W.heap.size, 0, none⟩ = some (.int .i64 wd) := HK.out.cell 1 rfl 0
      have c_f_1 : wr.cell? ⟨W.heap.size, 1, none⟩ = some (.int .i64 sl) := HK.out.cell 1 rfl 1
      have c_f_2 : wr.cell? ⟨W.heap.size, 2, none⟩ = some (.slice A n c) := HK.out.cell 1 rfl 2
      have c_g_0 : wr.cell? ⟨W.heap.size + 1, 0, none⟩ = some (.int .i64 wd2) := HK.out.cell 0 rfl 0
      have c_g_1 : wr.cell? ⟨W.heap.size + 1, 1, none⟩ = some (.int .i64 sl2) := HK.out.cell 0 rfl 1
      have c_g_2 : wr.cell? ⟨W.heap.size + 1, 2, none⟩ = some (.slice A2 n c2) := HK.out.cell 0 rfl 2
      go_wp2
      go_ret
      exact ⟨ret_bool HE.out.symm, HK.out.bel⟩
end Go.Proofs.Ytmkjfpmailihjaa
