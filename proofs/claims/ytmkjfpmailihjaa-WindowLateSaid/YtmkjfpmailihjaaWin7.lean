/- The contract of the reference's Move. -/
import Derived.Test.YtmkjfpmailihjaaWin6
namespace Go.Proofs.Ytmkjfpmailihjaa
set_option linter.unusedVariables false
open Go.RowKit Go.ChangeShapes

theorem made_owns (w : World) (n : Nat) (hn : n ≤ 1000) : (w.alloc (.cells (madeCells #[.int .i64 0, .int .i64 0] (n * 2)) 40)).ownsRow w.heap.size 40 2 (.slice (some ⟨w.heap.size, 0, none⟩) n n) n (cellCells (List.replicate n (0, 0))) := by
  refine ⟨by rw [cellCells_length, List.length_replicate], .inr ⟨w.heap.size, n, _, rfl, Nat.le_refl _, Blk.new w 40 (madeCells #[.int .i64 0, .int .i64 0] (n * 2)), Nat.le_refl _, by unfold maxLen; omega, size_madeCells .., ?_⟩⟩
  rw [made_cells, List.take_of_length_le (by rw [cellCells_length, List.length_replicate]; omega)]
theorem rMove_res {W : World} {g : Nat} {x0 x1 x2 : Value} (h : Blk W g 24 #[x0, x1, x2]) (tmps : Array Value) (u : Value) (ht : tmps[4]?.getD undef = .pointer (some ⟨g, 0, none⟩)) (hu : tmps[5]?.getD undef = u) : (results Try.f13 tmps).run Try.prog W = .ok (.tuple #[.agg #[x0, x1, x2], u]) W := by
  have c0 : W.cell? ⟨g, 0, none⟩ = some x0 := h.cell 0
  have c1 : W.cell? ⟨g, 1, none⟩ = some x1 := h.cell 1
  have c2 : W.cell? ⟨g, 2, none⟩ = some x2 := h.cell 2
  simp [results, Try.results13, go_sem, ht, hu, c0, c1, c2]

set_option maxHeartbeats 4000000 in
theorem rMove_c (wd sl : Int) (A : Option Addr) (n c B : Nat) (cs : List (Int × Int)) (a : Int) (W : World) (hr : Reads W B 2 A n (cellCells cs)) (hB : B ≤ W.heap.size) (hn : n ≤ 9223372036854775807) : Calls Try.prog 13 #[.agg (winA wd sl A n c), .int .i64 a] W (WinOk A W (moveR wd sl cs a)) := by
  have HR := Lib.hid (hr.more hB)
  have HL := Lib.hid hr.cell_len
  clear hr
  have HK1 := Lib.hid (show Kept W ((W.alloc (.cells #[.int .i64 wd, .int .i64 sl, .slice A n c] 24)).alloc (.cells #[.int .i64 0, .int .i64 0, .slice none 0 0] 24)) [(W.heap.size + 1, 24, #[.int .i64 0, .int .i64 0, .slice none 0 0]), (W.heap.size, 24, #[.int .i64 wd, .int .i64 sl, .slice A n c])] from (((Kept.start W).alloc_at 24 #[.int .i64 wd, .int .i64 sl, .slice A n c] (W.heap.size) (by simp)).alloc_at 24 #[.int .i64 0, .int .i64 0, .slice none 0 0] (W.heap.size + 1) (by simp)))
  go_enter Try.func13, Try.ntmps13
  go_wp2_with fail
  with_reducible refine (rwRight_c wd sl A n c W.heap.size cs _ (HR.out.below HK1.out.bel) HK1.out.size hn).mono ?_
  rintro e w1 ⟨rfl, hb1⟩
  have HK2 := Lib.hid (show Kept W w1 [(W.heap.size + 1, 24, #[.int .i64 0, .int .i64 0, .slice none 0 0]), (W.heap.size, 24, #[.int .i64 wd, .int .i64 sl, .slice A n c])] from HK1.out.next hb1)
  clear HK1
  clear hb1
  cases hrt : rightW wd sl cs
  · have HE := Lib.hid (moveR_bad (wd := wd) (sl := sl) (cs := cs) (a := a) (by rw [hrt]; rfl))
    clear hrt
    have c_f_0 : w1.cell? ⟨W.heap.size, 0, none⟩ = some (.int .i64 wd) := HK2.out.cell 1 rfl 0
    have c_f_1 : w1.cell? ⟨W.heap.size, 1, none⟩ = some (.int .i64 sl) := HK2.out.cell 1 rfl 1
    have c_f_2 : w1.cell? ⟨W.heap.size, 2, none⟩ = some (.slice A n c) := HK2.out.cell 1 rfl 2
    have c_r_0 : w1.cell? ⟨W.heap.size + 1, 0, none⟩ = some (.int .i64 0) := HK2.out.cell 0 rfl 0
    have z_r_0 : w1.frozen? ⟨W.heap.size + 1, 0, none⟩ = false := HK2.out.frozen 0 rfl 0
    have c_r_1 : w1.cell? ⟨W.heap.size + 1, 1, none⟩ = some (.int .i64 0) := HK2.out.cell 0 rfl 1
    have z_r_1 : w1.frozen? ⟨W.heap.size + 1, 1, none⟩ = false := HK2.out.frozen 0 rfl 1
    have c_r_2 : w1.cell? ⟨W.heap.size + 1, 2, none⟩ = some (.slice none 0 0) := HK2.out.cell 0 rfl 2
    have z_r_2 : w1.frozen? ⟨W.heap.size + 1, 2, none⟩ = false := HK2.out.frozen 0 rfl 2
    go_wp2
    exact bodyPost_ret (rMove_res (put3 (HK2.out.blk 0 rfl)) _ (.int .i64 1) rfl rfl) rfl (WinOk.of HE.out ⟨A, n, c, rfl, ((((HR.out.below HK2.out.bel).setCell (by simp) _).setCell (by simp) _).setCell (by simp) _).more (by have := HK2.out.size; simp [World.setCell]; omega), put3_below HK2.out.bel (by omega), fun ad e => .inl rfl⟩)
  · have c_f_0 : w1.cell? ⟨W.heap.size, 0, none⟩ = some (.int .i64 wd) := HK2.out.cell 1 rfl 0
    have c_f_1 : w1.cell? ⟨W.heap.size, 1, none⟩ = some (.int .i64 sl) := HK2.out.cell 1 rfl 1
    have c_f_2 : w1.cell? ⟨W.heap.size, 2, none⟩ = some (.slice A n c) := HK2.out.cell 1 rfl 2
    have c_r_0 : w1.cell? ⟨W.heap.size + 1, 0, none⟩ = some (.int .i64 0) := HK2.out.cell 0 rfl 0
    have z_r_0 : w1.frozen? ⟨W.heap.size + 1, 0, none⟩ = false := HK2.out.frozen 0 rfl 0
    have c_r_1 : w1.cell? ⟨W.heap.size + 1, 1, none⟩ = some (.int .i64 0) := HK2.out.cell 0 rfl 1
    have z_r_1 : w1.frozen? ⟨W.heap.size + 1, 1, none⟩ = false := HK2.out.frozen 0 rfl 1
    have c_r_2 : w1.cell? ⟨W.heap.size + 1, 2, none⟩ = some (.slice none 0 0) := HK2.out.cell 0 rfl 2
    have z_r_2 : w1.frozen? ⟨W.heap.size + 1, 2, none⟩ = false := HK2.out.frozen 0 rfl 2
    go_wp2_with fail
    refine (Time_c a _).mono ?_
    rintro e w2 ⟨rfl, rfl⟩
    cases hta : timeB a
    · have HE := Lib.hid (moveR_bad (wd := wd) (sl := sl) (cs := cs) (a := a) (by rw [hrt, hta]; rfl))
      clear hrt hta
      go_wp2
      exact bodyPost_ret (rMove_res (put3 (HK2.out.blk 0 rfl)) _ (.int .i64 1) rfl rfl) rfl (WinOk.of HE.out ⟨A, n, c, rfl, ((((HR.out.below HK2.out.bel).setCell (by simp) _).setCell (by simp) _).setCell (by simp) _).more (by have := HK2.out.size; simp [World.setCell]; omega), put3_below HK2.out.bel (by omega), fun ad e => .inl rfl⟩)
    obtain ⟨r1, r2, r3, r4, r5, r6⟩ := rightW_facts hrt
    obtain ⟨t1, t2⟩ := timeB_facts hta
    rw [HL.out] at r5 r6
    have hqq := quo_in (a := a) (wd := wd) t1 t2 r1
    have hw0 : ¬ wd = 0 := by omega
    have hq : (wd == 0) = false := by rw [beq_eq_false_iff_ne]; omega
    have hd1 : 0 ≤ a / wd := Int.ediv_nonneg t1 (by omega)
    have hd2 : a / wd ≤ 1099511627776 := Int.le_trans (Int.ediv_le_self wd t1) t2
    have HBk := Lib.hid (moveR_back (a := a) hrt hta)
    have HOn := Lib.hid (moveR_on (a := a) hrt hta)
    clear hrt hta
    generalize a / wd = to at hqq hd1 hd2 HBk HOn
    by_cases hle : to ≤ sl
    · have dle : decide (to ≤ sl) = true := by simpa using hle
      have HE := Lib.hid (HBk.out hle)
      go_wp2
      exact bodyPost_ret (rMove_res (put3 (HK2.out.blk 0 rfl)) _ (.int .i64 0) rfl rfl) rfl (WinOk.of HE.out ⟨A, n, c, rfl, ((((HR.out.below HK2.out.bel).setCell (by simp) _).setCell (by simp) _).setCell (by simp) _).more (by have := HK2.out.size; simp [World.setCell]; omega), put3_below HK2.out.bel (by omega), fun ad e => .inl rfl⟩)
    have dle : decide (to ≤ sl) = false := by simpa using hle
    have HE := Lib.hid (HOn.out hle)
    clear HBk HOn
    have HM := Lib.hid (rfill_moved cs sl to (by omega) (by rw [HL.out]; exact r5))
    rw [HL.out] at HM
    have mk := make_run n (by omega)
    have HKa := Lib.hid (HK2.out.alloc_off (.cells (madeCells #[.int .i64 0, .int .i64 0] (n * 2)) 40))
    have HO := Lib.hid (ownsRow_base (base' := W.heap.size + 2) (show (w1.alloc (.cells (madeCells #[.int .i64 0, .int .i64 0] (n * 2)) 40)).ownsRow w1.heap.size 40 2 (.slice (some ⟨w1.heap.size, 0, none⟩) n n) n (cellCells (rfill cs sl to 0)) from by rw [show rfill cs sl to 0 = List.replicate n (0, 0) from by rw [rfill, HL.out]]; exact made_owns w1 n (by omega)) (HK2.out.lt 0 rfl))
    go_wp2
    clear c_f_0 c_f_1 c_f_2 c_r_0 z_r_0 c_r_1 z_r_1 c_r_2 z_r_2
    generalize w1.alloc (.cells (madeCells #[.int .i64 0, .int .i64 0] (n * 2)) 40) = w3 at HKa HO ⊢
    generalize w1.heap.size = g3 at HO ⊢
    clear mk dle
    clear HK2
    go_loopw [9] (fun i wr => ∃ (k : Nat), k ≤ n ∧ i = .int .i64 (k : Int) ∧ Hid (wr.ownsRow (W.heap.size + 2) 40 2 (.slice (some ⟨g3, 0, none⟩) n n) n (cellCells (rfill cs sl to k))) ∧ Hid (Kept W wr [(W.heap.size + 1, 24, #[.int .i64 0, .int .i64 0, .slice none 0 0]), (W.heap.size, 24, #[.int .i64 wd, .int .i64 sl, .slice A n c])])) (fun i _ => (n : Int).toNat - (intOf i).toNat)
    case atStart => exact ⟨0, Nat.zero_le _, by simp, HO, HKa⟩
    case round =>
      clear HKa HO
      obtain ⟨k, hk, rfl, HO, HK⟩ := hrel
      by_cases hlt : k < n
      · have i1 : (0 : Int) ≤ (to - (k : Int)) % (n : Int) := Int.emod_nonneg _ (by omega)
        have i2 : (to - (k : Int)) % (n : Int) < (n : Int) := Int.emod_lt_of_pos _ (by omega)
        have hin : ((to - (k : Int)) % (n : Int)).toNat < n := by omega
        have hn0 : ¬ n = 0 := by omega
        have HG := Lib.hid (own_ge HO.out g3 rfl)
        have HS := Lib.hid (show rfill cs sl to (k + 1) = (rfill cs sl to k).set ((to - (k : Int)) % (n : Int)).toNat (valW cs sl (to - (k : Int))) from by rw [rfill, HL.out])
        have hsw : (to - (k : Int)) ≤ 1099511627776 := by omega
        by_cases hs0 : 0 ≤ to - (k : Int)
        · have htm : (to - (k : Int)).tmod (n : Int) = (to - (k : Int)) % (n : Int) := Int.tmod_eq_emod_of_nonneg hs0
          have d0 : decide (0 ≤ to - (k : Int)) = true := by simpa using hs0
          generalize (to - (k : Int)) % (n : Int) = ix at i1 i2 hin HS htm
          have c_f_0 : wr.cell? ⟨W.heap.size, 0, none⟩ = some (.int .i64 wd) := HK.out.cell 1 rfl 0
          have c_f_1 : wr.cell? ⟨W.heap.size, 1, none⟩ = some (.int .i64 sl) := HK.out.cell 1 rfl 1
          have c_f_2 : wr.cell? ⟨W.heap.size, 2, none⟩ = some (.slice A n c) := HK.out.cell 1 rfl 2
          go_wp2_with fail
          clear c_f_0 c_f_1 c_f_2
          refine wp_region_noPanic ?_
          refine wp_region_held_drew (S := fun W' => Kept W W' [(W.heap.size + 1, 24, #[.int .i64 0, .int .i64 0, .slice none 0 0]), (W.heap.size, 24, #[.int .i64 wd, .int .i64 sl, .slice A n c])]) (by kernel_rfl) HK.out.drew (fun hHeld => ?_)
          have HOd := Lib.hid (show wr.drew.ownsRow (W.heap.size + 2) 40 2 (.slice (some ⟨g3, 0, none⟩) n n) n (cellCells (rfill cs sl to k)) from HO.out)
          clear HO
          refine takeH 0 (v := ?v0u16) rfl (by kernel_rfl) (by kernel_rfl) (by kernel_rfl) rfl (fun _ _ _ h => h) (Or.inl ⟨by rfl, ?y0u16⟩) hHeld ?r0u16
          case y0u16 => (intro W hSW; (try dsimp only at hSW); go_simp; try with_reducible rfl)
          simp only [Act.put, List.setIfInBounds_toArray, List.set_cons_zero, List.set_cons_succ]
          refine takeH 1 (v := ?v1u17) rfl (by kernel_rfl) (by kernel_rfl) (by kernel_rfl) rfl (fun _ _ _ h => h) (Or.inl ⟨by rfl, ?y1u17⟩) hHeld ?r1u17
          case y1u17 => (intro W hSW; (try dsimp only at hSW); go_simp; try with_reducible rfl)
          simp only [Act.put, List.setIfInBounds_toArray, List.set_cons_zero, List.set_cons_succ]
          refine takeH 2 (v := ?v2u18) rfl (by kernel_rfl) (by kernel_rfl) (by kernel_rfl) rfl (fun _ _ _ h => h) (Or.inl ⟨by rfl, ?y2u18⟩) hHeld ?r2u18
          case y2u18 => (intro W hSW; (try dsimp only at hSW); go_simp; try with_reducible rfl)
          simp only [Act.put, List.setIfInBounds_toArray, List.set_cons_zero, List.set_cons_succ]
          refine takeH 3 (v := ?v3u19) rfl (by kernel_rfl) (by kernel_rfl) (by kernel_rfl) rfl (fun _ _ _ h => h) (Or.inl ⟨by rfl, ?y3u19⟩) hHeld ?r3u19
          case y3u19 => (intro W hSW; (try dsimp only at hSW); go_simp; try with_reducible rfl)
          simp only [Act.put, List.setIfInBounds_toArray, List.set_cons_zero, List.set_cons_succ]
          refine takeH 4 (v := ?v4u20) rfl (by kernel_rfl) (by kernel_rfl) (by kernel_rfl) rfl (fun _ _ _ h => h) (Or.inl ⟨by rfl, ?y4u20⟩) hHeld ?r4u20
          case y4u20 => (intro W hSW; (try dsimp only at hSW); have q0 := hSW.cell 1 rfl 0; have q1 := hSW.cell 1 rfl 1; have q2 := hSW.cell 1 rfl 2; simp only [List.getElem?_toArray, List.getElem?_cons_zero, List.getElem?_cons_succ] at q0 q1 q2; go_simp; try with_reducible rfl)
          simp only [Act.put, List.setIfInBounds_toArray, List.set_cons_zero, List.set_cons_succ]
          refine takeH 5 (v := ?v5u21) rfl (by kernel_rfl) (by kernel_rfl) (by kernel_rfl) rfl (fun _ _ _ h => h) (Or.inl ⟨by rfl, ?y5u21⟩) hHeld ?r5u21
          case y5u21 => (intro W hSW; (try dsimp only at hSW); go_simp; try with_reducible rfl)
          simp only [Act.put, List.setIfInBounds_toArray, List.set_cons_zero, List.set_cons_succ]
          refine wpAnyH_ready (rs := [6]) (by kernel_rfl) (by simp) ?_
          refine AllReadyH.cons rfl (fun K hK => ?_) AllReadyH.nil
          go_simp
          with_reducible refine (get_c wd sl A n c W.heap.size cs _ _ (HR.out.below hHeld.bel) hHeld.size r5 r6 hs0 (by omega) hsw r3 r4).mono ?_
          rintro e w5 ⟨rfl, hbn⟩
          have HO2 := Lib.hid (own_below HOd.out hbn (Nat.le_refl _))
          have hg5 := hbn.size
          have hkn := hHeld.next hbn
          clear hbn HOd
          refine hK.out _ _ hkn (fun hHeld => ?_)
          clear hK K
          try simp only [Act.put, List.setIfInBounds_toArray, List.set_cons_zero, List.set_cons_succ]
          generalize valW cs sl (to - (k : Int)) = v at HS ⊢
          obtain ⟨x, y, q0, q1, q2, q3, _⟩ := own_cell HO2.out hin
          have HO3 := Lib.hid (own_set HO2.out hin v.1 v.2)
          clear HO2
          refine takeH 7 (v := ?v7u22) rfl (by kernel_rfl) (by kernel_rfl) (by kernel_rfl) rfl (fun _ _ _ h => h) (Or.inl ⟨by rfl, ?y7u22⟩) hHeld ?r7u22
          case y7u22 => (intro W hSW; (try dsimp only at hSW); go_simp; try with_reducible rfl)
          simp only [Act.put, List.setIfInBounds_toArray, List.set_cons_zero, List.set_cons_succ]
          have hlt5 : W.heap.size + 2 ≤ g3 := HG.out.1
          refine wpAnyH_ready (rs := [8]) (by kernel_rfl) (by simp) ?_
          refine AllReadyH.cons rfl (fun K hK => ?_) AllReadyH.nil
          go_simp
          refine hK.out _ _ ((hHeld.put_off (by simp; have := HG.out; omega) (by intro x hx; simp at hx; have := HG.out; rcases hx with rfl | rfl <;> simp <;> omega) _).put_off (by simp; have := HG.out; omega) (by intro x hx; simp at hx; have := HG.out; rcases hx with rfl | rfl <;> simp <;> omega) _) (fun hHeld => ?_)
          clear hK K
          try simp only [Act.put, List.setIfInBounds_toArray, List.set_cons_zero, List.set_cons_succ]
          refine wpAnyH_done (by kernel_rfl) ?_ _
          refine NoPanic.normal ?_
          have HKn := Lib.hid hHeld
          clear hHeld
          go_wp2
          refine ⟨⟨k + 1, by omega, by simp, by rw [HS.out]; exact HO3, HKn⟩, by simp [intOf]; omega⟩
        · have hwr : IntKind.i64.wrap (to - (k : Int) + (n : Int)) = to - (k : Int) + (n : Int) := IntWalk.i64_in _ (by omega)
          have htm : (to - (k : Int) + (n : Int)).tmod (n : Int) = (to - (k : Int)) % (n : Int) := by rw [Int.tmod_eq_emod_of_nonneg (by omega), Int.add_emod_right]
          have d0 : decide (0 ≤ to - (k : Int)) = false := by simpa using hs0
          obtain ⟨ad, e, hA, hb, he, x0, x1⟩ := cell_in HR.out hin
          have HA := Lib.hid hA
          clear hA
          have HV := Lib.hid (show valW cs sl (to - (k : Int)) = e from by unfold valW; rw [if_neg (by omega), HL.out]; exact getD_of_get he)
          rw [HV.out] at HS
          clear HV he
          generalize (to - (k : Int)) % (n : Int) = ix at i1 i2 hin HS htm x0 x1
          have bl : (ad.add (ix.toNat * 2)).block < W.heap.size := World.block_lt_of_cell? W _ x0
          have c_f_0 : wr.cell? ⟨W.heap.size, 0, none⟩ = some (.int .i64 wd) := HK.out.cell 1 rfl 0
          have c_f_1 : wr.cell? ⟨W.heap.size, 1, none⟩ = some (.int .i64 sl) := HK.out.cell 1 rfl 1
          have c_f_2 : wr.cell? ⟨W.heap.size, 2, none⟩ = some (.slice A n c) := HK.out.cell 1 rfl 2
          go_wp2_with fail
          clear c_f_0 c_f_1 c_f_2
          refine wp_region_noPanic ?_
          refine wp_region_held_drew (S := fun W' => Kept W W' [(W.heap.size + 1, 24, #[.int .i64 0, .int .i64 0, .slice none 0 0]), (W.heap.size, 24, #[.int .i64 wd, .int .i64 sl, .slice A n c])]) (by kernel_rfl) HK.out.drew (fun hHeld => ?_)
          have HOd := Lib.hid (show wr.drew.ownsRow (W.heap.size + 2) 40 2 (.slice (some ⟨g3, 0, none⟩) n n) n (cellCells (rfill cs sl to k)) from HO.out)
          clear HO
          generalize wr.drew = wz at hHeld HOd ⊢
          refine takeH 0 (v := ?v0u23) rfl (by kernel_rfl) (by kernel_rfl) (by kernel_rfl) rfl (fun _ _ _ h => h) (Or.inl ⟨by rfl, ?y0u23⟩) hHeld ?r0u23
          case y0u23 => (intro W hSW; (try dsimp only at hSW); go_simp; try with_reducible rfl)
          simp only [Act.put, List.setIfInBounds_toArray, List.set_cons_zero, List.set_cons_succ]
          refine takeH 1 (v := ?v1u24) rfl (by kernel_rfl) (by kernel_rfl) (by kernel_rfl) rfl (fun _ _ _ h => h) (Or.inl ⟨by rfl, ?y1u24⟩) hHeld ?r1u24
          case y1u24 => (intro W hSW; (try dsimp only at hSW); go_simp; try with_reducible rfl)
          simp only [Act.put, List.setIfInBounds_toArray, List.set_cons_zero, List.set_cons_succ]
          refine takeH 2 (v := ?v2u25) rfl (by kernel_rfl) (by kernel_rfl) (by kernel_rfl) rfl (fun _ _ _ h => h) (Or.inl ⟨by rfl, ?y2u25⟩) hHeld ?r2u25
          case y2u25 => (intro W hSW; (try dsimp only at hSW); go_simp; try with_reducible rfl)
          simp only [Act.put, List.setIfInBounds_toArray, List.set_cons_zero, List.set_cons_succ]
          refine takeH 3 (v := ?v3u26) rfl (by kernel_rfl) (by kernel_rfl) (by kernel_rfl) rfl (fun _ _ _ h => h) (Or.inl ⟨by rfl, ?y3u26⟩) hHeld ?r3u26
          case y3u26 => (intro W hSW; (try dsimp only at hSW); go_simp; try with_reducible rfl)
          simp only [Act.put, List.setIfInBounds_toArray, List.set_cons_zero, List.set_cons_succ]
          refine takeH 4 (v := ?v4u27) rfl (by kernel_rfl) (by kernel_rfl) (by kernel_rfl) rfl (fun _ _ _ h => h) (Or.inl ⟨by rfl, ?y4u27⟩) hHeld ?r4u27
          case y4u27 => (intro W hSW; (try dsimp only at hSW); go_simp; try with_reducible rfl)
          simp only [Act.put, List.setIfInBounds_toArray, List.set_cons_zero, List.set_cons_succ]
          refine takeH 5 (v := ?v5u28) rfl (by kernel_rfl) (by kernel_rfl) (by kernel_rfl) rfl (fun _ _ _ h => h) (Or.inl ⟨by rfl, ?y5u28⟩) hHeld ?r5u28
          case y5u28 => (intro W hSW; (try dsimp only at hSW); go_simp; try with_reducible rfl)
          simp only [Act.put, List.setIfInBounds_toArray, List.set_cons_zero, List.set_cons_succ]
          refine takeH 6 (v := ?v6u29) rfl (by kernel_rfl) (by kernel_rfl) (by kernel_rfl) rfl (fun _ _ _ h => h) (Or.inl ⟨by rfl, ?y6u29⟩) hHeld ?r6u29
          case y6u29 => (intro W hSW; (try dsimp only at hSW); go_simp; try with_reducible rfl)
          simp only [Act.put, List.setIfInBounds_toArray, List.set_cons_zero, List.set_cons_succ]
          refine takeH 7 (v := ?v7u30) rfl (by kernel_rfl) (by kernel_rfl) (by kernel_rfl) rfl (fun _ _ _ h => h) (Or.inl ⟨by rfl, ?y7u30⟩) hHeld ?r7u30
          case y7u30 => (intro W hSW; (try dsimp only at hSW); have q0 := hSW.cell 1 rfl 2; simp only [List.getElem?_toArray, List.getElem?_cons_zero, List.getElem?_cons_succ] at q0; go_simp; try with_reducible rfl)
          simp only [Act.put, List.setIfInBounds_toArray, List.set_cons_zero, List.set_cons_succ]
          refine takeH 8 (v := ?v8u31) rfl (by kernel_rfl) (by kernel_rfl) (by kernel_rfl) rfl (fun _ _ _ h => h) (Or.inl ⟨by rfl, ?y8u31⟩) hHeld ?r8u31
          case y8u31 => (intro W hSW; (try dsimp only at hSW); go_simp; try with_reducible rfl)
          simp only [Act.put, List.setIfInBounds_toArray, List.set_cons_zero, List.set_cons_succ]
          refine takeH 9 (v := ?v9u32) rfl (by kernel_rfl) (by kernel_rfl) (by kernel_rfl) rfl (fun _ _ _ h => h) (Or.inl ⟨by rfl, ?y9u32⟩) hHeld ?r9u32
          case y9u32 => (intro W hSW; (try dsimp only at hSW); go_simp; try with_reducible rfl)
          simp only [Act.put, List.setIfInBounds_toArray, List.set_cons_zero, List.set_cons_succ]
          refine takeH 10 (v := ?v10u33) rfl (by kernel_rfl) (by kernel_rfl) (by kernel_rfl) rfl (fun _ _ _ h => h) (Or.inl ⟨by rfl, ?y10u33⟩) hHeld ?r10u33
          case y10u33 => (intro W hSW; (try dsimp only at hSW); go_simp; try with_reducible rfl)
          simp only [Act.put, List.setIfInBounds_toArray, List.set_cons_zero, List.set_cons_succ]
          refine takeH 11 (v := ?v11u34) rfl (by kernel_rfl) (by kernel_rfl) (by kernel_rfl) rfl (fun _ _ _ h => h) (Or.inl ⟨by rfl, ?y11u34⟩) hHeld ?r11u34
          case y11u34 => (intro W hSW; (try dsimp only at hSW); go_simp; try with_reducible rfl)
          simp only [Act.put, List.setIfInBounds_toArray, List.set_cons_zero, List.set_cons_succ]
          refine takeH 12 (v := ?v12u35) rfl (by kernel_rfl) (by kernel_rfl) (by kernel_rfl) rfl (fun _ _ _ h => h) (Or.inl ⟨by rfl, ?y12u35⟩) hHeld ?r12u35
          case y12u35 => (intro W hSW; (try dsimp only at hSW); go_simp; try with_reducible rfl)
          simp only [Act.put, List.setIfInBounds_toArray, List.set_cons_zero, List.set_cons_succ]
          refine takeH 13 (v := ?v13u36) rfl (by kernel_rfl) (by kernel_rfl) (by kernel_rfl) rfl (fun _ _ _ h => h) (Or.inl ⟨by rfl, ?y13u36⟩) hHeld ?r13u36
          case y13u36 => (intro W hSW; (try dsimp only at hSW); rw [HA.out]; go_simp; try with_reducible rfl)
          simp only [Act.put, List.setIfInBounds_toArray, List.set_cons_zero, List.set_cons_succ]
          refine takeH 14 (v := ?v14u37) rfl (by kernel_rfl) (by kernel_rfl) (by kernel_rfl) rfl (fun _ _ _ h => h) (Or.inl ⟨by rfl, ?y14u37⟩) hHeld ?r14u37
          case y14u37 => (intro W hSW; (try dsimp only at hSW); have q0 := (hSW.bel.cell (p := (ad.add (ix.toNat * 2))) bl).trans x0; have q1 := (hSW.bel.cell (p := ⟨(ad.add (ix.toNat * 2)).block, (ad.add (ix.toNat * 2)).off + 1, none⟩) bl).trans x1; go_simp; try with_reducible rfl)
          simp only [Act.put, List.setIfInBounds_toArray, List.set_cons_zero, List.set_cons_succ]
          obtain ⟨x, y, q0, q1, q2, q3, _⟩ := own_cell HOd.out hin
          have HO3 := Lib.hid (own_set HOd.out hin e.1 e.2)
          clear HOd
          refine takeH 15 (v := ?v15u38) rfl (by kernel_rfl) (by kernel_rfl) (by kernel_rfl) rfl (fun _ _ _ h => h) (Or.inl ⟨by rfl, ?y15u38⟩) hHeld ?r15u38
          case y15u38 => (intro W hSW; (try dsimp only at hSW); go_simp; try with_reducible rfl)
          simp only [Act.put, List.setIfInBounds_toArray, List.set_cons_zero, List.set_cons_succ]
          have hlt5 : W.heap.size + 2 ≤ g3 := HG.out.1
          refine wpAnyH_ready (rs := [16]) (by kernel_rfl) (by simp) ?_
          refine AllReadyH.cons rfl (fun K hK => ?_) AllReadyH.nil
          go_simp
          refine hK.out _ _ ((hHeld.put_off (by simp; have := HG.out; omega) (by intro x hx; simp at hx; have := HG.out; rcases hx with rfl | rfl <;> simp <;> omega) _).put_off (by simp; have := HG.out; omega) (by intro x hx; simp at hx; have := HG.out; rcases hx with rfl | rfl <;> simp <;> omega) _) (fun hHeld => ?_)
          clear hK K
          try simp only [Act.put, List.setIfInBounds_toArray, List.set_cons_zero, List.set_cons_succ]
          refine wpAnyH_done (by kernel_rfl) ?_ _
          refine NoPanic.normal ?_
          have HKn := Lib.hid hHeld
          clear hHeld
          go_wp2
          refine ⟨⟨k + 1, by omega, by simp, by rw [HS.out]; exact HO3, HKn⟩, by simp [intOf]; omega⟩
      · have hkn : k = n := by omega
        rw [hkn, HM.out] at HO
        have dk : decide ((k : Int) < (n : Int)) = false := by simp; omega
        have HG := Lib.hid (own_ge HO.out g3 rfl)
        have c_f_0 : wr.cell? ⟨W.heap.size, 0, none⟩ = some (.int .i64 wd) := HK.out.cell 1 rfl 0
        have c_f_1 : wr.cell? ⟨W.heap.size, 1, none⟩ = some (.int .i64 sl) := HK.out.cell 1 rfl 1
        have c_f_2 : wr.cell? ⟨W.heap.size, 2, none⟩ = some (.slice A n c) := HK.out.cell 1 rfl 2
        have c_r_0 : wr.cell? ⟨W.heap.size + 1, 0, none⟩ = some (.int .i64 0) := HK.out.cell 0 rfl 0
        have z_r_0 : wr.frozen? ⟨W.heap.size + 1, 0, none⟩ = false := HK.out.frozen 0 rfl 0
        have c_r_1 : wr.cell? ⟨W.heap.size + 1, 1, none⟩ = some (.int .i64 0) := HK.out.cell 0 rfl 1
        have z_r_1 : wr.frozen? ⟨W.heap.size + 1, 1, none⟩ = false := HK.out.frozen 0 rfl 1
        have c_r_2 : wr.cell? ⟨W.heap.size + 1, 2, none⟩ = some (.slice none 0 0) := HK.out.cell 0 rfl 2
        have z_r_2 : wr.frozen? ⟨W.heap.size + 1, 2, none⟩ = false := HK.out.frozen 0 rfl 2
        have HRd := Lib.hid (Reads.of_own HO.out)
        have gne : ∀ g', g' < W.heap.size + 2 → 0 < n → ∀ ad, some (⟨g3, 0, none⟩ : Addr) = some ad → ad.block ≠ g' := fun g' h' _ ad e => by injection e with e; subst e; have := HG.out; simp; omega
        go_wp2
        exact bodyPost_ret (rMove_res (put3 (HK.out.blk 0 rfl)) _ (.int .i64 0) rfl rfl) rfl (WinOk.of HE.out ⟨_, n, n, rfl, by simp only [World.size_setCell]; exact reads_put3 HRd.out (gne _ (by simp)), put3_below HK.out.bel (by omega), fun ad e => .inr (by injection e with e; subst e; have := HG.out; simp; omega)⟩)
end Go.Proofs.Ytmkjfpmailihjaa
