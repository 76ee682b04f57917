/- The contract of window.Move. -/
import Derived.Test.YtmkjfpmailihjaaWinP
namespace Go.Proofs.Ytmkjfpmailihjaa
set_option linter.unusedVariables false
open Go.RowKit Go.ChangeShapes

theorem cellCells_set : ∀ (cs : List (Int × Int)) (i : Nat) (x y : Int), ((cellCells cs).set (i * 2) (.int .i64 x)).set (i * 2 + 1) (.int .i64 y) = cellCells (cs.set i (x, y))
  | [], i, x, y => by simp [cellCells]
  | e :: l, 0, x, y => by rw [cellCells_cons, List.set_cons_zero, cellCells_cons]; simp
  | e :: l, i + 1, x, y => by
    rw [cellCells_cons, List.set_cons_succ, cellCells_cons, ← cellCells_set l i x y]
    rw [show (i + 1) * 2 = i * 2 + 2 from by omega]
    simp
theorem own_set {W : World} {base g n cap i : Nat} {cs : List (Int × Int)} (h : W.ownsRow base 40 2 (.slice (some ⟨g, 0, none⟩) n cap) n (cellCells cs)) (hi : i < n) (x y : Int) :
    ((W.setCell ⟨g, i * 2, none⟩ (.int .i64 x)).setCell ⟨g, i * 2 + 1, none⟩ (.int .i64 y)).ownsRow base 40 2 (.slice (some ⟨g, 0, none⟩) n cap) n (cellCells (cs.set i (x, y))) := by
  have hlen := h.1
  rcases h.2 with ⟨e, _⟩ | ⟨g', cap', cur, hv, hb, hg, h1, h2, h3, h4⟩
  · cases e
  · injection hv with e1 e2 e3
    injection e1 with e1
    injection e1 with e1
    subst e1 e3
    refine ⟨by rw [← cellCells_set, List.length_set, List.length_set, hlen], .inr ⟨g, cap, (cur.setIfInBounds (i * 2) (.int .i64 x)).setIfInBounds (i * 2 + 1) (.int .i64 y), rfl, hb, Blk.set_ (Blk.set_ (t := 40) hg (i * 2) _) (i * 2 + 1) _, h1, h2, by simp [h3], ?_⟩⟩
    rw [← cellCells_set, ← h4]
    simp only [Array.toList_setIfInBounds]
    rw [List.take_set, List.take_set]
theorem own_cell {W : World} {base g n cap i : Nat} {cs : List (Int × Int)} (h : W.ownsRow base 40 2 (.slice (some ⟨g, 0, none⟩) n cap) n (cellCells cs)) (hi : i < n) : ∃ x y, W.cell? ⟨g, i * 2, none⟩ = some (.int .i64 x) ∧ W.cell? ⟨g, i * 2 + 1, none⟩ = some (.int .i64 y) ∧ W.frozen? ⟨g, i * 2, none⟩ = false ∧ W.frozen? ⟨g, i * 2 + 1, none⟩ = false ∧ cs[i]? = some (x, y) := by
  have hl : cs.length = n := by have := h.1; rw [cellCells_length] at this; omega
  obtain ⟨e, he⟩ : ∃ e, cs[i]? = some e := ⟨_, List.getElem?_eq_getElem (by omega)⟩
  rcases h.2 with ⟨e, _⟩ | ⟨g', cap', cur, hv, hb, hg, h1, h2, h3, h4⟩
  · cases e
  · injection hv with e1 e2 e3
    injection e1 with e1
    injection e1 with e1
    subst e1 e3
    have hB : Blk W g 40 cur := hg
    have hc : ∀ j, j < 2 → W.cell? ⟨g, i * 2 + j, none⟩ = (cellCells cs)[i * 2 + j]? := by
      intro j hj
      rw [hB.cell, ← h4, List.getElem?_take, if_pos (by omega), Array.getElem?_toList]
    refine ⟨e.1, e.2, ?_, ?_, hB.frozen _, hB.frozen _, he⟩
    · have := hc 0 (by omega); rw [cell_get cs i e he 0 _ rfl] at this; exact this
    · have := hc 1 (by omega); rw [cell_get cs i e he 1 _ rfl] at this; exact this
theorem reads_set1 {w : World} {B size n : Nat} {A : Option Addr} {xs : List Value} {p : Addr} (h : Reads w B size A n xs) (hg : 0 < n → ∀ ad, A = some ad → ad.block ≠ p.block) (u : Value) : Reads (w.setCell p u) B size A n xs := by
  refine ⟨h.1, fun hn => ?_⟩
  obtain ⟨ad, e, hb, hc⟩ := h.2 hn
  refine ⟨ad, e, hb, fun j v hu => ?_⟩
  have hne := hg hn ad e
  rw [World.cell?_setCell_other _ _ _ _ (fun he => hne (by rw [← block_of_add ad j, he]))]
  exact hc j v hu
theorem Kept.put_off {w0 W : World} {L : List Ent} {p : Addr} (h : Kept w0 W L) (h0 : w0.heap.size ≤ p.block) (hp : ∀ x ∈ L, x.1 ≠ p.block) (u : Value) : Kept w0 (W.setCell p u) L :=
  ⟨h.1.setCell h0 u, fun x hx => ⟨(h.2.1 x hx).1.far (hp x hx) u, (h.2.1 x hx).2⟩, h.2.2⟩
theorem Move_res {W : World} {g : Nat} {x0 x1 x2 : Value} (h : Blk W g 24 #[x0, x1, x2]) (tmps : Array Value) (u : Value) (ht : tmps[4]?.getD undef = .pointer (some ⟨g, 0, none⟩)) (hu : tmps[5]?.getD undef = u) : (results Try.f12 tmps).run Try.prog W = .ok (.tuple #[.agg #[x0, x1, x2], u]) W := by
  have c0 : W.cell? ⟨g, 0, none⟩ = some x0 := h.cell 0
  have c1 : W.cell? ⟨g, 1, none⟩ = some x1 := h.cell 1
  have c2 : W.cell? ⟨g, 2, none⟩ = some x2 := h.cell 2
  simp [results, Try.results12, go_sem, ht, hu, c0, c1, c2]
theorem moveR_bad {wd sl a : Int} {cs : List (Int × Int)} (h : (rightW wd sl cs && timeB a) = false) : moveR wd sl cs a = ⟨wd, sl, cs, 1⟩ := by unfold moveR; rw [if_pos h]
theorem moveR_back {wd sl a : Int} {cs : List (Int × Int)} (h1 : rightW wd sl cs = true) (h2 : timeB a = true) (h : a / wd ≤ sl) : moveR wd sl cs a = ⟨wd, sl, cs, 0⟩ := by unfold moveR; rw [if_neg (by rw [h1, h2]; simp), if_pos h]
theorem moveR_on {wd sl a : Int} {cs : List (Int × Int)} (h1 : rightW wd sl cs = true) (h2 : timeB a = true) (h : ¬ a / wd ≤ sl) : moveR wd sl cs a = ⟨wd, a / wd, moved cs sl (a / wd), 0⟩ := by unfold moveR; rw [if_neg (by rw [h1, h2]; simp), if_neg h]
theorem rightW_facts {wd sl : Int} {cs : List (Int × Int)} (h : rightW wd sl cs = true) : 1 ≤ wd ∧ wd ≤ 2147483647 ∧ 0 ≤ sl ∧ sl ≤ 1099511627776 ∧ 1 ≤ cs.length ∧ cs.length ≤ 16 := by
  unfold rightW at h
  rw [Bool.and_eq_true, decide_eq_true_eq] at h
  exact h.1
theorem timeB_facts {a : Int} (h : timeB a = true) : 0 ≤ a ∧ a ≤ 1099511627776 := by unfold timeB at h; rw [decide_eq_true_eq] at h; exact h

set_option maxHeartbeats 4000000 in
theorem Move_c (wd sl : Int) (A : Option Addr) (n c B : Nat) (cs : List (Int × Int)) (a : Int) (W : World) (hr : Reads W B 2 A n (cellCells cs)) (hB : B ≤ W.heap.size) (hn : n ≤ 9223372036854775807) : Calls Try.prog 12 #[.agg (winA wd sl A n c), .int .i64 a] W (WinOk A W (moveR wd sl cs a)) := by
  have HR := Lib.hid (hr.more hB)
  have HL := Lib.hid hr.cell_len
  clear hr
  have HK1 := Lib.hid (show Kept W ((W.alloc (.cells #[.int .i64 wd, .int .i64 sl, .slice A n c] 24)).alloc (.cells #[.int .i64 0, .int .i64 0, .slice none 0 0] 24)) [(W.heap.size + 1, 24, #[.int .i64 0, .int .i64 0, .slice none 0 0]), (W.heap.size, 24, #[.int .i64 wd, .int .i64 sl, .slice A n c])] from (((Kept.start W).alloc_at 24 #[.int .i64 wd, .int .i64 sl, .slice A n c] (W.heap.size) (by simp)).alloc_at 24 #[.int .i64 0, .int .i64 0, .slice none 0 0] (W.heap.size + 1) (by simp)))
  go_enter Try.func12, Try.ntmps12
  go_wp2_with fail
  with_reducible refine (wRight_c wd sl A n c W.heap.size cs _ (HR.out.below HK1.out.bel) HK1.out.size hn).mono ?_
  rintro e w1 ⟨rfl, hb1⟩
  have HK2 := Lib.hid (show Kept W w1 [(W.heap.size + 1, 24, #[.int .i64 0, .int .i64 0, .slice none 0 0]), (W.heap.size, 24, #[.int .i64 wd, .int .i64 sl, .slice A n c])] from HK1.out.next hb1)
  clear HK1
  clear hb1
  cases hrt : rightW wd sl cs
  · have HE := Lib.hid (moveR_bad (wd := wd) (sl := sl) (cs := cs) (a := a) (by rw [hrt]; rfl))
    clear hrt
    have c_f_0 : w1.cell? ⟨W.heap.size, 0, none⟩ = some (.int .i64 wd) := HK2.out.cell 1 rfl 0
    have c_f_1 : w1.cell? ⟨W.heap.size, 1, none⟩ = some (.int .i64 sl) := HK2.out.cell 1 rfl 1
    have c_f_2 : w1.cell? ⟨W.heap.size, 2, none⟩ = some (.slice A n c) := HK2.out.cell 1 rfl 2
    have c_r_0 : w1.cell? ⟨W.heap.size + 1, 0, none⟩ = some (.int .i64 0) := HK2.out.cell 0 rfl 0
    have z_r_0 : w1.frozen? ⟨W.heap.size + 1, 0, none⟩ = false := HK2.out.frozen 0 rfl 0
    have c_r_1 : w1.cell? ⟨W.heap.size + 1, 1, none⟩ = some (.int .i64 0) := HK2.out.cell 0 rfl 1
    have z_r_1 : w1.frozen? ⟨W.heap.size + 1, 1, none⟩ = false := HK2.out.frozen 0 rfl 1
    have c_r_2 : w1.cell? ⟨W.heap.size + 1, 2, none⟩ = some (.slice none 0 0) := HK2.out.cell 0 rfl 2
    have z_r_2 : w1.frozen? ⟨W.heap.size + 1, 2, none⟩ = false := HK2.out.frozen 0 rfl 2
    go_wp2
    exact bodyPost_ret (Move_res (put3 (HK2.out.blk 0 rfl)) _ (.int .i64 1) rfl rfl) rfl (WinOk.of HE.out ⟨A, n, c, rfl, ((((HR.out.below HK2.out.bel).setCell (by simp) _).setCell (by simp) _).setCell (by simp) _).more (by have := HK2.out.size; simp [World.setCell]; omega), put3_below HK2.out.bel (by omega), fun ad e => .inl rfl⟩)
  · have c_f_0 : w1.cell? ⟨W.heap.size, 0, none⟩ = some (.int .i64 wd) := HK2.out.cell 1 rfl 0
    have c_f_1 : w1.cell? ⟨W.heap.size, 1, none⟩ = some (.int .i64 sl) := HK2.out.cell 1 rfl 1
    have c_f_2 : w1.cell? ⟨W.heap.size, 2, none⟩ = some (.slice A n c) := HK2.out.cell 1 rfl 2
    have c_r_0 : w1.cell? ⟨W.heap.size + 1, 0, none⟩ = some (.int .i64 0) := HK2.out.cell 0 rfl 0
    have z_r_0 : w1.frozen? ⟨W.heap.size + 1, 0, none⟩ = false := HK2.out.frozen 0 rfl 0
    have c_r_1 : w1.cell? ⟨W.heap.size + 1, 1, none⟩ = some (.int .i64 0) := HK2.out.cell 0 rfl 1
    have z_r_1 : w1.frozen? ⟨W.heap.size + 1, 1, none⟩ = false := HK2.out.frozen 0 rfl 1
    have c_r_2 : w1.cell? ⟨W.heap.size + 1, 2, none⟩ = some (.slice none 0 0) := HK2.out.cell 0 rfl 2
    have z_r_2 : w1.frozen? ⟨W.heap.size + 1, 2, none⟩ = false := HK2.out.frozen 0 rfl 2
    go_wp2_with fail
    refine (timely_c a _).mono ?_
    rintro e w2 ⟨rfl, rfl⟩
    cases hta : timeB a
    · have HE := Lib.hid (moveR_bad (wd := wd) (sl := sl) (cs := cs) (a := a) (by rw [hrt, hta]; rfl))
      clear hrt hta
      go_wp2
      exact bodyPost_ret (Move_res (put3 (HK2.out.blk 0 rfl)) _ (.int .i64 1) rfl rfl) rfl (WinOk.of HE.out ⟨A, n, c, rfl, ((((HR.out.below HK2.out.bel).setCell (by simp) _).setCell (by simp) _).setCell (by simp) _).more (by have := HK2.out.size; simp [World.setCell]; omega), put3_below HK2.out.bel (by omega), fun ad e => .inl rfl⟩)
    obtain ⟨r1, r2, r3, r4, r5, r6⟩ := rightW_facts hrt
    obtain ⟨t1, t2⟩ := timeB_facts hta
    rw [HL.out] at r5 r6
    have hqq := quo_in (a := a) (wd := wd) t1 t2 r1
    have hw0 : ¬ wd = 0 := by omega
    have hq : (wd == 0) = false := by rw [beq_eq_false_iff_ne]; omega
    have hd1 : 0 ≤ a / wd := Int.ediv_nonneg t1 (by omega)
    have hd2 : a / wd ≤ 1099511627776 := Int.le_trans (Int.ediv_le_self wd t1) t2
    have HBk := Lib.hid (moveR_back (a := a) hrt hta)
    have HOn := Lib.hid (moveR_on (a := a) hrt hta)
    clear hrt hta
    generalize a / wd = to at hqq hd1 hd2 HBk HOn
    by_cases hle : to ≤ sl
    · have dle : decide (to ≤ sl) = true := by simpa using hle
      have HE := Lib.hid (HBk.out hle)
      go_wp2
      exact bodyPost_ret (Move_res (put3 (HK2.out.blk 0 rfl)) _ (.int .i64 0) rfl rfl) rfl (WinOk.of HE.out ⟨A, n, c, rfl, ((((HR.out.below HK2.out.bel).setCell (by simp) _).setCell (by simp) _).setCell (by simp) _).more (by have := HK2.out.size; simp [World.setCell]; omega), put3_below HK2.out.bel (by omega), fun ad e => .inl rfl⟩)
    have dle : decide (to ≤ sl) = false := by simpa using hle
    have HE := Lib.hid (HOn.out hle)
    clear HBk HOn
    go_wp2_with fail
    with_reducible refine (CloneC_c A n c W.heap.size cs _ (HR.out.below HK2.out.bel) HK2.out.size (by omega)).mono ?_
    rintro e w3 ⟨v3, rfl, hown3, hb3⟩
    obtain ⟨g3, cap3, rfl, hg3, hg3l⟩ := hown3.form (by omega)
    have HO3 := Lib.hid (ownsRow_base (base' := W.heap.size + 2) hown3 (HK2.out.lt 0 rfl))
    clear hown3 dle
    clear c_f_0 c_f_1 c_f_2 c_r_0 z_r_0 c_r_1 z_r_1 c_r_2 z_r_2
    have HK3 := Lib.hid (show Kept W w3 [(W.heap.size + 1, 24, #[.int .i64 0, .int .i64 0, .slice none 0 0]), (W.heap.size, 24, #[.int .i64 wd, .int .i64 sl, .slice A n c])] from HK2.out.next hb3)
    clear HK2
    clear hb3
    have HM := Lib.hid (clr_moved cs sl to r3 (by omega) (by rw [HL.out]; exact r5))
    rw [HL.out] at HM
    by_cases hmx : sl < to - (n : Int)
    · rw [show max (sl + 1) (to - (n : Int) + 1) = to - (n : Int) + 1 from by omega] at HM
      obtain ⟨cnt, hcnt⟩ : ∃ m : Nat, (m : Int) = to - (to - (n : Int) + 1) + 1 := ⟨(to - (to - (n : Int) + 1) + 1).toNat, by omega⟩
      rw [← hcnt, Int.toNat_natCast] at HM
      have c_f_0 : w3.cell? ⟨W.heap.size, 0, none⟩ = some (.int .i64 wd) := HK3.out.cell 1 rfl 0
      have c_f_1 : w3.cell? ⟨W.heap.size, 1, none⟩ = some (.int .i64 sl) := HK3.out.cell 1 rfl 1
      have c_f_2 : w3.cell? ⟨W.heap.size, 2, none⟩ = some (.slice A n c) := HK3.out.cell 1 rfl 2
      have c_r_0 : w3.cell? ⟨W.heap.size + 1, 0, none⟩ = some (.int .i64 0) := HK3.out.cell 0 rfl 0
      have z_r_0 : w3.frozen? ⟨W.heap.size + 1, 0, none⟩ = false := HK3.out.frozen 0 rfl 0
      have c_r_1 : w3.cell? ⟨W.heap.size + 1, 1, none⟩ = some (.int .i64 0) := HK3.out.cell 0 rfl 1
      have z_r_1 : w3.frozen? ⟨W.heap.size + 1, 1, none⟩ = false := HK3.out.frozen 0 rfl 1
      have c_r_2 : w3.cell? ⟨W.heap.size + 1, 2, none⟩ = some (.slice none 0 0) := HK3.out.cell 0 rfl 2
      have z_r_2 : w3.frozen? ⟨W.heap.size + 1, 2, none⟩ = false := HK3.out.frozen 0 rfl 2
      go_wp2
      clear c_f_0 c_f_1 c_f_2 c_r_0 z_r_0 c_r_1 z_r_1 c_r_2 z_r_2
      generalize hs0 : to - (n : Int) + 1 = s0 at HM hcnt ⊢
      have b1 : 1 ≤ s0 := by omega
      have b2 : s0 ≤ to := by omega
      clear hs0
      go_loopw [9] (fun i wr => ∃ (k : Nat), k ≤ cnt ∧ i = .int .i64 (s0 + (k : Int)) ∧ Hid (wr.ownsRow (W.heap.size + 2) 40 2 (.slice (some ⟨g3, 0, none⟩) n cap3) n (cellCells (clr cs n s0 k))) ∧ Hid (Kept W wr [(W.heap.size + 1, 24, #[.int .i64 0, .int .i64 0, .slice none 0 0]), (W.heap.size, 24, #[.int .i64 wd, .int .i64 sl, .slice A n c])])) (fun i _ => (to + 1 - intOf i).toNat)
      case atStart => exact ⟨0, Nat.zero_le _, by simp, HO3, HK3⟩
      case round =>
        clear HK3 HO3
        obtain ⟨k, hk, rfl, HO, HK⟩ := hrel
        by_cases hlt : k < cnt
        · have dle : decide (s0 + (k : Int) ≤ to) = true := by simp; omega
          have i1 : (0 : Int) ≤ (s0 + (k : Int)) % (n : Int) := Int.emod_nonneg _ (by omega)
          have i2 : (s0 + (k : Int)) % (n : Int) < (n : Int) := Int.emod_lt_of_pos _ (by omega)
          have hin : ((s0 + (k : Int)) % (n : Int)).toNat < n := by omega
          have hn0 : ¬ (n : Int) = 0 := by omega
          obtain ⟨x, y, q0, q1, q2, q3, _⟩ := own_cell HO.out hin
          have HO2 := Lib.hid (own_set HO.out hin 0 0)
          have HS := Lib.hid (show clr cs n s0 (k + 1) = (clr cs n s0 k).set ((s0 + (k : Int)) % (n : Int)).toNat (0, 0) from by rw [clr])
          have HG := Lib.hid (own_ge HO.out g3 rfl)
          clear HO
          go_wp2
          refine ⟨⟨k + 1, by omega, by rw [show s0 + (k : Int) + 1 = s0 + ((k + 1 : Nat) : Int) from by omega], by rw [HS.out]; exact HO2, Lib.hid ((HK.out.put_off (by simp; have := HG.out; omega) (by intro x hx; simp at hx; have := HG.out; rcases hx with rfl | rfl <;> simp <;> omega) _).put_off (by simp; have := HG.out; omega) (by intro x hx; simp at hx; have := HG.out; rcases hx with rfl | rfl <;> simp <;> omega) _)⟩, by simp [intOf]; omega⟩
        · obtain rfl : k = cnt := by omega
          have dle : decide (s0 + (k : Int) ≤ to) = false := by simp; omega
          rw [HM.out] at HO
          have HG := Lib.hid (own_ge HO.out g3 rfl)
          have c_f_0 : wr.cell? ⟨W.heap.size, 0, none⟩ = some (.int .i64 wd) := HK.out.cell 1 rfl 0
          have z_f_0 : wr.frozen? ⟨W.heap.size, 0, none⟩ = false := HK.out.frozen 1 rfl 0
          have c_f_1 : wr.cell? ⟨W.heap.size, 1, none⟩ = some (.int .i64 sl) := HK.out.cell 1 rfl 1
          have z_f_1 : wr.frozen? ⟨W.heap.size, 1, none⟩ = false := HK.out.frozen 1 rfl 1
          have c_f_2 : wr.cell? ⟨W.heap.size, 2, none⟩ = some (.slice A n c) := HK.out.cell 1 rfl 2
          have z_f_2 : wr.frozen? ⟨W.heap.size, 2, none⟩ = false := HK.out.frozen 1 rfl 2
          have c_r_0 : wr.cell? ⟨W.heap.size + 1, 0, none⟩ = some (.int .i64 0) := HK.out.cell 0 rfl 0
          have z_r_0 : wr.frozen? ⟨W.heap.size + 1, 0, none⟩ = false := HK.out.frozen 0 rfl 0
          have c_r_1 : wr.cell? ⟨W.heap.size + 1, 1, none⟩ = some (.int .i64 0) := HK.out.cell 0 rfl 1
          have z_r_1 : wr.frozen? ⟨W.heap.size + 1, 1, none⟩ = false := HK.out.frozen 0 rfl 1
          have c_r_2 : wr.cell? ⟨W.heap.size + 1, 2, none⟩ = some (.slice none 0 0) := HK.out.cell 0 rfl 2
          have z_r_2 : wr.frozen? ⟨W.heap.size + 1, 2, none⟩ = false := HK.out.frozen 0 rfl 2
          have HRd := Lib.hid (Reads.of_own HO.out)
          have gne : ∀ g', g' < W.heap.size + 2 → 0 < n → ∀ ad, some (⟨g3, 0, none⟩ : Addr) = some ad → ad.block ≠ g' := fun g' h' _ ad e => by injection e with e; subst e; have := HG.out; simp; omega
          go_wp2
          exact bodyPost_ret (Move_res (put3 (((HK.out.set_ 1 rfl 1 _).set_ 1 rfl 2 _).blk 0 rfl)) _ (.int .i64 0) rfl rfl) rfl (WinOk.of HE.out ⟨_, n, cap3, rfl, by simp only [World.size_setCell]; exact reads_put3 (reads_set1 (reads_set1 HRd.out (gne _ (by simp)) _) (gne _ (by simp)) _) (gne _ (by simp)), put3_below ((HK.out.set_ 1 rfl 1 _).set_ 1 rfl 2 _).bel (by omega), fun ad e => .inr (by injection e with e; subst e; have := HG.out; simp; omega)⟩)
    · rw [show max (sl + 1) (to - (n : Int) + 1) = sl + 1 from by omega] at HM
      obtain ⟨cnt, hcnt⟩ : ∃ m : Nat, (m : Int) = to - (sl + 1) + 1 := ⟨(to - (sl + 1) + 1).toNat, by omega⟩
      rw [← hcnt, Int.toNat_natCast] at HM
      have c_f_0 : w3.cell? ⟨W.heap.size, 0, none⟩ = some (.int .i64 wd) := HK3.out.cell 1 rfl 0
      have c_f_1 : w3.cell? ⟨W.heap.size, 1, none⟩ = some (.int .i64 sl) := HK3.out.cell 1 rfl 1
      have c_f_2 : w3.cell? ⟨W.heap.size, 2, none⟩ = some (.slice A n c) := HK3.out.cell 1 rfl 2
      have c_r_0 : w3.cell? ⟨W.heap.size + 1, 0, none⟩ = some (.int .i64 0) := HK3.out.cell 0 rfl 0
      have z_r_0 : w3.frozen? ⟨W.heap.size + 1, 0, none⟩ = false := HK3.out.frozen 0 rfl 0
      have c_r_1 : w3.cell? ⟨W.heap.size + 1, 1, none⟩ = some (.int .i64 0) := HK3.out.cell 0 rfl 1
      have z_r_1 : w3.frozen? ⟨W.heap.size + 1, 1, none⟩ = false := HK3.out.frozen 0 rfl 1
      have c_r_2 : w3.cell? ⟨W.heap.size + 1, 2, none⟩ = some (.slice none 0 0) := HK3.out.cell 0 rfl 2
      have z_r_2 : w3.frozen? ⟨W.heap.size + 1, 2, none⟩ = false := HK3.out.frozen 0 rfl 2
      go_wp2
      clear c_f_0 c_f_1 c_f_2 c_r_0 z_r_0 c_r_1 z_r_1 c_r_2 z_r_2
      generalize hs0 : sl + 1 = s0 at HM hcnt ⊢
      have b1 : 1 ≤ s0 := by omega
      have b2 : s0 ≤ to := by omega
      clear hs0
      go_loopw [9] (fun i wr => ∃ (k : Nat), k ≤ cnt ∧ i = .int .i64 (s0 + (k : Int)) ∧ Hid (wr.ownsRow (W.heap.size + 2) 40 2 (.slice (some ⟨g3, 0, none⟩) n cap3) n (cellCells (clr cs n s0 k))) ∧ Hid (Kept W wr [(W.heap.size + 1, 24, #[.int .i64 0, .int .i64 0, .slice none 0 0]), (W.heap.size, 24, #[.int .i64 wd, .int .i64 sl, .slice A n c])])) (fun i _ => (to + 1 - intOf i).toNat)
      case atStart => exact ⟨0, Nat.zero_le _, by simp, HO3, HK3⟩
      case round =>
        clear HK3 HO3
        obtain ⟨k, hk, rfl, HO, HK⟩ := hrel
        by_cases hlt : k < cnt
        · have dle : decide (s0 + (k : Int) ≤ to) = true := by simp; omega
          have i1 : (0 : Int) ≤ (s0 + (k : Int)) % (n : Int) := Int.emod_nonneg _ (by omega)
          have i2 : (s0 + (k : Int)) % (n : Int) < (n : Int) := Int.emod_lt_of_pos _ (by omega)
          have hin : ((s0 + (k : Int)) % (n : Int)).toNat < n := by omega
          have hn0 : ¬ (n : Int) = 0 := by omega
          obtain ⟨x, y, q0, q1, q2, q3, _⟩ := own_cell HO.out hin
          have HO2 := Lib.hid (own_set HO.out hin 0 0)
          have HS := Lib.hid (show clr cs n s0 (k + 1) = (clr cs n s0 k).set ((s0 + (k : Int)) % (n : Int)).toNat (0, 0) from by rw [clr])
          have HG := Lib.hid (own_ge HO.out g3 rfl)
          clear HO
          go_wp2
          refine ⟨⟨k + 1, by omega, by rw [show s0 + (k : Int) + 1 = s0 + ((k + 1 : Nat) : Int) from by omega], by rw [HS.out]; exact HO2, Lib.hid ((HK.out.put_off (by simp; have := HG.out; omega) (by intro x hx; simp at hx; have := HG.out; rcases hx with rfl | rfl <;> simp <;> omega) _).put_off (by simp; have := HG.out; omega) (by intro x hx; simp at hx; have := HG.out; rcases hx with rfl | rfl <;> simp <;> omega) _)⟩, by simp [intOf]; omega⟩
        · obtain rfl : k = cnt := by omega
          have dle : decide (s0 + (k : Int) ≤ to) = false := by simp; omega
          rw [HM.out] at HO
          have HG := Lib.hid (own_ge HO.out g3 rfl)
          have c_f_0 : wr.cell? ⟨W.heap.size, 0, none⟩ = some (.int .i64 wd) := HK.out.cell 1 rfl 0
          have z_f_0 : wr.frozen? ⟨W.heap.size, 0, none⟩ = false := HK.out.frozen 1 rfl 0
          have c_f_1 : wr.cell? ⟨W.heap.size, 1, none⟩ = some (.int .i64 sl) := HK.out.cell 1 rfl 1
          have z_f_1 : wr.frozen? ⟨W.heap.size, 1, none⟩ = false := HK.out.frozen 1 rfl 1
          have c_f_2 : wr.cell? ⟨W.heap.size, 2, none⟩ = some (.slice A n c) := HK.out.cell 1 rfl 2
          have z_f_2 : wr.frozen? ⟨W.heap.size, 2, none⟩ = false := HK.out.frozen 1 rfl 2
          have c_r_0 : wr.cell? ⟨W.heap.size + 1, 0, none⟩ = some (.int .i64 0) := HK.out.cell 0 rfl 0
          have z_r_0 : wr.frozen? ⟨W.heap.size + 1, 0, none⟩ = false := HK.out.frozen 0 rfl 0
          have c_r_1 : wr.cell? ⟨W.heap.size + 1, 1, none⟩ = some (.int .i64 0) := HK.out.cell 0 rfl 1
          have z_r_1 : wr.frozen? ⟨W.heap.size + 1, 1, none⟩ = false := HK.out.frozen 0 rfl 1
          have c_r_2 : wr.cell? ⟨W.heap.size + 1, 2, none⟩ = some (.slice none 0 0) := HK.out.cell 0 rfl 2
          have z_r_2 : wr.frozen? ⟨W.heap.size + 1, 2, none⟩ = false := HK.out.frozen 0 rfl 2
          have HRd := Lib.hid (Reads.of_own HO.out)
          have gne : ∀ g', g' < W.heap.size + 2 → 0 < n → ∀ ad, some (⟨g3, 0, none⟩ : Addr) = some ad → ad.block ≠ g' := fun g' h' _ ad e => by injection e with e; subst e; have := HG.out; simp; omega
          go_wp2
          exact bodyPost_ret (Move_res (put3 (((HK.out.set_ 1 rfl 1 _).set_ 1 rfl 2 _).blk 0 rfl)) _ (.int .i64 0) rfl rfl) rfl (WinOk.of HE.out ⟨_, n, cap3, rfl, by simp only [World.size_setCell]; exact reads_put3 (reads_set1 (reads_set1 HRd.out (gne _ (by simp)) _) (gne _ (by simp)) _) (gne _ (by simp)), put3_below ((HK.out.set_ 1 rfl 1 _).set_ 1 rfl 2 _).bel (by omega), fun ad e => .inr (by injection e with e; subst e; have := HG.out; simp; omega)⟩)
end Go.Proofs.Ytmkjfpmailihjaa
