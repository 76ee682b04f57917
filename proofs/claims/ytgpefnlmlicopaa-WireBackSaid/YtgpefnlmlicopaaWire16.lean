/- The contract of the law's own function read. -/
import Derived.Test.YtgpefnlmlicopaaWireB
namespace Go.Proofs.Ytgpefnlmlicopaa
set_option linter.unusedVariables false
open Go.RowKit

theorem Cu.drew_ {w W : World} {cs rs : Array Value} (h : Cu w W cs rs) : Cu w W.drew cs rs := ⟨h.1.drew, h.2.1.drew, h.2.2.drew⟩
theorem readF_snoc (bs : List UInt8) (its : List Item) (it : Item) (s : Int × Int × Bool) : readF bs (its ++ [it]) s = stepI bs (readF bs its s) it := by simp [readF]
theorem readF_append (bs : List UInt8) (a b : List Item) (s : Int × Int × Bool) : readF bs (a ++ b) s = readF bs b (readF bs a s) := by simp [readF]
theorem beq_cast (a b : Nat) : ((a : Int) == (b : Int)) = (a == b) := by rw [Bool.eq_iff_iff, beq_iff_eq, beq_iff_eq]; omega
theorem at_cell {w : World} {B n k : Nat} {A : Option Addr} {α : Type} {f : α → Value} {xs : List α} (h : Reads w B 1 A n (xs.map f)) (hk : k < n) : ∃ ad x, A = some ad ∧ ad.block < B ∧ xs[k]? = some x ∧ w.cell? (ad.add k) = some (f x) := by
  obtain ⟨ad, u, rfl, hb, hx, hc⟩ := h.at_ hk
  rw [List.getElem?_map, Option.map_eq_some_iff] at hx
  obtain ⟨x, hx, rfl⟩ := hx
  exact ⟨ad, x, rfl, hb, hx, hc⟩
theorem cell_set3 {W : World} {g i : Nat} {ad : Addr} {v : Value} (a b c : Value) (k : Nat) (hne : ad.block < g) (h : W.cell? (ad.add i) = some v) : (((W.setCell ⟨g, 0, none⟩ a).setCell ⟨g, 1, none⟩ b).setCell ⟨g, 2, none⟩ c).cell? (ad.add i) = some v := by
  have ne : ∀ o, (⟨g, o, none⟩ : Addr) ≠ ad.add i := fun o e => by have := congrArg Addr.block e; rw [block_of_add] at this; simp at this; omega
  rw [World.cell?_setCell_other _ _ _ _ (ne 2), World.cell?_setCell_other _ _ _ _ (ne 1), World.cell?_setCell_other _ _ _ _ (ne 0)]
  exact h
theorem take_item {α : Type} (f : α → Item) (xs : List α) (i : Nat) (x : α) (h : xs[i]? = some x) : (xs.take (i + 1)).map f = (xs.take i).map f ++ [f x] := by
  rw [List.take_add_one, h]; simp

set_option maxRecDepth 100000 in
set_option maxHeartbeats 8000000 in
theorem read_c (A : Option Addr) (n c : Nat) (at_ err : Int) (bs : List UInt8) (A1 : Option Addr) (n1 c1 : Nat) (us : List Nat) (A2 : Option Addr) (n2 c2 : Nat) (ks : List Int) (A3 : Option Addr) (n3 c3 : Nat) (ts : List (List UInt8)) (w : World)
    (hr : Reads w w.heap.size 1 A n (byteCells bs)) (hnc : n ≤ c) (hcm : c ≤ 9223372036854775807) (hn : n ≤ 10000)
    (hr1 : Reads w w.heap.size 1 A1 n1 (us.map (fun m : Nat => Value.int .u64 (m : Int)))) (hr2 : Reads w w.heap.size 1 A2 n2 (ks.map (fun m => Value.int .i64 m))) (hr3 : Reads w w.heap.size 1 A3 n3 (ts.map (fun t => Value.string ⟨t.toArray⟩)))
    (hn1 : n1 ≤ 20) (hn2 : n2 ≤ 20) (hn3 : n3 ≤ 20) :
    Calls Try.prog 25 #[.agg #[.slice A n c, .int .i64 at_, .int .i64 err], .slice A1 n1 c1, .slice A2 n2 c2, .slice A3 n3 c3] w fun e w' => e = .returned (.tuple #[.agg #[.slice A n c, .int .i64 (readF bs (us.map Item.u ++ ks.map Item.i ++ ts.map Item.t) (at_, err, true)).1, .int .i64 (readF bs (us.map Item.u ++ ks.map Item.i ++ ts.map Item.t) (at_, err, true)).2.1], .bool (readF bs (us.map Item.u ++ ks.map Item.i ++ ts.map Item.t) (at_, err, true)).2.2]) ∧ Below w.heap.size w w' := by
  have HL1 := Lib.hid (show us.length = n1 from by simpa using hr1.1)
  have HL2 := Lib.hid (show ks.length = n2 from by simpa using hr2.1)
  have HL3 := Lib.hid (show ts.length = n3 from by simpa using hr3.1)
  have HR := Lib.hid hr
  have HR1 := Lib.hid hr1
  have HR2 := Lib.hid hr2
  have HR3 := Lib.hid hr3
  clear hr hr1 hr2 hr3
  have C0 := Lib.hid (Cu.start w #[.slice A n c, .int .i64 at_, .int .i64 err] #[.slice none 0 0, .int .i64 0, .int .i64 0])
  go_enter Try.func25, Try.ntmps25
  go_wp2
  go_loopw [10, 11] (fun okv iv wr => ∃ (i : Nat) (s : Int × Int × Bool), i ≤ n1 ∧ iv = .int .i64 i ∧ okv = .bool s.2.2 ∧ Hid (readF bs ((us.take i).map Item.u) (at_, err, true) = s) ∧ Hid (Cu w wr #[.slice A n c, .int .i64 s.1, .int .i64 s.2.1] #[.slice none 0 0, .int .i64 0, .int .i64 0])) (fun _ iv _ => n1 - (intOf iv).toNat)
  case atStart => exact ⟨0, (at_, err, true), Nat.zero_le _, rfl, rfl, rfl, C0⟩
  case round =>
    obtain ⟨i, ⟨sx, sy, sb⟩, hi, rfl, rfl, HS, C1⟩ := hrel
    simp only at C1 ⊢
    clear C0
    by_cases hlt : i < n1
    · obtain ⟨adx, u, hAx, hbx, hux, hcx⟩ := at_cell HR1.out hlt
      subst hAx
      obtain ⟨⟨x, y, v⟩, hu⟩ : ∃ r, uRes bs sx sy = r := ⟨_, rfl⟩
      have HU := Lib.hid hu
      have HST := Lib.hid (show readF bs ((us.take (i + 1)).map Item.u) (at_, err, true) = (x, y, sb && (v == u)) from by rw [take_item Item.u us i u hux, readF_snoc, HS.out]; unfold stepI; simp only [hu])
      clear hu hux HS
      obtain ⟨k0, k1, k2, r0, r1, r2, f0, f1, f2, g0, g1, g2⟩ := C1.out.cells
      go_wp2_with fail
      clear k0 k1 k2 r0 r1 r2 f0 f1 f2 g0 g1 g2
      refine (Uint_v A n c sx sy bs w.heap.size _ (C1.out.reads HR.out (Nat.le_refl _)) C1.out.size hnc hcm hn x y v HU.out).mono ?_
      rintro e w2 ⟨rfl, hb2⟩
      have C2 := Lib.hid (C1.out.next hb2)
      have hcx2 : w2.cell? (adx.add i) = some (.int .u64 (u : Int)) := (C2.out.2.2.cell (by rw [block_of_add]; exact hbx)).trans hcx
      clear hb2 hcx
      have HD := Lib.hid (Blk.new w2 26 #[.slice A n c, .int .i64 x, .int .i64 y])
      have C3 := Lib.hid (C2.out.next ((Below.refl _ w2).alloc (Nat.le_refl _) (.cells #[.slice A n c, .int .i64 x, .int .i64 y] 26)))
      have hcx3 := (World.cell?_alloc_lt w2 (.cells #[.slice A n c, .int .i64 x, .int .i64 y] 26) (adx.add i) (by rw [block_of_add]; have := C2.out.size; omega)).trans hcx2
      have hg2 := C2.out.2.1.lt
      have hg1 := C2.out.1.lt
      have hsz := C2.out.size
      have i1 : (0 : Int) ≤ (i : Int) := by omega
      have i2 : (i : Int) < (n1 : Int) := by omega
      clear hcx2
      go_wp2_with fail
      generalize w2.alloc (.cells #[.slice A n c, .int .i64 x, .int .i64 y] 26) = w3 at HD C3 hcx3 ⊢
      obtain ⟨k0, k1, k2, r0, r1, r2, f0, f1, f2, g0, g1, g2⟩ := C3.out.cells
      cases sb
      · refine wp_region_noPanic ?_
        refine wp_region_held_drew (S := fun W => Blk W w2.heap.size 26 #[.slice A n c, .int .i64 x, .int .i64 y] ∧ W.cell? (adx.add i) = some (.int .u64 (u : Int))) (by kernel_rfl) ⟨HD.out.drew, hcx3⟩ (fun hHeld => ?_)
        refine takeH 0 (v := ?v0u1) rfl (by kernel_rfl) (by kernel_rfl) (by kernel_rfl) rfl (fun _ _ _ h => h) (Or.inl ⟨by rfl, ?y0u1⟩) hHeld ?r0u1
        case y0u1 => (intro W hSW; (try dsimp only at hSW); have q0 := hSW.1.cell 0; have q1 := hSW.1.cell 1; have q2 := hSW.1.cell 2; simp only [List.getElem?_toArray, List.getElem?_cons_zero, List.getElem?_cons_succ] at q0 q1 q2; go_simp; try with_reducible rfl)
        simp only [Act.put, List.setIfInBounds_toArray, List.set_cons_zero, List.set_cons_succ]
        refine takeH 1 (v := ?v1u2) rfl (by kernel_rfl) (by kernel_rfl) (by kernel_rfl) rfl (fun _ _ _ h => h) (Or.inl ⟨by rfl, ?y1u2⟩) hHeld ?r1u2
        case y1u2 => (intro W hSW; (try dsimp only at hSW); go_simp; try with_reducible rfl)
        simp only [Act.put, List.setIfInBounds_toArray, List.set_cons_zero, List.set_cons_succ]
        refine takeH 2 (v := ?v2u3) rfl (by kernel_rfl) (by kernel_rfl) (by kernel_rfl) rfl (fun _ _ _ h => h) (Or.inl ⟨by rfl, ?y2u3⟩) hHeld ?r2u3
        case y2u3 => (intro W hSW; (try dsimp only at hSW); go_simp; try with_reducible rfl)
        simp only [Act.put, List.setIfInBounds_toArray, List.set_cons_zero, List.set_cons_succ]
        refine takeH 3 (v := undef) rfl (by kernel_rfl) (by kernel_rfl) (by kernel_rfl) rfl (fun _ _ _ h => h) (Or.inr ⟨by rfl, rfl⟩) hHeld ?_
        simp only [Act.put, List.setIfInBounds_toArray, List.set_cons_zero, List.set_cons_succ]
        refine takeH 4 (v := undef) rfl (by kernel_rfl) (by kernel_rfl) (by kernel_rfl) rfl (fun _ _ _ h => h) (Or.inr ⟨by rfl, rfl⟩) hHeld ?_
        simp only [Act.put, List.setIfInBounds_toArray, List.set_cons_zero, List.set_cons_succ]
        refine takeH 5 (v := undef) rfl (by kernel_rfl) (by kernel_rfl) (by kernel_rfl) rfl (fun _ _ _ h => h) (Or.inr ⟨by rfl, rfl⟩) hHeld ?_
        simp only [Act.put, List.setIfInBounds_toArray, List.set_cons_zero, List.set_cons_succ]
        refine takeH 6 (v := undef) rfl (by kernel_rfl) (by kernel_rfl) (by kernel_rfl) rfl (fun _ _ _ h => h) (Or.inr ⟨by rfl, rfl⟩) hHeld ?_
        simp only [Act.put, List.setIfInBounds_toArray, List.set_cons_zero, List.set_cons_succ]
        refine takeH 7 (v := undef) rfl (by kernel_rfl) (by kernel_rfl) (by kernel_rfl) rfl (fun _ _ _ h => h) (Or.inr ⟨by rfl, rfl⟩) hHeld ?_
        simp only [Act.put, List.setIfInBounds_toArray, List.set_cons_zero, List.set_cons_succ]
        refine takeH 8 (v := undef) rfl (by kernel_rfl) (by kernel_rfl) (by kernel_rfl) rfl (fun _ _ _ h => h) (Or.inr ⟨by rfl, rfl⟩) hHeld ?_
        simp only [Act.put, List.setIfInBounds_toArray, List.set_cons_zero, List.set_cons_succ]
        refine takeH 9 (v := ?v9u4) rfl (by kernel_rfl) (by kernel_rfl) (by kernel_rfl) rfl (fun _ _ _ h => h) (Or.inl ⟨by rfl, ?y9u4⟩) hHeld ?r9u4
        case y9u4 => (intro W hSW; (try dsimp only at hSW); go_simp; try with_reducible rfl)
        simp only [Act.put, List.setIfInBounds_toArray, List.set_cons_zero, List.set_cons_succ]
        refine wpAnyH_ready (rs := [10]) (by kernel_rfl) (by simp) ?_
        refine AllReadyH.cons rfl (fun K hK => ?_) AllReadyH.nil
        go_simp
        refine hK.out _ _ ⟨(by repeat (first | exact hHeld.1 | refine Blk.drew ?_ | refine Blk.far ?_ (by simp; omega) _)), cell_set3 _ _ _ 0 (by omega) hHeld.2⟩ (fun hHeld => ?_)
        clear hK K
        try simp only [Act.put, List.setIfInBounds_toArray, List.set_cons_zero, List.set_cons_succ]
        refine takeH 11 (v := ?v11u5) rfl (by kernel_rfl) (by kernel_rfl) (by kernel_rfl) rfl (fun _ _ _ h => h) (Or.inl ⟨by rfl, ?y11u5⟩) hHeld ?r11u5
        case y11u5 => (intro W hSW; (try dsimp only at hSW); go_simp; try with_reducible rfl)
        simp only [Act.put, List.setIfInBounds_toArray, List.set_cons_zero, List.set_cons_succ]
        refine wpAnyH_done (by kernel_rfl) ?_ _
        refine NoPanic.normal ?_
        clear hHeld
        clear k0 k1 k2 r0 r1 r2 f0 f1 f2 g0 g1 g2
        go_wp2
        go_roundw
        case rel => exact ⟨i + 1, (x, y, false && (v == u)), by omega, by go_num, rfl, HST, C3.out.set.drew_⟩
        case measure => simp [intOf]; omega
      · refine wp_region_noPanic ?_
        refine wp_region_held_drew (S := fun W => Blk W w2.heap.size 26 #[.slice A n c, .int .i64 x, .int .i64 y] ∧ W.cell? (adx.add i) = some (.int .u64 (u : Int))) (by kernel_rfl) ⟨HD.out.drew, hcx3⟩ (fun hHeld => ?_)
        refine takeH 0 (v := ?v0u6) rfl (by kernel_rfl) (by kernel_rfl) (by kernel_rfl) rfl (fun _ _ _ h => h) (Or.inl ⟨by rfl, ?y0u6⟩) hHeld ?r0u6
        case y0u6 => (intro W hSW; (try dsimp only at hSW); have q0 := hSW.1.cell 0; have q1 := hSW.1.cell 1; have q2 := hSW.1.cell 2; simp only [List.getElem?_toArray, List.getElem?_cons_zero, List.getElem?_cons_succ] at q0 q1 q2; go_simp; try with_reducible rfl)
        simp only [Act.put, List.setIfInBounds_toArray, List.set_cons_zero, List.set_cons_succ]
        refine takeH 1 (v := ?v1u7) rfl (by kernel_rfl) (by kernel_rfl) (by kernel_rfl) rfl (fun _ _ _ h => h) (Or.inl ⟨by rfl, ?y1u7⟩) hHeld ?r1u7
        case y1u7 => (intro W hSW; (try dsimp only at hSW); go_simp; try with_reducible rfl)
        simp only [Act.put, List.setIfInBounds_toArray, List.set_cons_zero, List.set_cons_succ]
        refine takeH 2 (v := ?v2u8) rfl (by kernel_rfl) (by kernel_rfl) (by kernel_rfl) rfl (fun _ _ _ h => h) (Or.inl ⟨by rfl, ?y2u8⟩) hHeld ?r2u8
        case y2u8 => (intro W hSW; (try dsimp only at hSW); go_simp; try with_reducible rfl)
        simp only [Act.put, List.setIfInBounds_toArray, List.set_cons_zero, List.set_cons_succ]
        refine takeH 3 (v := ?v3u9) rfl (by kernel_rfl) (by kernel_rfl) (by kernel_rfl) rfl (fun _ _ _ h => h) (Or.inl ⟨by rfl, ?y3u9⟩) hHeld ?r3u9
        case y3u9 => (intro W hSW; (try dsimp only at hSW); go_simp; try with_reducible rfl)
        simp only [Act.put, List.setIfInBounds_toArray, List.set_cons_zero, List.set_cons_succ]
        refine takeH 4 (v := ?v4u10) rfl (by kernel_rfl) (by kernel_rfl) (by kernel_rfl) rfl (fun _ _ _ h => h) (Or.inl ⟨by rfl, ?y4u10⟩) hHeld ?r4u10
        case y4u10 => (intro W hSW; (try dsimp only at hSW); go_simp; try with_reducible rfl)
        simp only [Act.put, List.setIfInBounds_toArray, List.set_cons_zero, List.set_cons_succ]
        refine takeH 5 (v := ?v5u11) rfl (by kernel_rfl) (by kernel_rfl) (by kernel_rfl) rfl (fun _ _ _ h => h) (Or.inl ⟨by rfl, ?y5u11⟩) hHeld ?r5u11
        case y5u11 => (intro W hSW; (try dsimp only at hSW); go_simp; try with_reducible rfl)
        simp only [Act.put, List.setIfInBounds_toArray, List.set_cons_zero, List.set_cons_succ]
        refine takeH 6 (v := ?v6u12) rfl (by kernel_rfl) (by kernel_rfl) (by kernel_rfl) rfl (fun _ _ _ h => h) (Or.inl ⟨by rfl, ?y6u12⟩) hHeld ?r6u12
        case y6u12 => (intro W hSW; (try dsimp only at hSW); go_simp; try with_reducible rfl)
        simp only [Act.put, List.setIfInBounds_toArray, List.set_cons_zero, List.set_cons_succ]
        refine takeH 7 (v := ?v7u13) rfl (by kernel_rfl) (by kernel_rfl) (by kernel_rfl) rfl (fun _ _ _ h => h) (Or.inl ⟨by rfl, ?y7u13⟩) hHeld ?r7u13
        case y7u13 => (intro W hSW; (try dsimp only at hSW); have qq := hSW.2; go_simp; try with_reducible rfl)
        simp only [Act.put, List.setIfInBounds_toArray, List.set_cons_zero, List.set_cons_succ]
        refine takeH 8 (v := ?v8u14) rfl (by kernel_rfl) (by kernel_rfl) (by kernel_rfl) rfl (fun _ _ _ h => h) (Or.inl ⟨by rfl, ?y8u14⟩) hHeld ?r8u14
        case y8u14 => (intro W hSW; (try dsimp only at hSW); go_simp; try with_reducible rfl)
        simp only [Act.put, List.setIfInBounds_toArray, List.set_cons_zero, List.set_cons_succ]
        refine takeH 9 (v := ?v9u15) rfl (by kernel_rfl) (by kernel_rfl) (by kernel_rfl) rfl (fun _ _ _ h => h) (Or.inl ⟨by rfl, ?y9u15⟩) hHeld ?r9u15
        case y9u15 => (intro W hSW; (try dsimp only at hSW); go_simp; try with_reducible rfl)
        simp only [Act.put, List.setIfInBounds_toArray, List.set_cons_zero, List.set_cons_succ]
        refine wpAnyH_ready (rs := [10]) (by kernel_rfl) (by simp) ?_
        refine AllReadyH.cons rfl (fun K hK => ?_) AllReadyH.nil
        go_simp
        refine hK.out _ _ ⟨(by repeat (first | exact hHeld.1 | refine Blk.drew ?_ | refine Blk.far ?_ (by simp; omega) _)), cell_set3 _ _ _ 0 (by omega) hHeld.2⟩ (fun hHeld => ?_)
        clear hK K
        try simp only [Act.put, List.setIfInBounds_toArray, List.set_cons_zero, List.set_cons_succ]
        refine takeH 11 (v := ?v11u16) rfl (by kernel_rfl) (by kernel_rfl) (by kernel_rfl) rfl (fun _ _ _ h => h) (Or.inl ⟨by rfl, ?y11u16⟩) hHeld ?r11u16
        case y11u16 => (intro W hSW; (try dsimp only at hSW); go_simp; try with_reducible rfl)
        simp only [Act.put, List.setIfInBounds_toArray, List.set_cons_zero, List.set_cons_succ]
        refine wpAnyH_done (by kernel_rfl) ?_ _
        refine NoPanic.normal ?_
        clear hHeld
        clear k0 k1 k2 r0 r1 r2 f0 f1 f2 g0 g1 g2
        go_wp2
        go_roundw
        case rel => exact ⟨i + 1, (x, y, true && (v == u)), by omega, by go_num, congrArg Value.bool (by rw [beq_cast]; rfl), HST, C3.out.set.drew_⟩
        case measure => simp [intOf]; omega
    · obtain rfl : i = n1 := by omega
      have HS1 := Lib.hid (show readF bs (us.map Item.u) (at_, err, true) = (sx, sy, sb) from by have h := HS.out; rw [List.take_of_length_le (by rw [HL1.out]; exact Nat.le_refl _)] at h; exact h)
      clear HS
      obtain ⟨s1, hsj⟩ : ∃ s, (sx, sy, sb) = s := ⟨_, rfl⟩
      obtain rfl : sx = s1.1 := by rw [← hsj]
      obtain rfl : sy = s1.2.1 := by rw [← hsj]
      obtain rfl : sb = s1.2.2 := by rw [← hsj]
      rw [hsj] at HS1
      clear hsj
      have CX1 := C1
      clear C1
      go_wp2
      go_loopw [10, 14] (fun okv iv wr => ∃ (i : Nat) (s : Int × Int × Bool), i ≤ n2 ∧ iv = .int .i64 i ∧ okv = .bool s.2.2 ∧ Hid (readF bs ((ks.take i).map Item.i) s1 = s) ∧ Hid (Cu w wr #[.slice A n c, .int .i64 s.1, .int .i64 s.2.1] #[.slice none 0 0, .int .i64 0, .int .i64 0])) (fun _ iv _ => n2 - (intOf iv).toNat)
      case atStart => exact ⟨0, s1, Nat.zero_le _, rfl, rfl, rfl, CX1⟩
      case round =>
        obtain ⟨i, ⟨sx, sy, sb⟩, hi, rfl, rfl, HS, C1⟩ := hrel
        simp only at C1 ⊢
        clear CX1
        by_cases hlt : i < n2
        · obtain ⟨adx, u, hAx, hbx, hux, hcx⟩ := at_cell HR2.out hlt
          subst hAx
          obtain ⟨⟨x, y, v⟩, hu⟩ : ∃ r, uRes bs sx sy = r := ⟨_, rfl⟩
          have HU := Lib.hid hu
          have HST := Lib.hid (show readF bs ((ks.take (i + 1)).map Item.i) s1 = (x, y, sb && (unzig v == u)) from by rw [take_item Item.i ks i u hux, readF_snoc, HS.out]; unfold stepI; simp only [hu])
          clear hu hux HS
          obtain ⟨k0, k1, k2, r0, r1, r2, f0, f1, f2, g0, g1, g2⟩ := C1.out.cells
          go_wp2_with fail
          clear k0 k1 k2 r0 r1 r2 f0 f1 f2 g0 g1 g2
          refine (Int_v A n c sx sy bs w.heap.size _ (C1.out.reads HR.out (Nat.le_refl _)) C1.out.size hnc hcm hn x y v HU.out).mono ?_
          rintro e w2 ⟨rfl, hb2⟩
          have C2 := Lib.hid (C1.out.next hb2)
          have hcx2 : w2.cell? (adx.add i) = some (.int .i64 u) := (C2.out.2.2.cell (by rw [block_of_add]; exact hbx)).trans hcx
          clear hb2 hcx
          have HD := Lib.hid (Blk.new w2 26 #[.slice A n c, .int .i64 x, .int .i64 y])
          have C3 := Lib.hid (C2.out.next ((Below.refl _ w2).alloc (Nat.le_refl _) (.cells #[.slice A n c, .int .i64 x, .int .i64 y] 26)))
          have hcx3 := (World.cell?_alloc_lt w2 (.cells #[.slice A n c, .int .i64 x, .int .i64 y] 26) (adx.add i) (by rw [block_of_add]; have := C2.out.size; omega)).trans hcx2
          have hg2 := C2.out.2.1.lt
          have hg1 := C2.out.1.lt
          have hsz := C2.out.size
          have i1 : (0 : Int) ≤ (i : Int) := by omega
          have i2 : (i : Int) < (n2 : Int) := by omega
          clear hcx2
          go_wp2_with fail
          generalize w2.alloc (.cells #[.slice A n c, .int .i64 x, .int .i64 y] 26) = w3 at HD C3 hcx3 ⊢
          obtain ⟨k0, k1, k2, r0, r1, r2, f0, f1, f2, g0, g1, g2⟩ := C3.out.cells
          cases sb
          · refine wp_region_noPanic ?_
            refine wp_region_held_drew (S := fun W => Blk W w2.heap.size 26 #[.slice A n c, .int .i64 x, .int .i64 y] ∧ W.cell? (adx.add i) = some (.int .i64 u)) (by kernel_rfl) ⟨HD.out.drew, hcx3⟩ (fun hHeld => ?_)
            refine takeH 0 (v := ?v0u17) rfl (by kernel_rfl) (by kernel_rfl) (by kernel_rfl) rfl (fun _ _ _ h => h) (Or.inl ⟨by rfl, ?y0u17⟩) hHeld ?r0u17
            case y0u17 => (intro W hSW; (try dsimp only at hSW); have q0 := hSW.1.cell 0; have q1 := hSW.1.cell 1; have q2 := hSW.1.cell 2; simp only [List.getElem?_toArray, List.getElem?_cons_zero, List.getElem?_cons_succ] at q0 q1 q2; go_simp; try with_reducible rfl)
            simp only [Act.put, List.setIfInBounds_toArray, List.set_cons_zero, List.set_cons_succ]
            refine takeH 1 (v := ?v1u18) rfl (by kernel_rfl) (by kernel_rfl) (by kernel_rfl) rfl (fun _ _ _ h => h) (Or.inl ⟨by rfl, ?y1u18⟩) hHeld ?r1u18
            case y1u18 => (intro W hSW; (try dsimp only at hSW); go_simp; try with_reducible rfl)
            simp only [Act.put, List.setIfInBounds_toArray, List.set_cons_zero, List.set_cons_succ]
            refine takeH 2 (v := ?v2u19) rfl (by kernel_rfl) (by kernel_rfl) (by kernel_rfl) rfl (fun _ _ _ h => h) (Or.inl ⟨by rfl, ?y2u19⟩) hHeld ?r2u19
            case y2u19 => (intro W hSW; (try dsimp only at hSW); go_simp; try with_reducible rfl)
            simp only [Act.put, List.setIfInBounds_toArray, List.set_cons_zero, List.set_cons_succ]
            refine takeH 3 (v := undef) rfl (by kernel_rfl) (by kernel_rfl) (by kernel_rfl) rfl (fun _ _ _ h => h) (Or.inr ⟨by rfl, rfl⟩) hHeld ?_
            simp only [Act.put, List.setIfInBounds_toArray, List.set_cons_zero, List.set_cons_succ]
            refine takeH 4 (v := undef) rfl (by kernel_rfl) (by kernel_rfl) (by kernel_rfl) rfl (fun _ _ _ h => h) (Or.inr ⟨by rfl, rfl⟩) hHeld ?_
            simp only [Act.put, List.setIfInBounds_toArray, List.set_cons_zero, List.set_cons_succ]
            refine takeH 5 (v := undef) rfl (by kernel_rfl) (by kernel_rfl) (by kernel_rfl) rfl (fun _ _ _ h => h) (Or.inr ⟨by rfl, rfl⟩) hHeld ?_
            simp only [Act.put, List.setIfInBounds_toArray, List.set_cons_zero, List.set_cons_succ]
            refine takeH 6 (v := undef) rfl (by kernel_rfl) (by kernel_rfl) (by kernel_rfl) rfl (fun _ _ _ h => h) (Or.inr ⟨by rfl, rfl⟩) hHeld ?_
            simp only [Act.put, List.setIfInBounds_toArray, List.set_cons_zero, List.set_cons_succ]
            refine takeH 7 (v := undef) rfl (by kernel_rfl) (by kernel_rfl) (by kernel_rfl) rfl (fun _ _ _ h => h) (Or.inr ⟨by rfl, rfl⟩) hHeld ?_
            simp only [Act.put, List.setIfInBounds_toArray, List.set_cons_zero, List.set_cons_succ]
            refine takeH 8 (v := undef) rfl (by kernel_rfl) (by kernel_rfl) (by kernel_rfl) rfl (fun _ _ _ h => h) (Or.inr ⟨by rfl, rfl⟩) hHeld ?_
            simp only [Act.put, List.setIfInBounds_toArray, List.set_cons_zero, List.set_cons_succ]
            refine takeH 9 (v := ?v9u20) rfl (by kernel_rfl) (by kernel_rfl) (by kernel_rfl) rfl (fun _ _ _ h => h) (Or.inl ⟨by rfl, ?y9u20⟩) hHeld ?r9u20
            case y9u20 => (intro W hSW; (try dsimp only at hSW); go_simp; try with_reducible rfl)
            simp only [Act.put, List.setIfInBounds_toArray, List.set_cons_zero, List.set_cons_succ]
            refine wpAnyH_ready (rs := [10]) (by kernel_rfl) (by simp) ?_
            refine AllReadyH.cons rfl (fun K hK => ?_) AllReadyH.nil
            go_simp
            refine hK.out _ _ ⟨(by repeat (first | exact hHeld.1 | refine Blk.drew ?_ | refine Blk.far ?_ (by simp; omega) _)), cell_set3 _ _ _ 0 (by omega) hHeld.2⟩ (fun hHeld => ?_)
            clear hK K
            try simp only [Act.put, List.setIfInBounds_toArray, List.set_cons_zero, List.set_cons_succ]
            refine takeH 11 (v := ?v11u21) rfl (by kernel_rfl) (by kernel_rfl) (by kernel_rfl) rfl (fun _ _ _ h => h) (Or.inl ⟨by rfl, ?y11u21⟩) hHeld ?r11u21
            case y11u21 => (intro W hSW; (try dsimp only at hSW); go_simp; try with_reducible rfl)
            simp only [Act.put, List.setIfInBounds_toArray, List.set_cons_zero, List.set_cons_succ]
            refine wpAnyH_done (by kernel_rfl) ?_ _
            refine NoPanic.normal ?_
            clear hHeld
            clear k0 k1 k2 r0 r1 r2 f0 f1 f2 g0 g1 g2
            go_wp2
            go_roundw
            case rel => exact ⟨i + 1, (x, y, false && (unzig v == u)), by omega, by go_num, rfl, HST, C3.out.set.drew_⟩
            case measure => simp [intOf]; omega
          · refine wp_region_noPanic ?_
            refine wp_region_held_drew (S := fun W => Blk W w2.heap.size 26 #[.slice A n c, .int .i64 x, .int .i64 y] ∧ W.cell? (adx.add i) = some (.int .i64 u)) (by kernel_rfl) ⟨HD.out.drew, hcx3⟩ (fun hHeld => ?_)
            refine takeH 0 (v := ?v0u22) rfl (by kernel_rfl) (by kernel_rfl) (by kernel_rfl) rfl (fun _ _ _ h => h) (Or.inl ⟨by rfl, ?y0u22⟩) hHeld ?r0u22
            case y0u22 => (intro W hSW; (try dsimp only at hSW); have q0 := hSW.1.cell 0; have q1 := hSW.1.cell 1; have q2 := hSW.1.cell 2; simp only [List.getElem?_toArray, List.getElem?_cons_zero, List.getElem?_cons_succ] at q0 q1 q2; go_simp; try with_reducible rfl)
            simp only [Act.put, List.setIfInBounds_toArray, List.set_cons_zero, List.set_cons_succ]
            refine takeH 1 (v := ?v1u23) rfl (by kernel_rfl) (by kernel_rfl) (by kernel_rfl) rfl (fun _ _ _ h => h) (Or.inl ⟨by rfl, ?y1u23⟩) hHeld ?r1u23
            case y1u23 => (intro W hSW; (try dsimp only at hSW); go_simp; try with_reducible rfl)
            simp only [Act.put, List.setIfInBounds_toArray, List.set_cons_zero, List.set_cons_succ]
            refine takeH 2 (v := ?v2u24) rfl (by kernel_rfl) (by kernel_rfl) (by kernel_rfl) rfl (fun _ _ _ h => h) (Or.inl ⟨by rfl, ?y2u24⟩) hHeld ?r2u24
            case y2u24 => (intro W hSW; (try dsimp only at hSW); go_simp; try with_reducible rfl)
            simp only [Act.put, List.setIfInBounds_toArray, List.set_cons_zero, List.set_cons_succ]
            refine takeH 3 (v := ?v3u25) rfl (by kernel_rfl) (by kernel_rfl) (by kernel_rfl) rfl (fun _ _ _ h => h) (Or.inl ⟨by rfl, ?y3u25⟩) hHeld ?r3u25
            case y3u25 => (intro W hSW; (try dsimp only at hSW); go_simp; try with_reducible rfl)
            simp only [Act.put, List.setIfInBounds_toArray, List.set_cons_zero, List.set_cons_succ]
            refine takeH 4 (v := ?v4u26) rfl (by kernel_rfl) (by kernel_rfl) (by kernel_rfl) rfl (fun _ _ _ h => h) (Or.inl ⟨by rfl, ?y4u26⟩) hHeld ?r4u26
            case y4u26 => (intro W hSW; (try dsimp only at hSW); go_simp; try with_reducible rfl)
            simp only [Act.put, List.setIfInBounds_toArray, List.set_cons_zero, List.set_cons_succ]
            refine takeH 5 (v := ?v5u27) rfl (by kernel_rfl) (by kernel_rfl) (by kernel_rfl) rfl (fun _ _ _ h => h) (Or.inl ⟨by rfl, ?y5u27⟩) hHeld ?r5u27
            case y5u27 => (intro W hSW; (try dsimp only at hSW); go_simp; try with_reducible rfl)
            simp only [Act.put, List.setIfInBounds_toArray, List.set_cons_zero, List.set_cons_succ]
            refine takeH 6 (v := ?v6u28) rfl (by kernel_rfl) (by kernel_rfl) (by kernel_rfl) rfl (fun _ _ _ h => h) (Or.inl ⟨by rfl, ?y6u28⟩) hHeld ?r6u28
            case y6u28 => (intro W hSW; (try dsimp only at hSW); go_simp; try with_reducible rfl)
            simp only [Act.put, List.setIfInBounds_toArray, List.set_cons_zero, List.set_cons_succ]
            refine takeH 7 (v := ?v7u29) rfl (by kernel_rfl) (by kernel_rfl) (by kernel_rfl) rfl (fun _ _ _ h => h) (Or.inl ⟨by rfl, ?y7u29⟩) hHeld ?r7u29
            case y7u29 => (intro W hSW; (try dsimp only at hSW); have qq := hSW.2; go_simp; try with_reducible rfl)
            simp only [Act.put, List.setIfInBounds_toArray, List.set_cons_zero, List.set_cons_succ]
            refine takeH 8 (v := ?v8u30) rfl (by kernel_rfl) (by kernel_rfl) (by kernel_rfl) rfl (fun _ _ _ h => h) (Or.inl ⟨by rfl, ?y8u30⟩) hHeld ?r8u30
            case y8u30 => (intro W hSW; (try dsimp only at hSW); go_simp; try with_reducible rfl)
            simp only [Act.put, List.setIfInBounds_toArray, List.set_cons_zero, List.set_cons_succ]
            refine takeH 9 (v := ?v9u31) rfl (by kernel_rfl) (by kernel_rfl) (by kernel_rfl) rfl (fun _ _ _ h => h) (Or.inl ⟨by rfl, ?y9u31⟩) hHeld ?r9u31
            case y9u31 => (intro W hSW; (try dsimp only at hSW); go_simp; try with_reducible rfl)
            simp only [Act.put, List.setIfInBounds_toArray, List.set_cons_zero, List.set_cons_succ]
            refine wpAnyH_ready (rs := [10]) (by kernel_rfl) (by simp) ?_
            refine AllReadyH.cons rfl (fun K hK => ?_) AllReadyH.nil
            go_simp
            refine hK.out _ _ ⟨(by repeat (first | exact hHeld.1 | refine Blk.drew ?_ | refine Blk.far ?_ (by simp; omega) _)), cell_set3 _ _ _ 0 (by omega) hHeld.2⟩ (fun hHeld => ?_)
            clear hK K
            try simp only [Act.put, List.setIfInBounds_toArray, List.set_cons_zero, List.set_cons_succ]
            refine takeH 11 (v := ?v11u32) rfl (by kernel_rfl) (by kernel_rfl) (by kernel_rfl) rfl (fun _ _ _ h => h) (Or.inl ⟨by rfl, ?y11u32⟩) hHeld ?r11u32
            case y11u32 => (intro W hSW; (try dsimp only at hSW); go_simp; try with_reducible rfl)
            simp only [Act.put, List.setIfInBounds_toArray, List.set_cons_zero, List.set_cons_succ]
            refine wpAnyH_done (by kernel_rfl) ?_ _
            refine NoPanic.normal ?_
            clear hHeld
            clear k0 k1 k2 r0 r1 r2 f0 f1 f2 g0 g1 g2
            go_wp2
            go_roundw
            case rel => exact ⟨i + 1, (x, y, true && (unzig v == u)), by omega, by go_num, congrArg Value.bool (rfl), HST, C3.out.set.drew_⟩
            case measure => simp [intOf]; omega
        · obtain rfl : i = n2 := by omega
          have HS2 := Lib.hid (show readF bs (ks.map Item.i) s1 = (sx, sy, sb) from by have h := HS.out; rw [List.take_of_length_le (by rw [HL2.out]; exact Nat.le_refl _)] at h; exact h)
          clear HS
          obtain ⟨s2, hsj⟩ : ∃ s, (sx, sy, sb) = s := ⟨_, rfl⟩
          obtain rfl : sx = s2.1 := by rw [← hsj]
          obtain rfl : sy = s2.2.1 := by rw [← hsj]
          obtain rfl : sb = s2.2.2 := by rw [← hsj]
          rw [hsj] at HS2
          clear hsj
          have CX2 := C1
          clear C1
          go_wp2
          go_loopw [10, 17] (fun okv iv wr => ∃ (i : Nat) (s : Int × Int × Bool), i ≤ n3 ∧ iv = .int .i64 i ∧ okv = .bool s.2.2 ∧ Hid (readF bs ((ts.take i).map Item.t) s2 = s) ∧ Hid (Cu w wr #[.slice A n c, .int .i64 s.1, .int .i64 s.2.1] #[.slice none 0 0, .int .i64 0, .int .i64 0])) (fun _ iv _ => n3 - (intOf iv).toNat)
          case atStart => exact ⟨0, s2, Nat.zero_le _, rfl, rfl, rfl, CX2⟩
          case round =>
            obtain ⟨i, ⟨sx, sy, sb⟩, hi, rfl, rfl, HS, C1⟩ := hrel
            simp only at C1 ⊢
            clear CX2
            by_cases hlt : i < n3
            · obtain ⟨adx, u, hAx, hbx, hux, hcx⟩ := at_cell HR3.out hlt
              subst hAx
              obtain ⟨⟨x, y, v⟩, hu⟩ : ∃ r, xRes bs sx sy 200 = r := ⟨_, rfl⟩
              have HU := Lib.hid hu
              have HST := Lib.hid (show readF bs ((ts.take (i + 1)).map Item.t) s2 = (x, y, sb && (v == u)) from by rw [take_item Item.t ts i u hux, readF_snoc, HS.out]; unfold stepI; simp only [hu])
              clear hu hux HS
              obtain ⟨k0, k1, k2, r0, r1, r2, f0, f1, f2, g0, g1, g2⟩ := C1.out.cells
              go_wp2_with fail
              clear k0 k1 k2 r0 r1 r2 f0 f1 f2 g0 g1 g2
              refine (Text_v A n c sx sy bs w.heap.size _ (C1.out.reads HR.out (Nat.le_refl _)) C1.out.size hnc hcm hn 200 (by omega) x y v HU.out).mono ?_
              rintro e w2 ⟨rfl, hb2⟩
              have C2 := Lib.hid (C1.out.next hb2)
              have hcx2 : w2.cell? (adx.add i) = some (.string ⟨u.toArray⟩) := (C2.out.2.2.cell (by rw [block_of_add]; exact hbx)).trans hcx
              clear hb2 hcx
              have HD := Lib.hid (Blk.new w2 26 #[.slice A n c, .int .i64 x, .int .i64 y])
              have C3 := Lib.hid (C2.out.next ((Below.refl _ w2).alloc (Nat.le_refl _) (.cells #[.slice A n c, .int .i64 x, .int .i64 y] 26)))
              have hcx3 := (World.cell?_alloc_lt w2 (.cells #[.slice A n c, .int .i64 x, .int .i64 y] 26) (adx.add i) (by rw [block_of_add]; have := C2.out.size; omega)).trans hcx2
              have hg2 := C2.out.2.1.lt
              have hg1 := C2.out.1.lt
              have hsz := C2.out.size
              have i1 : (0 : Int) ≤ (i : Int) := by omega
              have i2 : (i : Int) < (n3 : Int) := by omega
              clear hcx2
              go_wp2_with fail
              generalize w2.alloc (.cells #[.slice A n c, .int .i64 x, .int .i64 y] 26) = w3 at HD C3 hcx3 ⊢
              obtain ⟨k0, k1, k2, r0, r1, r2, f0, f1, f2, g0, g1, g2⟩ := C3.out.cells
              cases sb
              · refine wp_region_noPanic ?_
                refine wp_region_held_drew (S := fun W => Blk W w2.heap.size 26 #[.slice A n c, .int .i64 x, .int .i64 y] ∧ W.cell? (adx.add i) = some (.string ⟨u.toArray⟩)) (by kernel_rfl) ⟨HD.out.drew, hcx3⟩ (fun hHeld => ?_)
                refine takeH 0 (v := ?v0u33) rfl (by kernel_rfl) (by kernel_rfl) (by kernel_rfl) rfl (fun _ _ _ h => h) (Or.inl ⟨by rfl, ?y0u33⟩) hHeld ?r0u33
                case y0u33 => (intro W hSW; (try dsimp only at hSW); have q0 := hSW.1.cell 0; have q1 := hSW.1.cell 1; have q2 := hSW.1.cell 2; simp only [List.getElem?_toArray, List.getElem?_cons_zero, List.getElem?_cons_succ] at q0 q1 q2; go_simp; try with_reducible rfl)
                simp only [Act.put, List.setIfInBounds_toArray, List.set_cons_zero, List.set_cons_succ]
                refine takeH 1 (v := ?v1u34) rfl (by kernel_rfl) (by kernel_rfl) (by kernel_rfl) rfl (fun _ _ _ h => h) (Or.inl ⟨by rfl, ?y1u34⟩) hHeld ?r1u34
                case y1u34 => (intro W hSW; (try dsimp only at hSW); go_simp; try with_reducible rfl)
                simp only [Act.put, List.setIfInBounds_toArray, List.set_cons_zero, List.set_cons_succ]
                refine takeH 2 (v := ?v2u35) rfl (by kernel_rfl) (by kernel_rfl) (by kernel_rfl) rfl (fun _ _ _ h => h) (Or.inl ⟨by rfl, ?y2u35⟩) hHeld ?r2u35
                case y2u35 => (intro W hSW; (try dsimp only at hSW); go_simp; try with_reducible rfl)
                simp only [Act.put, List.setIfInBounds_toArray, List.set_cons_zero, List.set_cons_succ]
                refine takeH 3 (v := undef) rfl (by kernel_rfl) (by kernel_rfl) (by kernel_rfl) rfl (fun _ _ _ h => h) (Or.inr ⟨by rfl, rfl⟩) hHeld ?_
                simp only [Act.put, List.setIfInBounds_toArray, List.set_cons_zero, List.set_cons_succ]
                refine takeH 4 (v := undef) rfl (by kernel_rfl) (by kernel_rfl) (by kernel_rfl) rfl (fun _ _ _ h => h) (Or.inr ⟨by rfl, rfl⟩) hHeld ?_
                simp only [Act.put, List.setIfInBounds_toArray, List.set_cons_zero, List.set_cons_succ]
                refine takeH 5 (v := undef) rfl (by kernel_rfl) (by kernel_rfl) (by kernel_rfl) rfl (fun _ _ _ h => h) (Or.inr ⟨by rfl, rfl⟩) hHeld ?_
                simp only [Act.put, List.setIfInBounds_toArray, List.set_cons_zero, List.set_cons_succ]
                refine takeH 6 (v := undef) rfl (by kernel_rfl) (by kernel_rfl) (by kernel_rfl) rfl (fun _ _ _ h => h) (Or.inr ⟨by rfl, rfl⟩) hHeld ?_
                simp only [Act.put, List.setIfInBounds_toArray, List.set_cons_zero, List.set_cons_succ]
                refine takeH 7 (v := undef) rfl (by kernel_rfl) (by kernel_rfl) (by kernel_rfl) rfl (fun _ _ _ h => h) (Or.inr ⟨by rfl, rfl⟩) hHeld ?_
                simp only [Act.put, List.setIfInBounds_toArray, List.set_cons_zero, List.set_cons_succ]
                refine takeH 8 (v := undef) rfl (by kernel_rfl) (by kernel_rfl) (by kernel_rfl) rfl (fun _ _ _ h => h) (Or.inr ⟨by rfl, rfl⟩) hHeld ?_
                simp only [Act.put, List.setIfInBounds_toArray, List.set_cons_zero, List.set_cons_succ]
                refine takeH 9 (v := ?v9u36) rfl (by kernel_rfl) (by kernel_rfl) (by kernel_rfl) rfl (fun _ _ _ h => h) (Or.inl ⟨by rfl, ?y9u36⟩) hHeld ?r9u36
                case y9u36 => (intro W hSW; (try dsimp only at hSW); go_simp; try with_reducible rfl)
                simp only [Act.put, List.setIfInBounds_toArray, List.set_cons_zero, List.set_cons_succ]
                refine wpAnyH_ready (rs := [10]) (by kernel_rfl) (by simp) ?_
                refine AllReadyH.cons rfl (fun K hK => ?_) AllReadyH.nil
                go_simp
                refine hK.out _ _ ⟨(by repeat (first | exact hHeld.1 | refine Blk.drew ?_ | refine Blk.far ?_ (by simp; omega) _)), cell_set3 _ _ _ 0 (by omega) hHeld.2⟩ (fun hHeld => ?_)
                clear hK K
                try simp only [Act.put, List.setIfInBounds_toArray, List.set_cons_zero, List.set_cons_succ]
                refine takeH 11 (v := ?v11u37) rfl (by kernel_rfl) (by kernel_rfl) (by kernel_rfl) rfl (fun _ _ _ h => h) (Or.inl ⟨by rfl, ?y11u37⟩) hHeld ?r11u37
                case y11u37 => (intro W hSW; (try dsimp only at hSW); go_simp; try with_reducible rfl)
                simp only [Act.put, List.setIfInBounds_toArray, List.set_cons_zero, List.set_cons_succ]
                refine wpAnyH_done (by kernel_rfl) ?_ _
                refine NoPanic.normal ?_
                clear hHeld
                clear k0 k1 k2 r0 r1 r2 f0 f1 f2 g0 g1 g2
                go_wp2
                go_roundw
                case rel => exact ⟨i + 1, (x, y, false && (v == u)), by omega, by go_num, rfl, HST, C3.out.set.drew_⟩
                case measure => simp [intOf]; omega
              · refine wp_region_noPanic ?_
                refine wp_region_held_drew (S := fun W => Blk W w2.heap.size 26 #[.slice A n c, .int .i64 x, .int .i64 y] ∧ W.cell? (adx.add i) = some (.string ⟨u.toArray⟩)) (by kernel_rfl) ⟨HD.out.drew, hcx3⟩ (fun hHeld => ?_)
                refine takeH 0 (v := ?v0u38) rfl (by kernel_rfl) (by kernel_rfl) (by kernel_rfl) rfl (fun _ _ _ h => h) (Or.inl ⟨by rfl, ?y0u38⟩) hHeld ?r0u38
                case y0u38 => (intro W hSW; (try dsimp only at hSW); have q0 := hSW.1.cell 0; have q1 := hSW.1.cell 1; have q2 := hSW.1.cell 2; simp only [List.getElem?_toArray, List.getElem?_cons_zero, List.getElem?_cons_succ] at q0 q1 q2; go_simp; try with_reducible rfl)
                simp only [Act.put, List.setIfInBounds_toArray, List.set_cons_zero, List.set_cons_succ]
                refine takeH 1 (v := ?v1u39) rfl (by kernel_rfl) (by kernel_rfl) (by kernel_rfl) rfl (fun _ _ _ h => h) (Or.inl ⟨by rfl, ?y1u39⟩) hHeld ?r1u39
                case y1u39 => (intro W hSW; (try dsimp only at hSW); go_simp; try with_reducible rfl)
                simp only [Act.put, List.setIfInBounds_toArray, List.set_cons_zero, List.set_cons_succ]
                refine takeH 2 (v := ?v2u40) rfl (by kernel_rfl) (by kernel_rfl) (by kernel_rfl) rfl (fun _ _ _ h => h) (Or.inl ⟨by rfl, ?y2u40⟩) hHeld ?r2u40
                case y2u40 => (intro W hSW; (try dsimp only at hSW); go_simp; try with_reducible rfl)
                simp only [Act.put, List.setIfInBounds_toArray, List.set_cons_zero, List.set_cons_succ]
                refine takeH 3 (v := ?v3u41) rfl (by kernel_rfl) (by kernel_rfl) (by kernel_rfl) rfl (fun _ _ _ h => h) (Or.inl ⟨by rfl, ?y3u41⟩) hHeld ?r3u41
                case y3u41 => (intro W hSW; (try dsimp only at hSW); go_simp; try with_reducible rfl)
                simp only [Act.put, List.setIfInBounds_toArray, List.set_cons_zero, List.set_cons_succ]
                refine takeH 4 (v := ?v4u42) rfl (by kernel_rfl) (by kernel_rfl) (by kernel_rfl) rfl (fun _ _ _ h => h) (Or.inl ⟨by rfl, ?y4u42⟩) hHeld ?r4u42
                case y4u42 => (intro W hSW; (try dsimp only at hSW); go_simp; try with_reducible rfl)
                simp only [Act.put, List.setIfInBounds_toArray, List.set_cons_zero, List.set_cons_succ]
                refine takeH 5 (v := ?v5u43) rfl (by kernel_rfl) (by kernel_rfl) (by kernel_rfl) rfl (fun _ _ _ h => h) (Or.inl ⟨by rfl, ?y5u43⟩) hHeld ?r5u43
                case y5u43 => (intro W hSW; (try dsimp only at hSW); go_simp; try with_reducible rfl)
                simp only [Act.put, List.setIfInBounds_toArray, List.set_cons_zero, List.set_cons_succ]
                refine takeH 6 (v := ?v6u44) rfl (by kernel_rfl) (by kernel_rfl) (by kernel_rfl) rfl (fun _ _ _ h => h) (Or.inl ⟨by rfl, ?y6u44⟩) hHeld ?r6u44
                case y6u44 => (intro W hSW; (try dsimp only at hSW); go_simp; try with_reducible rfl)
                simp only [Act.put, List.setIfInBounds_toArray, List.set_cons_zero, List.set_cons_succ]
                refine takeH 7 (v := ?v7u45) rfl (by kernel_rfl) (by kernel_rfl) (by kernel_rfl) rfl (fun _ _ _ h => h) (Or.inl ⟨by rfl, ?y7u45⟩) hHeld ?r7u45
                case y7u45 => (intro W hSW; (try dsimp only at hSW); have qq := hSW.2; go_simp; try with_reducible rfl)
                simp only [Act.put, List.setIfInBounds_toArray, List.set_cons_zero, List.set_cons_succ]
                refine takeH 8 (v := ?v8u46) rfl (by kernel_rfl) (by kernel_rfl) (by kernel_rfl) rfl (fun _ _ _ h => h) (Or.inl ⟨by rfl, ?y8u46⟩) hHeld ?r8u46
                case y8u46 => (intro W hSW; (try dsimp only at hSW); go_simp; try with_reducible rfl)
                simp only [Act.put, List.setIfInBounds_toArray, List.set_cons_zero, List.set_cons_succ]
                refine takeH 9 (v := ?v9u47) rfl (by kernel_rfl) (by kernel_rfl) (by kernel_rfl) rfl (fun _ _ _ h => h) (Or.inl ⟨by rfl, ?y9u47⟩) hHeld ?r9u47
                case y9u47 => (intro W hSW; (try dsimp only at hSW); go_simp; try with_reducible rfl)
                simp only [Act.put, List.setIfInBounds_toArray, List.set_cons_zero, List.set_cons_succ]
                refine wpAnyH_ready (rs := [10]) (by kernel_rfl) (by simp) ?_
                refine AllReadyH.cons rfl (fun K hK => ?_) AllReadyH.nil
                go_simp
                refine hK.out _ _ ⟨(by repeat (first | exact hHeld.1 | refine Blk.drew ?_ | refine Blk.far ?_ (by simp; omega) _)), cell_set3 _ _ _ 0 (by omega) hHeld.2⟩ (fun hHeld => ?_)
                clear hK K
                try simp only [Act.put, List.setIfInBounds_toArray, List.set_cons_zero, List.set_cons_succ]
                refine takeH 11 (v := ?v11u48) rfl (by kernel_rfl) (by kernel_rfl) (by kernel_rfl) rfl (fun _ _ _ h => h) (Or.inl ⟨by rfl, ?y11u48⟩) hHeld ?r11u48
                case y11u48 => (intro W hSW; (try dsimp only at hSW); go_simp; try with_reducible rfl)
                simp only [Act.put, List.setIfInBounds_toArray, List.set_cons_zero, List.set_cons_succ]
                refine wpAnyH_done (by kernel_rfl) ?_ _
                refine NoPanic.normal ?_
                clear hHeld
                clear k0 k1 k2 r0 r1 r2 f0 f1 f2 g0 g1 g2
                go_wp2
                go_roundw
                case rel => exact ⟨i + 1, (x, y, true && (v == u)), by omega, by go_num, congrArg Value.bool (rfl), HST, C3.out.set.drew_⟩
                case measure => simp [intOf]; omega
            · obtain rfl : i = n3 := by omega
              have HS3 := Lib.hid (show readF bs (ts.map Item.t) s2 = (sx, sy, sb) from by have h := HS.out; rw [List.take_of_length_le (by rw [HL3.out]; exact Nat.le_refl _)] at h; exact h)
              clear HS
              obtain ⟨k0, k1, k2, r0, r1, r2, f0, f1, f2, g0, g1, g2⟩ := C1.out.cells
              go_wp2
              have hbe := C1.out.2.2
              exact bodyPost_ret (v := .tuple #[.agg #[.slice A n c, .int .i64 sx, .int .i64 sy], .bool sb]) (by simp [results, Try.results25, go_sem, r0, r1, r2]) rfl ⟨by rw [readF_append, readF_append, HS1.out, HS2.out, HS3.out], (by repeat (first | refine Below.setCell ?_ (by simp) _ | refine Below.drew ?_ | refine below_drewN ?_ _ | exact hbe))⟩
end Go.Proofs.Ytgpefnlmlicopaa
