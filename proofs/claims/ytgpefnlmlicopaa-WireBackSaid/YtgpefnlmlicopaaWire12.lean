/- Contracts of Text and its reference where a text is read. -/
import Derived.Test.YtgpefnlmlicopaaWire11
namespace Go.Proofs.Ytgpefnlmlicopaa
set_option linter.unusedVariables false
open Go.RowKit

set_option maxRecDepth 100000 in
set_option maxHeartbeats 2000000 in
theorem Text_ok (A : Option Addr) (n c : Nat) (at_ : Int) (bs : List UInt8) (B : Nat) (w : World) (hr : Reads w B 1 A n (byteCells bs)) (hB : B ≤ w.heap.size) (hnc : n ≤ c) (hcm : c ≤ 9223372036854775807) (hn : n ≤ 10000) (most : Int) (hmm : most ≤ 9223372036854775807) (a v : Nat) (hu : uRes bs at_ 0 = ((a : Int), 0, v)) (hm : 0 ≤ most) (hmv : (v : Int) ≤ most) (hvn : a + v ≤ n) :
    Calls Try.prog 23 #[.agg #[.slice A n c, .int .i64 at_, .int .i64 0], .int .i64 most] w fun e w' => e = .returned (.tuple #[.agg #[.slice A n c, .int .i64 ((a : Int) + (v : Int)), .int .i64 0], .string ⟨((bs.drop a).take v).toArray⟩]) ∧ Below w.heap.size w w' := by
  have hv := uRes_lt bs at_ 0
  have hx0 : (0 : Int) ≤ (a : Int) := by omega
  have hxn : (a : Int) ≤ (n : Int) := by omega
  have HU := Lib.hid (fun W (h : Reads W B 1 A n (byteCells bs)) (h' : B ≤ W.heap.size) => Uint_c A n c at_ 0 bs B W h h' hnc hcm hn)
  have HR := Lib.hid hr
  rw [hu] at HU hv
  simp only at HU hv
  have dm : decide (most < 0) = false := by simpa using hm
  have dv : decide (most < (v : Int)) = false := by simpa using hmv
  have dl : decide ((n : Int) - (a : Int) < (v : Int)) = false := by simp; omega
  clear hr hu
  go_enter Try.func23, Try.ntmps23
  go_wp2_with fail
  have C0 := Lib.hid (Cu.start w #[.slice A n c, .int .i64 at_, .int .i64 0] #[.slice none 0 0, .int .i64 0, .int .i64 0])
  refine (HU.out _ (C0.out.reads HR.out hB) (by simp; omega)).mono ?_
  rintro e w1 ⟨rfl, hb⟩
  have C1 := Lib.hid (C0.out.next hb)
  clear hb C0
  obtain ⟨k0, k1, k2, r0, r1, r2, f0, f1, f2, g0, g1, g2⟩ := C1.out.cells
  have hg1 := C1.out.1.lt
  have hg2 := C1.out.2.1.lt
  have hsz := C1.out.size
  have C2 := Lib.hid (C1.out.next ((Below.refl _ w1).alloc (Nat.le_refl _) (.cells #[.slice A n c, .int .i64 (a : Int), .int .i64 0] 26)))
  have HH := Lib.hid (Blk.new w1 26 #[.slice A n c, .int .i64 (a : Int), .int .i64 0])
  go_wp2_with fail
  clear k0 k1 k2 r0 r1 r2 f0 f1 f2 g0 g1 g2
  refine (Left_yes A n c a _ hx0 hxn (by omega)).mono ?_
  rintro e w1' ⟨rfl, hb'⟩
  have C2' := Lib.hid (C2.out.next hb')
  have HH' := Lib.hid (HH.out.below hb' HH.out.lt)
  clear hb'
  obtain ⟨k0, k1, k2, r0, r1, r2, f0, f1, f2, g0, g1, g2⟩ := C2'.out.cells
  obtain ⟨q0, q1, q2, t0, t1, t2⟩ : w1'.cell? ⟨w1.heap.size, 0, none⟩ = some (.slice A n c) ∧ w1'.cell? ⟨w1.heap.size, 1, none⟩ = some (.int .i64 (a : Int)) ∧ w1'.cell? ⟨w1.heap.size, 2, none⟩ = some (.int .i64 0) ∧ w1'.frozen? ⟨w1.heap.size, 0, none⟩ = false ∧ w1'.frozen? ⟨w1.heap.size, 1, none⟩ = false ∧ w1'.frozen? ⟨w1.heap.size, 2, none⟩ = false := ⟨HH'.out.cell 0, HH'.out.cell 1, HH'.out.cell 2, HH'.out.frozen 0, HH'.out.frozen 1, HH'.out.frozen 2⟩
  go_wp2_with fail
  clear k0 k1 k2 r0 r1 r2 f0 f1 f2 g0 g1 g2
  clear q0 q1 q2 t0 t1 t2
  refine (Take_c A n c a v bs B _ (C2'.out.reads HR.out hB) (Nat.le_trans hB C2'.out.size) hnc hcm hvn).mono ?_
  rintro e w2 ⟨A', rfl, hR2, hb2⟩
  have C3 := Lib.hid (C2'.out.next hb2)
  have HH2 := Lib.hid (HH'.out.below hb2 HH'.out.lt)
  have HR2 := Lib.hid hR2
  clear hb2 hR2
  obtain ⟨k0, k1, k2, r0, r1, r2, f0, f1, f2, g0, g1, g2⟩ := C3.out.cells
  obtain ⟨q0, q1, q2, t0, t1, t2⟩ : w2.cell? ⟨w1.heap.size, 0, none⟩ = some (.slice A n c) ∧ w2.cell? ⟨w1.heap.size, 1, none⟩ = some (.int .i64 (a : Int)) ∧ w2.cell? ⟨w1.heap.size, 2, none⟩ = some (.int .i64 0) ∧ w2.frozen? ⟨w1.heap.size, 0, none⟩ = false ∧ w2.frozen? ⟨w1.heap.size, 1, none⟩ = false ∧ w2.frozen? ⟨w1.heap.size, 2, none⟩ = false := ⟨HH2.out.cell 0, HH2.out.cell 1, HH2.out.cell 2, HH2.out.frozen 0, HH2.out.frozen 1, HH2.out.frozen 2⟩
  go_wp2_with fail
  clear k0 k1 k2 r0 r1 r2 f0 f1 f2 g0 g1 g2
  clear q0 q1 q2 t0 t1 t2
  have C4 := Lib.hid (show Cu w (((w2.setCell ⟨w1.heap.size, 0, none⟩ (.slice A n c)).setCell ⟨w1.heap.size, 1, none⟩ (.int .i64 ((a : Int) + (v : Int)))).setCell ⟨w1.heap.size, 2, none⟩ (.int .i64 0)) #[.slice A n c, .int .i64 at_, .int .i64 0] #[.slice none 0 0, .int .i64 0, .int .i64 0] from ⟨((C3.out.1.far (by simp; omega) _).far (by simp; omega) _).far (by simp; omega) _, ((C3.out.2.1.far (by simp; omega) _).far (by simp; omega) _).far (by simp; omega) _, ((C3.out.2.2.setCell (by simp; omega) _).setCell (by simp; omega) _).setCell (by simp; omega) _⟩)
  have HH4 := Lib.hid (show Blk (((w2.setCell ⟨w1.heap.size, 0, none⟩ (.slice A n c)).setCell ⟨w1.heap.size, 1, none⟩ (.int .i64 ((a : Int) + (v : Int)))).setCell ⟨w1.heap.size, 2, none⟩ (.int .i64 0)) w1.heap.size 26 #[.slice A n c, .int .i64 ((a : Int) + (v : Int)), .int .i64 0] from ((HH2.out.set_ 0 _).set_ 1 _).set_ 2 _)
  have HR4 := Lib.hid (show Reads (((w2.setCell ⟨w1.heap.size, 0, none⟩ (.slice A n c)).setCell ⟨w1.heap.size, 1, none⟩ (.int .i64 ((a : Int) + (v : Int)))).setCell ⟨w1.heap.size, 2, none⟩ (.int .i64 0)) B 1 A' v (byteCells ((bs.drop a).take v)) from ((HR2.out.setCell (by simp; omega) _).setCell (by simp; omega) _).setCell (by simp; omega) _)
  generalize ((w2.setCell ⟨w1.heap.size, 0, none⟩ (.slice A n c)).setCell ⟨w1.heap.size, 1, none⟩ (.int .i64 ((a : Int) + (v : Int)))).setCell ⟨w1.heap.size, 2, none⟩ (.int .i64 0) = w4 at C4 HH4 HR4 ⊢
  obtain ⟨k0, k1, k2, r0, r1, r2, f0, f1, f2, g0, g1, g2⟩ := C4.out.cells
  refine wp_region_noPanic ?_
  refine wp_region_held_drew (S := fun W => Blk W w1.heap.size 26 #[.slice A n c, .int .i64 ((a : Int) + (v : Int)), .int .i64 0] ∧ Reads W B 1 A' v (byteCells ((bs.drop a).take v))) (by kernel_rfl) ⟨HH4.out.drew, HR4.out.drew⟩ (fun hHeld => ?_)
  refine takeH 0 (v := ?v0u1) rfl (by kernel_rfl) (by kernel_rfl) (by kernel_rfl) rfl (fun _ _ _ h => h) (Or.inl ⟨by rfl, ?y0u1⟩) hHeld ?r0u1
  case y0u1 => (intro W hSW; (try dsimp only at hSW); have q0 := hSW.1.cell 0; have q1 := hSW.1.cell 1; have q2 := hSW.1.cell 2; simp only [List.getElem?_toArray, List.getElem?_cons_zero, List.getElem?_cons_succ] at q0 q1 q2; go_simp; try with_reducible rfl)
  simp only [Act.put, List.setIfInBounds_toArray, List.set_cons_zero, List.set_cons_succ]
  refine takeH 1 (v := ?v1u2) rfl (by kernel_rfl) (by kernel_rfl) (by kernel_rfl) rfl (fun _ _ _ h => h) (Or.inl ⟨by rfl, ?y1u2⟩) hHeld ?r1u2
  case y1u2 => (intro W hSW; (try dsimp only at hSW); go_simp; try with_reducible rfl)
  simp only [Act.put, List.setIfInBounds_toArray, List.set_cons_zero, List.set_cons_succ]
  refine takeH 2 (v := ?v2u3) rfl (by kernel_rfl) (by kernel_rfl) (by kernel_rfl) rfl (fun _ _ _ h => h) (Or.inl ⟨by rfl, ?y2u3⟩) hHeld ?r2u3
  case y2u3 => (intro W hSW; (try dsimp only at hSW); have hcv := conv_reads hSW.2 v; go_simp; try with_reducible rfl)
  simp only [Act.put, List.setIfInBounds_toArray, List.set_cons_zero, List.set_cons_succ]
  refine wpAnyH_ready (rs := [3]) (by kernel_rfl) (by simp) ?_
  refine AllReadyH.cons rfl (fun K hK => ?_) AllReadyH.nil
  go_simp
  refine hK.out _ _ (by refine ⟨?_, ?_⟩ <;> repeat (first | exact hHeld.1 | exact hHeld.2 | refine Blk.drew ?_ | refine Blk.far ?_ (by simp; omega) _ | refine Reads.drew ?_ | refine Reads.setCell ?_ (by simp; omega) _)) (fun hHeld => ?_)
  clear hK K
  try simp only [Act.put, List.setIfInBounds_toArray, List.set_cons_zero, List.set_cons_succ]
  refine takeH 4 (v := ?v4u4) rfl (by kernel_rfl) (by kernel_rfl) (by kernel_rfl) rfl (fun _ _ _ h => h) (Or.inl ⟨by rfl, ?y4u4⟩) hHeld ?r4u4
  case y4u4 => (intro W hSW; (try dsimp only at hSW); go_simp; try with_reducible rfl)
  simp only [Act.put, List.setIfInBounds_toArray, List.set_cons_zero, List.set_cons_succ]
  refine wpAnyH_done (by kernel_rfl) ?_ _
  refine NoPanic.normal ?_
  go_wp2
  have hbe := C4.out.2.2
  exact bodyPost_ret (v := .tuple #[.agg #[.slice A n c, .int .i64 ((a : Int) + (v : Int)), .int .i64 0], .string ⟨((bs.drop a).take v).toArray⟩]) (by simp [results, Try.results23, go_sem, r0, r1, r2]) rfl ⟨rfl, (by repeat (first | refine Below.setCell ?_ (by simp; try omega) _ | refine Below.drew ?_ | refine below_drewN ?_ _ | refine Below.alloc ?_ (by simp; try omega) _ | exact hbe))⟩

set_option maxRecDepth 100000 in
set_option maxHeartbeats 2000000 in
theorem rText_ok (A : Option Addr) (n c : Nat) (at_ : Int) (bs : List UInt8) (B : Nat) (w : World) (hr : Reads w B 1 A n (byteCells bs)) (hB : B ≤ w.heap.size) (hnc : n ≤ c) (hcm : c ≤ 9223372036854775807) (hn : n ≤ 10000) (most : Int) (hmm : most ≤ 9223372036854775807) (a v : Nat) (hu : uRes bs at_ 0 = ((a : Int), 0, v)) (hm : 0 ≤ most) (hmv : (v : Int) ≤ most) (hvn : a + v ≤ n) :
    Calls Try.prog 24 #[.agg #[.slice A n c, .int .i64 at_, .int .i64 0], .int .i64 most] w fun e w' => e = .returned (.tuple #[.agg #[.slice A n c, .int .i64 ((a : Int) + (v : Int)), .int .i64 0], .string ⟨((bs.drop a).take v).toArray⟩]) ∧ Below w.heap.size w w' := by
  have hv := uRes_lt bs at_ 0
  have hx0 : (0 : Int) ≤ (a : Int) := by omega
  have hxn : (a : Int) ≤ (n : Int) := by omega
  have HU := Lib.hid (fun W (h : Reads W B 1 A n (byteCells bs)) (h' : B ≤ W.heap.size) => rUint_c A n c at_ 0 bs B W h h' hnc hcm hn)
  have HR := Lib.hid hr
  rw [hu] at HU hv
  simp only at HU hv
  have dm : decide (most < 0) = false := by simpa using hm
  have dv : decide (most < (v : Int)) = false := by simpa using hmv
  have dl : decide ((n : Int) - (a : Int) < (v : Int)) = false := by simp; omega
  clear hr hu
  go_enter Try.func24, Try.ntmps24
  go_wp2_with fail
  have C0 := Lib.hid (Cu.start w #[.slice A n c, .int .i64 at_, .int .i64 0] #[.slice none 0 0, .int .i64 0, .int .i64 0])
  refine (HU.out _ (C0.out.reads HR.out hB) (by simp; omega)).mono ?_
  rintro e w1 ⟨rfl, hb⟩
  have C1 := Lib.hid (C0.out.next hb)
  clear hb C0
  obtain ⟨k0, k1, k2, r0, r1, r2, f0, f1, f2, g0, g1, g2⟩ := C1.out.cells
  have hg1 := C1.out.1.lt
  have hg2 := C1.out.2.1.lt
  have hsz := C1.out.size
  have C2 := Lib.hid (C1.out.next ((Below.refl _ w1).alloc (Nat.le_refl _) (.cells #[.slice A n c, .int .i64 (a : Int), .int .i64 0] 26)))
  have HH := Lib.hid (Blk.new w1 26 #[.slice A n c, .int .i64 (a : Int), .int .i64 0])
  obtain ⟨q0, q1, q2, t0, t1, t2⟩ : (w1.alloc (.cells #[.slice A n c, .int .i64 (a : Int), .int .i64 0] 26)).cell? ⟨w1.heap.size, 0, none⟩ = some (.slice A n c) ∧ (w1.alloc (.cells #[.slice A n c, .int .i64 (a : Int), .int .i64 0] 26)).cell? ⟨w1.heap.size, 1, none⟩ = some (.int .i64 (a : Int)) ∧ (w1.alloc (.cells #[.slice A n c, .int .i64 (a : Int), .int .i64 0] 26)).cell? ⟨w1.heap.size, 2, none⟩ = some (.int .i64 0) ∧ (w1.alloc (.cells #[.slice A n c, .int .i64 (a : Int), .int .i64 0] 26)).frozen? ⟨w1.heap.size, 0, none⟩ = false ∧ (w1.alloc (.cells #[.slice A n c, .int .i64 (a : Int), .int .i64 0] 26)).frozen? ⟨w1.heap.size, 1, none⟩ = false ∧ (w1.alloc (.cells #[.slice A n c, .int .i64 (a : Int), .int .i64 0] 26)).frozen? ⟨w1.heap.size, 2, none⟩ = false := ⟨HH.out.cell 0, HH.out.cell 1, HH.out.cell 2, HH.out.frozen 0, HH.out.frozen 1, HH.out.frozen 2⟩
  go_wp2_with fail
  clear k0 k1 k2 r0 r1 r2 f0 f1 f2 g0 g1 g2
  clear q0 q1 q2 t0 t1 t2
  refine (rTake_c A n c a v bs B _ (C2.out.reads HR.out hB) (Nat.le_trans hB C2.out.size) hnc hcm hvn hn).mono ?_
  rintro e w2 ⟨A', c', rfl, hown2, hb2⟩
  have C3 := Lib.hid (C2.out.next hb2)
  have HO2 := Lib.hid hown2
  have hb2s : w1.heap.size + 1 ≤ w2.heap.size := by have := hb2.size; simpa using this
  clear hb2 hown2
  obtain ⟨k0, k1, k2, r0, r1, r2, f0, f1, f2, g0, g1, g2⟩ := C3.out.cells
  have C4 := Lib.hid (C3.out.next ((Below.refl _ w2).alloc (Nat.le_refl _) (.cells #[.slice A n c, .int .i64 ((a : Int) + (v : Int)), .int .i64 0] 26)))
  have HH4 := Lib.hid (Blk.new w2 26 #[.slice A n c, .int .i64 ((a : Int) + (v : Int)), .int .i64 0])
  have HO4 := Lib.hid (HO2.out.alloc (.cells #[.slice A n c, .int .i64 ((a : Int) + (v : Int)), .int .i64 0] 26))
  go_wp2_with fail
  clear k0 k1 k2 r0 r1 r2 f0 f1 f2 g0 g1 g2
  generalize w2.alloc (.cells #[.slice A n c, .int .i64 ((a : Int) + (v : Int)), .int .i64 0] 26) = w4 at C4 HH4 HO4 ⊢
  obtain ⟨k0, k1, k2, r0, r1, r2, f0, f1, f2, g0, g1, g2⟩ := C4.out.cells
  refine wp_region_noPanic ?_
  refine wp_region_held_drew (S := fun W => Blk W w2.heap.size 26 #[.slice A n c, .int .i64 ((a : Int) + (v : Int)), .int .i64 0] ∧ W.ownsRow (w1.heap.size + 1) 5 1 (.slice A' v c') v (byteCells ((bs.drop a).take v))) (by kernel_rfl) ⟨HH4.out.drew, by simpa using HO4.out.drew⟩ (fun hHeld => ?_)
  refine takeH 0 (v := ?v0u5) rfl (by kernel_rfl) (by kernel_rfl) (by kernel_rfl) rfl (fun _ _ _ h => h) (Or.inl ⟨by rfl, ?y0u5⟩) hHeld ?r0u5
  case y0u5 => (intro W hSW; (try dsimp only at hSW); have q0 := hSW.1.cell 0; have q1 := hSW.1.cell 1; have q2 := hSW.1.cell 2; simp only [List.getElem?_toArray, List.getElem?_cons_zero, List.getElem?_cons_succ] at q0 q1 q2; go_simp; try with_reducible rfl)
  simp only [Act.put, List.setIfInBounds_toArray, List.set_cons_zero, List.set_cons_succ]
  refine takeH 1 (v := ?v1u6) rfl (by kernel_rfl) (by kernel_rfl) (by kernel_rfl) rfl (fun _ _ _ h => h) (Or.inl ⟨by rfl, ?y1u6⟩) hHeld ?r1u6
  case y1u6 => (intro W hSW; (try dsimp only at hSW); go_simp; try with_reducible rfl)
  simp only [Act.put, List.setIfInBounds_toArray, List.set_cons_zero, List.set_cons_succ]
  refine takeH 2 (v := ?v2u7) rfl (by kernel_rfl) (by kernel_rfl) (by kernel_rfl) rfl (fun _ _ _ h => h) (Or.inl ⟨by rfl, ?y2u7⟩) hHeld ?r2u7
  case y2u7 => (intro W hSW; (try dsimp only at hSW); have hcv := conv_reads (Reads.of_own hSW.2) c'; go_simp; try with_reducible rfl)
  simp only [Act.put, List.setIfInBounds_toArray, List.set_cons_zero, List.set_cons_succ]
  refine wpAnyH_ready (rs := [3]) (by kernel_rfl) (by simp) ?_
  refine AllReadyH.cons rfl (fun K hK => ?_) AllReadyH.nil
  go_simp
  refine hK.out _ _ (by refine ⟨?_, ?_⟩ <;> repeat (first | exact hHeld.1 | exact hHeld.2 | refine Blk.drew ?_ | refine Blk.far ?_ (by simp; omega) _ | refine World.ownsRow.drew ?_ | refine own_far ?_ (by simp; omega))) (fun hHeld => ?_)
  clear hK K
  try simp only [Act.put, List.setIfInBounds_toArray, List.set_cons_zero, List.set_cons_succ]
  refine takeH 4 (v := ?v4u8) rfl (by kernel_rfl) (by kernel_rfl) (by kernel_rfl) rfl (fun _ _ _ h => h) (Or.inl ⟨by rfl, ?y4u8⟩) hHeld ?r4u8
  case y4u8 => (intro W hSW; (try dsimp only at hSW); go_simp; try with_reducible rfl)
  simp only [Act.put, List.setIfInBounds_toArray, List.set_cons_zero, List.set_cons_succ]
  refine wpAnyH_done (by kernel_rfl) ?_ _
  refine NoPanic.normal ?_
  go_wp2
  have hbe := C4.out.2.2
  exact bodyPost_ret (v := .tuple #[.agg #[.slice A n c, .int .i64 ((a : Int) + (v : Int)), .int .i64 0], .string ⟨((bs.drop a).take v).toArray⟩]) (by simp [results, Try.results24, go_sem, r0, r1, r2]) rfl ⟨rfl, (by repeat (first | refine Below.setCell ?_ (by simp; try omega) _ | refine Below.drew ?_ | refine below_drewN ?_ _ | refine Below.alloc ?_ (by simp; try omega) _ | exact hbe))⟩
end Go.Proofs.Ytgpefnlmlicopaa
