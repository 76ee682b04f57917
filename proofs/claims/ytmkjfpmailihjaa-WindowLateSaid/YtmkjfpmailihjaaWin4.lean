/- Contracts of window.New and of the reference's. -/
import Derived.Test.YtmkjfpmailihjaaWin3
namespace Go.Proofs.Ytmkjfpmailihjaa
set_option linter.unusedVariables false
open Go.RowKit Go.ChangeShapes

structure Wr where
  wd : Int
  sl : Int
  cs : List (Int × Int)
  err : Int
def WinOk (A0 : Option Addr) (W : World) (r : Wr) (e : Ending) (w' : World) : Prop :=
  ∃ A n c, e = .returned (.tuple #[.agg (winA r.wd r.sl A n c), .int .i64 r.err]) ∧ Reads w' w'.heap.size 2 A n (cellCells r.cs) ∧ Below W.heap.size W w' ∧ ∀ ad, A = some ad → A = A0 ∨ W.heap.size ≤ ad.block
theorem Reads.lo {w : World} {B size n : Nat} {A : Option Addr} {xs : List Value} (h : Reads w B size A n xs) : 0 < n → ∀ ad, A = some ad → ad.block < B := fun h0 ad e => by
  obtain ⟨ad', e', hb, _⟩ := h.2 h0
  rw [e] at e'; injection e' with e'; subst e'; exact hb
theorem WinOk.of {A0 : Option Addr} {W : World} {r r' : Wr} {e : Ending} {w' : World} (h : r = r') (hk : WinOk A0 W r' e w') : WinOk A0 W r e w' := h ▸ hk
theorem put3 {w : World} {g : Nat} {a b c a' b' c' : Value} (h : Blk w g 24 #[a, b, c]) : Blk (((w.setCell ⟨g, 0, none⟩ a').setCell ⟨g, 1, none⟩ b').setCell ⟨g, 2, none⟩ c') g 24 #[a', b', c'] := ((h.set_ 0 a').set_ 1 b').set_ 2 c'
theorem put3_below {B : Nat} {w0 w : World} {g : Nat} {a' b' c' : Value} (h : Below B w0 w) (hg : B ≤ g) : Below B w0 (((w.setCell ⟨g, 0, none⟩ a').setCell ⟨g, 1, none⟩ b').setCell ⟨g, 2, none⟩ c') := ((h.setCell (by simpa using hg) _).setCell (by simpa using hg) _).setCell (by simpa using hg) _
theorem reads_put3 {w : World} {B g size n : Nat} {A : Option Addr} {xs : List Value} {a' b' c' : Value} (h : Reads w B size A n xs) (hg : 0 < n → ∀ ad, A = some ad → ad.block ≠ g) : Reads (((w.setCell ⟨g, 0, none⟩ a').setCell ⟨g, 1, none⟩ b').setCell ⟨g, 2, none⟩ c') B size A n xs := by
  refine ⟨h.1, fun hn => ?_⟩
  obtain ⟨ad, e, hb, hc⟩ := h.2 hn
  refine ⟨ad, e, hb, fun j u hu => ?_⟩
  have hne := hg hn ad e
  have h0 : ∀ o, ad.add j ≠ ⟨g, o, none⟩ := fun o he => hne (by rw [← block_of_add ad j, he])
  rw [World.cell?_setCell_other _ _ _ _ (fun he => h0 2 he.symm), World.cell?_setCell_other _ _ _ _ (fun he => h0 1 he.symm), World.cell?_setCell_other _ _ _ _ (fun he => h0 0 he.symm)]
  exact hc j u hu
theorem made_cells (n : Nat) : (madeCells #[.int .i64 0, .int .i64 0] (n * 2)).toList = cellCells (List.replicate n (0, 0)) := by
  apply List.ext_getElem?
  intro j
  rw [Array.getElem?_toList]
  by_cases hj : j < n * 2
  · have h1 : (madeCells #[.int .i64 0, .int .i64 0] (n * 2))[j]? = some (.int .i64 0) := by
      unfold madeCells
      rw [Array.getElem?_map, Array.getElem?_range, if_pos hj]
      have : j % 2 = 0 ∨ j % 2 = 1 := by omega
      rcases this with h | h <;> simp [h]
    rw [h1]
    have he : (List.replicate n ((0 : Int), (0 : Int)))[j / 2]? = some (0, 0) := by rw [List.getElem?_replicate, if_pos (by omega)]
    have hu : (cellA (0, 0))[j % 2]? = some (.int .i64 0) := by
      have : j % 2 = 0 ∨ j % 2 = 1 := by omega
      rcases this with h | h <;> rw [h] <;> rfl
    have := cell_get _ (j / 2) _ he (j % 2) _ hu
    rw [show j / 2 * 2 + j % 2 = j from by omega] at this
    exact this.symm
  · rw [Array.getElem?_eq_none (by rw [size_madeCells]; omega), List.getElem?_eq_none (by rw [cellCells_length, List.length_replicate]; omega)]
theorem made_reads (w : World) (n : Nat) : Reads (w.alloc (.cells (madeCells #[.int .i64 0, .int .i64 0] (n * 2)) 40)) (w.heap.size + 1) 2 (some ⟨w.heap.size, 0, none⟩) n (cellCells (List.replicate n (0, 0))) := by
  refine ⟨by rw [cellCells_length, List.length_replicate], fun _ => ⟨_, rfl, Nat.lt_succ_self _, fun j u hu => ?_⟩⟩
  rw [add_plain, Nat.zero_add, (Blk.new w 40 _).cell j, ← Array.getElem?_toList, made_cells]
  exact hu
theorem make_run (n : Nat) (hn : n ≤ 1000) (w : World) : (Instr.makeSlice 22 (.int .i64 (n : Int)) (.int .i64 (n : Int))).run Try.prog w = .ok (.slice (some ⟨w.heap.size, 0, none⟩) n n) (w.alloc (.cells (madeCells #[.int .i64 0, .int .i64 0] (n * 2)) 40)) := by
  obtain ⟨i0, hi0, hz0, hz1, hz2⟩ := info_parts Try.infoCell
  have h := run_make_rowN (P := Try.prog) 22 40 i0 (.agg #[.int .i64 0, .int .i64 0]) Try.underlying22 hi0 hz0 .i64 .i64 n n (Nat.le_refl _) (by rw [hz2]; omega) (by omega) w
  rw [hz1] at h
  exact h
theorem quo_in {a wd : Int} (h0 : 0 ≤ a) (h1 : a ≤ 1099511627776) (hw : 1 ≤ wd) : IntKind.i64.wrap (a.tdiv wd) = a / wd := by
  rw [Int.tdiv_eq_ediv_of_nonneg h0]
  have h2 : a / wd ≤ a := Int.ediv_le_self wd h0
  have h3 : 0 ≤ a / wd := Int.ediv_nonneg h0 (by omega)
  exact IntWalk.i64_in _ (by omega)
def newB (wd k a : Int) : Bool := decide (1 ≤ wd ∧ wd ≤ 2147483647 ∧ 1 ≤ k ∧ k ≤ 16 ∧ 0 ≤ a ∧ a ≤ 1099511627776)
def newR (wd k a : Int) : Wr := if newB wd k a = true then ⟨wd, a / wd, List.replicate k.toNat (0, 0), 0⟩ else ⟨0, 0, [], 1⟩
theorem newR_bad {wd k a : Int} (h : wd < 1 ∨ 2147483647 < wd ∨ k < 1 ∨ 16 < k ∨ timeB a = false) : newR wd k a = ⟨0, 0, [], 1⟩ := by
  unfold newR
  rw [if_neg]
  unfold newB
  rw [decide_eq_true_eq]
  unfold timeB at h
  rw [decide_eq_false_iff_not] at h
  omega
theorem newR_ok {wd a : Int} {n : Nat} (h1 : ¬ wd < 1) (h2 : ¬ 2147483647 < wd) (h3 : ¬ (n : Int) < 1) (h4 : ¬ 16 < (n : Int)) (h5 : timeB a = true) : newR wd n a = ⟨wd, a / wd, List.replicate n (0, 0), 0⟩ := by
  unfold newR
  rw [if_pos, Int.toNat_natCast]
  unfold newB
  unfold timeB at h5
  rw [decide_eq_true_eq] at *
  omega
theorem New_res {W : World} {g : Nat} {x0 x1 x2 : Value} (h : Blk W g 24 #[x0, x1, x2]) (tmps : Array Value) (u : Value) (ht : tmps[6]?.getD undef = .pointer (some ⟨g, 0, none⟩)) (hu : tmps[7]?.getD undef = u) : (results Try.f7 tmps).run Try.prog W = .ok (.tuple #[.agg #[x0, x1, x2], u]) W := by
  have c0 : W.cell? ⟨g, 0, none⟩ = some x0 := h.cell 0
  have c1 : W.cell? ⟨g, 1, none⟩ = some x1 := h.cell 1
  have c2 : W.cell? ⟨g, 2, none⟩ = some x2 := h.cell 2
  simp [results, Try.results7, go_sem, ht, hu, c0, c1, c2]

set_option maxHeartbeats 2000000 in
theorem New_c (wd k a : Int) (W : World) : Calls Try.prog 7 #[.int .i64 wd, .int .i64 k, .int .i64 a] W (WinOk none W (newR wd k a)) := by
  have HK1 := Lib.hid (show Kept W (W.alloc (.cells #[.int .i64 0, .int .i64 0, .slice none 0 0] 24)) [(W.heap.size, 24, #[.int .i64 0, .int .i64 0, .slice none 0 0])] from ((Kept.start W).alloc_at 24 #[.int .i64 0, .int .i64 0, .slice none 0 0] (W.heap.size) (by simp)))
  by_cases g0 : wd < 1
  · have HE := Lib.hid (newR_bad (wd := wd) (k := k) (a := a) (by omega))
    have y0 : decide (wd < 1) = true := by simpa using g0
    go_enter Try.func7, Try.ntmps7
    go_wp2
    exact bodyPost_ret (New_res (HK1.out.blk 0 rfl) _ (.int .i64 1) rfl rfl) rfl (WinOk.of HE.out ⟨none, 0, 0, rfl, Reads.none_, HK1.out.bel, fun ad e => by cases e⟩)
  have y0 : decide (wd < 1) = false := by simpa using g0
  by_cases g1 : 2147483647 < wd
  · have HE := Lib.hid (newR_bad (wd := wd) (k := k) (a := a) (by omega))
    have y1 : decide (2147483647 < wd) = true := by simpa using g1
    go_enter Try.func7, Try.ntmps7
    go_wp2
    exact bodyPost_ret (New_res (HK1.out.blk 0 rfl) _ (.int .i64 1) rfl rfl) rfl (WinOk.of HE.out ⟨none, 0, 0, rfl, Reads.none_, HK1.out.bel, fun ad e => by cases e⟩)
  have y1 : decide (2147483647 < wd) = false := by simpa using g1
  by_cases g2 : k < 1
  · have HE := Lib.hid (newR_bad (wd := wd) (k := k) (a := a) (by omega))
    have y2 : decide (k < 1) = true := by simpa using g2
    go_enter Try.func7, Try.ntmps7
    go_wp2
    exact bodyPost_ret (New_res (HK1.out.blk 0 rfl) _ (.int .i64 1) rfl rfl) rfl (WinOk.of HE.out ⟨none, 0, 0, rfl, Reads.none_, HK1.out.bel, fun ad e => by cases e⟩)
  have y2 : decide (k < 1) = false := by simpa using g2
  by_cases g3 : 16 < k
  · have HE := Lib.hid (newR_bad (wd := wd) (k := k) (a := a) (by omega))
    have y3 : decide (16 < k) = true := by simpa using g3
    go_enter Try.func7, Try.ntmps7
    go_wp2
    exact bodyPost_ret (New_res (HK1.out.blk 0 rfl) _ (.int .i64 1) rfl rfl) rfl (WinOk.of HE.out ⟨none, 0, 0, rfl, Reads.none_, HK1.out.bel, fun ad e => by cases e⟩)
  have y3 : decide (16 < k) = false := by simpa using g3
  by_cases gt : timeB a = true
  · obtain ⟨n, rfl⟩ : ∃ n : Nat, k = (n : Int) := ⟨k.toNat, by omega⟩
    have HE := Lib.hid (newR_ok g0 g1 g2 g3 gt)
    have ha : 0 ≤ a ∧ a ≤ 1099511627776 := by unfold timeB at gt; rw [decide_eq_true_eq] at gt; exact gt
    have hq : (wd == 0) = false := by rw [beq_eq_false_iff_ne]; omega
    have mk := make_run n (by omega)
    have hqq := quo_in (a := a) (wd := wd) ha.1 ha.2 (by omega)
    have hw0 : ¬ wd = 0 := by omega
    go_enter Try.func7, Try.ntmps7
    go_wp2_with fail
    refine (timely_c a _).mono ?_
    rintro e w1 ⟨rfl, rfl⟩
    rw [gt]
    go_wp2_with fail
    refine wp_region_noPanic ?_
    refine wp_region_held_drew (S := fun W' => Below W.heap.size W W') (by kernel_rfl) HK1.out.drew.bel (fun hHeld => ?_)
    have HKd := Lib.hid HK1.out.drew
    generalize (W.alloc (.cells #[.int .i64 0, .int .i64 0, .slice none 0 0] 24)).drew = wd' at HKd hHeld ⊢
    clear HK1
    refine takeH 0 (v := ?v0u16) rfl (by kernel_rfl) (by kernel_rfl) (by kernel_rfl) rfl (fun _ _ _ h => h) (Or.inl ⟨by rfl, ?y0u16⟩) hHeld ?r0u16
    case y0u16 => (intro W hSW; (try dsimp only at hSW); go_simp; try with_reducible rfl)
    simp only [Act.put, List.setIfInBounds_toArray, List.set_cons_zero, List.set_cons_succ]
    refine takeH 1 (v := ?v1u17) rfl (by kernel_rfl) (by kernel_rfl) (by kernel_rfl) rfl (fun _ _ _ h => h) (Or.inl ⟨by rfl, ?y1u17⟩) hHeld ?r1u17
    case y1u17 => (intro W hSW; (try dsimp only at hSW); go_simp; try with_reducible rfl)
    simp only [Act.put, List.setIfInBounds_toArray, List.set_cons_zero, List.set_cons_succ]
    refine takeH 2 (v := ?v2u18) rfl (by kernel_rfl) (by kernel_rfl) (by kernel_rfl) rfl (fun _ _ _ h => h) (Or.inl ⟨by rfl, ?y2u18⟩) hHeld ?r2u18
    case y2u18 => (intro W hSW; (try dsimp only at hSW); go_simp; try with_reducible rfl)
    simp only [Act.put, List.setIfInBounds_toArray, List.set_cons_zero, List.set_cons_succ]
    refine takeH 3 (v := .int .i64 (a / wd)) rfl (by kernel_rfl) (by kernel_rfl) (by kernel_rfl) rfl (fun _ _ _ h => h) (Or.inl ⟨by rfl, ?y3u19⟩) hHeld ?r3u19
    case y3u19 => (intro W hSW; (try dsimp only at hSW); go_simp)
    simp only [Act.put, List.setIfInBounds_toArray, List.set_cons_zero, List.set_cons_succ]
    refine takeH 4 (v := ?v4u20) rfl (by kernel_rfl) (by kernel_rfl) (by kernel_rfl) rfl (fun _ _ _ h => h) (Or.inl ⟨by rfl, ?y4u20⟩) hHeld ?r4u20
    case y4u20 => (intro W hSW; (try dsimp only at hSW); go_simp; try with_reducible rfl)
    simp only [Act.put, List.setIfInBounds_toArray, List.set_cons_zero, List.set_cons_succ]
    have HK2 := Lib.hid (HKd.out.alloc_off (.cells (madeCells #[.int .i64 0, .int .i64 0] (n * 2)) 40))
    have HR2 := Lib.hid (made_reads wd' n)
    have hlt := HKd.out.lt 0 rfl
    have HZ2 := Lib.hid (show (wd'.alloc (.cells (madeCells #[.int .i64 0, .int .i64 0] (n * 2)) 40)).heap.size = wd'.heap.size + 1 from by simp)
    refine wpAnyH_ready (rs := [5]) (by kernel_rfl) (by simp) ?_
    refine AllReadyH.cons rfl (fun K hK => ?_) AllReadyH.nil
    go_simp
    refine hK.out _ _ (hHeld.alloc hHeld.size _) (fun hHeld => ?_)
    clear hK K
    try simp only [Act.put, List.setIfInBounds_toArray, List.set_cons_zero, List.set_cons_succ]
    generalize wd'.alloc (.cells (madeCells #[.int .i64 0, .int .i64 0] (n * 2)) 40) = w2 at HK2 HR2 HZ2 hHeld ⊢
    have hz2 := HK2.out.size
    refine takeH 6 (v := ?v6u21) rfl (by kernel_rfl) (by kernel_rfl) (by kernel_rfl) rfl (fun _ _ _ h => h) (Or.inl ⟨by rfl, ?y6u21⟩) hHeld ?r6u21
    case y6u21 => (intro W hSW; (try dsimp only at hSW); go_simp; try with_reducible rfl)
    simp only [Act.put, List.setIfInBounds_toArray, List.set_cons_zero, List.set_cons_succ]
    have z0 : w2.cell? ⟨W.heap.size, 0, none⟩ = some (.int .i64 0) := HK2.out.cell 0 rfl 0
    have z1 : w2.cell? ⟨W.heap.size, 1, none⟩ = some (.int .i64 0) := HK2.out.cell 0 rfl 1
    have z2 : w2.cell? ⟨W.heap.size, 2, none⟩ = some (.slice none 0 0) := HK2.out.cell 0 rfl 2
    have zf0 : w2.frozen? ⟨W.heap.size, 0, none⟩ = false := HK2.out.frozen 0 rfl 0
    have zf1 : w2.frozen? ⟨W.heap.size, 1, none⟩ = false := HK2.out.frozen 0 rfl 1
    have zf2 : w2.frozen? ⟨W.heap.size, 2, none⟩ = false := HK2.out.frozen 0 rfl 2
    refine wpAnyH_ready (rs := [7]) (by kernel_rfl) (by simp) ?_
    refine AllReadyH.cons rfl (fun K hK => ?_) AllReadyH.nil
    go_simp
    refine hK.out _ _ (put3_below hHeld (Nat.le_refl _)) (fun hHeld => ?_)
    clear hK K
    try simp only [Act.put, List.setIfInBounds_toArray, List.set_cons_zero, List.set_cons_succ]
    refine takeH 8 (v := ?v8u22) rfl (by kernel_rfl) (by kernel_rfl) (by kernel_rfl) rfl (fun _ _ _ h => h) (Or.inl ⟨by rfl, ?y8u22⟩) hHeld ?r8u22
    case y8u22 => (intro W hSW; (try dsimp only at hSW); go_simp; try with_reducible rfl)
    simp only [Act.put, List.setIfInBounds_toArray, List.set_cons_zero, List.set_cons_succ]
    refine wpAnyH_done (by kernel_rfl) ?_ _
    refine NoPanic.normal ?_
    go_wp2
    exact bodyPost_ret (New_res (put3 (HK2.out.blk 0 rfl)) _ (.int .i64 0) rfl rfl) rfl (WinOk.of HE.out ⟨_, n, n, rfl, (reads_put3 HR2.out (fun _ ad' e' => by injection e' with e'; subst e'; simp; omega)).more (by have := HZ2.out; simp [World.setCell]; omega), put3_below HK2.out.bel (Nat.le_refl _), fun ad' e' => by injection e' with e'; subst e'; right; simp; have := HKd.out.size; omega⟩)
  · have gf : timeB a = false := by simpa using gt
    have HE := Lib.hid (newR_bad (wd := wd) (k := k) (a := a) (by simp [gf]))
    go_enter Try.func7, Try.ntmps7
    go_wp2_with fail
    refine (timely_c a _).mono ?_
    rintro e w1 ⟨rfl, rfl⟩
    rw [gf]
    go_wp2
    exact bodyPost_ret (New_res (HK1.out.blk 0 rfl) _ (.int .i64 1) rfl rfl) rfl (WinOk.of HE.out ⟨none, 0, 0, rfl, Reads.none_, HK1.out.bel, fun ad e => by cases e⟩)
theorem rNew_res {W : World} {g : Nat} {x0 x1 x2 : Value} (h : Blk W g 24 #[x0, x1, x2]) (tmps : Array Value) (u : Value) (ht : tmps[6]?.getD undef = .pointer (some ⟨g, 0, none⟩)) (hu : tmps[7]?.getD undef = u) : (results Try.f8 tmps).run Try.prog W = .ok (.tuple #[.agg #[x0, x1, x2], u]) W := by
  have c0 : W.cell? ⟨g, 0, none⟩ = some x0 := h.cell 0
  have c1 : W.cell? ⟨g, 1, none⟩ = some x1 := h.cell 1
  have c2 : W.cell? ⟨g, 2, none⟩ = some x2 := h.cell 2
  simp [results, Try.results8, go_sem, ht, hu, c0, c1, c2]

set_option maxHeartbeats 2000000 in
theorem rNew_c (wd k a : Int) (W : World) : Calls Try.prog 8 #[.int .i64 wd, .int .i64 k, .int .i64 a] W (WinOk none W (newR wd k a)) := by
  have HK1 := Lib.hid (show Kept W (W.alloc (.cells #[.int .i64 0, .int .i64 0, .slice none 0 0] 24)) [(W.heap.size, 24, #[.int .i64 0, .int .i64 0, .slice none 0 0])] from ((Kept.start W).alloc_at 24 #[.int .i64 0, .int .i64 0, .slice none 0 0] (W.heap.size) (by simp)))
  by_cases g0 : k < 1
  · have HE := Lib.hid (newR_bad (wd := wd) (k := k) (a := a) (by omega))
    have y0 : decide (k < 1) = true := by simpa using g0
    go_enter Try.func8, Try.ntmps8
    go_wp2
    exact bodyPost_ret (rNew_res (HK1.out.blk 0 rfl) _ (.int .i64 1) rfl rfl) rfl (WinOk.of HE.out ⟨none, 0, 0, rfl, Reads.none_, HK1.out.bel, fun ad e => by cases e⟩)
  have y0 : decide (k < 1) = false := by simpa using g0
  by_cases g1 : 16 < k
  · have HE := Lib.hid (newR_bad (wd := wd) (k := k) (a := a) (by omega))
    have y1 : decide (16 < k) = true := by simpa using g1
    go_enter Try.func8, Try.ntmps8
    go_wp2
    exact bodyPost_ret (rNew_res (HK1.out.blk 0 rfl) _ (.int .i64 1) rfl rfl) rfl (WinOk.of HE.out ⟨none, 0, 0, rfl, Reads.none_, HK1.out.bel, fun ad e => by cases e⟩)
  have y1 : decide (16 < k) = false := by simpa using g1
  by_cases g2 : wd < 1
  · have HE := Lib.hid (newR_bad (wd := wd) (k := k) (a := a) (by omega))
    have y2 : decide (wd < 1) = true := by simpa using g2
    go_enter Try.func8, Try.ntmps8
    go_wp2
    exact bodyPost_ret (rNew_res (HK1.out.blk 0 rfl) _ (.int .i64 1) rfl rfl) rfl (WinOk.of HE.out ⟨none, 0, 0, rfl, Reads.none_, HK1.out.bel, fun ad e => by cases e⟩)
  have y2 : decide (wd < 1) = false := by simpa using g2
  by_cases g3 : 2147483647 < wd
  · have HE := Lib.hid (newR_bad (wd := wd) (k := k) (a := a) (by omega))
    have y3 : decide (2147483647 < wd) = true := by simpa using g3
    go_enter Try.func8, Try.ntmps8
    go_wp2
    exact bodyPost_ret (rNew_res (HK1.out.blk 0 rfl) _ (.int .i64 1) rfl rfl) rfl (WinOk.of HE.out ⟨none, 0, 0, rfl, Reads.none_, HK1.out.bel, fun ad e => by cases e⟩)
  have y3 : decide (2147483647 < wd) = false := by simpa using g3
  by_cases gt : timeB a = true
  · obtain ⟨n, rfl⟩ : ∃ n : Nat, k = (n : Int) := ⟨k.toNat, by omega⟩
    have HE := Lib.hid (newR_ok g2 g3 g0 g1 gt)
    have ha : 0 ≤ a ∧ a ≤ 1099511627776 := by unfold timeB at gt; rw [decide_eq_true_eq] at gt; exact gt
    have hq : (wd == 0) = false := by rw [beq_eq_false_iff_ne]; omega
    have mk := make_run n (by omega)
    have hqq := quo_in (a := a) (wd := wd) ha.1 ha.2 (by omega)
    have hw0 : ¬ wd = 0 := by omega
    go_enter Try.func8, Try.ntmps8
    go_wp2_with fail
    refine (Time_c a _).mono ?_
    rintro e w1 ⟨rfl, rfl⟩
    rw [gt]
    go_wp2_with fail
    refine wp_region_noPanic ?_
    refine wp_region_held_drew (S := fun W' => Below W.heap.size W W') (by kernel_rfl) HK1.out.drew.bel (fun hHeld => ?_)
    have HKd := Lib.hid HK1.out.drew
    generalize (W.alloc (.cells #[.int .i64 0, .int .i64 0, .slice none 0 0] 24)).drew = wd' at HKd hHeld ⊢
    clear HK1
    refine takeH 0 (v := ?v0u23) rfl (by kernel_rfl) (by kernel_rfl) (by kernel_rfl) rfl (fun _ _ _ h => h) (Or.inl ⟨by rfl, ?y0u23⟩) hHeld ?r0u23
    case y0u23 => (intro W hSW; (try dsimp only at hSW); go_simp; try with_reducible rfl)
    simp only [Act.put, List.setIfInBounds_toArray, List.set_cons_zero, List.set_cons_succ]
    refine takeH 1 (v := ?v1u24) rfl (by kernel_rfl) (by kernel_rfl) (by kernel_rfl) rfl (fun _ _ _ h => h) (Or.inl ⟨by rfl, ?y1u24⟩) hHeld ?r1u24
    case y1u24 => (intro W hSW; (try dsimp only at hSW); go_simp; try with_reducible rfl)
    simp only [Act.put, List.setIfInBounds_toArray, List.set_cons_zero, List.set_cons_succ]
    refine takeH 2 (v := ?v2u25) rfl (by kernel_rfl) (by kernel_rfl) (by kernel_rfl) rfl (fun _ _ _ h => h) (Or.inl ⟨by rfl, ?y2u25⟩) hHeld ?r2u25
    case y2u25 => (intro W hSW; (try dsimp only at hSW); go_simp; try with_reducible rfl)
    simp only [Act.put, List.setIfInBounds_toArray, List.set_cons_zero, List.set_cons_succ]
    refine takeH 3 (v := .int .i64 (a / wd)) rfl (by kernel_rfl) (by kernel_rfl) (by kernel_rfl) rfl (fun _ _ _ h => h) (Or.inl ⟨by rfl, ?y3u26⟩) hHeld ?r3u26
    case y3u26 => (intro W hSW; (try dsimp only at hSW); go_simp)
    simp only [Act.put, List.setIfInBounds_toArray, List.set_cons_zero, List.set_cons_succ]
    refine takeH 4 (v := ?v4u27) rfl (by kernel_rfl) (by kernel_rfl) (by kernel_rfl) rfl (fun _ _ _ h => h) (Or.inl ⟨by rfl, ?y4u27⟩) hHeld ?r4u27
    case y4u27 => (intro W hSW; (try dsimp only at hSW); go_simp; try with_reducible rfl)
    simp only [Act.put, List.setIfInBounds_toArray, List.set_cons_zero, List.set_cons_succ]
    have HK2 := Lib.hid (HKd.out.alloc_off (.cells (madeCells #[.int .i64 0, .int .i64 0] (n * 2)) 40))
    have HR2 := Lib.hid (made_reads wd' n)
    have hlt := HKd.out.lt 0 rfl
    have HZ2 := Lib.hid (show (wd'.alloc (.cells (madeCells #[.int .i64 0, .int .i64 0] (n * 2)) 40)).heap.size = wd'.heap.size + 1 from by simp)
    refine wpAnyH_ready (rs := [5]) (by kernel_rfl) (by simp) ?_
    refine AllReadyH.cons rfl (fun K hK => ?_) AllReadyH.nil
    go_simp
    refine hK.out _ _ (hHeld.alloc hHeld.size _) (fun hHeld => ?_)
    clear hK K
    try simp only [Act.put, List.setIfInBounds_toArray, List.set_cons_zero, List.set_cons_succ]
    generalize wd'.alloc (.cells (madeCells #[.int .i64 0, .int .i64 0] (n * 2)) 40) = w2 at HK2 HR2 HZ2 hHeld ⊢
    have hz2 := HK2.out.size
    refine takeH 6 (v := ?v6u28) rfl (by kernel_rfl) (by kernel_rfl) (by kernel_rfl) rfl (fun _ _ _ h => h) (Or.inl ⟨by rfl, ?y6u28⟩) hHeld ?r6u28
    case y6u28 => (intro W hSW; (try dsimp only at hSW); go_simp; try with_reducible rfl)
    simp only [Act.put, List.setIfInBounds_toArray, List.set_cons_zero, List.set_cons_succ]
    have z0 : w2.cell? ⟨W.heap.size, 0, none⟩ = some (.int .i64 0) := HK2.out.cell 0 rfl 0
    have z1 : w2.cell? ⟨W.heap.size, 1, none⟩ = some (.int .i64 0) := HK2.out.cell 0 rfl 1
    have z2 : w2.cell? ⟨W.heap.size, 2, none⟩ = some (.slice none 0 0) := HK2.out.cell 0 rfl 2
    have zf0 : w2.frozen? ⟨W.heap.size, 0, none⟩ = false := HK2.out.frozen 0 rfl 0
    have zf1 : w2.frozen? ⟨W.heap.size, 1, none⟩ = false := HK2.out.frozen 0 rfl 1
    have zf2 : w2.frozen? ⟨W.heap.size, 2, none⟩ = false := HK2.out.frozen 0 rfl 2
    refine wpAnyH_ready (rs := [7]) (by kernel_rfl) (by simp) ?_
    refine AllReadyH.cons rfl (fun K hK => ?_) AllReadyH.nil
    go_simp
    refine hK.out _ _ (put3_below hHeld (Nat.le_refl _)) (fun hHeld => ?_)
    clear hK K
    try simp only [Act.put, List.setIfInBounds_toArray, List.set_cons_zero, List.set_cons_succ]
    refine takeH 8 (v := ?v8u29) rfl (by kernel_rfl) (by kernel_rfl) (by kernel_rfl) rfl (fun _ _ _ h => h) (Or.inl ⟨by rfl, ?y8u29⟩) hHeld ?r8u29
    case y8u29 => (intro W hSW; (try dsimp only at hSW); go_simp; try with_reducible rfl)
    simp only [Act.put, List.setIfInBounds_toArray, List.set_cons_zero, List.set_cons_succ]
    refine wpAnyH_done (by kernel_rfl) ?_ _
    refine NoPanic.normal ?_
    go_wp2
    exact bodyPost_ret (rNew_res (put3 (HK2.out.blk 0 rfl)) _ (.int .i64 0) rfl rfl) rfl (WinOk.of HE.out ⟨_, n, n, rfl, (reads_put3 HR2.out (fun _ ad' e' => by injection e' with e'; subst e'; simp; omega)).more (by have := HZ2.out; simp [World.setCell]; omega), put3_below HK2.out.bel (Nat.le_refl _), fun ad' e' => by injection e' with e'; subst e'; right; simp; have := HKd.out.size; omega⟩)
  · have gf : timeB a = false := by simpa using gt
    have HE := Lib.hid (newR_bad (wd := wd) (k := k) (a := a) (by simp [gf]))
    go_enter Try.func8, Try.ntmps8
    go_wp2_with fail
    refine (Time_c a _).mono ?_
    rintro e w1 ⟨rfl, rfl⟩
    rw [gf]
    go_wp2
    exact bodyPost_ret (rNew_res (HK1.out.blk 0 rfl) _ (.int .i64 1) rfl rfl) rfl (WinOk.of HE.out ⟨none, 0, 0, rfl, Reads.none_, HK1.out.bel, fun ad e => by cases e⟩)
end Go.Proofs.Ytmkjfpmailihjaa
