/- Contracts of the reference's get and Move. -/
import Derived.Test.YtmkjfpmailihjaaWin5
import Derived.Test.YtmkjfpmailihjaaHeld
namespace Go.Proofs.Ytmkjfpmailihjaa
set_option linter.unusedVariables false
open Go.RowKit Go.ChangeShapes

/-- what is counted of a while that is not before the last ones. -/
def valW (cs : List (Int × Int)) (sl s : Int) : Int × Int := if sl < s then (0, 0) else cs.getD (s % cs.length).toNat (0, 0)
/-- the cells that the reference's Move has filled: of the whiles to, to - 1, .. (k of them). -/
def rfill (cs : List (Int × Int)) (sl to : Int) : Nat → List (Int × Int)
  | 0 => List.replicate cs.length (0, 0)
  | k + 1 => (rfill cs sl to k).set ((to - (k : Int)) % cs.length).toNat (valW cs sl (to - (k : Int)))
theorem rfill_length (cs : List (Int × Int)) (sl to : Int) (k : Nat) : (rfill cs sl to k).length = cs.length := by
  induction k with
  | zero => simp [rfill]
  | succ k ih => rw [rfill, List.length_set, ih]
theorem rfill_get (cs : List (Int × Int)) (sl to : Int) (k i : Nat) (hi : i < cs.length) (hk : k ≤ cs.length) : (rfill cs sl to k)[i]? = if (to - (k : Int)) < whileOf to cs.length i then some (valW cs sl (whileOf to cs.length i)) else some (0, 0) := by
  obtain ⟨g1, g2, g3⟩ := whileOf_spec (to := to) (n := (cs.length : Int)) (i := i) (by omega) (by omega)
  induction k with
  | zero => rw [if_neg (by omega), rfill, List.getElem?_replicate, if_pos hi]
  | succ k ih =>
    have ih := ih (by omega)
    rw [rfill, List.getElem?_set]
    have h0 := Int.emod_nonneg (to - (k : Int)) (by omega : (cs.length : Int) ≠ 0)
    by_cases h : ((to - (k : Int)) % cs.length).toNat = i
    · have hw := whileOf_uniq (to := to) (n := (cs.length : Int)) (i := i) (s := to - (k : Int)) (by omega) (by omega) (by omega) (by omega) (by omega)
      rw [if_pos h, if_pos (by rw [rfill_length]; omega), ← hw, if_pos (by omega)]
    · rw [if_neg h, ih]
      by_cases g : to - (k : Int) < whileOf to cs.length i
      · rw [if_pos g, if_pos (by omega)]
      · rw [if_neg g, if_neg (by
          intro g4
          have : whileOf to cs.length i = to - (k : Int) := by omega
          rw [this] at g3
          exact h (by rw [g3]; simp))]
theorem rfill_moved (cs : List (Int × Int)) (sl to : Int) (hlt : sl < to) (hn : 1 ≤ cs.length) : rfill cs sl to cs.length = moved cs sl to := by
  apply List.ext_getElem?
  intro i
  by_cases hi : i < cs.length
  · obtain ⟨g1, g2, g3⟩ := whileOf_spec (to := to) (n := (cs.length : Int)) (i := i) (by omega) (by omega)
    rw [rfill_get cs sl to _ i hi (Nat.le_refl _), if_pos (by omega), moved, List.getElem?_map, List.getElem?_range hi, Option.map_some]
    unfold valW
    rw [g3]
    simp
  · rw [List.getElem?_eq_none (by rw [rfill_length]; omega), List.getElem?_eq_none (by rw [moved_length]; omega)]
theorem get_res {W : World} {g : Nat} {x0 x1 : Value} (h : Blk W g 40 #[x0, x1]) (tmps : Array Value) (ht : tmps[4]?.getD undef = .pointer (some ⟨g, 0, none⟩)) : (results Try.f29 tmps).run Try.prog W = .ok (.agg #[x0, x1]) W := by
  have c0 : W.cell? ⟨g, 0, none⟩ = some x0 := h.cell 0
  have c1 : W.cell? ⟨g, 1, none⟩ = some x1 := h.cell 1
  simp [results, Try.results29, go_sem, ht, c0, c1]
def GetOk (W : World) (r : Int × Int) (e : Ending) (w' : World) : Prop := e = .returned (.agg (cellA r)) ∧ Below W.heap.size W w'
theorem GetOk.of {W : World} {r r' : Int × Int} {e : Ending} {w' : World} (h : r = r') (hk : GetOk W r' e w') : GetOk W r e w' := h ▸ hk
theorem getD_of_get {cs : List (Int × Int)} {i : Nat} {e : Int × Int} (h : cs[i]? = some e) : cs.getD i (0, 0) = e := by rw [List.getD_eq_getElem?_getD, h]; rfl
theorem put2 {w : World} {g : Nat} {a b a' b' : Value} {t : TypeId} (h : Blk w g t #[a, b]) : Blk ((w.setCell ⟨g, 0, none⟩ a').setCell ⟨g, 1, none⟩ b') g t #[a', b'] := (h.set_ 0 a').set_ 1 b'
set_option maxHeartbeats 2000000 in
theorem get_c (wd sl : Int) (A : Option Addr) (n c B : Nat) (cs : List (Int × Int)) (s : Int) (W : World) (hr : Reads W B 2 A n (cellCells cs)) (hB : B ≤ W.heap.size) (h1 : 1 ≤ n) (hn : n ≤ 16) (s0 : 0 ≤ s) (s1 : sl - n < s) (s2 : s ≤ 1099511627776) (l0 : 0 ≤ sl) (l1 : sl ≤ 1099511627776) : Calls Try.prog 29 #[.agg (winA wd sl A n c), .int .i64 s] W (GetOk W (valW cs sl s)) := by
  have HR := Lib.hid (hr.more hB)
  have HL := Lib.hid hr.cell_len
  clear hr
  by_cases hs : sl < s
  · have HK1 := Lib.hid (show Kept W ((W.alloc (.cells #[.int .i64 wd, .int .i64 sl, .slice A n c] 24)).alloc (.cells #[.int .i64 0, .int .i64 0] 40)) [(W.heap.size + 1, 40, #[.int .i64 0, .int .i64 0]), (W.heap.size, 24, #[.int .i64 wd, .int .i64 sl, .slice A n c])] from (((Kept.start W).alloc_at 24 #[.int .i64 wd, .int .i64 sl, .slice A n c] (W.heap.size) (by simp)).alloc_at 40 #[.int .i64 0, .int .i64 0] (W.heap.size + 1) (by simp)))
    have HE := Lib.hid (show valW cs sl s = (0, 0) from by unfold valW; rw [if_pos hs])
    have d0 : decide (sl < s) = true := by simpa using hs
    go_enter Try.func29, Try.ntmps29
    have c_f_0 : ((W.alloc (.cells #[.int .i64 wd, .int .i64 sl, .slice A n c] 24)).alloc (.cells #[.int .i64 0, .int .i64 0] 40)).cell? ⟨W.heap.size, 0, none⟩ = some (.int .i64 wd) := HK1.out.cell 1 rfl 0
    have c_f_1 : ((W.alloc (.cells #[.int .i64 wd, .int .i64 sl, .slice A n c] 24)).alloc (.cells #[.int .i64 0, .int .i64 0] 40)).cell? ⟨W.heap.size, 1, none⟩ = some (.int .i64 sl) := HK1.out.cell 1 rfl 1
    have c_f_2 : ((W.alloc (.cells #[.int .i64 wd, .int .i64 sl, .slice A n c] 24)).alloc (.cells #[.int .i64 0, .int .i64 0] 40)).cell? ⟨W.heap.size, 2, none⟩ = some (.slice A n c) := HK1.out.cell 1 rfl 2
    have c_r_0 : ((W.alloc (.cells #[.int .i64 wd, .int .i64 sl, .slice A n c] 24)).alloc (.cells #[.int .i64 0, .int .i64 0] 40)).cell? ⟨W.heap.size + 1, 0, none⟩ = some (.int .i64 0) := HK1.out.cell 0 rfl 0
    have z_r_0 : ((W.alloc (.cells #[.int .i64 wd, .int .i64 sl, .slice A n c] 24)).alloc (.cells #[.int .i64 0, .int .i64 0] 40)).frozen? ⟨W.heap.size + 1, 0, none⟩ = false := HK1.out.frozen 0 rfl 0
    have c_r_1 : ((W.alloc (.cells #[.int .i64 wd, .int .i64 sl, .slice A n c] 24)).alloc (.cells #[.int .i64 0, .int .i64 0] 40)).cell? ⟨W.heap.size + 1, 1, none⟩ = some (.int .i64 0) := HK1.out.cell 0 rfl 1
    have z_r_1 : ((W.alloc (.cells #[.int .i64 wd, .int .i64 sl, .slice A n c] 24)).alloc (.cells #[.int .i64 0, .int .i64 0] 40)).frozen? ⟨W.heap.size + 1, 1, none⟩ = false := HK1.out.frozen 0 rfl 1
    go_wp2
    exact bodyPost_ret (get_res (HK1.out.blk 0 rfl) _ rfl) rfl (GetOk.of HE.out ⟨rfl, HK1.out.bel⟩)
  · have d0 : decide (sl < s) = false := by simpa using hs
    have d1 : decide (s ≤ sl - (n : Int)) = false := by simp; omega
    have d2 : decide (s < 0) = false := by simp; omega
    have i1 : (0 : Int) ≤ s % (n : Int) := Int.emod_nonneg _ (by omega)
    have i2 : s % (n : Int) < (n : Int) := Int.emod_lt_of_pos _ (by omega)
    have hin : (s % (n : Int)).toNat < n := by omega
    have hn0 : ¬ n = 0 := by omega
    have htm : s.tmod (n : Int) = s % (n : Int) := Int.tmod_eq_emod_of_nonneg s0
    obtain ⟨ad, e, rfl, hb, he, x0, x1⟩ := cell_in HR.out hin
    have bl : (ad.add ((s % (n : Int)).toNat * 2)).block < W.heap.size := World.block_lt_of_cell? W _ x0
    have HE := Lib.hid (show valW cs sl s = e from by unfold valW; rw [if_neg hs, HL.out]; exact getD_of_get he)
    clear he hs
    have HK1 := Lib.hid (show Kept W ((W.alloc (.cells #[.int .i64 wd, .int .i64 sl, .slice (some ad) n c] 24)).alloc (.cells #[.int .i64 0, .int .i64 0] 40)) [(W.heap.size + 1, 40, #[.int .i64 0, .int .i64 0]), (W.heap.size, 24, #[.int .i64 wd, .int .i64 sl, .slice (some ad) n c])] from (((Kept.start W).alloc_at 24 #[.int .i64 wd, .int .i64 sl, .slice (some ad) n c] (W.heap.size) (by simp)).alloc_at 40 #[.int .i64 0, .int .i64 0] (W.heap.size + 1) (by simp)))
    go_enter Try.func29, Try.ntmps29
    have c_f_0 : ((W.alloc (.cells #[.int .i64 wd, .int .i64 sl, .slice (some ad) n c] 24)).alloc (.cells #[.int .i64 0, .int .i64 0] 40)).cell? ⟨W.heap.size, 0, none⟩ = some (.int .i64 wd) := HK1.out.cell 1 rfl 0
    have c_f_1 : ((W.alloc (.cells #[.int .i64 wd, .int .i64 sl, .slice (some ad) n c] 24)).alloc (.cells #[.int .i64 0, .int .i64 0] 40)).cell? ⟨W.heap.size, 1, none⟩ = some (.int .i64 sl) := HK1.out.cell 1 rfl 1
    have c_f_2 : ((W.alloc (.cells #[.int .i64 wd, .int .i64 sl, .slice (some ad) n c] 24)).alloc (.cells #[.int .i64 0, .int .i64 0] 40)).cell? ⟨W.heap.size, 2, none⟩ = some (.slice (some ad) n c) := HK1.out.cell 1 rfl 2
    have c_r_0 : ((W.alloc (.cells #[.int .i64 wd, .int .i64 sl, .slice (some ad) n c] 24)).alloc (.cells #[.int .i64 0, .int .i64 0] 40)).cell? ⟨W.heap.size + 1, 0, none⟩ = some (.int .i64 0) := HK1.out.cell 0 rfl 0
    have z_r_0 : ((W.alloc (.cells #[.int .i64 wd, .int .i64 sl, .slice (some ad) n c] 24)).alloc (.cells #[.int .i64 0, .int .i64 0] 40)).frozen? ⟨W.heap.size + 1, 0, none⟩ = false := HK1.out.frozen 0 rfl 0
    have c_r_1 : ((W.alloc (.cells #[.int .i64 wd, .int .i64 sl, .slice (some ad) n c] 24)).alloc (.cells #[.int .i64 0, .int .i64 0] 40)).cell? ⟨W.heap.size + 1, 1, none⟩ = some (.int .i64 0) := HK1.out.cell 0 rfl 1
    have z_r_1 : ((W.alloc (.cells #[.int .i64 wd, .int .i64 sl, .slice (some ad) n c] 24)).alloc (.cells #[.int .i64 0, .int .i64 0] 40)).frozen? ⟨W.heap.size + 1, 1, none⟩ = false := HK1.out.frozen 0 rfl 1
    go_wp2_with fail
    clear c_f_0 c_f_1 c_f_2 c_r_0 z_r_0 c_r_1 z_r_1
    refine wp_region_noPanic ?_
    refine wp_region_held_drew (S := fun W' => Kept W W' [(W.heap.size, 24, #[.int .i64 wd, .int .i64 sl, .slice (some ad) n c])]) (by kernel_rfl) (HK1.out.drew).drop1 (fun hHeld => ?_)
    have HKd := Lib.hid HK1.out.drew
    generalize ((W.alloc (.cells #[.int .i64 wd, .int .i64 sl, .slice (some ad) n c] 24)).alloc (.cells #[.int .i64 0, .int .i64 0] 40)).drew = wz at HKd hHeld ⊢
    clear HK1
    refine takeH 0 (v := ?v0u16) rfl (by kernel_rfl) (by kernel_rfl) (by kernel_rfl) rfl (fun _ _ _ h => h) (Or.inl ⟨by rfl, ?y0u16⟩) hHeld ?r0u16
    case y0u16 => (intro W hSW; (try dsimp only at hSW); go_simp; try with_reducible rfl)
    simp only [Act.put, List.setIfInBounds_toArray, List.set_cons_zero, List.set_cons_succ]
    refine takeH 1 (v := ?v1u17) rfl (by kernel_rfl) (by kernel_rfl) (by kernel_rfl) rfl (fun _ _ _ h => h) (Or.inl ⟨by rfl, ?y1u17⟩) hHeld ?r1u17
    case y1u17 => (intro W hSW; (try dsimp only at hSW); have q0 := hSW.cell 0 rfl 2; simp only [List.getElem?_toArray, List.getElem?_cons_zero, List.getElem?_cons_succ] at q0; go_simp; try with_reducible rfl)
    simp only [Act.put, List.setIfInBounds_toArray, List.set_cons_zero, List.set_cons_succ]
    refine takeH 2 (v := ?v2u18) rfl (by kernel_rfl) (by kernel_rfl) (by kernel_rfl) rfl (fun _ _ _ h => h) (Or.inl ⟨by rfl, ?y2u18⟩) hHeld ?r2u18
    case y2u18 => (intro W hSW; (try dsimp only at hSW); go_simp; try with_reducible rfl)
    simp only [Act.put, List.setIfInBounds_toArray, List.set_cons_zero, List.set_cons_succ]
    refine takeH 3 (v := ?v3u19) rfl (by kernel_rfl) (by kernel_rfl) (by kernel_rfl) rfl (fun _ _ _ h => h) (Or.inl ⟨by rfl, ?y3u19⟩) hHeld ?r3u19
    case y3u19 => (intro W hSW; (try dsimp only at hSW); go_simp; try with_reducible rfl)
    simp only [Act.put, List.setIfInBounds_toArray, List.set_cons_zero, List.set_cons_succ]
    refine takeH 4 (v := ?v4u20) rfl (by kernel_rfl) (by kernel_rfl) (by kernel_rfl) rfl (fun _ _ _ h => h) (Or.inl ⟨by rfl, ?y4u20⟩) hHeld ?r4u20
    case y4u20 => (intro W hSW; (try dsimp only at hSW); go_simp; try with_reducible rfl)
    simp only [Act.put, List.setIfInBounds_toArray, List.set_cons_zero, List.set_cons_succ]
    refine takeH 5 (v := ?v5u21) rfl (by kernel_rfl) (by kernel_rfl) (by kernel_rfl) rfl (fun _ _ _ h => h) (Or.inl ⟨by rfl, ?y5u21⟩) hHeld ?r5u21
    case y5u21 => (intro W hSW; (try dsimp only at hSW); go_simp; try with_reducible rfl)
    simp only [Act.put, List.setIfInBounds_toArray, List.set_cons_zero, List.set_cons_succ]
    refine takeH 6 (v := ?v6u22) rfl (by kernel_rfl) (by kernel_rfl) (by kernel_rfl) rfl (fun _ _ _ h => h) (Or.inl ⟨by rfl, ?y6u22⟩) hHeld ?r6u22
    case y6u22 => (intro W hSW; (try dsimp only at hSW); have q0 := (hSW.bel.cell (p := (ad.add ((s % (n : Int)).toNat * 2))) bl).trans x0; have q1 := (hSW.bel.cell (p := ⟨(ad.add ((s % (n : Int)).toNat * 2)).block, (ad.add ((s % (n : Int)).toNat * 2)).off + 1, none⟩) bl).trans x1; go_simp; try with_reducible rfl)
    simp only [Act.put, List.setIfInBounds_toArray, List.set_cons_zero, List.set_cons_succ]
    have z0 : wz.cell? ⟨W.heap.size + 1, 0, none⟩ = some (.int .i64 0) := HKd.out.cell 0 rfl 0
    have zf0 : wz.frozen? ⟨W.heap.size + 1, 0, none⟩ = false := HKd.out.frozen 0 rfl 0
    have z1 : wz.cell? ⟨W.heap.size + 1, 1, none⟩ = some (.int .i64 0) := HKd.out.cell 0 rfl 1
    have zf1 : wz.frozen? ⟨W.heap.size + 1, 1, none⟩ = false := HKd.out.frozen 0 rfl 1
    refine wpAnyH_ready (rs := [7]) (by kernel_rfl) (by simp) ?_
    refine AllReadyH.cons rfl (fun K hK => ?_) AllReadyH.nil
    go_simp
    refine hK.out _ _ ((hHeld.put_off (by simp) (by intro x hx; simp at hx; subst hx; simp) _).put_off (by simp) (by intro x hx; simp at hx; subst hx; simp) _) (fun hHeld => ?_)
    clear hK K
    try simp only [Act.put, List.setIfInBounds_toArray, List.set_cons_zero, List.set_cons_succ]
    refine wpAnyH_done (by kernel_rfl) ?_ _
    refine NoPanic.normal ?_
    go_wp2
    exact bodyPost_ret (get_res (put2 (HKd.out.blk 0 rfl)) _ rfl) rfl (GetOk.of HE.out ⟨rfl, (HKd.out.bel.setCell (by simp) _).setCell (by simp) _⟩)
end Go.Proofs.Ytmkjfpmailihjaa
