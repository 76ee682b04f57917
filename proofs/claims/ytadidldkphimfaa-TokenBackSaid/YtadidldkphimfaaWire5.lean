/- The contract of wire.Uint where a number is read. -/
import Derived.Test.YtadidldkphimfaaWire4
import Derived.RegionIn
namespace Go.Proofs.Ytadidldkphimfaa
set_option linter.unusedVariables false
open Go.RowKit Go.Shelf
attribute [local go_sem] Oper.semAt_some

def accB : List (Nat × UInt8) → Nat := List.foldl (fun s x => (s * 128) % 18446744073709551616 + x.2.toNat % 128) 0
theorem accB_snoc (pre : List (Nat × UInt8)) (x : Nat × UInt8) : accB (pre ++ [x]) = (accB pre * 128) % 18446744073709551616 + x.2.toNat % 128 := by simp [accB]
theorem accB_lt (pre : List (Nat × UInt8)) : accB pre < 18446744073709551616 := by
  rcases List.eq_nil_or_concat pre with rfl | ⟨l, x, rfl⟩
  · simp [accB]
  · rw [List.concat_eq_append, accB_snoc]; omega
theorem or_step (s x : Nat) (hs : s < 18446744073709551616) : bits .or .u64 (IntKind.u64.wrap ((s : Int) * 128)) ((x : Int) % 128) = (((s * 128) % 18446744073709551616 + x % 128 : Nat) : Int) := by
  rw [IntKind.wrap_u64, show ((s : Int) * 128) % 18446744073709551616 = ((s * 128 % 18446744073709551616 : Nat) : Int) from by omega, show (x : Int) % 128 = ((x % 128 : Nat) : Int) from by omega, u64_or_nat _ _ (by omega) (by omega)]
  have e : s * 128 % 18446744073709551616 = 2 ^ 7 * (s * 128 % 18446744073709551616 / 128) := by omega
  rw [e, ← Nat.two_pow_add_eq_or_of_lt (i := 7) (by omega)]
theorem accB_back (bs : List UInt8) (L : Nat) (hL : L ≤ bs.length) (hv : valB (natB (bs.take L)) < 18446744073709551616) : accB (upto (backF bs L) L) = valB (natB (bs.take L)) := by
  have hmono : ∀ (l : List Nat) (i : Nat), valB (l.drop i) ≤ valB l := by
    intro l
    induction l with
    | nil => intro i; simp
    | cons y l ih =>
      intro i
      cases i with
      | zero => simp
      | succ i => simp only [List.drop_succ_cons, valB]; have := ih i; omega
  have hk : ∀ k, k ≤ L → accB (upto (backF bs L) k) = valB ((natB (bs.take L)).drop (L - k)) := by
    intro k
    induction k with
    | zero => intro _; rw [Nat.sub_zero, List.drop_of_length_le (by rw [natB_length, List.length_take]; omega)]; rfl
    | succ k ih =>
      intro hkL
      have hlt : L - 1 - k < bs.length := by omega
      rw [upto_succ, accB_snoc, ih (by omega)]
      have e : (natB (bs.take L)).drop (L - (k + 1)) = (bs[L - 1 - k]).toNat :: (natB (bs.take L)).drop (L - k) := by
        rw [show L - k = L - (k + 1) + 1 from by omega, List.drop_eq_getElem_cons (by rw [natB_length, List.length_take]; omega)]
        congr 1
        simp only [natB, List.getElem_map, List.getElem_take]
        congr 2
        omega
      have hb : (backF bs L k).2 = bs[L - 1 - k] := by unfold backF; simp [hlt]
      have h1 := hmono (natB (bs.take L)) (L - (k + 1))
      rw [e] at h1 ⊢
      simp only [valB] at h1 ⊢
      rw [hb, Nat.mod_eq_of_lt (by omega)]
      omega
  rw [hk L (Nat.le_refl _)]
  simp
theorem val_lt (bs : List UInt8) (k : Nat) (x : UInt8) (hk : k ≤ 9) (hx : bs[k]? = some x) (hf : ¬ ((k = 9 ∧ 1 < x.toNat) ∨ (0 < k ∧ x.toNat = 0))) : valB (natB (bs.take (k + 1))) < 18446744073709551616 := by
  by_cases h9 : k = 9
  · subst h9
    have hlt := (List.getElem?_eq_some_iff.1 hx).1
    have e : bs.take (9 + 1) = bs.take 9 ++ [x] := by rw [List.take_add_one, hx]; rfl
    rw [e, natB_append, show natB [x] = [x.toNat] from rfl, valB_snoc]
    have h1 := valB_lt (natB (bs.take 9))
    rw [natB_length, List.length_take, Nat.min_eq_left (by omega)] at h1 ⊢
    have h2 : x.toNat % 128 ≤ 1 := by omega
    have h3 : 128 ^ 9 * (x.toNat % 128) ≤ 128 ^ 9 * 1 := Nat.mul_le_mul_left _ h2
    omega
  · have h1 := valB_lt (natB (bs.take (k + 1)))
    rw [natB_length, List.length_take] at h1
    have h2 : (128 : Nat) ^ (min (k + 1) bs.length) ≤ 128 ^ 9 := Nat.pow_le_pow_right (by omega) (by omega)
    have h3 := Nat.lt_of_lt_of_le h1 h2
    omega

set_option maxRecDepth 100000 in
set_option maxHeartbeats 4000000 in
theorem Uint_ltz (ad : Addr) (a m cm : Nat) (bs : List UInt8) (B : Nat) (w : World) (hr : Reads w B 1 (some ad) (a + m) (byteCells bs)) (hB : B ≤ w.heap.size) (hmc : m ≤ cm) (h0 : 0 < m) (hm : m ≤ 10000) (hcx : a + cm ≤ 9223372036854775807) (q : Nat) (hq : q = if m < 10 then m else 10) (h10 : m < 10) (k : Nat) (x : UInt8) (hkk : k = 0) (hkq : k < q) (hx : bs[a + k]? = some x) (hhit : firstIdx lowB ((bs.drop a).take q) = (k : Int)) (hf : ¬ ((k = 9 ∧ 1 < x.toNat) ∨ (0 < k ∧ x.toNat = 0))) : Calls Try.prog 37 #[.agg #[.slice (some ad) (a + m) (a + cm), .int .i64 (a : Int), .int .i64 0]] w fun e w' => e = .returned (.tuple #[.agg #[.slice (some ad) (a + m) (a + cm), .int .i64 ((a : Int) + ((k : Int) + 1)), .int .i64 0], .int .u64 ((valB (natB ((bs.drop a).take (k + 1))) : Nat) : Int)]) ∧ Below w.heap.size w w' := by
  have HF := Lib.hid hhit; clear hhit
  have hq10 : q ≤ 10 := by rw [hq]; split <;> omega
  have hcm : ¬ cm = 0 := by omega
  have hqm : q ≤ m := by rw [hq]; split <;> omega
  have HQR := Lib.hid (show Reads w B 1 (some (ad.add a)) q (byteCells ((bs.drop a).take q)) from by
    have h := (hr.sufB (k := a) (cap := a + cm) (by omega) (by omega)).preB (k := q) (by omega)
    rw [if_neg (by omega), Option.map_some] at h
    exact h)
  clear hr
  obtain ⟨ad', had⟩ : ∃ ad', ad.add a = ad' := ⟨_, rfl⟩
  rw [had] at HQR
  have hx' : ((bs.drop a).take q)[k]? = some x := by rw [List.getElem?_take, if_pos hkq, List.getElem?_drop]; exact hx
  have HX := Lib.hid hx'
  have HQ1 := Lib.hid (show Reads w B 1 (some ad') (k + 1) (byteCells ((bs.drop a).take (k + 1))) from by
    have h := HQR.out.preB (k := k + 1) (by omega)
    rw [List.take_take, Nat.min_eq_left (by omega)] at h
    exact h)
  have HACC := Lib.hid (show accB (upto (backF (List.take (k + 1) (List.drop a bs)) (k + 1)) (k + 1)) = valB (natB (List.take (k + 1) (List.drop a bs))) from by
    have hxd : (bs.drop a)[k]? = some x := by rw [List.getElem?_drop]; exact hx
    have hld := (List.getElem?_eq_some_iff.1 hxd).1
    have hv := val_lt (bs.drop a) k x (by omega) hxd hf
    have h := accB_back ((bs.drop a).take (k + 1)) (k + 1) (by rw [List.length_take]; omega) (by rw [List.take_take, Nat.min_self]; exact hv)
    rw [List.take_take, Nat.min_self] at h
    exact h)
  clear hx hx'
  have hxl := x.toNat_lt
  have b9 : ((k : Int) == 9) = false := by rw [beq_eq_false_iff_ne]; omega
  have hk0 : ¬ 0 < k := by omega
  have i1 : (0 : Int) ≤ (k : Int) := by omega
  have hk10 : k ≤ 9 := by omega
  clear hf hkk
  obtain rfl : m = q := by rw [hq, if_pos h10]
  clear hq
  refine (callsIn_wide (n := 5)).1 ?_
  refine callsIn_of_wp_marks Try.func37 rfl trivial ?_ rfl
  simp only [Try.ntmps37, List.size_toArray, List.length_cons, List.length_nil, Nat.reduceAdd, Nat.reduceSub, Array.replicate_succ, Array.replicate_zero, List.push_toArray, List.append_toArray, List.nil_append, List.cons_append]
  gi_wp2_with fail
  refine ⟨trivial, ?_⟩
  refine (callsIn_wide.2 (right_yes (some ad) _ (a + cm) a _ (by omega) (by omega))).mono ?_
  rintro e w1 ⟨rfl, hb⟩
  have C1 := Lib.hid ((Cu.start w #[.slice (some ad) _ (a + cm), .int .i64 a, .int .i64 0] #[.slice none 0 0, .int .i64 0, .int .i64 0]).next hb)
  clear hb
  obtain ⟨k0, k1, k2, r0, r1, r2, f0, f1, f2, g0, g1, g2⟩ := C1.out.cells
  gi_wp2_with fail
  refine ⟨trivial, ?_⟩
  refine (callsIn_wide.2 (IndexFuncB_at (some ad') _ cm B _ _ (k : Int) HF.out (C1.out.reads HQR.out hB) (by omega))).mono ?_
  rintro e w2 ⟨rfl, rfl⟩
  obtain ⟨_, _, E, _, hy, hck⟩ := (C1.out.reads HQR.out hB).byte_at hkq
  cases E
  rw [HX.out] at hy
  cases hy
  gi_wp2_with fail
  refine ⟨trivial, ?_⟩
  refine (callsIn_wide.2 (Backward_c (some ad') (k + 1) cm _)).mono ?_
  rintro e w3 ⟨rfl, rfl⟩
  gi_wp2_with fail
  have bN := Boxed.new w1 42 (.int .u64 0)
  have bS := Boxed.new (w1.alloc (.cells #[.int .u64 0] 42)) 37 (.slice (some ad') (k + 1) cm)
  rw [World.size_alloc] at bS
  have hB0 : Below w1.heap.size w1 ((w1.alloc (.cells #[.int .u64 0] 42)).alloc (.cells #[.slice (some ad') (k + 1) cm] 37)) := ((Below.refl _ w1).alloc (Nat.le_refl _) _).alloc (by simp) _
  have hsB : B ≤ w1.heap.size := Nat.le_trans hB C1.out.size
  clear k0 k1 k2 r0 r1 r2 f0 f1 f2 g0 g1 g2
  refine wpIn_rangeFunc_ownF rfl (by omega) (gf := 52) (lb := #[.pointer (some ⟨w1.heap.size + 1, 0, none⟩)]) rfl trivial (enters_of Try.func52 (by kernel_rfl) rfl)
    (back_stops Fence.wide 4 trivial rfl (by omega) (w1.heap.size + 1) w1.heap.size (some ad') (k + 1) cm ((bs.drop a).take (k + 1)) (by omega) _ (by simp) (by simp; omega) bS.cell ((((C1.out.reads HQ1.out hB).more hsB)).below hB0)) kpB_t (kpB_b (by simp; omega) (by simp)) (Below.refl _ _) (fun _ => rfl)
    (fun pre W => (W.cell? ⟨w1.heap.size, 0, none⟩ = some (.int .u64 (accB pre : Int)) ∧ W.frozen? ⟨w1.heap.size, 0, none⟩ = false) ∧ Below w1.heap.size w1 W)
    (fun _ _ _ => False)
    (OwnFrom.and (Own.from (fun s A B row hs hg hr => ⟨cell_kept hs.1 hg hr, (frozen_kept hs.1 hg hr).trans hs.2⟩) _) (ownFrom_below (Nat.le_refl _) (by simp; omega)))
    (fun _ _ _ _ _ hs _ _ => hs)
    ⟨⟨(bN.alloc _).cell, (bN.alloc _).frozen⟩, hB0⟩
    ?a1 ?assign ?body ?done ?stop
  case assign =>
    intro l x W K hK
    unfold encB
    gi_wp2
    exact hK
  case body =>
    rintro l pre x' W ⟨⟨hc, hfz⟩, hB'⟩ hlt
    have hor := or_step (accB pre) x'.2.toNat (accB_lt pre)
    have hal := accB_lt pre
    gi_wp2
    have hsn : ((accB (pre ++ [x']) : Nat) : Int) = (accB pre : Int) * 128 % 18446744073709551616 + (x'.2.toNat : Int) % 128 := by rw [accB_snoc]; omega
    exact ⟨KeepsOthers.setCell _ _ _, ⟨(Below.refl _ W).setCell (p := ⟨w1.heap.size, 0, none⟩) (Nat.le_refl _) _, World.cell?_setCell_other W ⟨w1.heap.size, 0, none⟩ ⟨w1.heap.size + 1, 0, none⟩ _ (by simp)⟩, ⟨by rw [hsn]; exact World.cell?_setCell_same' _ _ _ (by rw [hc]; rfl), by rw [World.frozen?_setCell]; exact hfz⟩, hB'.setCell (p := ⟨w1.heap.size, 0, none⟩) (Nat.le_refl _) _⟩
  case done =>
    rintro D ys W hD rfl ⟨⟨hc, hfz⟩, hB'⟩ hK
    have C2 := Lib.hid (C1.out.next hB')
    obtain ⟨k0, k1, k2, r0, r1, r2, f0, f1, f2, g0, g1, g2⟩ := C2.out.cells
    have hg1 := C1.out.1.lt
    have hg2 := C1.out.2.1.lt
    have hD' : w1.heap.size + 2 ≤ D := by simpa using hD
    gi_wp2
    gi_region
    all_goals
      gi_wp2
      have hBR : Blk ((((W.setCell ⟨w.heap.size, 1, none⟩ (.int .i64 ((a : Int) + ((k : Int) + 1)))).setCell ⟨w.heap.size + 1, 0, none⟩ (.slice (some ad) (a + m) (a + cm))).setCell ⟨w.heap.size + 1, 1, none⟩ (.int .i64 ((a : Int) + ((k : Int) + 1)))).setCell ⟨w.heap.size + 1, 2, none⟩ (.int .i64 0)).drew (w.heap.size + 1) 70 #[.slice (some ad) (a + m) (a + cm), .int .i64 ((a : Int) + ((k : Int) + 1)), .int .i64 0] :=
        (((((C2.out.2.1.far (p := ⟨w.heap.size, 1, none⟩) (by simp) _).set_ 0 _).set_ 1 _).set_ 2 _).drew)
      have hBW : Below w.heap.size w ((((W.setCell ⟨w.heap.size, 1, none⟩ (.int .i64 ((a : Int) + ((k : Int) + 1)))).setCell ⟨w.heap.size + 1, 0, none⟩ (.slice (some ad) (a + m) (a + cm))).setCell ⟨w.heap.size + 1, 1, none⟩ (.int .i64 ((a : Int) + ((k : Int) + 1)))).setCell ⟨w.heap.size + 1, 2, none⟩ (.int .i64 0)).drew :=
        ((((C2.out.2.2.setCell (by simp) _).setCell (by simp) _).setCell (by simp) _).setCell (by simp) _).drew
      have hK' : ((((W.setCell ⟨w.heap.size, 1, none⟩ (.int .i64 ((a : Int) + ((k : Int) + 1)))).setCell ⟨w.heap.size + 1, 0, none⟩ (.slice (some ad) (a + m) (a + cm))).setCell ⟨w.heap.size + 1, 1, none⟩ (.int .i64 ((a : Int) + ((k : Int) + 1)))).setCell ⟨w.heap.size + 1, 2, none⟩ (.int .i64 0)).drew.heap[D]? = some (.deferred (some [])) :=
        (Below.heap_setCell _ _ _ D (by simp; omega)).trans ((Below.heap_setCell _ _ _ D (by simp; omega)).trans ((Below.heap_setCell _ _ _ D (by simp; omega)).trans ((Below.heap_setCell _ _ _ D (by simp; omega)).trans hK)))
      refine ⟨by simp, .inl ⟨_, _, rfl, run_takeDeferred hK', ?_⟩⟩
      generalize ((((W.setCell ⟨w.heap.size, 1, none⟩ (.int .i64 ((a : Int) + ((k : Int) + 1)))).setCell ⟨w.heap.size + 1, 0, none⟩ (.slice (some ad) (a + m) (a + cm))).setCell ⟨w.heap.size + 1, 1, none⟩ (.int .i64 ((a : Int) + ((k : Int) + 1)))).setCell ⟨w.heap.size + 1, 2, none⟩ (.int .i64 0)).drew = W4 at *
      have hBz := belowK_b (n₀ := w1.heap.size) (w := w1) (Nat.le_refl _) W4 D (.deferred (some [])) (.deferred none) (by omega) hK' rfl rfl
      have hBR2 := hBR.below hBz hg2
      have q0 := hBR2.cell 0
      have q1 := hBR2.cell 1
      have q2 := hBR2.cell 2
      simp only [List.getElem?_toArray, List.getElem?_cons_zero, List.getElem?_cons_succ] at q0 q1 q2
      refine ⟨.tuple #[.agg #[.slice (some ad) (a + m) (a + cm), .int .i64 ((a : Int) + ((k : Int) + 1)), .int .i64 0], .int .u64 ((accB (upto (backF (List.take (k + 1) (List.drop a bs)) (k + 1)) (k + 1)) : Nat) : Int)], ?_, ?_, hBW.trans (hBz.mono C1.out.size)⟩
      · simp [results, Try.results37, go_sem, q0, q1, q2]
      · rw [HACC.out]
  case stop =>
    rintro D c pre W _ _ h _
    exact h.elim

set_option maxRecDepth 100000 in
set_option maxHeartbeats 4000000 in
theorem Uint_ltp (ad : Addr) (a m cm : Nat) (bs : List UInt8) (B : Nat) (w : World) (hr : Reads w B 1 (some ad) (a + m) (byteCells bs)) (hB : B ≤ w.heap.size) (hmc : m ≤ cm) (h0 : 0 < m) (hm : m ≤ 10000) (hcx : a + cm ≤ 9223372036854775807) (q : Nat) (hq : q = if m < 10 then m else 10) (h10 : m < 10) (k : Nat) (x : UInt8) (hkk : 0 < k) (hkn : k ≠ 9) (hkq : k < q) (hx : bs[a + k]? = some x) (hhit : firstIdx lowB ((bs.drop a).take q) = (k : Int)) (hf : ¬ ((k = 9 ∧ 1 < x.toNat) ∨ (0 < k ∧ x.toNat = 0))) : Calls Try.prog 37 #[.agg #[.slice (some ad) (a + m) (a + cm), .int .i64 (a : Int), .int .i64 0]] w fun e w' => e = .returned (.tuple #[.agg #[.slice (some ad) (a + m) (a + cm), .int .i64 ((a : Int) + ((k : Int) + 1)), .int .i64 0], .int .u64 ((valB (natB ((bs.drop a).take (k + 1))) : Nat) : Int)]) ∧ Below w.heap.size w w' := by
  have HF := Lib.hid hhit; clear hhit
  have hq10 : q ≤ 10 := by rw [hq]; split <;> omega
  have hcm : ¬ cm = 0 := by omega
  have hqm : q ≤ m := by rw [hq]; split <;> omega
  have HQR := Lib.hid (show Reads w B 1 (some (ad.add a)) q (byteCells ((bs.drop a).take q)) from by
    have h := (hr.sufB (k := a) (cap := a + cm) (by omega) (by omega)).preB (k := q) (by omega)
    rw [if_neg (by omega), Option.map_some] at h
    exact h)
  clear hr
  obtain ⟨ad', had⟩ : ∃ ad', ad.add a = ad' := ⟨_, rfl⟩
  rw [had] at HQR
  have hx' : ((bs.drop a).take q)[k]? = some x := by rw [List.getElem?_take, if_pos hkq, List.getElem?_drop]; exact hx
  have HX := Lib.hid hx'
  have HQ1 := Lib.hid (show Reads w B 1 (some ad') (k + 1) (byteCells ((bs.drop a).take (k + 1))) from by
    have h := HQR.out.preB (k := k + 1) (by omega)
    rw [List.take_take, Nat.min_eq_left (by omega)] at h
    exact h)
  have HACC := Lib.hid (show accB (upto (backF (List.take (k + 1) (List.drop a bs)) (k + 1)) (k + 1)) = valB (natB (List.take (k + 1) (List.drop a bs))) from by
    have hxd : (bs.drop a)[k]? = some x := by rw [List.getElem?_drop]; exact hx
    have hld := (List.getElem?_eq_some_iff.1 hxd).1
    have hv := val_lt (bs.drop a) k x (by omega) hxd hf
    have h := accB_back ((bs.drop a).take (k + 1)) (k + 1) (by rw [List.length_take]; omega) (by rw [List.take_take, Nat.min_self]; exact hv)
    rw [List.take_take, Nat.min_self] at h
    exact h)
  clear hx hx'
  have hxl := x.toNat_lt
  have b9 : ((k : Int) == 9) = false := by rw [beq_eq_false_iff_ne]; omega
  have hk0 : 0 < k := hkk
  have bz : ((x.toNat : Int) == 0) = false := by rw [beq_eq_false_iff_ne]; omega
  have i1 : (0 : Int) ≤ (k : Int) := by omega
  have hk10 : k ≤ 9 := by omega
  clear hf hkk hkn
  obtain rfl : m = q := by rw [hq, if_pos h10]
  clear hq
  refine (callsIn_wide (n := 5)).1 ?_
  refine callsIn_of_wp_marks Try.func37 rfl trivial ?_ rfl
  simp only [Try.ntmps37, List.size_toArray, List.length_cons, List.length_nil, Nat.reduceAdd, Nat.reduceSub, Array.replicate_succ, Array.replicate_zero, List.push_toArray, List.append_toArray, List.nil_append, List.cons_append]
  gi_wp2_with fail
  refine ⟨trivial, ?_⟩
  refine (callsIn_wide.2 (right_yes (some ad) _ (a + cm) a _ (by omega) (by omega))).mono ?_
  rintro e w1 ⟨rfl, hb⟩
  have C1 := Lib.hid ((Cu.start w #[.slice (some ad) _ (a + cm), .int .i64 a, .int .i64 0] #[.slice none 0 0, .int .i64 0, .int .i64 0]).next hb)
  clear hb
  obtain ⟨k0, k1, k2, r0, r1, r2, f0, f1, f2, g0, g1, g2⟩ := C1.out.cells
  gi_wp2_with fail
  refine ⟨trivial, ?_⟩
  refine (callsIn_wide.2 (IndexFuncB_at (some ad') _ cm B _ _ (k : Int) HF.out (C1.out.reads HQR.out hB) (by omega))).mono ?_
  rintro e w2 ⟨rfl, rfl⟩
  obtain ⟨_, _, E, _, hy, hck⟩ := (C1.out.reads HQR.out hB).byte_at hkq
  cases E
  rw [HX.out] at hy
  cases hy
  gi_wp2_with fail
  refine ⟨trivial, ?_⟩
  refine (callsIn_wide.2 (Backward_c (some ad') (k + 1) cm _)).mono ?_
  rintro e w3 ⟨rfl, rfl⟩
  gi_wp2_with fail
  have bN := Boxed.new w1 42 (.int .u64 0)
  have bS := Boxed.new (w1.alloc (.cells #[.int .u64 0] 42)) 37 (.slice (some ad') (k + 1) cm)
  rw [World.size_alloc] at bS
  have hB0 : Below w1.heap.size w1 ((w1.alloc (.cells #[.int .u64 0] 42)).alloc (.cells #[.slice (some ad') (k + 1) cm] 37)) := ((Below.refl _ w1).alloc (Nat.le_refl _) _).alloc (by simp) _
  have hsB : B ≤ w1.heap.size := Nat.le_trans hB C1.out.size
  clear k0 k1 k2 r0 r1 r2 f0 f1 f2 g0 g1 g2
  refine wpIn_rangeFunc_ownF rfl (by omega) (gf := 52) (lb := #[.pointer (some ⟨w1.heap.size + 1, 0, none⟩)]) rfl trivial (enters_of Try.func52 (by kernel_rfl) rfl)
    (back_stops Fence.wide 4 trivial rfl (by omega) (w1.heap.size + 1) w1.heap.size (some ad') (k + 1) cm ((bs.drop a).take (k + 1)) (by omega) _ (by simp) (by simp; omega) bS.cell ((((C1.out.reads HQ1.out hB).more hsB)).below hB0)) kpB_t (kpB_b (by simp; omega) (by simp)) (Below.refl _ _) (fun _ => rfl)
    (fun pre W => (W.cell? ⟨w1.heap.size, 0, none⟩ = some (.int .u64 (accB pre : Int)) ∧ W.frozen? ⟨w1.heap.size, 0, none⟩ = false) ∧ Below w1.heap.size w1 W)
    (fun _ _ _ => False)
    (OwnFrom.and (Own.from (fun s A B row hs hg hr => ⟨cell_kept hs.1 hg hr, (frozen_kept hs.1 hg hr).trans hs.2⟩) _) (ownFrom_below (Nat.le_refl _) (by simp; omega)))
    (fun _ _ _ _ _ hs _ _ => hs)
    ⟨⟨(bN.alloc _).cell, (bN.alloc _).frozen⟩, hB0⟩
    ?a1 ?assign ?body ?done ?stop
  case assign =>
    intro l x W K hK
    unfold encB
    gi_wp2
    exact hK
  case body =>
    rintro l pre x' W ⟨⟨hc, hfz⟩, hB'⟩ hlt
    have hor := or_step (accB pre) x'.2.toNat (accB_lt pre)
    have hal := accB_lt pre
    gi_wp2
    have hsn : ((accB (pre ++ [x']) : Nat) : Int) = (accB pre : Int) * 128 % 18446744073709551616 + (x'.2.toNat : Int) % 128 := by rw [accB_snoc]; omega
    exact ⟨KeepsOthers.setCell _ _ _, ⟨(Below.refl _ W).setCell (p := ⟨w1.heap.size, 0, none⟩) (Nat.le_refl _) _, World.cell?_setCell_other W ⟨w1.heap.size, 0, none⟩ ⟨w1.heap.size + 1, 0, none⟩ _ (by simp)⟩, ⟨by rw [hsn]; exact World.cell?_setCell_same' _ _ _ (by rw [hc]; rfl), by rw [World.frozen?_setCell]; exact hfz⟩, hB'.setCell (p := ⟨w1.heap.size, 0, none⟩) (Nat.le_refl _) _⟩
  case done =>
    rintro D ys W hD rfl ⟨⟨hc, hfz⟩, hB'⟩ hK
    have C2 := Lib.hid (C1.out.next hB')
    obtain ⟨k0, k1, k2, r0, r1, r2, f0, f1, f2, g0, g1, g2⟩ := C2.out.cells
    have hg1 := C1.out.1.lt
    have hg2 := C1.out.2.1.lt
    have hD' : w1.heap.size + 2 ≤ D := by simpa using hD
    gi_wp2
    gi_region
    all_goals
      gi_wp2
      have hBR : Blk ((((W.setCell ⟨w.heap.size, 1, none⟩ (.int .i64 ((a : Int) + ((k : Int) + 1)))).setCell ⟨w.heap.size + 1, 0, none⟩ (.slice (some ad) (a + m) (a + cm))).setCell ⟨w.heap.size + 1, 1, none⟩ (.int .i64 ((a : Int) + ((k : Int) + 1)))).setCell ⟨w.heap.size + 1, 2, none⟩ (.int .i64 0)).drew (w.heap.size + 1) 70 #[.slice (some ad) (a + m) (a + cm), .int .i64 ((a : Int) + ((k : Int) + 1)), .int .i64 0] :=
        (((((C2.out.2.1.far (p := ⟨w.heap.size, 1, none⟩) (by simp) _).set_ 0 _).set_ 1 _).set_ 2 _).drew)
      have hBW : Below w.heap.size w ((((W.setCell ⟨w.heap.size, 1, none⟩ (.int .i64 ((a : Int) + ((k : Int) + 1)))).setCell ⟨w.heap.size + 1, 0, none⟩ (.slice (some ad) (a + m) (a + cm))).setCell ⟨w.heap.size + 1, 1, none⟩ (.int .i64 ((a : Int) + ((k : Int) + 1)))).setCell ⟨w.heap.size + 1, 2, none⟩ (.int .i64 0)).drew :=
        ((((C2.out.2.2.setCell (by simp) _).setCell (by simp) _).setCell (by simp) _).setCell (by simp) _).drew
      have hK' : ((((W.setCell ⟨w.heap.size, 1, none⟩ (.int .i64 ((a : Int) + ((k : Int) + 1)))).setCell ⟨w.heap.size + 1, 0, none⟩ (.slice (some ad) (a + m) (a + cm))).setCell ⟨w.heap.size + 1, 1, none⟩ (.int .i64 ((a : Int) + ((k : Int) + 1)))).setCell ⟨w.heap.size + 1, 2, none⟩ (.int .i64 0)).drew.heap[D]? = some (.deferred (some [])) :=
        (Below.heap_setCell _ _ _ D (by simp; omega)).trans ((Below.heap_setCell _ _ _ D (by simp; omega)).trans ((Below.heap_setCell _ _ _ D (by simp; omega)).trans ((Below.heap_setCell _ _ _ D (by simp; omega)).trans hK)))
      refine ⟨by simp, .inl ⟨_, _, rfl, run_takeDeferred hK', ?_⟩⟩
      generalize ((((W.setCell ⟨w.heap.size, 1, none⟩ (.int .i64 ((a : Int) + ((k : Int) + 1)))).setCell ⟨w.heap.size + 1, 0, none⟩ (.slice (some ad) (a + m) (a + cm))).setCell ⟨w.heap.size + 1, 1, none⟩ (.int .i64 ((a : Int) + ((k : Int) + 1)))).setCell ⟨w.heap.size + 1, 2, none⟩ (.int .i64 0)).drew = W4 at *
      have hBz := belowK_b (n₀ := w1.heap.size) (w := w1) (Nat.le_refl _) W4 D (.deferred (some [])) (.deferred none) (by omega) hK' rfl rfl
      have hBR2 := hBR.below hBz hg2
      have q0 := hBR2.cell 0
      have q1 := hBR2.cell 1
      have q2 := hBR2.cell 2
      simp only [List.getElem?_toArray, List.getElem?_cons_zero, List.getElem?_cons_succ] at q0 q1 q2
      refine ⟨.tuple #[.agg #[.slice (some ad) (a + m) (a + cm), .int .i64 ((a : Int) + ((k : Int) + 1)), .int .i64 0], .int .u64 ((accB (upto (backF (List.take (k + 1) (List.drop a bs)) (k + 1)) (k + 1)) : Nat) : Int)], ?_, ?_, hBW.trans (hBz.mono C1.out.size)⟩
      · simp [results, Try.results37, go_sem, q0, q1, q2]
      · rw [HACC.out]
  case stop =>
    rintro D c pre W _ _ h _
    exact h.elim

set_option maxRecDepth 100000 in
set_option maxHeartbeats 4000000 in
theorem Uint_eqz (ad : Addr) (a m cm : Nat) (bs : List UInt8) (B : Nat) (w : World) (hr : Reads w B 1 (some ad) (a + m) (byteCells bs)) (hB : B ≤ w.heap.size) (hmc : m ≤ cm) (h0 : 0 < m) (hm : m ≤ 10000) (hcx : a + cm ≤ 9223372036854775807) (q : Nat) (hq : q = if m < 10 then m else 10) (h10 : m = 10) (k : Nat) (x : UInt8) (hkk : k = 0) (hkq : k < q) (hx : bs[a + k]? = some x) (hhit : firstIdx lowB ((bs.drop a).take q) = (k : Int)) (hf : ¬ ((k = 9 ∧ 1 < x.toNat) ∨ (0 < k ∧ x.toNat = 0))) : Calls Try.prog 37 #[.agg #[.slice (some ad) (a + m) (a + cm), .int .i64 (a : Int), .int .i64 0]] w fun e w' => e = .returned (.tuple #[.agg #[.slice (some ad) (a + m) (a + cm), .int .i64 ((a : Int) + ((k : Int) + 1)), .int .i64 0], .int .u64 ((valB (natB ((bs.drop a).take (k + 1))) : Nat) : Int)]) ∧ Below w.heap.size w w' := by
  have HF := Lib.hid hhit; clear hhit
  have hq10 : q ≤ 10 := by rw [hq]; split <;> omega
  have hcm : ¬ cm = 0 := by omega
  have hqm : q ≤ m := by rw [hq]; split <;> omega
  have HQR := Lib.hid (show Reads w B 1 (some (ad.add a)) q (byteCells ((bs.drop a).take q)) from by
    have h := (hr.sufB (k := a) (cap := a + cm) (by omega) (by omega)).preB (k := q) (by omega)
    rw [if_neg (by omega), Option.map_some] at h
    exact h)
  clear hr
  obtain ⟨ad', had⟩ : ∃ ad', ad.add a = ad' := ⟨_, rfl⟩
  rw [had] at HQR
  have hx' : ((bs.drop a).take q)[k]? = some x := by rw [List.getElem?_take, if_pos hkq, List.getElem?_drop]; exact hx
  have HX := Lib.hid hx'
  have HQ1 := Lib.hid (show Reads w B 1 (some ad') (k + 1) (byteCells ((bs.drop a).take (k + 1))) from by
    have h := HQR.out.preB (k := k + 1) (by omega)
    rw [List.take_take, Nat.min_eq_left (by omega)] at h
    exact h)
  have HACC := Lib.hid (show accB (upto (backF (List.take (k + 1) (List.drop a bs)) (k + 1)) (k + 1)) = valB (natB (List.take (k + 1) (List.drop a bs))) from by
    have hxd : (bs.drop a)[k]? = some x := by rw [List.getElem?_drop]; exact hx
    have hld := (List.getElem?_eq_some_iff.1 hxd).1
    have hv := val_lt (bs.drop a) k x (by omega) hxd hf
    have h := accB_back ((bs.drop a).take (k + 1)) (k + 1) (by rw [List.length_take]; omega) (by rw [List.take_take, Nat.min_self]; exact hv)
    rw [List.take_take, Nat.min_self] at h
    exact h)
  clear hx hx'
  have hxl := x.toNat_lt
  have b9 : ((k : Int) == 9) = false := by rw [beq_eq_false_iff_ne]; omega
  have hk0 : ¬ 0 < k := by omega
  have i1 : (0 : Int) ≤ (k : Int) := by omega
  have hk10 : k ≤ 9 := by omega
  clear hf hkk
  subst h10
  obtain rfl : q = 10 := by rw [hq]; rfl
  clear hq
  refine (callsIn_wide (n := 5)).1 ?_
  refine callsIn_of_wp_marks Try.func37 rfl trivial ?_ rfl
  simp only [Try.ntmps37, List.size_toArray, List.length_cons, List.length_nil, Nat.reduceAdd, Nat.reduceSub, Array.replicate_succ, Array.replicate_zero, List.push_toArray, List.append_toArray, List.nil_append, List.cons_append]
  gi_wp2_with fail
  refine ⟨trivial, ?_⟩
  refine (callsIn_wide.2 (right_yes (some ad) _ (a + cm) a _ (by omega) (by omega))).mono ?_
  rintro e w1 ⟨rfl, hb⟩
  have C1 := Lib.hid ((Cu.start w #[.slice (some ad) _ (a + cm), .int .i64 a, .int .i64 0] #[.slice none 0 0, .int .i64 0, .int .i64 0]).next hb)
  clear hb
  obtain ⟨k0, k1, k2, r0, r1, r2, f0, f1, f2, g0, g1, g2⟩ := C1.out.cells
  gi_wp2_with fail
  refine ⟨trivial, ?_⟩
  refine (callsIn_wide.2 (IndexFuncB_at (some ad') _ cm B _ _ (k : Int) HF.out (C1.out.reads HQR.out hB) (by omega))).mono ?_
  rintro e w2 ⟨rfl, rfl⟩
  obtain ⟨_, _, E, _, hy, hck⟩ := (C1.out.reads HQR.out hB).byte_at hkq
  cases E
  rw [HX.out] at hy
  cases hy
  gi_wp2_with fail
  refine ⟨trivial, ?_⟩
  refine (callsIn_wide.2 (Backward_c (some ad') (k + 1) cm _)).mono ?_
  rintro e w3 ⟨rfl, rfl⟩
  gi_wp2_with fail
  have bN := Boxed.new w1 42 (.int .u64 0)
  have bS := Boxed.new (w1.alloc (.cells #[.int .u64 0] 42)) 37 (.slice (some ad') (k + 1) cm)
  rw [World.size_alloc] at bS
  have hB0 : Below w1.heap.size w1 ((w1.alloc (.cells #[.int .u64 0] 42)).alloc (.cells #[.slice (some ad') (k + 1) cm] 37)) := ((Below.refl _ w1).alloc (Nat.le_refl _) _).alloc (by simp) _
  have hsB : B ≤ w1.heap.size := Nat.le_trans hB C1.out.size
  clear k0 k1 k2 r0 r1 r2 f0 f1 f2 g0 g1 g2
  refine wpIn_rangeFunc_ownF rfl (by omega) (gf := 52) (lb := #[.pointer (some ⟨w1.heap.size + 1, 0, none⟩)]) rfl trivial (enters_of Try.func52 (by kernel_rfl) rfl)
    (back_stops Fence.wide 4 trivial rfl (by omega) (w1.heap.size + 1) w1.heap.size (some ad') (k + 1) cm ((bs.drop a).take (k + 1)) (by omega) _ (by simp) (by simp; omega) bS.cell ((((C1.out.reads HQ1.out hB).more hsB)).below hB0)) kpB_t (kpB_b (by simp; omega) (by simp)) (Below.refl _ _) (fun _ => rfl)
    (fun pre W => (W.cell? ⟨w1.heap.size, 0, none⟩ = some (.int .u64 (accB pre : Int)) ∧ W.frozen? ⟨w1.heap.size, 0, none⟩ = false) ∧ Below w1.heap.size w1 W)
    (fun _ _ _ => False)
    (OwnFrom.and (Own.from (fun s A B row hs hg hr => ⟨cell_kept hs.1 hg hr, (frozen_kept hs.1 hg hr).trans hs.2⟩) _) (ownFrom_below (Nat.le_refl _) (by simp; omega)))
    (fun _ _ _ _ _ hs _ _ => hs)
    ⟨⟨(bN.alloc _).cell, (bN.alloc _).frozen⟩, hB0⟩
    ?a1 ?assign ?body ?done ?stop
  case assign =>
    intro l x W K hK
    unfold encB
    gi_wp2
    exact hK
  case body =>
    rintro l pre x' W ⟨⟨hc, hfz⟩, hB'⟩ hlt
    have hor := or_step (accB pre) x'.2.toNat (accB_lt pre)
    have hal := accB_lt pre
    gi_wp2
    have hsn : ((accB (pre ++ [x']) : Nat) : Int) = (accB pre : Int) * 128 % 18446744073709551616 + (x'.2.toNat : Int) % 128 := by rw [accB_snoc]; omega
    exact ⟨KeepsOthers.setCell _ _ _, ⟨(Below.refl _ W).setCell (p := ⟨w1.heap.size, 0, none⟩) (Nat.le_refl _) _, World.cell?_setCell_other W ⟨w1.heap.size, 0, none⟩ ⟨w1.heap.size + 1, 0, none⟩ _ (by simp)⟩, ⟨by rw [hsn]; exact World.cell?_setCell_same' _ _ _ (by rw [hc]; rfl), by rw [World.frozen?_setCell]; exact hfz⟩, hB'.setCell (p := ⟨w1.heap.size, 0, none⟩) (Nat.le_refl _) _⟩
  case done =>
    rintro D ys W hD rfl ⟨⟨hc, hfz⟩, hB'⟩ hK
    have C2 := Lib.hid (C1.out.next hB')
    obtain ⟨k0, k1, k2, r0, r1, r2, f0, f1, f2, g0, g1, g2⟩ := C2.out.cells
    have hg1 := C1.out.1.lt
    have hg2 := C1.out.2.1.lt
    have hD' : w1.heap.size + 2 ≤ D := by simpa using hD
    gi_wp2
    gi_region
    all_goals
      gi_wp2
      have hBR : Blk ((((W.setCell ⟨w.heap.size, 1, none⟩ (.int .i64 ((a : Int) + ((k : Int) + 1)))).setCell ⟨w.heap.size + 1, 0, none⟩ (.slice (some ad) (a + 10) (a + cm))).setCell ⟨w.heap.size + 1, 1, none⟩ (.int .i64 ((a : Int) + ((k : Int) + 1)))).setCell ⟨w.heap.size + 1, 2, none⟩ (.int .i64 0)).drew (w.heap.size + 1) 70 #[.slice (some ad) (a + 10) (a + cm), .int .i64 ((a : Int) + ((k : Int) + 1)), .int .i64 0] :=
        (((((C2.out.2.1.far (p := ⟨w.heap.size, 1, none⟩) (by simp) _).set_ 0 _).set_ 1 _).set_ 2 _).drew)
      have hBW : Below w.heap.size w ((((W.setCell ⟨w.heap.size, 1, none⟩ (.int .i64 ((a : Int) + ((k : Int) + 1)))).setCell ⟨w.heap.size + 1, 0, none⟩ (.slice (some ad) (a + 10) (a + cm))).setCell ⟨w.heap.size + 1, 1, none⟩ (.int .i64 ((a : Int) + ((k : Int) + 1)))).setCell ⟨w.heap.size + 1, 2, none⟩ (.int .i64 0)).drew :=
        ((((C2.out.2.2.setCell (by simp) _).setCell (by simp) _).setCell (by simp) _).setCell (by simp) _).drew
      have hK' : ((((W.setCell ⟨w.heap.size, 1, none⟩ (.int .i64 ((a : Int) + ((k : Int) + 1)))).setCell ⟨w.heap.size + 1, 0, none⟩ (.slice (some ad) (a + 10) (a + cm))).setCell ⟨w.heap.size + 1, 1, none⟩ (.int .i64 ((a : Int) + ((k : Int) + 1)))).setCell ⟨w.heap.size + 1, 2, none⟩ (.int .i64 0)).drew.heap[D]? = some (.deferred (some [])) :=
        (Below.heap_setCell _ _ _ D (by simp; omega)).trans ((Below.heap_setCell _ _ _ D (by simp; omega)).trans ((Below.heap_setCell _ _ _ D (by simp; omega)).trans ((Below.heap_setCell _ _ _ D (by simp; omega)).trans hK)))
      refine ⟨by simp, .inl ⟨_, _, rfl, run_takeDeferred hK', ?_⟩⟩
      generalize ((((W.setCell ⟨w.heap.size, 1, none⟩ (.int .i64 ((a : Int) + ((k : Int) + 1)))).setCell ⟨w.heap.size + 1, 0, none⟩ (.slice (some ad) (a + 10) (a + cm))).setCell ⟨w.heap.size + 1, 1, none⟩ (.int .i64 ((a : Int) + ((k : Int) + 1)))).setCell ⟨w.heap.size + 1, 2, none⟩ (.int .i64 0)).drew = W4 at *
      have hBz := belowK_b (n₀ := w1.heap.size) (w := w1) (Nat.le_refl _) W4 D (.deferred (some [])) (.deferred none) (by omega) hK' rfl rfl
      have hBR2 := hBR.below hBz hg2
      have q0 := hBR2.cell 0
      have q1 := hBR2.cell 1
      have q2 := hBR2.cell 2
      simp only [List.getElem?_toArray, List.getElem?_cons_zero, List.getElem?_cons_succ] at q0 q1 q2
      refine ⟨.tuple #[.agg #[.slice (some ad) (a + 10) (a + cm), .int .i64 ((a : Int) + ((k : Int) + 1)), .int .i64 0], .int .u64 ((accB (upto (backF (List.take (k + 1) (List.drop a bs)) (k + 1)) (k + 1)) : Nat) : Int)], ?_, ?_, hBW.trans (hBz.mono C1.out.size)⟩
      · simp [results, Try.results37, go_sem, q0, q1, q2]
      · rw [HACC.out]
  case stop =>
    rintro D c pre W _ _ h _
    exact h.elim

set_option maxRecDepth 100000 in
set_option maxHeartbeats 4000000 in
theorem Uint_eqp (ad : Addr) (a m cm : Nat) (bs : List UInt8) (B : Nat) (w : World) (hr : Reads w B 1 (some ad) (a + m) (byteCells bs)) (hB : B ≤ w.heap.size) (hmc : m ≤ cm) (h0 : 0 < m) (hm : m ≤ 10000) (hcx : a + cm ≤ 9223372036854775807) (q : Nat) (hq : q = if m < 10 then m else 10) (h10 : m = 10) (k : Nat) (x : UInt8) (hkk : 0 < k) (hkn : k ≠ 9) (hkq : k < q) (hx : bs[a + k]? = some x) (hhit : firstIdx lowB ((bs.drop a).take q) = (k : Int)) (hf : ¬ ((k = 9 ∧ 1 < x.toNat) ∨ (0 < k ∧ x.toNat = 0))) : Calls Try.prog 37 #[.agg #[.slice (some ad) (a + m) (a + cm), .int .i64 (a : Int), .int .i64 0]] w fun e w' => e = .returned (.tuple #[.agg #[.slice (some ad) (a + m) (a + cm), .int .i64 ((a : Int) + ((k : Int) + 1)), .int .i64 0], .int .u64 ((valB (natB ((bs.drop a).take (k + 1))) : Nat) : Int)]) ∧ Below w.heap.size w w' := by
  have HF := Lib.hid hhit; clear hhit
  have hq10 : q ≤ 10 := by rw [hq]; split <;> omega
  have hcm : ¬ cm = 0 := by omega
  have hqm : q ≤ m := by rw [hq]; split <;> omega
  have HQR := Lib.hid (show Reads w B 1 (some (ad.add a)) q (byteCells ((bs.drop a).take q)) from by
    have h := (hr.sufB (k := a) (cap := a + cm) (by omega) (by omega)).preB (k := q) (by omega)
    rw [if_neg (by omega), Option.map_some] at h
    exact h)
  clear hr
  obtain ⟨ad', had⟩ : ∃ ad', ad.add a = ad' := ⟨_, rfl⟩
  rw [had] at HQR
  have hx' : ((bs.drop a).take q)[k]? = some x := by rw [List.getElem?_take, if_pos hkq, List.getElem?_drop]; exact hx
  have HX := Lib.hid hx'
  have HQ1 := Lib.hid (show Reads w B 1 (some ad') (k + 1) (byteCells ((bs.drop a).take (k + 1))) from by
    have h := HQR.out.preB (k := k + 1) (by omega)
    rw [List.take_take, Nat.min_eq_left (by omega)] at h
    exact h)
  have HACC := Lib.hid (show accB (upto (backF (List.take (k + 1) (List.drop a bs)) (k + 1)) (k + 1)) = valB (natB (List.take (k + 1) (List.drop a bs))) from by
    have hxd : (bs.drop a)[k]? = some x := by rw [List.getElem?_drop]; exact hx
    have hld := (List.getElem?_eq_some_iff.1 hxd).1
    have hv := val_lt (bs.drop a) k x (by omega) hxd hf
    have h := accB_back ((bs.drop a).take (k + 1)) (k + 1) (by rw [List.length_take]; omega) (by rw [List.take_take, Nat.min_self]; exact hv)
    rw [List.take_take, Nat.min_self] at h
    exact h)
  clear hx hx'
  have hxl := x.toNat_lt
  have b9 : ((k : Int) == 9) = false := by rw [beq_eq_false_iff_ne]; omega
  have hk0 : 0 < k := hkk
  have bz : ((x.toNat : Int) == 0) = false := by rw [beq_eq_false_iff_ne]; omega
  have i1 : (0 : Int) ≤ (k : Int) := by omega
  have hk10 : k ≤ 9 := by omega
  clear hf hkk hkn
  subst h10
  obtain rfl : q = 10 := by rw [hq]; rfl
  clear hq
  refine (callsIn_wide (n := 5)).1 ?_
  refine callsIn_of_wp_marks Try.func37 rfl trivial ?_ rfl
  simp only [Try.ntmps37, List.size_toArray, List.length_cons, List.length_nil, Nat.reduceAdd, Nat.reduceSub, Array.replicate_succ, Array.replicate_zero, List.push_toArray, List.append_toArray, List.nil_append, List.cons_append]
  gi_wp2_with fail
  refine ⟨trivial, ?_⟩
  refine (callsIn_wide.2 (right_yes (some ad) _ (a + cm) a _ (by omega) (by omega))).mono ?_
  rintro e w1 ⟨rfl, hb⟩
  have C1 := Lib.hid ((Cu.start w #[.slice (some ad) _ (a + cm), .int .i64 a, .int .i64 0] #[.slice none 0 0, .int .i64 0, .int .i64 0]).next hb)
  clear hb
  obtain ⟨k0, k1, k2, r0, r1, r2, f0, f1, f2, g0, g1, g2⟩ := C1.out.cells
  gi_wp2_with fail
  refine ⟨trivial, ?_⟩
  refine (callsIn_wide.2 (IndexFuncB_at (some ad') _ cm B _ _ (k : Int) HF.out (C1.out.reads HQR.out hB) (by omega))).mono ?_
  rintro e w2 ⟨rfl, rfl⟩
  obtain ⟨_, _, E, _, hy, hck⟩ := (C1.out.reads HQR.out hB).byte_at hkq
  cases E
  rw [HX.out] at hy
  cases hy
  gi_wp2_with fail
  refine ⟨trivial, ?_⟩
  refine (callsIn_wide.2 (Backward_c (some ad') (k + 1) cm _)).mono ?_
  rintro e w3 ⟨rfl, rfl⟩
  gi_wp2_with fail
  have bN := Boxed.new w1 42 (.int .u64 0)
  have bS := Boxed.new (w1.alloc (.cells #[.int .u64 0] 42)) 37 (.slice (some ad') (k + 1) cm)
  rw [World.size_alloc] at bS
  have hB0 : Below w1.heap.size w1 ((w1.alloc (.cells #[.int .u64 0] 42)).alloc (.cells #[.slice (some ad') (k + 1) cm] 37)) := ((Below.refl _ w1).alloc (Nat.le_refl _) _).alloc (by simp) _
  have hsB : B ≤ w1.heap.size := Nat.le_trans hB C1.out.size
  clear k0 k1 k2 r0 r1 r2 f0 f1 f2 g0 g1 g2
  refine wpIn_rangeFunc_ownF rfl (by omega) (gf := 52) (lb := #[.pointer (some ⟨w1.heap.size + 1, 0, none⟩)]) rfl trivial (enters_of Try.func52 (by kernel_rfl) rfl)
    (back_stops Fence.wide 4 trivial rfl (by omega) (w1.heap.size + 1) w1.heap.size (some ad') (k + 1) cm ((bs.drop a).take (k + 1)) (by omega) _ (by simp) (by simp; omega) bS.cell ((((C1.out.reads HQ1.out hB).more hsB)).below hB0)) kpB_t (kpB_b (by simp; omega) (by simp)) (Below.refl _ _) (fun _ => rfl)
    (fun pre W => (W.cell? ⟨w1.heap.size, 0, none⟩ = some (.int .u64 (accB pre : Int)) ∧ W.frozen? ⟨w1.heap.size, 0, none⟩ = false) ∧ Below w1.heap.size w1 W)
    (fun _ _ _ => False)
    (OwnFrom.and (Own.from (fun s A B row hs hg hr => ⟨cell_kept hs.1 hg hr, (frozen_kept hs.1 hg hr).trans hs.2⟩) _) (ownFrom_below (Nat.le_refl _) (by simp; omega)))
    (fun _ _ _ _ _ hs _ _ => hs)
    ⟨⟨(bN.alloc _).cell, (bN.alloc _).frozen⟩, hB0⟩
    ?a1 ?assign ?body ?done ?stop
  case assign =>
    intro l x W K hK
    unfold encB
    gi_wp2
    exact hK
  case body =>
    rintro l pre x' W ⟨⟨hc, hfz⟩, hB'⟩ hlt
    have hor := or_step (accB pre) x'.2.toNat (accB_lt pre)
    have hal := accB_lt pre
    gi_wp2
    have hsn : ((accB (pre ++ [x']) : Nat) : Int) = (accB pre : Int) * 128 % 18446744073709551616 + (x'.2.toNat : Int) % 128 := by rw [accB_snoc]; omega
    exact ⟨KeepsOthers.setCell _ _ _, ⟨(Below.refl _ W).setCell (p := ⟨w1.heap.size, 0, none⟩) (Nat.le_refl _) _, World.cell?_setCell_other W ⟨w1.heap.size, 0, none⟩ ⟨w1.heap.size + 1, 0, none⟩ _ (by simp)⟩, ⟨by rw [hsn]; exact World.cell?_setCell_same' _ _ _ (by rw [hc]; rfl), by rw [World.frozen?_setCell]; exact hfz⟩, hB'.setCell (p := ⟨w1.heap.size, 0, none⟩) (Nat.le_refl _) _⟩
  case done =>
    rintro D ys W hD rfl ⟨⟨hc, hfz⟩, hB'⟩ hK
    have C2 := Lib.hid (C1.out.next hB')
    obtain ⟨k0, k1, k2, r0, r1, r2, f0, f1, f2, g0, g1, g2⟩ := C2.out.cells
    have hg1 := C1.out.1.lt
    have hg2 := C1.out.2.1.lt
    have hD' : w1.heap.size + 2 ≤ D := by simpa using hD
    gi_wp2
    gi_region
    all_goals
      gi_wp2
      have hBR : Blk ((((W.setCell ⟨w.heap.size, 1, none⟩ (.int .i64 ((a : Int) + ((k : Int) + 1)))).setCell ⟨w.heap.size + 1, 0, none⟩ (.slice (some ad) (a + 10) (a + cm))).setCell ⟨w.heap.size + 1, 1, none⟩ (.int .i64 ((a : Int) + ((k : Int) + 1)))).setCell ⟨w.heap.size + 1, 2, none⟩ (.int .i64 0)).drew (w.heap.size + 1) 70 #[.slice (some ad) (a + 10) (a + cm), .int .i64 ((a : Int) + ((k : Int) + 1)), .int .i64 0] :=
        (((((C2.out.2.1.far (p := ⟨w.heap.size, 1, none⟩) (by simp) _).set_ 0 _).set_ 1 _).set_ 2 _).drew)
      have hBW : Below w.heap.size w ((((W.setCell ⟨w.heap.size, 1, none⟩ (.int .i64 ((a : Int) + ((k : Int) + 1)))).setCell ⟨w.heap.size + 1, 0, none⟩ (.slice (some ad) (a + 10) (a + cm))).setCell ⟨w.heap.size + 1, 1, none⟩ (.int .i64 ((a : Int) + ((k : Int) + 1)))).setCell ⟨w.heap.size + 1, 2, none⟩ (.int .i64 0)).drew :=
        ((((C2.out.2.2.setCell (by simp) _).setCell (by simp) _).setCell (by simp) _).setCell (by simp) _).drew
      have hK' : ((((W.setCell ⟨w.heap.size, 1, none⟩ (.int .i64 ((a : Int) + ((k : Int) + 1)))).setCell ⟨w.heap.size + 1, 0, none⟩ (.slice (some ad) (a + 10) (a + cm))).setCell ⟨w.heap.size + 1, 1, none⟩ (.int .i64 ((a : Int) + ((k : Int) + 1)))).setCell ⟨w.heap.size + 1, 2, none⟩ (.int .i64 0)).drew.heap[D]? = some (.deferred (some [])) :=
        (Below.heap_setCell _ _ _ D (by simp; omega)).trans ((Below.heap_setCell _ _ _ D (by simp; omega)).trans ((Below.heap_setCell _ _ _ D (by simp; omega)).trans ((Below.heap_setCell _ _ _ D (by simp; omega)).trans hK)))
      refine ⟨by simp, .inl ⟨_, _, rfl, run_takeDeferred hK', ?_⟩⟩
      generalize ((((W.setCell ⟨w.heap.size, 1, none⟩ (.int .i64 ((a : Int) + ((k : Int) + 1)))).setCell ⟨w.heap.size + 1, 0, none⟩ (.slice (some ad) (a + 10) (a + cm))).setCell ⟨w.heap.size + 1, 1, none⟩ (.int .i64 ((a : Int) + ((k : Int) + 1)))).setCell ⟨w.heap.size + 1, 2, none⟩ (.int .i64 0)).drew = W4 at *
      have hBz := belowK_b (n₀ := w1.heap.size) (w := w1) (Nat.le_refl _) W4 D (.deferred (some [])) (.deferred none) (by omega) hK' rfl rfl
      have hBR2 := hBR.below hBz hg2
      have q0 := hBR2.cell 0
      have q1 := hBR2.cell 1
      have q2 := hBR2.cell 2
      simp only [List.getElem?_toArray, List.getElem?_cons_zero, List.getElem?_cons_succ] at q0 q1 q2
      refine ⟨.tuple #[.agg #[.slice (some ad) (a + 10) (a + cm), .int .i64 ((a : Int) + ((k : Int) + 1)), .int .i64 0], .int .u64 ((accB (upto (backF (List.take (k + 1) (List.drop a bs)) (k + 1)) (k + 1)) : Nat) : Int)], ?_, ?_, hBW.trans (hBz.mono C1.out.size)⟩
      · simp [results, Try.results37, go_sem, q0, q1, q2]
      · rw [HACC.out]
  case stop =>
    rintro D c pre W _ _ h _
    exact h.elim

set_option maxRecDepth 100000 in
set_option maxHeartbeats 4000000 in
theorem Uint_eqn (ad : Addr) (a m cm : Nat) (bs : List UInt8) (B : Nat) (w : World) (hr : Reads w B 1 (some ad) (a + m) (byteCells bs)) (hB : B ≤ w.heap.size) (hmc : m ≤ cm) (h0 : 0 < m) (hm : m ≤ 10000) (hcx : a + cm ≤ 9223372036854775807) (q : Nat) (hq : q = if m < 10 then m else 10) (h10 : m = 10) (k : Nat) (x : UInt8) (hkk : k = 9) (hkq : k < q) (hx : bs[a + k]? = some x) (hhit : firstIdx lowB ((bs.drop a).take q) = (k : Int)) (hf : ¬ ((k = 9 ∧ 1 < x.toNat) ∨ (0 < k ∧ x.toNat = 0))) : Calls Try.prog 37 #[.agg #[.slice (some ad) (a + m) (a + cm), .int .i64 (a : Int), .int .i64 0]] w fun e w' => e = .returned (.tuple #[.agg #[.slice (some ad) (a + m) (a + cm), .int .i64 ((a : Int) + ((k : Int) + 1)), .int .i64 0], .int .u64 ((valB (natB ((bs.drop a).take (k + 1))) : Nat) : Int)]) ∧ Below w.heap.size w w' := by
  have HF := Lib.hid hhit; clear hhit
  have hq10 : q ≤ 10 := by rw [hq]; split <;> omega
  have hcm : ¬ cm = 0 := by omega
  have hqm : q ≤ m := by rw [hq]; split <;> omega
  have HQR := Lib.hid (show Reads w B 1 (some (ad.add a)) q (byteCells ((bs.drop a).take q)) from by
    have h := (hr.sufB (k := a) (cap := a + cm) (by omega) (by omega)).preB (k := q) (by omega)
    rw [if_neg (by omega), Option.map_some] at h
    exact h)
  clear hr
  obtain ⟨ad', had⟩ : ∃ ad', ad.add a = ad' := ⟨_, rfl⟩
  rw [had] at HQR
  have hx' : ((bs.drop a).take q)[k]? = some x := by rw [List.getElem?_take, if_pos hkq, List.getElem?_drop]; exact hx
  have HX := Lib.hid hx'
  have HQ1 := Lib.hid (show Reads w B 1 (some ad') (k + 1) (byteCells ((bs.drop a).take (k + 1))) from by
    have h := HQR.out.preB (k := k + 1) (by omega)
    rw [List.take_take, Nat.min_eq_left (by omega)] at h
    exact h)
  have HACC := Lib.hid (show accB (upto (backF (List.take (k + 1) (List.drop a bs)) (k + 1)) (k + 1)) = valB (natB (List.take (k + 1) (List.drop a bs))) from by
    have hxd : (bs.drop a)[k]? = some x := by rw [List.getElem?_drop]; exact hx
    have hld := (List.getElem?_eq_some_iff.1 hxd).1
    have hv := val_lt (bs.drop a) k x (by omega) hxd hf
    have h := accB_back ((bs.drop a).take (k + 1)) (k + 1) (by rw [List.length_take]; omega) (by rw [List.take_take, Nat.min_self]; exact hv)
    rw [List.take_take, Nat.min_self] at h
    exact h)
  clear hx hx'
  have hxl := x.toNat_lt
  have b9 : ((k : Int) == 9) = true := by rw [beq_iff_eq]; omega
  have hk0 : 0 < k := by omega
  have bx : decide ((1 : Int) < (x.toNat : Int)) = false := by simp; omega
  have bz : ((x.toNat : Int) == 0) = false := by rw [beq_eq_false_iff_ne]; omega
  have i1 : (0 : Int) ≤ (k : Int) := by omega
  have hk10 : k ≤ 9 := by omega
  clear hf hkk
  subst h10
  obtain rfl : q = 10 := by rw [hq]; rfl
  clear hq
  refine (callsIn_wide (n := 5)).1 ?_
  refine callsIn_of_wp_marks Try.func37 rfl trivial ?_ rfl
  simp only [Try.ntmps37, List.size_toArray, List.length_cons, List.length_nil, Nat.reduceAdd, Nat.reduceSub, Array.replicate_succ, Array.replicate_zero, List.push_toArray, List.append_toArray, List.nil_append, List.cons_append]
  gi_wp2_with fail
  refine ⟨trivial, ?_⟩
  refine (callsIn_wide.2 (right_yes (some ad) _ (a + cm) a _ (by omega) (by omega))).mono ?_
  rintro e w1 ⟨rfl, hb⟩
  have C1 := Lib.hid ((Cu.start w #[.slice (some ad) _ (a + cm), .int .i64 a, .int .i64 0] #[.slice none 0 0, .int .i64 0, .int .i64 0]).next hb)
  clear hb
  obtain ⟨k0, k1, k2, r0, r1, r2, f0, f1, f2, g0, g1, g2⟩ := C1.out.cells
  gi_wp2_with fail
  refine ⟨trivial, ?_⟩
  refine (callsIn_wide.2 (IndexFuncB_at (some ad') _ cm B _ _ (k : Int) HF.out (C1.out.reads HQR.out hB) (by omega))).mono ?_
  rintro e w2 ⟨rfl, rfl⟩
  obtain ⟨_, _, E, _, hy, hck⟩ := (C1.out.reads HQR.out hB).byte_at hkq
  cases E
  rw [HX.out] at hy
  cases hy
  gi_wp2_with fail
  refine ⟨trivial, ?_⟩
  refine (callsIn_wide.2 (Backward_c (some ad') (k + 1) cm _)).mono ?_
  rintro e w3 ⟨rfl, rfl⟩
  gi_wp2_with fail
  have bN := Boxed.new w1 42 (.int .u64 0)
  have bS := Boxed.new (w1.alloc (.cells #[.int .u64 0] 42)) 37 (.slice (some ad') (k + 1) cm)
  rw [World.size_alloc] at bS
  have hB0 : Below w1.heap.size w1 ((w1.alloc (.cells #[.int .u64 0] 42)).alloc (.cells #[.slice (some ad') (k + 1) cm] 37)) := ((Below.refl _ w1).alloc (Nat.le_refl _) _).alloc (by simp) _
  have hsB : B ≤ w1.heap.size := Nat.le_trans hB C1.out.size
  clear k0 k1 k2 r0 r1 r2 f0 f1 f2 g0 g1 g2
  refine wpIn_rangeFunc_ownF rfl (by omega) (gf := 52) (lb := #[.pointer (some ⟨w1.heap.size + 1, 0, none⟩)]) rfl trivial (enters_of Try.func52 (by kernel_rfl) rfl)
    (back_stops Fence.wide 4 trivial rfl (by omega) (w1.heap.size + 1) w1.heap.size (some ad') (k + 1) cm ((bs.drop a).take (k + 1)) (by omega) _ (by simp) (by simp; omega) bS.cell ((((C1.out.reads HQ1.out hB).more hsB)).below hB0)) kpB_t (kpB_b (by simp; omega) (by simp)) (Below.refl _ _) (fun _ => rfl)
    (fun pre W => (W.cell? ⟨w1.heap.size, 0, none⟩ = some (.int .u64 (accB pre : Int)) ∧ W.frozen? ⟨w1.heap.size, 0, none⟩ = false) ∧ Below w1.heap.size w1 W)
    (fun _ _ _ => False)
    (OwnFrom.and (Own.from (fun s A B row hs hg hr => ⟨cell_kept hs.1 hg hr, (frozen_kept hs.1 hg hr).trans hs.2⟩) _) (ownFrom_below (Nat.le_refl _) (by simp; omega)))
    (fun _ _ _ _ _ hs _ _ => hs)
    ⟨⟨(bN.alloc _).cell, (bN.alloc _).frozen⟩, hB0⟩
    ?a1 ?assign ?body ?done ?stop
  case assign =>
    intro l x W K hK
    unfold encB
    gi_wp2
    exact hK
  case body =>
    rintro l pre x' W ⟨⟨hc, hfz⟩, hB'⟩ hlt
    have hor := or_step (accB pre) x'.2.toNat (accB_lt pre)
    have hal := accB_lt pre
    gi_wp2
    have hsn : ((accB (pre ++ [x']) : Nat) : Int) = (accB pre : Int) * 128 % 18446744073709551616 + (x'.2.toNat : Int) % 128 := by rw [accB_snoc]; omega
    exact ⟨KeepsOthers.setCell _ _ _, ⟨(Below.refl _ W).setCell (p := ⟨w1.heap.size, 0, none⟩) (Nat.le_refl _) _, World.cell?_setCell_other W ⟨w1.heap.size, 0, none⟩ ⟨w1.heap.size + 1, 0, none⟩ _ (by simp)⟩, ⟨by rw [hsn]; exact World.cell?_setCell_same' _ _ _ (by rw [hc]; rfl), by rw [World.frozen?_setCell]; exact hfz⟩, hB'.setCell (p := ⟨w1.heap.size, 0, none⟩) (Nat.le_refl _) _⟩
  case done =>
    rintro D ys W hD rfl ⟨⟨hc, hfz⟩, hB'⟩ hK
    have C2 := Lib.hid (C1.out.next hB')
    obtain ⟨k0, k1, k2, r0, r1, r2, f0, f1, f2, g0, g1, g2⟩ := C2.out.cells
    have hg1 := C1.out.1.lt
    have hg2 := C1.out.2.1.lt
    have hD' : w1.heap.size + 2 ≤ D := by simpa using hD
    gi_wp2
    gi_region
    all_goals
      gi_wp2
      have hBR : Blk ((((W.setCell ⟨w.heap.size, 1, none⟩ (.int .i64 ((a : Int) + ((k : Int) + 1)))).setCell ⟨w.heap.size + 1, 0, none⟩ (.slice (some ad) (a + 10) (a + cm))).setCell ⟨w.heap.size + 1, 1, none⟩ (.int .i64 ((a : Int) + ((k : Int) + 1)))).setCell ⟨w.heap.size + 1, 2, none⟩ (.int .i64 0)).drew (w.heap.size + 1) 70 #[.slice (some ad) (a + 10) (a + cm), .int .i64 ((a : Int) + ((k : Int) + 1)), .int .i64 0] :=
        (((((C2.out.2.1.far (p := ⟨w.heap.size, 1, none⟩) (by simp) _).set_ 0 _).set_ 1 _).set_ 2 _).drew)
      have hBW : Below w.heap.size w ((((W.setCell ⟨w.heap.size, 1, none⟩ (.int .i64 ((a : Int) + ((k : Int) + 1)))).setCell ⟨w.heap.size + 1, 0, none⟩ (.slice (some ad) (a + 10) (a + cm))).setCell ⟨w.heap.size + 1, 1, none⟩ (.int .i64 ((a : Int) + ((k : Int) + 1)))).setCell ⟨w.heap.size + 1, 2, none⟩ (.int .i64 0)).drew :=
        ((((C2.out.2.2.setCell (by simp) _).setCell (by simp) _).setCell (by simp) _).setCell (by simp) _).drew
      have hK' : ((((W.setCell ⟨w.heap.size, 1, none⟩ (.int .i64 ((a : Int) + ((k : Int) + 1)))).setCell ⟨w.heap.size + 1, 0, none⟩ (.slice (some ad) (a + 10) (a + cm))).setCell ⟨w.heap.size + 1, 1, none⟩ (.int .i64 ((a : Int) + ((k : Int) + 1)))).setCell ⟨w.heap.size + 1, 2, none⟩ (.int .i64 0)).drew.heap[D]? = some (.deferred (some [])) :=
        (Below.heap_setCell _ _ _ D (by simp; omega)).trans ((Below.heap_setCell _ _ _ D (by simp; omega)).trans ((Below.heap_setCell _ _ _ D (by simp; omega)).trans ((Below.heap_setCell _ _ _ D (by simp; omega)).trans hK)))
      refine ⟨by simp, .inl ⟨_, _, rfl, run_takeDeferred hK', ?_⟩⟩
      generalize ((((W.setCell ⟨w.heap.size, 1, none⟩ (.int .i64 ((a : Int) + ((k : Int) + 1)))).setCell ⟨w.heap.size + 1, 0, none⟩ (.slice (some ad) (a + 10) (a + cm))).setCell ⟨w.heap.size + 1, 1, none⟩ (.int .i64 ((a : Int) + ((k : Int) + 1)))).setCell ⟨w.heap.size + 1, 2, none⟩ (.int .i64 0)).drew = W4 at *
      have hBz := belowK_b (n₀ := w1.heap.size) (w := w1) (Nat.le_refl _) W4 D (.deferred (some [])) (.deferred none) (by omega) hK' rfl rfl
      have hBR2 := hBR.below hBz hg2
      have q0 := hBR2.cell 0
      have q1 := hBR2.cell 1
      have q2 := hBR2.cell 2
      simp only [List.getElem?_toArray, List.getElem?_cons_zero, List.getElem?_cons_succ] at q0 q1 q2
      refine ⟨.tuple #[.agg #[.slice (some ad) (a + 10) (a + cm), .int .i64 ((a : Int) + ((k : Int) + 1)), .int .i64 0], .int .u64 ((accB (upto (backF (List.take (k + 1) (List.drop a bs)) (k + 1)) (k + 1)) : Nat) : Int)], ?_, ?_, hBW.trans (hBz.mono C1.out.size)⟩
      · simp [results, Try.results37, go_sem, q0, q1, q2]
      · rw [HACC.out]
  case stop =>
    rintro D c pre W _ _ h _
    exact h.elim

set_option maxRecDepth 100000 in
set_option maxHeartbeats 4000000 in
theorem Uint_gtz (ad : Addr) (a m cm : Nat) (bs : List UInt8) (B : Nat) (w : World) (hr : Reads w B 1 (some ad) (a + m) (byteCells bs)) (hB : B ≤ w.heap.size) (hmc : m ≤ cm) (h0 : 0 < m) (hm : m ≤ 10000) (hcx : a + cm ≤ 9223372036854775807) (q : Nat) (hq : q = if m < 10 then m else 10) (h10 : 10 < m) (k : Nat) (x : UInt8) (hkk : k = 0) (hkq : k < q) (hx : bs[a + k]? = some x) (hhit : firstIdx lowB ((bs.drop a).take q) = (k : Int)) (hf : ¬ ((k = 9 ∧ 1 < x.toNat) ∨ (0 < k ∧ x.toNat = 0))) : Calls Try.prog 37 #[.agg #[.slice (some ad) (a + m) (a + cm), .int .i64 (a : Int), .int .i64 0]] w fun e w' => e = .returned (.tuple #[.agg #[.slice (some ad) (a + m) (a + cm), .int .i64 ((a : Int) + ((k : Int) + 1)), .int .i64 0], .int .u64 ((valB (natB ((bs.drop a).take (k + 1))) : Nat) : Int)]) ∧ Below w.heap.size w w' := by
  have HF := Lib.hid hhit; clear hhit
  have hq10 : q ≤ 10 := by rw [hq]; split <;> omega
  have hcm : ¬ cm = 0 := by omega
  have hqm : q ≤ m := by rw [hq]; split <;> omega
  have HQR := Lib.hid (show Reads w B 1 (some (ad.add a)) q (byteCells ((bs.drop a).take q)) from by
    have h := (hr.sufB (k := a) (cap := a + cm) (by omega) (by omega)).preB (k := q) (by omega)
    rw [if_neg (by omega), Option.map_some] at h
    exact h)
  clear hr
  obtain ⟨ad', had⟩ : ∃ ad', ad.add a = ad' := ⟨_, rfl⟩
  rw [had] at HQR
  have hx' : ((bs.drop a).take q)[k]? = some x := by rw [List.getElem?_take, if_pos hkq, List.getElem?_drop]; exact hx
  have HX := Lib.hid hx'
  have HQ1 := Lib.hid (show Reads w B 1 (some ad') (k + 1) (byteCells ((bs.drop a).take (k + 1))) from by
    have h := HQR.out.preB (k := k + 1) (by omega)
    rw [List.take_take, Nat.min_eq_left (by omega)] at h
    exact h)
  have HACC := Lib.hid (show accB (upto (backF (List.take (k + 1) (List.drop a bs)) (k + 1)) (k + 1)) = valB (natB (List.take (k + 1) (List.drop a bs))) from by
    have hxd : (bs.drop a)[k]? = some x := by rw [List.getElem?_drop]; exact hx
    have hld := (List.getElem?_eq_some_iff.1 hxd).1
    have hv := val_lt (bs.drop a) k x (by omega) hxd hf
    have h := accB_back ((bs.drop a).take (k + 1)) (k + 1) (by rw [List.length_take]; omega) (by rw [List.take_take, Nat.min_self]; exact hv)
    rw [List.take_take, Nat.min_self] at h
    exact h)
  clear hx hx'
  have hxl := x.toNat_lt
  have b9 : ((k : Int) == 9) = false := by rw [beq_eq_false_iff_ne]; omega
  have hk0 : ¬ 0 < k := by omega
  have i1 : (0 : Int) ≤ (k : Int) := by omega
  have hk10 : k ≤ 9 := by omega
  clear hf hkk
  obtain rfl : q = 10 := by rw [hq, if_neg (by omega)]
  clear hq
  refine (callsIn_wide (n := 5)).1 ?_
  refine callsIn_of_wp_marks Try.func37 rfl trivial ?_ rfl
  simp only [Try.ntmps37, List.size_toArray, List.length_cons, List.length_nil, Nat.reduceAdd, Nat.reduceSub, Array.replicate_succ, Array.replicate_zero, List.push_toArray, List.append_toArray, List.nil_append, List.cons_append]
  gi_wp2_with fail
  refine ⟨trivial, ?_⟩
  refine (callsIn_wide.2 (right_yes (some ad) _ (a + cm) a _ (by omega) (by omega))).mono ?_
  rintro e w1 ⟨rfl, hb⟩
  have C1 := Lib.hid ((Cu.start w #[.slice (some ad) _ (a + cm), .int .i64 a, .int .i64 0] #[.slice none 0 0, .int .i64 0, .int .i64 0]).next hb)
  clear hb
  obtain ⟨k0, k1, k2, r0, r1, r2, f0, f1, f2, g0, g1, g2⟩ := C1.out.cells
  gi_wp2_with fail
  refine ⟨trivial, ?_⟩
  refine (callsIn_wide.2 (IndexFuncB_at (some ad') _ cm B _ _ (k : Int) HF.out (C1.out.reads HQR.out hB) (by omega))).mono ?_
  rintro e w2 ⟨rfl, rfl⟩
  obtain ⟨_, _, E, _, hy, hck⟩ := (C1.out.reads HQR.out hB).byte_at hkq
  cases E
  rw [HX.out] at hy
  cases hy
  gi_wp2_with fail
  refine ⟨trivial, ?_⟩
  refine (callsIn_wide.2 (Backward_c (some ad') (k + 1) cm _)).mono ?_
  rintro e w3 ⟨rfl, rfl⟩
  gi_wp2_with fail
  have bN := Boxed.new w1 42 (.int .u64 0)
  have bS := Boxed.new (w1.alloc (.cells #[.int .u64 0] 42)) 37 (.slice (some ad') (k + 1) cm)
  rw [World.size_alloc] at bS
  have hB0 : Below w1.heap.size w1 ((w1.alloc (.cells #[.int .u64 0] 42)).alloc (.cells #[.slice (some ad') (k + 1) cm] 37)) := ((Below.refl _ w1).alloc (Nat.le_refl _) _).alloc (by simp) _
  have hsB : B ≤ w1.heap.size := Nat.le_trans hB C1.out.size
  clear k0 k1 k2 r0 r1 r2 f0 f1 f2 g0 g1 g2
  refine wpIn_rangeFunc_ownF rfl (by omega) (gf := 52) (lb := #[.pointer (some ⟨w1.heap.size + 1, 0, none⟩)]) rfl trivial (enters_of Try.func52 (by kernel_rfl) rfl)
    (back_stops Fence.wide 4 trivial rfl (by omega) (w1.heap.size + 1) w1.heap.size (some ad') (k + 1) cm ((bs.drop a).take (k + 1)) (by omega) _ (by simp) (by simp; omega) bS.cell ((((C1.out.reads HQ1.out hB).more hsB)).below hB0)) kpB_t (kpB_b (by simp; omega) (by simp)) (Below.refl _ _) (fun _ => rfl)
    (fun pre W => (W.cell? ⟨w1.heap.size, 0, none⟩ = some (.int .u64 (accB pre : Int)) ∧ W.frozen? ⟨w1.heap.size, 0, none⟩ = false) ∧ Below w1.heap.size w1 W)
    (fun _ _ _ => False)
    (OwnFrom.and (Own.from (fun s A B row hs hg hr => ⟨cell_kept hs.1 hg hr, (frozen_kept hs.1 hg hr).trans hs.2⟩) _) (ownFrom_below (Nat.le_refl _) (by simp; omega)))
    (fun _ _ _ _ _ hs _ _ => hs)
    ⟨⟨(bN.alloc _).cell, (bN.alloc _).frozen⟩, hB0⟩
    ?a1 ?assign ?body ?done ?stop
  case assign =>
    intro l x W K hK
    unfold encB
    gi_wp2
    exact hK
  case body =>
    rintro l pre x' W ⟨⟨hc, hfz⟩, hB'⟩ hlt
    have hor := or_step (accB pre) x'.2.toNat (accB_lt pre)
    have hal := accB_lt pre
    gi_wp2
    have hsn : ((accB (pre ++ [x']) : Nat) : Int) = (accB pre : Int) * 128 % 18446744073709551616 + (x'.2.toNat : Int) % 128 := by rw [accB_snoc]; omega
    exact ⟨KeepsOthers.setCell _ _ _, ⟨(Below.refl _ W).setCell (p := ⟨w1.heap.size, 0, none⟩) (Nat.le_refl _) _, World.cell?_setCell_other W ⟨w1.heap.size, 0, none⟩ ⟨w1.heap.size + 1, 0, none⟩ _ (by simp)⟩, ⟨by rw [hsn]; exact World.cell?_setCell_same' _ _ _ (by rw [hc]; rfl), by rw [World.frozen?_setCell]; exact hfz⟩, hB'.setCell (p := ⟨w1.heap.size, 0, none⟩) (Nat.le_refl _) _⟩
  case done =>
    rintro D ys W hD rfl ⟨⟨hc, hfz⟩, hB'⟩ hK
    have C2 := Lib.hid (C1.out.next hB')
    obtain ⟨k0, k1, k2, r0, r1, r2, f0, f1, f2, g0, g1, g2⟩ := C2.out.cells
    have hg1 := C1.out.1.lt
    have hg2 := C1.out.2.1.lt
    have hD' : w1.heap.size + 2 ≤ D := by simpa using hD
    gi_wp2
    gi_region
    all_goals
      gi_wp2
      have hBR : Blk ((((W.setCell ⟨w.heap.size, 1, none⟩ (.int .i64 ((a : Int) + ((k : Int) + 1)))).setCell ⟨w.heap.size + 1, 0, none⟩ (.slice (some ad) (a + m) (a + cm))).setCell ⟨w.heap.size + 1, 1, none⟩ (.int .i64 ((a : Int) + ((k : Int) + 1)))).setCell ⟨w.heap.size + 1, 2, none⟩ (.int .i64 0)).drew (w.heap.size + 1) 70 #[.slice (some ad) (a + m) (a + cm), .int .i64 ((a : Int) + ((k : Int) + 1)), .int .i64 0] :=
        (((((C2.out.2.1.far (p := ⟨w.heap.size, 1, none⟩) (by simp) _).set_ 0 _).set_ 1 _).set_ 2 _).drew)
      have hBW : Below w.heap.size w ((((W.setCell ⟨w.heap.size, 1, none⟩ (.int .i64 ((a : Int) + ((k : Int) + 1)))).setCell ⟨w.heap.size + 1, 0, none⟩ (.slice (some ad) (a + m) (a + cm))).setCell ⟨w.heap.size + 1, 1, none⟩ (.int .i64 ((a : Int) + ((k : Int) + 1)))).setCell ⟨w.heap.size + 1, 2, none⟩ (.int .i64 0)).drew :=
        ((((C2.out.2.2.setCell (by simp) _).setCell (by simp) _).setCell (by simp) _).setCell (by simp) _).drew
      have hK' : ((((W.setCell ⟨w.heap.size, 1, none⟩ (.int .i64 ((a : Int) + ((k : Int) + 1)))).setCell ⟨w.heap.size + 1, 0, none⟩ (.slice (some ad) (a + m) (a + cm))).setCell ⟨w.heap.size + 1, 1, none⟩ (.int .i64 ((a : Int) + ((k : Int) + 1)))).setCell ⟨w.heap.size + 1, 2, none⟩ (.int .i64 0)).drew.heap[D]? = some (.deferred (some [])) :=
        (Below.heap_setCell _ _ _ D (by simp; omega)).trans ((Below.heap_setCell _ _ _ D (by simp; omega)).trans ((Below.heap_setCell _ _ _ D (by simp; omega)).trans ((Below.heap_setCell _ _ _ D (by simp; omega)).trans hK)))
      refine ⟨by simp, .inl ⟨_, _, rfl, run_takeDeferred hK', ?_⟩⟩
      generalize ((((W.setCell ⟨w.heap.size, 1, none⟩ (.int .i64 ((a : Int) + ((k : Int) + 1)))).setCell ⟨w.heap.size + 1, 0, none⟩ (.slice (some ad) (a + m) (a + cm))).setCell ⟨w.heap.size + 1, 1, none⟩ (.int .i64 ((a : Int) + ((k : Int) + 1)))).setCell ⟨w.heap.size + 1, 2, none⟩ (.int .i64 0)).drew = W4 at *
      have hBz := belowK_b (n₀ := w1.heap.size) (w := w1) (Nat.le_refl _) W4 D (.deferred (some [])) (.deferred none) (by omega) hK' rfl rfl
      have hBR2 := hBR.below hBz hg2
      have q0 := hBR2.cell 0
      have q1 := hBR2.cell 1
      have q2 := hBR2.cell 2
      simp only [List.getElem?_toArray, List.getElem?_cons_zero, List.getElem?_cons_succ] at q0 q1 q2
      refine ⟨.tuple #[.agg #[.slice (some ad) (a + m) (a + cm), .int .i64 ((a : Int) + ((k : Int) + 1)), .int .i64 0], .int .u64 ((accB (upto (backF (List.take (k + 1) (List.drop a bs)) (k + 1)) (k + 1)) : Nat) : Int)], ?_, ?_, hBW.trans (hBz.mono C1.out.size)⟩
      · simp [results, Try.results37, go_sem, q0, q1, q2]
      · rw [HACC.out]
  case stop =>
    rintro D c pre W _ _ h _
    exact h.elim

set_option maxRecDepth 100000 in
set_option maxHeartbeats 4000000 in
theorem Uint_gtp (ad : Addr) (a m cm : Nat) (bs : List UInt8) (B : Nat) (w : World) (hr : Reads w B 1 (some ad) (a + m) (byteCells bs)) (hB : B ≤ w.heap.size) (hmc : m ≤ cm) (h0 : 0 < m) (hm : m ≤ 10000) (hcx : a + cm ≤ 9223372036854775807) (q : Nat) (hq : q = if m < 10 then m else 10) (h10 : 10 < m) (k : Nat) (x : UInt8) (hkk : 0 < k) (hkn : k ≠ 9) (hkq : k < q) (hx : bs[a + k]? = some x) (hhit : firstIdx lowB ((bs.drop a).take q) = (k : Int)) (hf : ¬ ((k = 9 ∧ 1 < x.toNat) ∨ (0 < k ∧ x.toNat = 0))) : Calls Try.prog 37 #[.agg #[.slice (some ad) (a + m) (a + cm), .int .i64 (a : Int), .int .i64 0]] w fun e w' => e = .returned (.tuple #[.agg #[.slice (some ad) (a + m) (a + cm), .int .i64 ((a : Int) + ((k : Int) + 1)), .int .i64 0], .int .u64 ((valB (natB ((bs.drop a).take (k + 1))) : Nat) : Int)]) ∧ Below w.heap.size w w' := by
  have HF := Lib.hid hhit; clear hhit
  have hq10 : q ≤ 10 := by rw [hq]; split <;> omega
  have hcm : ¬ cm = 0 := by omega
  have hqm : q ≤ m := by rw [hq]; split <;> omega
  have HQR := Lib.hid (show Reads w B 1 (some (ad.add a)) q (byteCells ((bs.drop a).take q)) from by
    have h := (hr.sufB (k := a) (cap := a + cm) (by omega) (by omega)).preB (k := q) (by omega)
    rw [if_neg (by omega), Option.map_some] at h
    exact h)
  clear hr
  obtain ⟨ad', had⟩ : ∃ ad', ad.add a = ad' := ⟨_, rfl⟩
  rw [had] at HQR
  have hx' : ((bs.drop a).take q)[k]? = some x := by rw [List.getElem?_take, if_pos hkq, List.getElem?_drop]; exact hx
  have HX := Lib.hid hx'
  have HQ1 := Lib.hid (show Reads w B 1 (some ad') (k + 1) (byteCells ((bs.drop a).take (k + 1))) from by
    have h := HQR.out.preB (k := k + 1) (by omega)
    rw [List.take_take, Nat.min_eq_left (by omega)] at h
    exact h)
  have HACC := Lib.hid (show accB (upto (backF (List.take (k + 1) (List.drop a bs)) (k + 1)) (k + 1)) = valB (natB (List.take (k + 1) (List.drop a bs))) from by
    have hxd : (bs.drop a)[k]? = some x := by rw [List.getElem?_drop]; exact hx
    have hld := (List.getElem?_eq_some_iff.1 hxd).1
    have hv := val_lt (bs.drop a) k x (by omega) hxd hf
    have h := accB_back ((bs.drop a).take (k + 1)) (k + 1) (by rw [List.length_take]; omega) (by rw [List.take_take, Nat.min_self]; exact hv)
    rw [List.take_take, Nat.min_self] at h
    exact h)
  clear hx hx'
  have hxl := x.toNat_lt
  have b9 : ((k : Int) == 9) = false := by rw [beq_eq_false_iff_ne]; omega
  have hk0 : 0 < k := hkk
  have bz : ((x.toNat : Int) == 0) = false := by rw [beq_eq_false_iff_ne]; omega
  have i1 : (0 : Int) ≤ (k : Int) := by omega
  have hk10 : k ≤ 9 := by omega
  clear hf hkk hkn
  obtain rfl : q = 10 := by rw [hq, if_neg (by omega)]
  clear hq
  refine (callsIn_wide (n := 5)).1 ?_
  refine callsIn_of_wp_marks Try.func37 rfl trivial ?_ rfl
  simp only [Try.ntmps37, List.size_toArray, List.length_cons, List.length_nil, Nat.reduceAdd, Nat.reduceSub, Array.replicate_succ, Array.replicate_zero, List.push_toArray, List.append_toArray, List.nil_append, List.cons_append]
  gi_wp2_with fail
  refine ⟨trivial, ?_⟩
  refine (callsIn_wide.2 (right_yes (some ad) _ (a + cm) a _ (by omega) (by omega))).mono ?_
  rintro e w1 ⟨rfl, hb⟩
  have C1 := Lib.hid ((Cu.start w #[.slice (some ad) _ (a + cm), .int .i64 a, .int .i64 0] #[.slice none 0 0, .int .i64 0, .int .i64 0]).next hb)
  clear hb
  obtain ⟨k0, k1, k2, r0, r1, r2, f0, f1, f2, g0, g1, g2⟩ := C1.out.cells
  gi_wp2_with fail
  refine ⟨trivial, ?_⟩
  refine (callsIn_wide.2 (IndexFuncB_at (some ad') _ cm B _ _ (k : Int) HF.out (C1.out.reads HQR.out hB) (by omega))).mono ?_
  rintro e w2 ⟨rfl, rfl⟩
  obtain ⟨_, _, E, _, hy, hck⟩ := (C1.out.reads HQR.out hB).byte_at hkq
  cases E
  rw [HX.out] at hy
  cases hy
  gi_wp2_with fail
  refine ⟨trivial, ?_⟩
  refine (callsIn_wide.2 (Backward_c (some ad') (k + 1) cm _)).mono ?_
  rintro e w3 ⟨rfl, rfl⟩
  gi_wp2_with fail
  have bN := Boxed.new w1 42 (.int .u64 0)
  have bS := Boxed.new (w1.alloc (.cells #[.int .u64 0] 42)) 37 (.slice (some ad') (k + 1) cm)
  rw [World.size_alloc] at bS
  have hB0 : Below w1.heap.size w1 ((w1.alloc (.cells #[.int .u64 0] 42)).alloc (.cells #[.slice (some ad') (k + 1) cm] 37)) := ((Below.refl _ w1).alloc (Nat.le_refl _) _).alloc (by simp) _
  have hsB : B ≤ w1.heap.size := Nat.le_trans hB C1.out.size
  clear k0 k1 k2 r0 r1 r2 f0 f1 f2 g0 g1 g2
  refine wpIn_rangeFunc_ownF rfl (by omega) (gf := 52) (lb := #[.pointer (some ⟨w1.heap.size + 1, 0, none⟩)]) rfl trivial (enters_of Try.func52 (by kernel_rfl) rfl)
    (back_stops Fence.wide 4 trivial rfl (by omega) (w1.heap.size + 1) w1.heap.size (some ad') (k + 1) cm ((bs.drop a).take (k + 1)) (by omega) _ (by simp) (by simp; omega) bS.cell ((((C1.out.reads HQ1.out hB).more hsB)).below hB0)) kpB_t (kpB_b (by simp; omega) (by simp)) (Below.refl _ _) (fun _ => rfl)
    (fun pre W => (W.cell? ⟨w1.heap.size, 0, none⟩ = some (.int .u64 (accB pre : Int)) ∧ W.frozen? ⟨w1.heap.size, 0, none⟩ = false) ∧ Below w1.heap.size w1 W)
    (fun _ _ _ => False)
    (OwnFrom.and (Own.from (fun s A B row hs hg hr => ⟨cell_kept hs.1 hg hr, (frozen_kept hs.1 hg hr).trans hs.2⟩) _) (ownFrom_below (Nat.le_refl _) (by simp; omega)))
    (fun _ _ _ _ _ hs _ _ => hs)
    ⟨⟨(bN.alloc _).cell, (bN.alloc _).frozen⟩, hB0⟩
    ?a1 ?assign ?body ?done ?stop
  case assign =>
    intro l x W K hK
    unfold encB
    gi_wp2
    exact hK
  case body =>
    rintro l pre x' W ⟨⟨hc, hfz⟩, hB'⟩ hlt
    have hor := or_step (accB pre) x'.2.toNat (accB_lt pre)
    have hal := accB_lt pre
    gi_wp2
    have hsn : ((accB (pre ++ [x']) : Nat) : Int) = (accB pre : Int) * 128 % 18446744073709551616 + (x'.2.toNat : Int) % 128 := by rw [accB_snoc]; omega
    exact ⟨KeepsOthers.setCell _ _ _, ⟨(Below.refl _ W).setCell (p := ⟨w1.heap.size, 0, none⟩) (Nat.le_refl _) _, World.cell?_setCell_other W ⟨w1.heap.size, 0, none⟩ ⟨w1.heap.size + 1, 0, none⟩ _ (by simp)⟩, ⟨by rw [hsn]; exact World.cell?_setCell_same' _ _ _ (by rw [hc]; rfl), by rw [World.frozen?_setCell]; exact hfz⟩, hB'.setCell (p := ⟨w1.heap.size, 0, none⟩) (Nat.le_refl _) _⟩
  case done =>
    rintro D ys W hD rfl ⟨⟨hc, hfz⟩, hB'⟩ hK
    have C2 := Lib.hid (C1.out.next hB')
    obtain ⟨k0, k1, k2, r0, r1, r2, f0, f1, f2, g0, g1, g2⟩ := C2.out.cells
    have hg1 := C1.out.1.lt
    have hg2 := C1.out.2.1.lt
    have hD' : w1.heap.size + 2 ≤ D := by simpa using hD
    gi_wp2
    gi_region
    all_goals
      gi_wp2
      have hBR : Blk ((((W.setCell ⟨w.heap.size, 1, none⟩ (.int .i64 ((a : Int) + ((k : Int) + 1)))).setCell ⟨w.heap.size + 1, 0, none⟩ (.slice (some ad) (a + m) (a + cm))).setCell ⟨w.heap.size + 1, 1, none⟩ (.int .i64 ((a : Int) + ((k : Int) + 1)))).setCell ⟨w.heap.size + 1, 2, none⟩ (.int .i64 0)).drew (w.heap.size + 1) 70 #[.slice (some ad) (a + m) (a + cm), .int .i64 ((a : Int) + ((k : Int) + 1)), .int .i64 0] :=
        (((((C2.out.2.1.far (p := ⟨w.heap.size, 1, none⟩) (by simp) _).set_ 0 _).set_ 1 _).set_ 2 _).drew)
      have hBW : Below w.heap.size w ((((W.setCell ⟨w.heap.size, 1, none⟩ (.int .i64 ((a : Int) + ((k : Int) + 1)))).setCell ⟨w.heap.size + 1, 0, none⟩ (.slice (some ad) (a + m) (a + cm))).setCell ⟨w.heap.size + 1, 1, none⟩ (.int .i64 ((a : Int) + ((k : Int) + 1)))).setCell ⟨w.heap.size + 1, 2, none⟩ (.int .i64 0)).drew :=
        ((((C2.out.2.2.setCell (by simp) _).setCell (by simp) _).setCell (by simp) _).setCell (by simp) _).drew
      have hK' : ((((W.setCell ⟨w.heap.size, 1, none⟩ (.int .i64 ((a : Int) + ((k : Int) + 1)))).setCell ⟨w.heap.size + 1, 0, none⟩ (.slice (some ad) (a + m) (a + cm))).setCell ⟨w.heap.size + 1, 1, none⟩ (.int .i64 ((a : Int) + ((k : Int) + 1)))).setCell ⟨w.heap.size + 1, 2, none⟩ (.int .i64 0)).drew.heap[D]? = some (.deferred (some [])) :=
        (Below.heap_setCell _ _ _ D (by simp; omega)).trans ((Below.heap_setCell _ _ _ D (by simp; omega)).trans ((Below.heap_setCell _ _ _ D (by simp; omega)).trans ((Below.heap_setCell _ _ _ D (by simp; omega)).trans hK)))
      refine ⟨by simp, .inl ⟨_, _, rfl, run_takeDeferred hK', ?_⟩⟩
      generalize ((((W.setCell ⟨w.heap.size, 1, none⟩ (.int .i64 ((a : Int) + ((k : Int) + 1)))).setCell ⟨w.heap.size + 1, 0, none⟩ (.slice (some ad) (a + m) (a + cm))).setCell ⟨w.heap.size + 1, 1, none⟩ (.int .i64 ((a : Int) + ((k : Int) + 1)))).setCell ⟨w.heap.size + 1, 2, none⟩ (.int .i64 0)).drew = W4 at *
      have hBz := belowK_b (n₀ := w1.heap.size) (w := w1) (Nat.le_refl _) W4 D (.deferred (some [])) (.deferred none) (by omega) hK' rfl rfl
      have hBR2 := hBR.below hBz hg2
      have q0 := hBR2.cell 0
      have q1 := hBR2.cell 1
      have q2 := hBR2.cell 2
      simp only [List.getElem?_toArray, List.getElem?_cons_zero, List.getElem?_cons_succ] at q0 q1 q2
      refine ⟨.tuple #[.agg #[.slice (some ad) (a + m) (a + cm), .int .i64 ((a : Int) + ((k : Int) + 1)), .int .i64 0], .int .u64 ((accB (upto (backF (List.take (k + 1) (List.drop a bs)) (k + 1)) (k + 1)) : Nat) : Int)], ?_, ?_, hBW.trans (hBz.mono C1.out.size)⟩
      · simp [results, Try.results37, go_sem, q0, q1, q2]
      · rw [HACC.out]
  case stop =>
    rintro D c pre W _ _ h _
    exact h.elim

set_option maxRecDepth 100000 in
set_option maxHeartbeats 4000000 in
theorem Uint_gtn (ad : Addr) (a m cm : Nat) (bs : List UInt8) (B : Nat) (w : World) (hr : Reads w B 1 (some ad) (a + m) (byteCells bs)) (hB : B ≤ w.heap.size) (hmc : m ≤ cm) (h0 : 0 < m) (hm : m ≤ 10000) (hcx : a + cm ≤ 9223372036854775807) (q : Nat) (hq : q = if m < 10 then m else 10) (h10 : 10 < m) (k : Nat) (x : UInt8) (hkk : k = 9) (hkq : k < q) (hx : bs[a + k]? = some x) (hhit : firstIdx lowB ((bs.drop a).take q) = (k : Int)) (hf : ¬ ((k = 9 ∧ 1 < x.toNat) ∨ (0 < k ∧ x.toNat = 0))) : Calls Try.prog 37 #[.agg #[.slice (some ad) (a + m) (a + cm), .int .i64 (a : Int), .int .i64 0]] w fun e w' => e = .returned (.tuple #[.agg #[.slice (some ad) (a + m) (a + cm), .int .i64 ((a : Int) + ((k : Int) + 1)), .int .i64 0], .int .u64 ((valB (natB ((bs.drop a).take (k + 1))) : Nat) : Int)]) ∧ Below w.heap.size w w' := by
  have HF := Lib.hid hhit; clear hhit
  have hq10 : q ≤ 10 := by rw [hq]; split <;> omega
  have hcm : ¬ cm = 0 := by omega
  have hqm : q ≤ m := by rw [hq]; split <;> omega
  have HQR := Lib.hid (show Reads w B 1 (some (ad.add a)) q (byteCells ((bs.drop a).take q)) from by
    have h := (hr.sufB (k := a) (cap := a + cm) (by omega) (by omega)).preB (k := q) (by omega)
    rw [if_neg (by omega), Option.map_some] at h
    exact h)
  clear hr
  obtain ⟨ad', had⟩ : ∃ ad', ad.add a = ad' := ⟨_, rfl⟩
  rw [had] at HQR
  have hx' : ((bs.drop a).take q)[k]? = some x := by rw [List.getElem?_take, if_pos hkq, List.getElem?_drop]; exact hx
  have HX := Lib.hid hx'
  have HQ1 := Lib.hid (show Reads w B 1 (some ad') (k + 1) (byteCells ((bs.drop a).take (k + 1))) from by
    have h := HQR.out.preB (k := k + 1) (by omega)
    rw [List.take_take, Nat.min_eq_left (by omega)] at h
    exact h)
  have HACC := Lib.hid (show accB (upto (backF (List.take (k + 1) (List.drop a bs)) (k + 1)) (k + 1)) = valB (natB (List.take (k + 1) (List.drop a bs))) from by
    have hxd : (bs.drop a)[k]? = some x := by rw [List.getElem?_drop]; exact hx
    have hld := (List.getElem?_eq_some_iff.1 hxd).1
    have hv := val_lt (bs.drop a) k x (by omega) hxd hf
    have h := accB_back ((bs.drop a).take (k + 1)) (k + 1) (by rw [List.length_take]; omega) (by rw [List.take_take, Nat.min_self]; exact hv)
    rw [List.take_take, Nat.min_self] at h
    exact h)
  clear hx hx'
  have hxl := x.toNat_lt
  have b9 : ((k : Int) == 9) = true := by rw [beq_iff_eq]; omega
  have hk0 : 0 < k := by omega
  have bx : decide ((1 : Int) < (x.toNat : Int)) = false := by simp; omega
  have bz : ((x.toNat : Int) == 0) = false := by rw [beq_eq_false_iff_ne]; omega
  have i1 : (0 : Int) ≤ (k : Int) := by omega
  have hk10 : k ≤ 9 := by omega
  clear hf hkk
  obtain rfl : q = 10 := by rw [hq, if_neg (by omega)]
  clear hq
  refine (callsIn_wide (n := 5)).1 ?_
  refine callsIn_of_wp_marks Try.func37 rfl trivial ?_ rfl
  simp only [Try.ntmps37, List.size_toArray, List.length_cons, List.length_nil, Nat.reduceAdd, Nat.reduceSub, Array.replicate_succ, Array.replicate_zero, List.push_toArray, List.append_toArray, List.nil_append, List.cons_append]
  gi_wp2_with fail
  refine ⟨trivial, ?_⟩
  refine (callsIn_wide.2 (right_yes (some ad) _ (a + cm) a _ (by omega) (by omega))).mono ?_
  rintro e w1 ⟨rfl, hb⟩
  have C1 := Lib.hid ((Cu.start w #[.slice (some ad) _ (a + cm), .int .i64 a, .int .i64 0] #[.slice none 0 0, .int .i64 0, .int .i64 0]).next hb)
  clear hb
  obtain ⟨k0, k1, k2, r0, r1, r2, f0, f1, f2, g0, g1, g2⟩ := C1.out.cells
  gi_wp2_with fail
  refine ⟨trivial, ?_⟩
  refine (callsIn_wide.2 (IndexFuncB_at (some ad') _ cm B _ _ (k : Int) HF.out (C1.out.reads HQR.out hB) (by omega))).mono ?_
  rintro e w2 ⟨rfl, rfl⟩
  obtain ⟨_, _, E, _, hy, hck⟩ := (C1.out.reads HQR.out hB).byte_at hkq
  cases E
  rw [HX.out] at hy
  cases hy
  gi_wp2_with fail
  refine ⟨trivial, ?_⟩
  refine (callsIn_wide.2 (Backward_c (some ad') (k + 1) cm _)).mono ?_
  rintro e w3 ⟨rfl, rfl⟩
  gi_wp2_with fail
  have bN := Boxed.new w1 42 (.int .u64 0)
  have bS := Boxed.new (w1.alloc (.cells #[.int .u64 0] 42)) 37 (.slice (some ad') (k + 1) cm)
  rw [World.size_alloc] at bS
  have hB0 : Below w1.heap.size w1 ((w1.alloc (.cells #[.int .u64 0] 42)).alloc (.cells #[.slice (some ad') (k + 1) cm] 37)) := ((Below.refl _ w1).alloc (Nat.le_refl _) _).alloc (by simp) _
  have hsB : B ≤ w1.heap.size := Nat.le_trans hB C1.out.size
  clear k0 k1 k2 r0 r1 r2 f0 f1 f2 g0 g1 g2
  refine wpIn_rangeFunc_ownF rfl (by omega) (gf := 52) (lb := #[.pointer (some ⟨w1.heap.size + 1, 0, none⟩)]) rfl trivial (enters_of Try.func52 (by kernel_rfl) rfl)
    (back_stops Fence.wide 4 trivial rfl (by omega) (w1.heap.size + 1) w1.heap.size (some ad') (k + 1) cm ((bs.drop a).take (k + 1)) (by omega) _ (by simp) (by simp; omega) bS.cell ((((C1.out.reads HQ1.out hB).more hsB)).below hB0)) kpB_t (kpB_b (by simp; omega) (by simp)) (Below.refl _ _) (fun _ => rfl)
    (fun pre W => (W.cell? ⟨w1.heap.size, 0, none⟩ = some (.int .u64 (accB pre : Int)) ∧ W.frozen? ⟨w1.heap.size, 0, none⟩ = false) ∧ Below w1.heap.size w1 W)
    (fun _ _ _ => False)
    (OwnFrom.and (Own.from (fun s A B row hs hg hr => ⟨cell_kept hs.1 hg hr, (frozen_kept hs.1 hg hr).trans hs.2⟩) _) (ownFrom_below (Nat.le_refl _) (by simp; omega)))
    (fun _ _ _ _ _ hs _ _ => hs)
    ⟨⟨(bN.alloc _).cell, (bN.alloc _).frozen⟩, hB0⟩
    ?a1 ?assign ?body ?done ?stop
  case assign =>
    intro l x W K hK
    unfold encB
    gi_wp2
    exact hK
  case body =>
    rintro l pre x' W ⟨⟨hc, hfz⟩, hB'⟩ hlt
    have hor := or_step (accB pre) x'.2.toNat (accB_lt pre)
    have hal := accB_lt pre
    gi_wp2
    have hsn : ((accB (pre ++ [x']) : Nat) : Int) = (accB pre : Int) * 128 % 18446744073709551616 + (x'.2.toNat : Int) % 128 := by rw [accB_snoc]; omega
    exact ⟨KeepsOthers.setCell _ _ _, ⟨(Below.refl _ W).setCell (p := ⟨w1.heap.size, 0, none⟩) (Nat.le_refl _) _, World.cell?_setCell_other W ⟨w1.heap.size, 0, none⟩ ⟨w1.heap.size + 1, 0, none⟩ _ (by simp)⟩, ⟨by rw [hsn]; exact World.cell?_setCell_same' _ _ _ (by rw [hc]; rfl), by rw [World.frozen?_setCell]; exact hfz⟩, hB'.setCell (p := ⟨w1.heap.size, 0, none⟩) (Nat.le_refl _) _⟩
  case done =>
    rintro D ys W hD rfl ⟨⟨hc, hfz⟩, hB'⟩ hK
    have C2 := Lib.hid (C1.out.next hB')
    obtain ⟨k0, k1, k2, r0, r1, r2, f0, f1, f2, g0, g1, g2⟩ := C2.out.cells
    have hg1 := C1.out.1.lt
    have hg2 := C1.out.2.1.lt
    have hD' : w1.heap.size + 2 ≤ D := by simpa using hD
    gi_wp2
    gi_region
    all_goals
      gi_wp2
      have hBR : Blk ((((W.setCell ⟨w.heap.size, 1, none⟩ (.int .i64 ((a : Int) + ((k : Int) + 1)))).setCell ⟨w.heap.size + 1, 0, none⟩ (.slice (some ad) (a + m) (a + cm))).setCell ⟨w.heap.size + 1, 1, none⟩ (.int .i64 ((a : Int) + ((k : Int) + 1)))).setCell ⟨w.heap.size + 1, 2, none⟩ (.int .i64 0)).drew (w.heap.size + 1) 70 #[.slice (some ad) (a + m) (a + cm), .int .i64 ((a : Int) + ((k : Int) + 1)), .int .i64 0] :=
        (((((C2.out.2.1.far (p := ⟨w.heap.size, 1, none⟩) (by simp) _).set_ 0 _).set_ 1 _).set_ 2 _).drew)
      have hBW : Below w.heap.size w ((((W.setCell ⟨w.heap.size, 1, none⟩ (.int .i64 ((a : Int) + ((k : Int) + 1)))).setCell ⟨w.heap.size + 1, 0, none⟩ (.slice (some ad) (a + m) (a + cm))).setCell ⟨w.heap.size + 1, 1, none⟩ (.int .i64 ((a : Int) + ((k : Int) + 1)))).setCell ⟨w.heap.size + 1, 2, none⟩ (.int .i64 0)).drew :=
        ((((C2.out.2.2.setCell (by simp) _).setCell (by simp) _).setCell (by simp) _).setCell (by simp) _).drew
      have hK' : ((((W.setCell ⟨w.heap.size, 1, none⟩ (.int .i64 ((a : Int) + ((k : Int) + 1)))).setCell ⟨w.heap.size + 1, 0, none⟩ (.slice (some ad) (a + m) (a + cm))).setCell ⟨w.heap.size + 1, 1, none⟩ (.int .i64 ((a : Int) + ((k : Int) + 1)))).setCell ⟨w.heap.size + 1, 2, none⟩ (.int .i64 0)).drew.heap[D]? = some (.deferred (some [])) :=
        (Below.heap_setCell _ _ _ D (by simp; omega)).trans ((Below.heap_setCell _ _ _ D (by simp; omega)).trans ((Below.heap_setCell _ _ _ D (by simp; omega)).trans ((Below.heap_setCell _ _ _ D (by simp; omega)).trans hK)))
      refine ⟨by simp, .inl ⟨_, _, rfl, run_takeDeferred hK', ?_⟩⟩
      generalize ((((W.setCell ⟨w.heap.size, 1, none⟩ (.int .i64 ((a : Int) + ((k : Int) + 1)))).setCell ⟨w.heap.size + 1, 0, none⟩ (.slice (some ad) (a + m) (a + cm))).setCell ⟨w.heap.size + 1, 1, none⟩ (.int .i64 ((a : Int) + ((k : Int) + 1)))).setCell ⟨w.heap.size + 1, 2, none⟩ (.int .i64 0)).drew = W4 at *
      have hBz := belowK_b (n₀ := w1.heap.size) (w := w1) (Nat.le_refl _) W4 D (.deferred (some [])) (.deferred none) (by omega) hK' rfl rfl
      have hBR2 := hBR.below hBz hg2
      have q0 := hBR2.cell 0
      have q1 := hBR2.cell 1
      have q2 := hBR2.cell 2
      simp only [List.getElem?_toArray, List.getElem?_cons_zero, List.getElem?_cons_succ] at q0 q1 q2
      refine ⟨.tuple #[.agg #[.slice (some ad) (a + m) (a + cm), .int .i64 ((a : Int) + ((k : Int) + 1)), .int .i64 0], .int .u64 ((accB (upto (backF (List.take (k + 1) (List.drop a bs)) (k + 1)) (k + 1)) : Nat) : Int)], ?_, ?_, hBW.trans (hBz.mono C1.out.size)⟩
      · simp [results, Try.results37, go_sem, q0, q1, q2]
      · rw [HACC.out]
  case stop =>
    rintro D c pre W _ _ h _
    exact h.elim
end Go.Proofs.Ytadidldkphimfaa
