/- The contract of the reference's Uint. -/
import Derived.Test.YtgpefnlmlicopaaWire6
namespace Go.Proofs.Ytgpefnlmlicopaa
set_option linter.unusedVariables false
open Go.RowKit

theorem cur_eq {A : Option Addr} {n c : Nat} {x y e u v : Int} (h1 : x = y) (h2 : u = v) : Ending.returned (.tuple #[.agg #[.slice A n c, .int .i64 x, .int .i64 e], .int .u64 u]) = .returned (.tuple #[.agg #[.slice A n c, .int .i64 y, .int .i64 e], .int .u64 v]) := by rw [h1, h2]

theorem rUint_arg0 (A : Option Addr) (n c : Nat) (at_ : Int)  (w : World) (h : at_ < 0 ∨ (n : Int) < at_) : Calls Try.prog 18 #[.agg #[.slice A n c, .int .i64 at_, .int .i64 0]] w fun e w' => e = .returned (.tuple #[.agg #[.slice A n c, .int .i64 at_, .int .i64 1], .int .u64 0]) ∧ Below w.heap.size w w' := by
  go_enter Try.func18, Try.ntmps18
  go_wp2_with fail
  refine (rRight_no A n c at_ 0 _ (by omega)).mono ?_
  rintro e w1 ⟨rfl, hb⟩
  have C1 := Lib.hid ((Cu.start w #[.slice A n c, .int .i64 at_, .int .i64 0] #[.slice none 0 0, .int .i64 0, .int .i64 0]).next hb)
  clear hb
  obtain ⟨k0, k1, k2, r0, r1, r2, f0, f1, f2, g0, g1, g2⟩ := C1.out.cells
  go_wp2_with fail
  clear k0 k1 k2 r0 r1 r2 f0 f1 f2 g0 g1 g2
  refine (rStays_ok A n c at_ 1 _).mono ?_
  rintro e w2 ⟨rfl, hb2⟩
  have C2 := Lib.hid (C1.out.next hb2)
  clear hb2
  obtain ⟨k0, k1, k2, r0, r1, r2, f0, f1, f2, g0, g1, g2⟩ := C2.out.cells
  go_wp2
  have hbe := C2.out.2.2
  exact bodyPost_ret (v := .tuple #[.agg #[.slice A n c, .int .i64 at_, .int .i64 1], .int .u64 0]) (by simp [results, Try.results18, go_sem, r0, r1, r2]) rfl ⟨rfl, (by repeat (first | exact ((Below.refl _ _).alloc (Nat.le_refl _) _).alloc (by simp) _ | assumption | refine below_drewN ?_ _ | refine Below.setCell ?_ (by simp) _ | refine Below.drew ?_))⟩

theorem rUint_err (A : Option Addr) (n c : Nat) (at_ : Int) (err : Int) (w : World) (h : err ≠ 0) : Calls Try.prog 18 #[.agg #[.slice A n c, .int .i64 at_, .int .i64 err]] w fun e w' => e = .returned (.tuple #[.agg #[.slice A n c, .int .i64 at_, .int .i64 err], .int .u64 0]) ∧ Below w.heap.size w w' := by
  go_enter Try.func18, Try.ntmps18
  go_wp2_with fail
  refine (rRight_no A n c at_ err _ (.inr (.inr h))).mono ?_
  rintro e w1 ⟨rfl, hb⟩
  have C1 := Lib.hid ((Cu.start w #[.slice A n c, .int .i64 at_, .int .i64 err] #[.slice none 0 0, .int .i64 0, .int .i64 0]).next hb)
  clear hb
  obtain ⟨k0, k1, k2, r0, r1, r2, f0, f1, f2, g0, g1, g2⟩ := C1.out.cells
  go_wp2_with fail
  clear k0 k1 k2 r0 r1 r2 f0 f1 f2 g0 g1 g2
  refine (rStays_err A n c at_ err 1 _ h).mono ?_
  rintro e w2 ⟨rfl, hb2⟩
  have C2 := Lib.hid (C1.out.next hb2)
  clear hb2
  obtain ⟨k0, k1, k2, r0, r1, r2, f0, f1, f2, g0, g1, g2⟩ := C2.out.cells
  go_wp2
  have hbe := C2.out.2.2
  exact bodyPost_ret (v := .tuple #[.agg #[.slice A n c, .int .i64 at_, .int .i64 err], .int .u64 0]) (by simp [results, Try.results18, go_sem, r0, r1, r2]) rfl ⟨rfl, (by repeat (first | exact ((Below.refl _ _).alloc (Nat.le_refl _) _).alloc (by simp) _ | assumption | refine below_drewN ?_ _ | refine Below.setCell ?_ (by simp) _ | refine Below.drew ?_))⟩

set_option maxRecDepth 100000 in
set_option maxHeartbeats 4000000 in
theorem rUint_right (A : Option Addr) (a m cm : Nat) (bs : List UInt8) (B : Nat) (w : World) (hr : Reads w B 1 A (a + m) (byteCells bs)) (hB : B ≤ w.heap.size) (hmc : m ≤ cm) (hm : m ≤ 10000) (hcx : a + cm ≤ 9223372036854775807) :
    Calls Try.prog 18 #[.agg #[.slice A (a + m) (a + cm), .int .i64 (a : Int), .int .i64 0]] w fun e w' => e = .returned (.tuple #[.agg #[.slice A (a + m) (a + cm), .int .i64 (uRes bs (a : Int) 0).1, .int .i64 (uRes bs (a : Int) 0).2.1], .int .u64 ((uRes bs (a : Int) 0).2.2 : Int)]) ∧ Below w.heap.size w w' := by
  have hl := hr.lenB
  have HLD := Lib.hid (show (bs.drop a).length = m from by rw [List.length_drop]; omega)
  have HU := Lib.hid (uRes_at bs a (by omega))
  have HR := Lib.hid hr
  clear hr hl
  go_enter Try.func18, Try.ntmps18
  go_wp2_with fail
  refine (rRight_yes A _ (a + cm) a _ (by omega) (by omega)).mono ?_
  rintro e w1 ⟨rfl, hb⟩
  have C1 := Lib.hid ((Cu.start w #[.slice A _ (a + cm), .int .i64 a, .int .i64 0] #[.slice none 0 0, .int .i64 0, .int .i64 0]).next hb)
  clear hb
  obtain ⟨k0, k1, k2, r0, r1, r2, f0, f1, f2, g0, g1, g2⟩ := C1.out.cells
  go_wp2
  go_loop [4, 5, 6] (fun nn uu ii => ∃ (i : Nat) (N U : Int), i ≤ 10 ∧ i ≤ m ∧ ii = .int .i64 i ∧ nn = .int .u64 N ∧ uu = .int .u64 U ∧ Hid (∀ (j : Nat) y, j < i → (natB (bs.drop a))[j]? = some y → 128 ≤ y) ∧ Hid (i ≤ 9 → N = ((valB ((natB (bs.drop a)).take i) : Nat) : Int) ∧ U = ((128 ^ i : Nat) : Int))) (fun _ _ ii => 10 - (intOf ii).toNat)
  case atStart => exact ⟨0, 0, 1, by omega, by omega, rfl, rfl, rfl, fun j y hj => by omega, fun _ => ⟨rfl, rfl⟩⟩
  case round =>
    obtain ⟨i, N, U, hi, him, rfl, rfl, rfl, HA, HV⟩ := hrel
    by_cases h10 : i = 10
    · have HX := Lib.hid (show uRes bs (a : Int) 0 = ((a : Int), 11, 0) from by
        rw [HU.out, uread_long (natB (bs.drop a)) 0 (by omega) (fun j x hj hx => HA.out j x (by omega) hx) (by rw [natB_length, HLD.out]; omega)]; rfl)
      have hi10 : ¬ i < 10 := by omega
      clear h10 HV HA HU HR
      go_wp2_with fail
      clear k0 k1 k2 r0 r1 r2 f0 f1 f2 g0 g1 g2
      refine (rStays_ok A _ (a + cm) a 11 _).mono ?_
      rintro e w2 ⟨rfl, hb2⟩
      have C2 := Lib.hid (C1.out.next hb2)
      clear hb2
      obtain ⟨k0, k1, k2, r0, r1, r2, f0, f1, f2, g0, g1, g2⟩ := C2.out.cells
      go_wp2
      have hbe := C2.out.2.2
      exact bodyPost_ret (v := .tuple #[.agg #[.slice A (a + m) (a + cm), .int .i64 (a : Int), .int .i64 11], .int .u64 0]) (by simp [results, Try.results18, go_sem, r0, r1, r2]) rfl ⟨by rw [HX.out]; rfl, (by repeat (first | exact ((Below.refl _ _).alloc (Nat.le_refl _) _).alloc (by simp) _ | assumption | refine below_drewN ?_ _ | refine Below.setCell ?_ (by simp) _ | refine Below.drew ?_))⟩
    · obtain ⟨rfl, rfl⟩ := HV.out (by omega)
      have hi10 : i < 10 := by omega
      clear h10 HV
      obtain ⟨N, hN⟩ : ∃ N, valB ((natB (bs.drop a)).take i) = N := ⟨_, rfl⟩
      obtain ⟨u, hu⟩ : ∃ u, 128 ^ i = u := ⟨_, rfl⟩
      rw [hN, hu]
      have hNl : N < u := by rw [← hN, ← hu]; refine Nat.lt_of_lt_of_le (valB_lt _) (Nat.pow_le_pow_right (by omega) ?_); rw [List.length_take]; omega
      have hul : u ≤ 9223372036854775808 := by rw [← hu]; exact Nat.le_trans (Nat.pow_le_pow_right (by omega) (show i ≤ 9 by omega)) (by decide)
      have HNU := Lib.hid (And.intro hN hu)
      clear hN hu
      by_cases him' : i = m
      · have HX := Lib.hid (show uRes bs (a : Int) 0 = ((a : Int), 10, 0) from by
          rw [HU.out, uread_short (natB (bs.drop a)) 0 (fun x hx => by
            obtain ⟨j, hj, e⟩ := List.mem_iff_getElem.1 hx
            exact HA.out j x (by rw [natB_length, HLD.out] at hj; omega) (by rw [List.getElem?_eq_getElem hj, e])) (by rw [natB_length, HLD.out]; omega)]; rfl)
        have hge : ¬ i < m := by omega
        have hge2 : decide (((a + m : Nat) : Int) ≤ (a : Int) + (i : Int)) = true := by simp; omega
        clear HA HU HR HNU him'
        go_wp2_with fail
        clear k0 k1 k2 r0 r1 r2 f0 f1 f2 g0 g1 g2
        refine (rStays_ok A _ (a + cm) a 10 _).mono ?_
        rintro e w2 ⟨rfl, hb2⟩
        have C2 := Lib.hid (C1.out.next hb2)
        clear hb2
        obtain ⟨k0, k1, k2, r0, r1, r2, f0, f1, f2, g0, g1, g2⟩ := C2.out.cells
        go_wp2
        have hbe := C2.out.2.2
        exact bodyPost_ret (v := .tuple #[.agg #[.slice A (a + m) (a + cm), .int .i64 (a : Int), .int .i64 10], .int .u64 0]) (by simp [results, Try.results18, go_sem, r0, r1, r2]) rfl ⟨by rw [HX.out]; rfl, (by repeat (first | exact ((Below.refl _ _).alloc (Nat.le_refl _) _).alloc (by simp) _ | assumption | refine below_drewN ?_ _ | refine Below.setCell ?_ (by simp) _ | refine Below.drew ?_))⟩
      · have hlt : i < m := by omega
        obtain ⟨ad, x, rfl, hblk, hx, hc⟩ := (C1.out.reads HR.out hB).byte_at (k := a + i) (by omega)
        have hxl := x.toNat_lt
        have hge2 : decide (((a + m : Nat) : Int) ≤ (a : Int) + (i : Int)) = false := by simp; omega
        have j1 : (0 : Int) ≤ (a : Int) + (i : Int) := by omega
        have j2 : ((a : Int) + (i : Int)).toNat = a + i := by omega
        have HXN := Lib.hid (show (natB (bs.drop a))[i]? = some x.toNat from by rw [natB_getElem?, List.getElem?_drop, hx]; rfl)
        clear hx him'
        by_cases h128 : 128 ≤ x.toNat
        · by_cases h9 : i = 9
          · have hi9 : 9 ≤ i := by omega
            clear h9
            go_wp2
            go_round
            case rel =>
              refine ⟨i + 1, _, _, by omega, by omega, by go_num, rfl, rfl, fun j y hj hy => ?_, fun h => by omega⟩
              rcases Nat.lt_or_ge j i with h | h
              · exact HA.out j y h hy
              · obtain rfl : j = i := by omega
                rw [HXN.out] at hy; cases hy; exact h128
            case measure => simp [intOf]; omega
          · have hi8 : i ≤ 8 := by omega
            have hu8 : u ≤ 72057594037927936 := by rw [← HNU.out.2]; exact Nat.le_trans (Nat.pow_le_pow_right (by omega) hi8) (by decide)
            obtain ⟨p, hp⟩ : ∃ p, u * (x.toNat - 128) = p := ⟨_, rfl⟩
            have hpl : p ≤ u * 127 := by rw [← hp]; exact Nat.mul_le_mul_left _ (by omega)
            have hw1 : IntKind.u64.wrap ((u : Int) * ((x.toNat : Int) - 128)) = (p : Int) := by
              rw [show (x.toNat : Int) - 128 = ((x.toNat - 128 : Nat) : Int) from by omega, ← Int.natCast_mul, hp, IntKind.wrap_u64]; omega
            have HP := Lib.hid hp
            clear hp h9
            go_wp2
            go_round
            case rel =>
              refine ⟨i + 1, ((N + p : Nat) : Int), ((u * 128 : Nat) : Int), by omega, by omega, by go_num, by go_num, by go_num, fun j y hj hy => ?_, fun _ => ⟨?_, ?_⟩⟩
              · rcases Nat.lt_or_ge j i with h | h
                · exact HA.out j y h hy
                · obtain rfl : j = i := by omega
                  rw [HXN.out] at hy; cases hy; exact h128
              · congr 1
                rw [List.take_add_one, HXN.out, Option.toList_some, valB_snoc, HNU.out.1, List.length_take, natB_length, HLD.out, Nat.min_eq_left (by omega), HNU.out.2, ← HP.out]
                congr 2
                omega
              · congr 1
                rw [Nat.pow_succ, HNU.out.2]
            case measure => simp [intOf]; omega
        · have HUH := Lib.hid (uread_hit (natB (bs.drop a)) (natB_lt _) 0 i x.toNat (by omega) (fun j y hj hy => HA.out j y hj hy) HXN.out (by omega))
          have hx128 : ¬ 128 ≤ x.toNat := h128
          have bge : decide ((128 : Int) ≤ (x.toNat : Int)) = false := by simp; omega
          by_cases hf : (i = 9 ∧ 1 < x.toNat) ∨ (0 < i ∧ x.toNat = 0)
          · have HX := Lib.hid (show uRes bs (a : Int) 0 = ((a : Int), 11, 0) from by
              rw [HU.out, HUH.out, Nat.zero_add, if_pos hf]; rfl)
            clear HA HU HNU HUH HXN
            by_cases c9 : i = 9 ∧ 1 < x.toNat
            · have b9 : ((i : Int) == 9) = true := by rw [beq_iff_eq]; omega
              have bx : decide ((1 : Int) < (x.toNat : Int)) = true := by simp; omega
              clear c9 hf
              go_wp2_with fail
              clear k0 k1 k2 r0 r1 r2 f0 f1 f2 g0 g1 g2
              refine (rStays_ok (some ad) _ (a + cm) a 11 _).mono ?_
              rintro e w2 ⟨rfl, hb2⟩
              have C2 := Lib.hid (C1.out.next hb2)
              clear hb2
              obtain ⟨k0, k1, k2, r0, r1, r2, f0, f1, f2, g0, g1, g2⟩ := C2.out.cells
              go_wp2
              have hbe := C2.out.2.2
              exact bodyPost_ret (v := .tuple #[.agg #[.slice (some ad) (a + m) (a + cm), .int .i64 (a : Int), .int .i64 11], .int .u64 0]) (by simp [results, Try.results18, go_sem, r0, r1, r2]) rfl ⟨by rw [HX.out]; rfl, (by repeat (first | exact ((Below.refl _ _).alloc (Nat.le_refl _) _).alloc (by simp) _ | assumption | refine below_drewN ?_ _ | refine Below.setCell ?_ (by simp) _ | refine Below.drew ?_))⟩
            · have hk0 : 0 < i := by omega
              have bz : ((x.toNat : Int) == 0) = true := by rw [beq_iff_eq]; omega
              have bx : decide ((1 : Int) < (x.toNat : Int)) = false := by simp; omega
              clear c9 hf
              cases b9 : ((i : Int) == 9)
              all_goals
                go_wp2_with fail
                clear k0 k1 k2 r0 r1 r2 f0 f1 f2 g0 g1 g2
                refine (rStays_ok (some ad) _ (a + cm) a 11 _).mono ?_
                rintro e w2 ⟨rfl, hb2⟩
                have C2 := Lib.hid (C1.out.next hb2)
                clear hb2
                obtain ⟨k0, k1, k2, r0, r1, r2, f0, f1, f2, g0, g1, g2⟩ := C2.out.cells
                go_wp2
                have hbe := C2.out.2.2
                exact bodyPost_ret (v := .tuple #[.agg #[.slice (some ad) (a + m) (a + cm), .int .i64 (a : Int), .int .i64 11], .int .u64 0]) (by simp [results, Try.results18, go_sem, r0, r1, r2]) rfl ⟨by rw [HX.out]; rfl, (by repeat (first | exact ((Below.refl _ _).alloc (Nat.le_refl _) _).alloc (by simp) _ | assumption | refine below_drewN ?_ _ | refine Below.setCell ?_ (by simp) _ | refine Below.drew ?_))⟩
          · have HX := Lib.hid (show uRes bs (a : Int) 0 = ((a : Int) + ((i + 1 : Nat) : Int), 0, valB ((natB (bs.drop a)).take (i + 1))) from by
              rw [HU.out, HUH.out, Nat.zero_add, if_neg hf]; rfl)
            obtain ⟨p, hp⟩ : ∃ p, u * x.toNat = p := ⟨_, rfl⟩
            have HVV := Lib.hid (show valB ((natB (bs.drop a)).take (i + 1)) = N + p from by
              rw [List.take_add_one, HXN.out, Option.toList_some, valB_snoc, HNU.out.1, List.length_take, natB_length, HLD.out, Nat.min_eq_left (by omega), HNU.out.2, ← hp]
              congr 2
              omega)
            have hpl : p ≤ 9223372036854775808 := by
              by_cases c9 : i = 9
              · rw [← hp]
                exact Nat.le_trans (Nat.mul_le_mul_left _ (show x.toNat ≤ 1 by omega)) (by omega)
              · have hu8 : u ≤ 72057594037927936 := by rw [← HNU.out.2]; exact Nat.le_trans (Nat.pow_le_pow_right (by omega) (show i ≤ 8 by omega)) (by decide)
                rw [← hp]
                exact Nat.le_trans (Nat.mul_le_mul_right _ hu8) (by omega)
            have hw1 : IntKind.u64.wrap ((u : Int) * (x.toNat : Int)) = (p : Int) := by
              rw [← Int.natCast_mul, hp, IntKind.wrap_u64]; omega
            clear HA HU HNU HUH HXN hp
            have hff := hf
            clear hf
            by_cases c0 : i = 0
            · have hk0 : ¬ 0 < i := by omega
              have b9 : ((i : Int) == 9) = false := by rw [beq_eq_false_iff_ne]; omega
              clear c0 hff
              go_wp2
              have hbe := C1.out.2.2
              exact bodyPost_ret (v := .tuple #[.agg #[.slice (some ad) (a + m) (a + cm), .int .i64 ((a : Int) + (i : Int) + 1), .int .i64 0], .int .u64 ((N : Int) + (p : Int))]) (by simp [results, Try.results18, go_sem, r0, r1, r2]) rfl ⟨by rw [HX.out]; exact cur_eq (by simp only; omega) (by simp only [HVV.out]; omega), (by repeat (first | exact ((Below.refl _ _).alloc (Nat.le_refl _) _).alloc (by simp) _ | assumption | refine below_drewN ?_ _ | refine Below.setCell ?_ (by simp) _ | refine Below.drew ?_))⟩
            · have hk0 : 0 < i := by omega
              have bz : ((x.toNat : Int) == 0) = false := by rw [beq_eq_false_iff_ne]; omega
              by_cases c9 : i = 9
              · have b9 : ((i : Int) == 9) = true := by rw [beq_iff_eq]; omega
                have bx : decide ((1 : Int) < (x.toNat : Int)) = false := by simp; omega
                clear c0 hff c9
                go_wp2
                have hbe := C1.out.2.2
                exact bodyPost_ret (v := .tuple #[.agg #[.slice (some ad) (a + m) (a + cm), .int .i64 ((a : Int) + (i : Int) + 1), .int .i64 0], .int .u64 ((N : Int) + (p : Int))]) (by simp [results, Try.results18, go_sem, r0, r1, r2]) rfl ⟨by rw [HX.out]; exact cur_eq (by simp only; omega) (by simp only [HVV.out]; omega), (by repeat (first | exact ((Below.refl _ _).alloc (Nat.le_refl _) _).alloc (by simp) _ | assumption | refine below_drewN ?_ _ | refine Below.setCell ?_ (by simp) _ | refine Below.drew ?_))⟩
              · have b9 : ((i : Int) == 9) = false := by rw [beq_eq_false_iff_ne]; omega
                clear c0 hff c9
                go_wp2
                have hbe := C1.out.2.2
                exact bodyPost_ret (v := .tuple #[.agg #[.slice (some ad) (a + m) (a + cm), .int .i64 ((a : Int) + (i : Int) + 1), .int .i64 0], .int .u64 ((N : Int) + (p : Int))]) (by simp [results, Try.results18, go_sem, r0, r1, r2]) rfl ⟨by rw [HX.out]; exact cur_eq (by simp only; omega) (by simp only [HVV.out]; omega), (by repeat (first | exact ((Below.refl _ _).alloc (Nat.le_refl _) _).alloc (by simp) _ | assumption | refine below_drewN ?_ _ | refine Below.setCell ?_ (by simp) _ | refine Below.drew ?_))⟩
end Go.Proofs.Ytgpefnlmlicopaa
