/- The contract of wire.Uint, whole. -/
import Derived.Test.YtadidldkphimfaaWire5
namespace Go.Proofs.Ytadidldkphimfaa
set_option linter.unusedVariables false
open Go.RowKit

theorem Uint_nil (A : Option Addr) (a cm : Nat) (w : World) (hcx : a + cm ≤ 9223372036854775807) : Calls Try.prog 37 #[.agg #[.slice A a (a + cm), .int .i64 (a : Int), .int .i64 0]] w fun e w' => e = .returned (.tuple #[.agg #[.slice A a (a + cm), .int .i64 (a : Int), .int .i64 10], .int .u64 0]) ∧ Below w.heap.size w w' := by
  by_cases hc : cm = 0
  · subst hc
    rw [Nat.add_zero]
    go_enter Try.func37, Try.ntmps37
    go_wp2_with fail
    refine (right_yes A a a a _ (by omega) (by omega)).mono ?_
    rintro e w1 ⟨rfl, hb⟩
    have C1 := Lib.hid ((Cu.start w #[.slice A a a, .int .i64 a, .int .i64 0] #[.slice none 0 0, .int .i64 0, .int .i64 0]).next hb)
    clear hb
    obtain ⟨k0, k1, k2, r0, r1, r2, f0, f1, f2, g0, g1, g2⟩ := C1.out.cells
    go_wp2_with fail
    refine (IndexFuncB_at _ 0 _ 0 [] _ (-1) rfl Reads.none_ (by omega)).mono ?_
    rintro e w2 ⟨rfl, rfl⟩
    go_wp2_with fail
    clear k0 k1 k2 r0 r1 r2 f0 f1 f2 g0 g1 g2
    refine (stay_ok A a a a 10 _).mono ?_
    rintro e w2 ⟨rfl, hb2⟩
    have C2 := Lib.hid (C1.out.next hb2)
    clear hb2
    obtain ⟨k0, k1, k2, r0, r1, r2, f0, f1, f2, g0, g1, g2⟩ := C2.out.cells
    go_wp2
    have hbe := C2.out.2.2
    exact bodyPost_ret (v := .tuple #[.agg #[.slice A a a, .int .i64 (a : Int), .int .i64 10], .int .u64 0]) (by simp [results, Try.results37, go_sem, r0, r1, r2]) rfl ⟨rfl, (by repeat (first | exact ((Below.refl _ _).alloc (Nat.le_refl _) _).alloc (by simp) _ | assumption | refine below_drewN ?_ _ | refine Below.setCell ?_ (by simp) _ | refine Below.drew ?_))⟩
  · rcases A with _ | ad
    · go_enter Try.func37, Try.ntmps37
      go_wp2_with fail
      refine (right_yes none a (a + cm) a _ (by omega) (by omega)).mono ?_
      rintro e w1 ⟨rfl, hb⟩
      have C1 := Lib.hid ((Cu.start w #[.slice none a (a + cm), .int .i64 a, .int .i64 0] #[.slice none 0 0, .int .i64 0, .int .i64 0]).next hb)
      clear hb
      obtain ⟨k0, k1, k2, r0, r1, r2, f0, f1, f2, g0, g1, g2⟩ := C1.out.cells
      go_wp2_with fail
      refine (IndexFuncB_at _ 0 _ 0 [] _ (-1) rfl Reads.none_ (by omega)).mono ?_
      rintro e w2 ⟨rfl, rfl⟩
      go_wp2_with fail
      clear k0 k1 k2 r0 r1 r2 f0 f1 f2 g0 g1 g2
      refine (stay_ok none a (a + cm) a 10 _).mono ?_
      rintro e w2 ⟨rfl, hb2⟩
      have C2 := Lib.hid (C1.out.next hb2)
      clear hb2
      obtain ⟨k0, k1, k2, r0, r1, r2, f0, f1, f2, g0, g1, g2⟩ := C2.out.cells
      go_wp2
      have hbe := C2.out.2.2
      exact bodyPost_ret (v := .tuple #[.agg #[.slice none a (a + cm), .int .i64 (a : Int), .int .i64 10], .int .u64 0]) (by simp [results, Try.results37, go_sem, r0, r1, r2]) rfl ⟨rfl, (by repeat (first | exact ((Below.refl _ _).alloc (Nat.le_refl _) _).alloc (by simp) _ | assumption | refine below_drewN ?_ _ | refine Below.setCell ?_ (by simp) _ | refine Below.drew ?_))⟩
    · go_enter Try.func37, Try.ntmps37
      go_wp2_with fail
      refine (right_yes (some ad) a (a + cm) a _ (by omega) (by omega)).mono ?_
      rintro e w1 ⟨rfl, hb⟩
      have C1 := Lib.hid ((Cu.start w #[.slice (some ad) a (a + cm), .int .i64 a, .int .i64 0] #[.slice none 0 0, .int .i64 0, .int .i64 0]).next hb)
      clear hb
      obtain ⟨k0, k1, k2, r0, r1, r2, f0, f1, f2, g0, g1, g2⟩ := C1.out.cells
      go_wp2_with fail
      refine (IndexFuncB_at _ 0 _ 0 [] _ (-1) rfl Reads.none_ (by omega)).mono ?_
      rintro e w2 ⟨rfl, rfl⟩
      go_wp2_with fail
      clear k0 k1 k2 r0 r1 r2 f0 f1 f2 g0 g1 g2
      refine (stay_ok (some ad) a (a + cm) a 10 _).mono ?_
      rintro e w2 ⟨rfl, hb2⟩
      have C2 := Lib.hid (C1.out.next hb2)
      clear hb2
      obtain ⟨k0, k1, k2, r0, r1, r2, f0, f1, f2, g0, g1, g2⟩ := C2.out.cells
      go_wp2
      have hbe := C2.out.2.2
      exact bodyPost_ret (v := .tuple #[.agg #[.slice (some ad) a (a + cm), .int .i64 (a : Int), .int .i64 10], .int .u64 0]) (by simp [results, Try.results37, go_sem, r0, r1, r2]) rfl ⟨rfl, (by repeat (first | exact ((Below.refl _ _).alloc (Nat.le_refl _) _).alloc (by simp) _ | assumption | refine below_drewN ?_ _ | refine Below.setCell ?_ (by simp) _ | refine Below.drew ?_))⟩

/-- what a cursor reads as a number: where it is then, its error, the number. -/
def uRes (bs : List UInt8) (at_ err : Int) : Int × Int × Nat :=
  if 0 ≤ at_ ∧ at_ ≤ (bs.length : Int) ∧ err = 0 then
    if (uread 0 (natB (bs.drop at_.toNat))).1 = 0 then (at_ + ((uread 0 (natB (bs.drop at_.toNat))).2.2 : Nat), 0, (uread 0 (natB (bs.drop at_.toNat))).2.1)
    else (at_, ((uread 0 (natB (bs.drop at_.toNat))).1 : Nat), 0)
  else (at_, if err = 0 then 1 else err, 0)
theorem uRes_err (bs : List UInt8) (at_ err : Int) (h : err ≠ 0) : uRes bs at_ err = (at_, err, 0) := by
  unfold uRes; rw [if_neg (by omega), if_neg h]
theorem uRes_arg (bs : List UInt8) (at_ : Int) (h : at_ < 0 ∨ (bs.length : Int) < at_) : uRes bs at_ 0 = (at_, 1, 0) := by
  unfold uRes; rw [if_neg (by omega), if_pos rfl]
theorem uRes_at (bs : List UInt8) (a : Nat) (h : a ≤ bs.length) : uRes bs (a : Int) 0 = if (uread 0 (natB (bs.drop a))).1 = 0 then ((a : Int) + ((uread 0 (natB (bs.drop a))).2.2 : Nat), 0, (uread 0 (natB (bs.drop a))).2.1) else ((a : Int), (((uread 0 (natB (bs.drop a))).1 : Nat) : Int), 0) := by
  unfold uRes; rw [if_pos (by omega), Int.toNat_natCast]
theorem natB_getElem? (l : List UInt8) (j : Nat) : (natB l)[j]? = l[j]?.map UInt8.toNat := by simp [natB]

theorem Uint_c (A : Option Addr) (n c : Nat) (at_ err : Int) (bs : List UInt8) (B : Nat) (w : World) (hr : Reads w B 1 A n (byteCells bs)) (hB : B ≤ w.heap.size) (hnc : n ≤ c) (hcm : c ≤ 9223372036854775807) (hn : n ≤ 10000) :
    Calls Try.prog 37 #[.agg #[.slice A n c, .int .i64 at_, .int .i64 err]] w fun e w' => e = .returned (.tuple #[.agg #[.slice A n c, .int .i64 (uRes bs at_ err).1, .int .i64 (uRes bs at_ err).2.1], .int .u64 ((uRes bs at_ err).2.2 : Int)]) ∧ Below w.heap.size w w' := by
  have hl := hr.lenB
  by_cases he : err = 0
  · subst he
    by_cases h0 : at_ < 0 ∨ (n : Int) < at_
    · rw [uRes_arg bs at_ (by omega)]
      exact Uint_arg0 A n c at_ w h0
    · obtain ⟨a, rfl⟩ : ∃ a : Nat, at_ = (a : Int) := ⟨at_.toNat, by omega⟩
      obtain ⟨m, rfl⟩ : ∃ m, n = a + m := ⟨n - a, by omega⟩
      obtain ⟨cm, rfl⟩ : ∃ cm, c = a + cm := ⟨c - a, by omega⟩
      rw [uRes_at bs a (by omega)]
      by_cases hm0 : m = 0
      · subst hm0
        have hnil : bs.drop a = [] := List.drop_eq_nil_iff.2 (by omega)
        rw [hnil]
        exact Uint_nil A a cm w hcm
      · obtain ⟨ad, rfl, _⟩ := hr.2 (by omega)
        obtain ⟨q, hq⟩ : ∃ q, q = if m < 10 then m else 10 := ⟨_, rfl⟩
        have hqm : q ≤ m := by rw [hq]; split <;> omega
        have hq10 : q ≤ 10 := by rw [hq]; split <;> omega
        have hld : (bs.drop a).length = m := by rw [List.length_drop]; omega
        have hlq : ((bs.drop a).take q).length = q := by rw [List.length_take, hld, Nat.min_eq_left hqm]
        by_cases hnone : firstIdx lowB ((bs.drop a).take q) = -1
        · have hall : ∀ (j : Nat) x, j < q → (natB (bs.drop a))[j]? = some x → 128 ≤ x := by
            intro j x hj hx
            rw [natB_getElem?, Option.map_eq_some_iff] at hx
            obtain ⟨y, hy, rfl⟩ := hx
            have hg := firstIdx_any lowB ((bs.drop a).take q)
            rw [hnone] at hg
            have hlo : lowB y = false := by
              have h1 : ((bs.drop a).take q).any lowB = false := hg.symm
              rw [List.any_eq_false] at h1
              have h2 := h1 y (List.mem_of_getElem? (i := j) (by rw [List.getElem?_take, if_pos hj]; exact hy))
              simpa using h2
            unfold lowB at hlo
            simpa using hlo
          by_cases h10 : m < 10
          · have hqe : q = m := by rw [hq, if_pos h10]
            rw [uread_short (natB (bs.drop a)) 0 (fun x hx => by
              obtain ⟨j, hj, e⟩ := List.mem_iff_getElem.1 hx
              exact hall j x (by rw [natB_length, hld] at hj; omega) (by rw [List.getElem?_eq_getElem hj, e])) (by rw [natB_length, hld]; omega)]
            exact Uint_short ad a m cm bs B w hr hB (by omega) (by omega) (by omega) hcm q hq h10 hnone
          · have hqe : q = 10 := by rw [hq, if_neg h10]
            rw [uread_long (natB (bs.drop a)) 0 (by omega) (fun j x hj hx => hall j x (by omega) hx) (by rw [natB_length, hld]; omega)]
            exact Uint_long ad a m cm bs B w hr hB (by omega) (by omega) (by omega) hcm q hq (by omega) hnone
        · obtain ⟨k, hk⟩ : ∃ k : Nat, firstIdx lowB ((bs.drop a).take q) = (k : Int) := ⟨(firstIdx lowB ((bs.drop a).take q)).toNat, by have := firstIdx_ge lowB ((bs.drop a).take q); omega⟩
          obtain ⟨x, hx, hxl, hbef⟩ := firstIdx_at lowB _ k hk
          have hkq : k < q := by have h := (List.getElem?_eq_some_iff.1 hx).1; rw [hlq] at h; exact h
          have hx1 : (bs.drop a)[k]? = some x := by rw [List.getElem?_take, if_pos hkq] at hx; exact hx
          have hx2 : bs[a + k]? = some x := by rw [List.getElem?_drop] at hx1; exact hx1
          have hx128 : x.toNat < 128 := by unfold lowB at hxl; simpa using hxl
          have hu := uread_hit (natB (bs.drop a)) (natB_lt _) 0 k x.toNat (by omega) (fun j y hj hy => by
            rw [natB_getElem?, Option.map_eq_some_iff] at hy
            obtain ⟨z, hz, rfl⟩ := hy
            have h1 := hbef j z hj (by rw [List.getElem?_take, if_pos (by omega)]; exact hz)
            unfold lowB at h1
            simpa using h1) (by rw [natB_getElem?, hx1]; rfl) hx128
          rw [Nat.zero_add] at hu
          by_cases hf : (k = 9 ∧ 1 < x.toNat) ∨ (0 < k ∧ x.toNat = 0)
          · rw [hu, if_pos hf]
            exact Uint_form ad a m cm bs B w hr hB (by omega) (by omega) (by omega) hcm q hq k x hkq hx2 hk hf
          · rw [hu, if_neg hf, ← natB_take]
            rcases (by omega : m < 10 ∨ m = 10 ∨ 10 < m) with h10 | h10 | h10
            · have hq9 : q = m := by rw [hq, if_pos h10]
              by_cases hk0 : k = 0
              · exact Uint_ltz ad a m cm bs B w hr hB (by omega) (by omega) (by omega) hcm q hq h10 k x hk0 hkq hx2 hk hf
              · exact Uint_ltp ad a m cm bs B w hr hB (by omega) (by omega) (by omega) hcm q hq h10 k x (by omega) (by omega) hkq hx2 hk hf
            · by_cases hk0 : k = 0
              · exact Uint_eqz ad a m cm bs B w hr hB (by omega) (by omega) (by omega) hcm q hq h10 k x hk0 hkq hx2 hk hf
              · by_cases hk9 : k = 9
                · exact Uint_eqn ad a m cm bs B w hr hB (by omega) (by omega) (by omega) hcm q hq h10 k x hk9 hkq hx2 hk hf
                · exact Uint_eqp ad a m cm bs B w hr hB (by omega) (by omega) (by omega) hcm q hq h10 k x (by omega) hk9 hkq hx2 hk hf
            · by_cases hk0 : k = 0
              · exact Uint_gtz ad a m cm bs B w hr hB (by omega) (by omega) (by omega) hcm q hq h10 k x hk0 hkq hx2 hk hf
              · by_cases hk9 : k = 9
                · exact Uint_gtn ad a m cm bs B w hr hB (by omega) (by omega) (by omega) hcm q hq h10 k x hk9 hkq hx2 hk hf
                · exact Uint_gtp ad a m cm bs B w hr hB (by omega) (by omega) (by omega) hcm q hq h10 k x (by omega) hk9 hkq hx2 hk hf
  · rw [uRes_err bs at_ err he]
    exact Uint_err A n c at_ err w he
end Go.Proofs.Ytadidldkphimfaa
