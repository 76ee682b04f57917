/- What stands at a place of bytes: one contract of frame.Next, one of its reference, and the plain facts. -/
import Derived.Test.YtfbcdheemhenmaaFrame3
namespace Go.Proofs.Ytfbcdheemhenmaa
set_option linter.unusedVariables false
open Go.RowKit

def nextR : List UInt8 → Nat ⊕ (UInt8 × List UInt8)
  | [] => .inl 1
  | [_] => .inl 2
  | [_, _] => .inl 2
  | x0 :: x1 :: x2 :: t =>
    if t.length < 4 then .inl 2
    else if 200 < 256 * x0.toNat + x1.toNat then .inl 3
    else if t.length < 256 * x0.toNat + x1.toNat + 4 then .inl 2
    else if (x2.toNat : Int) < 1 ∨ 3 < (x2.toNat : Int) then .inl 3
    else if frameB (x2.toNat : Int) (t.take (256 * x0.toNat + x1.toNat)) == (x0 :: x1 :: x2 :: t).take (256 * x0.toNat + x1.toNat + 7) then .inr (x2, t.take (256 * x0.toNat + x1.toNat)) else .inl 3
def nextF (bs : List UInt8) (at_ : Int) : Nat ⊕ (UInt8 × List UInt8) := if at_ < 0 ∨ (bs.length : Int) < at_ then .inl 3 else nextR (bs.drop at_.toNat)

theorem nextR_cons (x0 x1 x2 : UInt8) (t : List UInt8) : nextR (x0 :: x1 :: x2 :: t) = if t.length < 4 then .inl 2
    else if 200 < 256 * x0.toNat + x1.toNat then .inl 3
    else if t.length < 256 * x0.toNat + x1.toNat + 4 then .inl 2
    else if (x2.toNat : Int) < 1 ∨ 3 < (x2.toNat : Int) then .inl 3
    else if frameB (x2.toNat : Int) (t.take (256 * x0.toNat + x1.toNat)) == (x0 :: x1 :: x2 :: t).take (256 * x0.toNat + x1.toNat + 7) then .inr (x2, t.take (256 * x0.toNat + x1.toNat)) else .inl 3 := rfl
theorem three_of (r : List UInt8) (h : 3 ≤ r.length) : ∃ x0 x1 x2 t, r = x0 :: x1 :: x2 :: t := by
  match r, h with
  | x0 :: x1 :: x2 :: t, _ => exact ⟨x0, x1, x2, t, rfl⟩
theorem frameB_head (x0 x1 x2 : UInt8) (t : List UInt8) (q : Nat) (hq : 256 * x0.toNat + x1.toNat = q) (hl : q ≤ t.length) : frameB (x2.toNat : Int) (t.take q) = sealB step8 (((x0 :: x1 :: x2 :: t).take (q + 7)).take (q + 3)) := by
  unfold frameB headB
  congr 1
  rw [List.take_take, Nat.min_eq_left (by omega), List.length_take, Nat.min_eq_left hl]
  have h0 := x0.toNat_lt
  have h1 := x1.toNat_lt
  have e0 : UInt8.ofNat (q / 256) = x0 := by
    apply UInt8.toNat_inj.1; simp; omega
  have e1 : UInt8.ofNat (q % 256) = x1 := by
    apply UInt8.toNat_inj.1; simp; omega
  have e2 : UInt8.ofNat (x2.toNat : Int).toNat = x2 := by simp
  rw [e0, e1, e2]
  rfl

/-- what a frame's bytes are read as. -/
theorem nextR_frame (k : Int) (p q : List UInt8) (h1 : 1 ≤ k) (h3 : k ≤ 3) (hp : p.length ≤ 200) : nextR (frameB k p ++ q) = .inr (UInt8.ofNat k.toNat, p) := by
  have e : frameB k p ++ q = UInt8.ofNat (p.length / 256) :: UInt8.ofNat (p.length % 256) :: UInt8.ofNat k.toNat :: (p ++ (le4B (sumT step8 0 (natB (headB p.length k ++ p))) ++ q)) := by
    unfold frameB sealB headB
    simp
  have hk : ((UInt8.ofNat k.toNat).toNat : Int) = k := by rw [byte_ofNat _ (by omega)]; omega
  have hq : 256 * (UInt8.ofNat (p.length / 256)).toNat + (UInt8.ofNat (p.length % 256)).toNat = p.length := by simp; omega
  have hl : (p ++ (le4B (sumT step8 0 (natB (headB p.length k ++ p))) ++ q)).length = p.length + 4 + q.length := by simp [le4B_length]; omega
  have ht : (p ++ (le4B (sumT step8 0 (natB (headB p.length k ++ p))) ++ q)).take p.length = p := by simp
  have hf : (frameB k p ++ q).take (p.length + 7) = frameB k p := by rw [← frameB_length k p]; simp
  rw [e] at hf ⊢
  rw [nextR_cons, hq, if_neg (by omega), if_neg (by omega), if_neg (by omega), hk, if_neg (by omega), ht, hf, if_pos (by simp)]
theorem nextR_whole (r : List UInt8) (x2 : UInt8) (p : List UInt8) (h : nextR r = .inr (x2, p)) : 1 ≤ (x2.toNat : Int) ∧ (x2.toNat : Int) ≤ 3 ∧ p.length ≤ 200 ∧ p.length + 7 ≤ r.length ∧ r.take (p.length + 7) = frameB (x2.toNat : Int) p := by
  unfold nextR at h
  split at h
  · cases h
  · cases h
  · cases h
  · split at h
    · cases h
    · split at h
      · cases h
      · split at h
        · cases h
        · split at h
          · cases h
          · split at h
            · rename_i hb
              simp only [Sum.inr.injEq, Prod.mk.injEq] at h
              obtain ⟨rfl, rfl⟩ := h
              rename_i x0 x1 x2 t h1 h2 h3 h4
              have hl : (t.take (256 * x0.toNat + x1.toNat)).length = 256 * x0.toNat + x1.toNat := by rw [List.length_take, Nat.min_eq_left (by omega)]
              rw [hl]
              refine ⟨by omega, by omega, by omega, by simp; omega, ?_⟩
              rw [beq_iff_eq] at hb
              exact hb.symm
            · cases h
theorem nextR_not (r : List UInt8) (k : Nat) (h : nextR r = .inl k) : 1 ≤ k ∧ k ≤ 3 ∧ (k = 1 ↔ r = []) := by
  unfold nextR at h
  split at h
  · cases h; simp
  · cases h; simp
  · cases h; simp
  · split at h
    · cases h; simp
    · split at h
      · cases h; simp
      · split at h
        · cases h; simp
        · split at h
          · cases h; simp
          · split at h
            · cases h
            · cases h; simp
theorem nextF_at (bs : List UInt8) (a : Nat) (h : a ≤ bs.length) : nextF bs (a : Int) = nextR (bs.drop a) := by
  unfold nextF; rw [if_neg (by omega), Int.toNat_natCast]
theorem nextF_not (bs : List UInt8) (at_ : Int) (k : Nat) (h : nextF bs at_ = .inl k) : 1 ≤ k ∧ k ≤ 3 ∧ (k = 1 ↔ at_ = (bs.length : Int)) := by
  unfold nextF at h
  split at h
  · cases h
    refine ⟨by omega, by omega, by omega⟩
  · obtain ⟨h1, h2, h3⟩ := nextR_not _ _ h
    refine ⟨h1, h2, ?_⟩
    rw [h3, List.drop_eq_nil_iff]
    omega
theorem nextF_whole (bs : List UInt8) (at_ : Int) (x2 : UInt8) (p : List UInt8) (h : nextF bs at_ = .inr (x2, p)) : 0 ≤ at_ ∧ at_ + p.length + 7 ≤ bs.length ∧ 1 ≤ (x2.toNat : Int) ∧ (x2.toNat : Int) ≤ 3 ∧ p.length ≤ 200 ∧ (bs.drop at_.toNat).take (p.length + 7) = frameB (x2.toNat : Int) p := by
  unfold nextF at h
  split at h
  · cases h
  · obtain ⟨h1, h2, h3, h4, h5⟩ := nextR_whole _ _ _ h
    rw [List.length_drop] at h4
    exact ⟨by omega, by omega, h1, h2, h3, h5⟩

def NextOk (s : Nat ⊕ (UInt8 × List UInt8)) (B : Nat) (w : World) (e : Ending) (w' : World) : Prop :=
  Below w.heap.size w w' ∧ match s with
  | .inl k => e = .returned (.tuple #[.int .i64 (k : Int), .int .i64 0, .slice none 0 0, .int .i64 0])
  | .inr (x, p) => ∃ A', e = .returned (.tuple #[.int .i64 0, .int .i64 (x.toNat : Int), .slice A' p.length p.length, .int .i64 ((p.length : Int) + 7)]) ∧ Reads w' B 1 A' p.length (byteCells p)
def rNextOk (s : Nat ⊕ (UInt8 × List UInt8)) (B : Nat) (w : World) (e : Ending) (w' : World) : Prop :=
  Below w.heap.size w w' ∧ match s with
  | .inl k => e = .returned (.agg #[.int .i64 (k : Int), .int .i64 0, .slice none 0 0, .int .i64 0])
  | .inr (x, p) => ∃ A' c', e = .returned (.agg #[.int .i64 0, .int .i64 (x.toNat : Int), .slice A' p.length c', .int .i64 (7 + (p.length : Int))]) ∧ Reads w' B 1 A' p.length (byteCells p)

theorem Next_c (A : Option Addr) (n c : Nat) (at_ : Int) (bs : List UInt8) (B : Nat) (w : World) (hr : Reads w B 1 A n (byteCells bs)) (hB : B ≤ w.heap.size) (hnc : n ≤ c) (hcm : c ≤ 9223372036854775807) (hn : n ≤ 10000) :
    Calls Try.prog 8 #[.slice A n c, .int .i64 at_] w (NextOk (nextF bs at_) B w) := by
  have hl := hr.lenB
  by_cases h0 : at_ < 0 ∨ (n : Int) < at_
  · rw [show nextF bs at_ = .inl 3 from by unfold nextF; rw [if_pos (by omega)]]
    refine (Next_out A n c at_ w h0).mono ?_
    rintro e w' ⟨rfl, rfl⟩
    exact ⟨Below.refl _ _, rfl⟩
  · obtain ⟨a, rfl⟩ : ∃ a : Nat, at_ = (a : Int) := ⟨at_.toNat, by omega⟩
    obtain ⟨m, rfl⟩ : ∃ m, n = a + m := ⟨n - a, by omega⟩
    obtain ⟨cm, rfl⟩ : ∃ cm, c = a + cm := ⟨c - a, by omega⟩
    rw [nextF_at bs a (by omega)]
    have hlr : (bs.drop a).length = m := by rw [List.length_drop]; omega
    by_cases hm0 : m = 0
    · subst hm0
      rw [show bs.drop a = [] from List.eq_nil_of_length_eq_zero hlr]
      refine (Next_end A a (a + cm) w (by omega)).mono ?_
      rintro e w' ⟨rfl, rfl⟩
      exact ⟨Below.refl _ _, rfl⟩
    · by_cases hm7 : m < 7
      · have e : nextR (bs.drop a) = .inl 2 := by
          generalize bs.drop a = r at *
          match r, hlr with
          | [], h => simp at h; omega
          | [_], _ => rfl
          | [_, _], _ => rfl
          | x0 :: x1 :: x2 :: t, h => rw [nextR_cons, if_pos (by simp at h; omega)]
        rw [e]
        refine (Next_few A a m cm w (by omega) hm7 (by omega) hcm).mono ?_
        rintro e w' ⟨rfl, rfl⟩
        exact ⟨Below.refl _ _, rfl⟩
      · obtain ⟨ad, rfl, _⟩ := hr.2 (by omega)
        obtain ⟨x0, x1, x2, t, ht⟩ := three_of (bs.drop a) (by omega)
        have hg : ∀ j, bs[a + j]? = (bs.drop a)[j]? := fun j => by rw [List.getElem?_drop]
        have e0 : bs[a]? = some x0 := by have := hg 0; rw [ht] at this; simpa using this
        have e1 : bs[a + 1]? = some x1 := by rw [hg 1, ht]; rfl
        have e2 : bs[a + 2]? = some x2 := by rw [hg 2, ht]; rfl
        have hd3 : bs.drop (a + 3) = t := by rw [← List.drop_drop, ht]; rfl
        have htl : t.length + 3 = m := by rw [ht] at hlr; simpa using hlr
        obtain ⟨q, hq⟩ : ∃ q, 256 * x0.toNat + x1.toNat = q := ⟨_, rfl⟩
        have e : nextR (bs.drop a) = if t.length < 4 then .inl 2 else if 200 < q then .inl 3 else if t.length < q + 4 then .inl 2 else if (x2.toNat : Int) < 1 ∨ 3 < (x2.toNat : Int) then .inl 3 else if frameB (x2.toNat : Int) (t.take q) == (bs.drop a).take (q + 7) then .inr (x2, t.take q) else .inl 3 := by
          rw [ht, ← hq]; rfl
        rw [e, if_neg (by omega)]
        clear e
        by_cases h2 : 200 < q
        · rw [if_pos h2]
          refine (Next_big ad a m cm bs x0 x1 x2 B w (by omega) (by omega) (by omega) hcm hr hB e0 e1 e2 q hq h2).mono ?_
          rintro e w' ⟨rfl, hb⟩
          exact ⟨hb, rfl⟩
        · rw [if_neg h2]
          by_cases h3 : t.length < q + 4
          · rw [if_pos h3]
            refine (Next_torn ad a m cm bs x0 x1 x2 B w (by omega) (by omega) (by omega) hcm hr hB e0 e1 e2 q hq (by omega) (by omega)).mono ?_
            rintro e w' ⟨rfl, hb⟩
            exact ⟨hb, rfl⟩
          · rw [if_neg h3]
            by_cases hk : (x2.toNat : Int) < 1 ∨ 3 < (x2.toNat : Int)
            · rw [if_pos hk]
              refine (Next_kind ad a m cm bs x0 x1 x2 B w (by omega) (by omega) (by omega) hcm hr hB e0 e1 e2 q hq (by omega) (by omega) hk).mono ?_
              rintro e w' ⟨rfl, hb⟩
              exact ⟨hb, rfl⟩
            · rw [if_neg hk]
              have hf := frameB_head x0 x1 x2 t q hq (by omega)
              rw [← ht] at hf
              by_cases hs : frameB (x2.toNat : Int) (t.take q) == (bs.drop a).take (q + 7)
              · rw [if_pos hs]
                rw [hf] at hs
                refine (Next_yes ad a m cm bs x0 x1 x2 B w (by omega) (by omega) (by omega) hcm hr hB e0 e1 e2 q hq (by omega) (by omega) (by omega) (by omega) hs).mono ?_
                rintro e w' ⟨A', rfl, hR, hb⟩
                rw [hd3] at hR
                have hlq : (t.take q).length = q := by rw [List.length_take, Nat.min_eq_left (by omega)]
                refine ⟨hb, A', by rw [hlq], by rw [hlq]; exact hR⟩
              · rw [if_neg hs]
                rw [hf, Bool.not_eq_true] at hs
                refine (Next_bad ad a m cm bs x0 x1 x2 B w (by omega) (by omega) (by omega) hcm hr hB e0 e1 e2 q hq (by omega) (by omega) (by omega) (by omega) hs).mono ?_
                rintro e w' ⟨rfl, hb⟩
                exact ⟨hb, rfl⟩
theorem rNext_c (A : Option Addr) (n c : Nat) (at_ : Int) (bs : List UInt8) (B : Nat) (w : World) (hr : Reads w B 1 A n (byteCells bs)) (hB : B ≤ w.heap.size) (hnc : n ≤ c) (hcm : c ≤ 9223372036854775807) (hn : n ≤ 10000) :
    Calls Try.prog 9 #[.slice A n c, .int .i64 at_] w (rNextOk (nextF bs at_) B w) := by
  have hl := hr.lenB
  by_cases h0 : at_ < 0 ∨ (n : Int) < at_
  · rw [show nextF bs at_ = .inl 3 from by unfold nextF; rw [if_pos (by omega)]]
    refine (rNext_out A n c at_ w h0).mono ?_
    rintro e w' ⟨rfl, hb⟩
    exact ⟨hb, rfl⟩
  · obtain ⟨a, rfl⟩ : ∃ a : Nat, at_ = (a : Int) := ⟨at_.toNat, by omega⟩
    obtain ⟨m, rfl⟩ : ∃ m, n = a + m := ⟨n - a, by omega⟩
    obtain ⟨cm, rfl⟩ : ∃ cm, c = a + cm := ⟨c - a, by omega⟩
    rw [nextF_at bs a (by omega)]
    have hlr : (bs.drop a).length = m := by rw [List.length_drop]; omega
    by_cases hm0 : m = 0
    · subst hm0
      rw [show bs.drop a = [] from List.eq_nil_of_length_eq_zero hlr]
      refine (rNext_end A a (a + cm) w (by omega)).mono ?_
      rintro e w' ⟨rfl, hb⟩
      exact ⟨hb, rfl⟩
    · by_cases hm7 : m < 7
      · have e : nextR (bs.drop a) = .inl 2 := by
          generalize bs.drop a = r at *
          match r, hlr with
          | [], h => simp at h; omega
          | [_], _ => rfl
          | [_, _], _ => rfl
          | x0 :: x1 :: x2 :: t, h => rw [nextR_cons, if_pos (by simp at h; omega)]
        rw [e]
        refine (rNext_few A a m cm w (by omega) hm7 (by omega) hcm).mono ?_
        rintro e w' ⟨rfl, hb⟩
        exact ⟨hb, rfl⟩
      · obtain ⟨ad, rfl, _⟩ := hr.2 (by omega)
        obtain ⟨x0, x1, x2, t, ht⟩ := three_of (bs.drop a) (by omega)
        have hg : ∀ j, bs[a + j]? = (bs.drop a)[j]? := fun j => by rw [List.getElem?_drop]
        have e0 : bs[a]? = some x0 := by have := hg 0; rw [ht] at this; simpa using this
        have e1 : bs[a + 1]? = some x1 := by rw [hg 1, ht]; rfl
        have e2 : bs[a + 2]? = some x2 := by rw [hg 2, ht]; rfl
        have hd3 : bs.drop (a + 3) = t := by rw [← List.drop_drop, ht]; rfl
        have htl : t.length + 3 = m := by rw [ht] at hlr; simpa using hlr
        obtain ⟨q, hq⟩ : ∃ q, 256 * x0.toNat + x1.toNat = q := ⟨_, rfl⟩
        have e : nextR (bs.drop a) = if t.length < 4 then .inl 2 else if 200 < q then .inl 3 else if t.length < q + 4 then .inl 2 else if (x2.toNat : Int) < 1 ∨ 3 < (x2.toNat : Int) then .inl 3 else if frameB (x2.toNat : Int) (t.take q) == (bs.drop a).take (q + 7) then .inr (x2, t.take q) else .inl 3 := by
          rw [ht, ← hq]; rfl
        rw [e, if_neg (by omega)]
        clear e
        by_cases h2 : 200 < q
        · rw [if_pos h2]
          refine (rNext_big ad a m cm bs x0 x1 x2 B w (by omega) (by omega) (by omega) hcm hr hB e0 e1 e2 q hq h2).mono ?_
          rintro e w' ⟨rfl, hb⟩
          exact ⟨hb, rfl⟩
        · rw [if_neg h2]
          by_cases h3 : t.length < q + 4
          · rw [if_pos h3]
            refine (rNext_torn ad a m cm bs x0 x1 x2 B w (by omega) (by omega) (by omega) hcm hr hB e0 e1 e2 q hq (by omega) (by omega)).mono ?_
            rintro e w' ⟨rfl, hb⟩
            exact ⟨hb, rfl⟩
          · rw [if_neg h3]
            by_cases hk : (x2.toNat : Int) < 1 ∨ 3 < (x2.toNat : Int)
            · rw [if_pos hk]
              refine (rNext_kind ad a m cm bs x0 x1 x2 B w (by omega) (by omega) (by omega) hcm hr hB e0 e1 e2 q hq (by omega) (by omega) hk).mono ?_
              rintro e w' ⟨rfl, hb⟩
              exact ⟨hb, rfl⟩
            · rw [if_neg hk]
              have hlq : (t.take q).length = q := by rw [List.length_take, Nat.min_eq_left (by omega)]
              by_cases hs : frameB (x2.toNat : Int) (t.take q) == (bs.drop a).take (q + 7)
              · rw [if_pos hs]
                rw [← hd3] at hs
                refine (rNext_yes ad a m cm bs x0 x1 x2 B w (by omega) (by omega) (by omega) hcm hr hB e0 e1 e2 q hq (by omega) (by omega) (by omega) (by omega) hs).mono ?_
                rintro e w' ⟨rfl, hb⟩
                refine ⟨hb, _, _, by rw [hlq], ?_⟩
                have h := ((hr.below (hb.mono hB)).sufB (k := a + 3) (cap := a + cm) (by omega) (by omega)).preB (k := q) (by omega)
                rw [if_neg (by omega), Option.map_some, hd3] at h
                rw [hlq]; exact h
              · rw [if_neg hs]
                rw [← hd3, Bool.not_eq_true] at hs
                refine (rNext_bad ad a m cm bs x0 x1 x2 B w (by omega) (by omega) (by omega) hcm hr hB e0 e1 e2 q hq (by omega) (by omega) (by omega) (by omega) hs).mono ?_
                rintro e w' ⟨rfl, hb⟩
                exact ⟨hb, rfl⟩
end Go.Proofs.Ytfbcdheemhenmaa
