/- What is taken; the walk of WireRight. -/
import Derived.Test.YtgpefnlmlicopaaWire13
import Derived.Lib.SmallJoins
namespace Go.Proofs.Ytgpefnlmlicopaa
set_option linter.unusedVariables false
open Go.RowKit

/-- what a cursor takes. -/
def tRes (bs : List UInt8) (at_ err k : Int) : Int × Int × List UInt8 :=
  if err ≠ 0 then (at_, err, []) else if at_ < 0 ∨ (bs.length : Int) < at_ ∨ k < 0 then (at_, 1, [])
  else if (bs.length : Int) - at_ < k then (at_, 10, []) else (at_ + k, 0, (bs.drop at_.toNat).take k.toNat)
theorem own_none (w : World) (base : Nat) (e : TypeId) : w.ownsRow base e 1 (.slice none 0 0) 0 [] := ⟨rfl, .inl ⟨rfl, rfl⟩⟩
theorem Take_u (A : Option Addr) (n c : Nat) (at_ err : Int) (bs : List UInt8) (B : Nat) (w : World) (hr : Reads w B 1 A n (byteCells bs)) (hB : B ≤ w.heap.size) (hnc : n ≤ c) (hcm : c ≤ 9223372036854775807) (hn : n ≤ 10000) (k x y : Int) (l : List UInt8) (m : Nat) (hm : l.length = m) (ht : tRes bs at_ err k = (x, y, l)) :
    Calls Try.prog 21 #[.agg #[.slice A n c, .int .i64 at_, .int .i64 err], .int .i64 k] w fun e w' => ∃ A' c', e = .returned (.tuple #[.agg #[.slice A n c, .int .i64 x, .int .i64 y], .slice A' m c']) ∧ Reads w' B 1 A' m (byteCells l) ∧ Below w.heap.size w w' := by
  have hll := hr.lenB
  subst hm
  unfold tRes at ht
  by_cases he : err = 0
  · subst he
    rw [if_neg (by simp)] at ht
    by_cases h1 : at_ < 0 ∨ (bs.length : Int) < at_ ∨ k < 0
    · rw [if_pos h1] at ht
      simp only [Prod.mk.injEq] at ht
      obtain ⟨rfl, rfl, rfl⟩ := ht
      by_cases h2 : at_ < 0 ∨ (n : Int) < at_
      · refine (Take_arg0 A n c at_ k w h2).mono ?_
        rintro e w' ⟨rfl, hb⟩
        exact ⟨none, 0, rfl, Reads.none_, hb⟩
      · refine (Take_neg A n c at_ k w (by omega) (by omega) (by omega)).mono ?_
        rintro e w' ⟨rfl, hb⟩
        exact ⟨none, 0, rfl, Reads.none_, hb⟩
    · rw [if_neg h1] at ht
      by_cases h2 : (bs.length : Int) - at_ < k
      · rw [if_pos h2] at ht
        simp only [Prod.mk.injEq] at ht
        obtain ⟨rfl, rfl, rfl⟩ := ht
        refine (Take_short A n c at_ k w (by omega) (by omega) (by omega) (by omega) (by omega)).mono ?_
        rintro e w' ⟨rfl, hb⟩
        exact ⟨none, 0, rfl, Reads.none_, hb⟩
      · rw [if_neg h2] at ht
        simp only [Prod.mk.injEq] at ht
        obtain ⟨rfl, rfl, rfl⟩ := ht
        obtain ⟨a, rfl⟩ : ∃ a : Nat, at_ = (a : Int) := ⟨at_.toNat, by omega⟩
        obtain ⟨k, rfl⟩ : ∃ j : Nat, k = (j : Int) := ⟨k.toNat, by omega⟩
        rw [Int.toNat_natCast, Int.toNat_natCast, show ((bs.drop a).take k).length = k from by rw [List.length_take, List.length_drop]; omega]
        refine (Take_c A n c a k bs B w hr hB hnc hcm (by omega)).mono ?_
        rintro e w' ⟨A', rfl, hR, hb⟩
        exact ⟨A', k, rfl, hR, hb⟩
  · rw [if_pos he] at ht
    simp only [Prod.mk.injEq] at ht
    obtain ⟨rfl, rfl, rfl⟩ := ht
    refine (Take_err A n c at_ err k w he).mono ?_
    rintro e w' ⟨rfl, hb⟩
    exact ⟨none, 0, rfl, Reads.none_, hb⟩
theorem rTake_u (A : Option Addr) (n c : Nat) (at_ err : Int) (bs : List UInt8) (B : Nat) (w : World) (hr : Reads w B 1 A n (byteCells bs)) (hB : B ≤ w.heap.size) (hnc : n ≤ c) (hcm : c ≤ 9223372036854775807) (hn : n ≤ 10000) (k x y : Int) (l : List UInt8) (m : Nat) (hm : l.length = m) (ht : tRes bs at_ err k = (x, y, l)) :
    Calls Try.prog 22 #[.agg #[.slice A n c, .int .i64 at_, .int .i64 err], .int .i64 k] w fun e w' => ∃ A' c', e = .returned (.tuple #[.agg #[.slice A n c, .int .i64 x, .int .i64 y], .slice A' m c']) ∧ w'.ownsRow w.heap.size 5 1 (.slice A' m c') m (byteCells l) ∧ Below w.heap.size w w' := by
  have hll := hr.lenB
  subst hm
  unfold tRes at ht
  by_cases he : err = 0
  · subst he
    rw [if_neg (by simp)] at ht
    by_cases h1 : at_ < 0 ∨ (bs.length : Int) < at_ ∨ k < 0
    · rw [if_pos h1] at ht
      simp only [Prod.mk.injEq] at ht
      obtain ⟨rfl, rfl, rfl⟩ := ht
      by_cases h2 : at_ < 0 ∨ (n : Int) < at_
      · refine (rTake_arg0 A n c at_ k w h2).mono ?_
        rintro e w' ⟨rfl, hb⟩
        exact ⟨none, 0, rfl, own_none _ _ _, hb⟩
      · refine (rTake_neg A n c at_ k w (by omega) (by omega) (by omega)).mono ?_
        rintro e w' ⟨rfl, hb⟩
        exact ⟨none, 0, rfl, own_none _ _ _, hb⟩
    · rw [if_neg h1] at ht
      by_cases h2 : (bs.length : Int) - at_ < k
      · rw [if_pos h2] at ht
        simp only [Prod.mk.injEq] at ht
        obtain ⟨rfl, rfl, rfl⟩ := ht
        refine (rTake_short A n c at_ k w (by omega) (by omega) (by omega) (by omega) (by omega)).mono ?_
        rintro e w' ⟨rfl, hb⟩
        exact ⟨none, 0, rfl, own_none _ _ _, hb⟩
      · rw [if_neg h2] at ht
        simp only [Prod.mk.injEq] at ht
        obtain ⟨rfl, rfl, rfl⟩ := ht
        obtain ⟨a, rfl⟩ : ∃ a : Nat, at_ = (a : Int) := ⟨at_.toNat, by omega⟩
        obtain ⟨k, rfl⟩ : ∃ j : Nat, k = (j : Int) := ⟨k.toNat, by omega⟩
        rw [Int.toNat_natCast, Int.toNat_natCast, show ((bs.drop a).take k).length = k from by rw [List.length_take, List.length_drop]; omega]
        exact rTake_c A n c a k bs B w hr hB hnc hcm (by omega) hn
  · rw [if_pos he] at ht
    simp only [Prod.mk.injEq] at ht
    obtain ⟨rfl, rfl, rfl⟩ := ht
    refine (rTake_err A n c at_ err k w he).mono ?_
    rintro e w' ⟨rfl, hb⟩
    exact ⟨none, 0, rfl, own_none _ _ _, hb⟩
end Go.Proofs.Ytgpefnlmlicopaa
