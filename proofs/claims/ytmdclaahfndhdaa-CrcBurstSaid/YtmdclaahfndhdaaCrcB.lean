/- Plain facts on a change within four bytes of sealed ones; four bytes that came in. -/
import Derived.Test.YtmdclaahfndhdaaLawCrc7
namespace Go.Proofs.Ytmdclaahfndhdaa
set_option linter.unusedVariables false
open Go.ChangeShapes Go.WideShapes Go.ChangeAt Go.RowKit

def xorB (s : List UInt8) (k i : Nat) (f : Nat → UInt8) : List UInt8 := s.mapIdx fun j x => if k ≤ j ∧ j < k + i then x ^^^ f (j - k) else x
theorem xorB_length (s : List UInt8) (k i : Nat) (f : Nat → UInt8) : (xorB s k i f).length = s.length := by simp [xorB]
theorem xorB_get (s : List UInt8) (k i : Nat) (f : Nat → UInt8) (j : Nat) : (xorB s k i f)[j]? = s[j]?.map fun x => if k ≤ j ∧ j < k + i then x ^^^ f (j - k) else x := by simp [xorB]
theorem xorB_zero (s : List UInt8) (k : Nat) (f : Nat → UInt8) : xorB s k 0 f = s := by
  apply List.ext_getElem?
  intro j
  rw [xorB_get]
  cases s[j]? with
  | none => rfl
  | some x => simp; intro h1 h2; omega
theorem xorB_step (s : List UInt8) (k i : Nat) (f : Nat → UInt8) (x : UInt8) (hx : s[k + i]? = some x) : (byteCells (xorB s k i f)).set (k + i) (.int .u8 ((x ^^^ f i).toNat : Int)) = byteCells (xorB s k (i + 1) f) := by
  have hlt : k + i < s.length := (List.getElem?_eq_some_iff.1 hx).1
  apply List.ext_getElem?
  intro j
  rw [List.getElem?_set]
  by_cases hj : k + i = j
  · subst hj
    rw [if_pos rfl, if_pos (by rw [byteCells_length, xorB_length]; exact hlt)]
    simp [byteCells, xorB_get, hx]
  · rw [if_neg hj]
    simp only [byteCells, List.getElem?_map, xorB_get]
    cases s[j]? with
    | none => rfl
    | some y =>
      simp only [Option.map_some]
      by_cases h1 : k ≤ j ∧ j < k + i
      · rw [if_pos h1, if_pos (by omega)]
      · rw [if_neg h1, if_neg (by omega)]
theorem xorB_at (s : List UInt8) (k i : Nat) (f : Nat → UInt8) (x : UInt8) (hx : s[k + i]? = some x) : (xorB s k i f)[k + i]? = some x := by
  rw [xorB_get, hx]; simp
theorem xor_self_zero {a b : UInt8} (h : a ^^^ b = a) : b = 0 := by
  have h1 : a.toNat ^^^ b.toNat = a.toNat := by rw [← UInt8.toNat_xor, h]
  have h2 := congrArg (a.toNat ^^^ ·) h1
  simp only [xor_same_left, Nat.xor_self] at h2
  exact UInt8.toNat_inj.1 h2
theorem regs_sealed (n : Nat) (s : List UInt8) (h4 : s.length = n + 4) : sealB step8 (s.take n) = s ↔ regs maskN (natB s) = step32 maskN := by
  have e : natB s = natB (s.take n) ++ natB (s.drop n) := by rw [← natB_append, List.take_append_drop]
  have h := seal_iff (natB (s.take n)) (natB (s.drop n)) (natB_lt _) (natB_lt _) (by rw [natB_length, List.length_drop]; omega)
  rw [← e] at h
  rw [← h, ← natB_sealB]
  exact ⟨fun h => by rw [h], fun h => natB_inj h⟩
theorem burst_law (bs : List UInt8) (n k : Nat) (f : Nat → UInt8) (hn : bs.length = n) (hk : k + 4 ≤ n + 4) :
    (sealB step8 ((xorB (sealB step8 bs) k 4 f).take n) == xorB (sealB step8 bs) k 4 f) = decide (f 0 = 0 ∧ f 1 = 0 ∧ f 2 = 0 ∧ f 3 = 0) := by
  have hls : (sealB step8 bs).length = n + 4 := by rw [sealB_length, hn]
  have h0 : regs maskN (natB (sealB step8 bs)) = step32 maskN := (regs_sealed n _ hls).1 (by rw [sealB_take _ _ _ hn])
  generalize sealB step8 bs = s at *
  have hls' : (xorB s k 4 f).length = n + 4 := by rw [xorB_length, hls]
  rw [Bool.eq_iff_iff, beq_iff_eq, decide_eq_true_iff, regs_sealed n _ hls']
  have hsp : ∀ l : List UInt8, natB l = natB (l.take k) ++ natB ((l.drop k).take 4) ++ natB (l.drop (k + 4)) := fun l => by
    rw [← natB_append, ← natB_append]
    congr 1
    rw [List.append_assoc, show l.drop (k + 4) = (l.drop k).drop 4 from by rw [List.drop_drop], List.take_append_drop, List.take_append_drop]
  have e1 : (xorB s k 4 f).take k = s.take k := by
    apply List.ext_getElem?
    intro j
    rw [List.getElem?_take, List.getElem?_take]
    by_cases h : j < k
    · rw [if_pos h, if_pos h, xorB_get]
      cases s[j]? with
      | none => rfl
      | some x => simp; intro h1; omega
    · rw [if_neg h, if_neg h]
  have e2 : (xorB s k 4 f).drop (k + 4) = s.drop (k + 4) := by
    apply List.ext_getElem?
    intro j
    rw [List.getElem?_drop, List.getElem?_drop, xorB_get]
    cases s[k + 4 + j]? with
    | none => rfl
    | some x => simp; intro h1 h2; omega
  constructor
  · intro h
    rw [hsp s] at h0
    rw [hsp (xorB s k 4 f), e1, e2] at h
    have hb := burst _ _ _ _ (natB_lt _) (natB_lt _) (natB_lt _) (natB_lt _) (by rw [natB_length, List.length_take, List.length_drop]; omega) (by rw [natB_length, List.length_take, List.length_drop]; omega) maskN (by decide) (h0.trans h.symm)
    have hc := natB_inj hb
    have hz : ∀ i, i < 4 → f i = 0 := fun i hi => by
      have hlt : k + i < s.length := by omega
      have h1 := congrArg (fun l => l[i]?) hc
      simp only [List.getElem?_take, if_pos hi, List.getElem?_drop, xorB_get, List.getElem?_eq_getElem hlt, Option.map_some, Option.some.injEq] at h1
      rw [if_pos (by omega), show k + i - k = i from by omega] at h1
      exact xor_self_zero h1.symm
    exact ⟨hz 0 (by omega), hz 1 (by omega), hz 2 (by omega), hz 3 (by omega)⟩
  · rintro ⟨f0, f1, f2, f3⟩
    rw [← h0]
    congr 2
    apply List.ext_getElem?
    intro j
    rw [xorB_get]
    cases s[j]? with
    | none => rfl
    | some x =>
      simp only [Option.map_some, Option.some.injEq]
      split
      · rename_i h
        have : f (j - k) = 0 := by
          rcases (by omega : j - k = 0 ∨ j - k = 1 ∨ j - k = 2 ∨ j - k = 3) with e | e | e | e <;> rw [e] <;> assumption
        rw [this]; simp
      · rfl

theorem open_four {H : Type} {enc : TypeId × Value → H} {w : World} {base b0 : Nat} {r : Reach} {v : Value} {d : DataW H} {p : List MemPlace}
    (hv : Value.okWide Try.prog w r b0 58 v) (h : DataW.Trod enc Try.prog w base (fun _ => true) true 58 v d p) : ∃ (f : Nat → UInt8), v = .agg #[.int .u8 ((f 0).toNat : Int), .int .u8 ((f 1).toNat : Int), .int .u8 ((f 2).toNat : Int), .int .u8 ((f 3).toNat : Int)] ∧ True := by
  obtain ⟨cs, rfl, hsz⟩ := okWide_array Try.underlying58 hv
  have hc : Try.prog.cellsOf 58 = 4 := by kernel_rfl
  have hc1 : Try.prog.cellsOf 5 = 1 := by kernel_rfl
  rw [hc] at hsz
  obtain ⟨fuel, hf⟩ := h
  have g := cells_of_ints Try.underlying58 Try.underlying5 hc1 hf
  have hg : ∀ i, ∃ n : UInt8, i < 4 → cs[i]? = some (.int .u8 (n.toNat : Int)) := fun i => by
    by_cases hi : i < 4
    · obtain ⟨z, hz, hw⟩ := g i hi
      have hb := bounds_u8 hw
      refine ⟨UInt8.ofNat z.toNat, fun _ => ?_⟩
      rw [byte_ofNat _ (by omega), show ((z.toNat : Nat) : Int) = z from by omega, ← hz]
      exact (Array.getElem?_toList ..).symm
    · exact ⟨0, fun h => absurd h hi⟩
  obtain ⟨f, hf⟩ := Classical.axiomOfChoice hg
  refine ⟨f, ?_, trivial⟩
  congr 1
  apply Array.ext_getElem?
  intro i
  by_cases hi : i < 4
  · rw [hf i hi]
    rcases (by omega : i = 0 ∨ i = 1 ∨ i = 2 ∨ i = 3) with rfl | rfl | rfl | rfl <;> rfl
  · rw [Array.getElem?_eq_none (by omega), Array.getElem?_eq_none (by simp; omega)]

theorem arr4_eq (d : Nat) (f : Nat → UInt8) (w : World) : (Op.equalIn (d + 2) 58 (.agg #[.int .u8 ((f 0).toNat : Int), .int .u8 ((f 1).toNat : Int), .int .u8 ((f 2).toNat : Int), .int .u8 ((f 3).toNat : Int)]) (.agg #[.int .u8 0, .int .u8 0, .int .u8 0, .int .u8 0])).run Try.prog w = .ok (decide (f 0 = 0 ∧ f 1 = 0 ∧ f 2 = 0 ∧ f 3 = 0)) w := by
  obtain ⟨i0, hi0, _⟩ := info_parts Try.infoU8
  have hC : Try.prog.cellsOf 5 = 1 := by kernel_rfl
  have hz : ∀ x : UInt8, x.toNat = 0 ↔ x = 0 := fun x => by rw [← UInt8.toNat_inj]; rfl
  rw [run_equalIn_array w (d + 1) _ _ Try.underlying58 hi0]
  by_cases h0 : f 0 = 0 <;> by_cases h1 : f 1 = 0 <;> by_cases h2 : f 2 = 0 <;> by_cases h3 : f 3 = 0 <;>
  simp [Op.eqItems, List.range, List.range.loop, go_sem, hC, run_equalIn_int _ d 5 .u8 .u8 _ _ Try.underlying5, h0, h1, h2, h3, hz]
theorem xorB_none (s : List UInt8) (k : Nat) (f : Nat → UInt8) (hz : f 0 = 0 ∧ f 1 = 0 ∧ f 2 = 0 ∧ f 3 = 0) : xorB s k 4 f = s := by
  obtain ⟨f0, f1, f2, f3⟩ := hz
  apply List.ext_getElem?
  intro j
  rw [xorB_get]
  cases s[j]? with
  | none => rfl
  | some x =>
    simp only [Option.map_some, Option.some.injEq]
    split
    · rename_i h
      have : f (j - k) = 0 := by
        rcases (by omega : j - k = 0 ∨ j - k = 1 ∨ j - k = 2 ∨ j - k = 3) with e | e | e | e <;> rw [e] <;> assumption
      rw [this]; simp
    · rfl
theorem arr4_yes (d : Nat) (f : Nat → UInt8) (w : World) (hz : f 0 = 0 ∧ f 1 = 0 ∧ f 2 = 0 ∧ f 3 = 0) : (Op.equalIn (d + 2) 58 (.agg #[.int .u8 ((f 0).toNat : Int), .int .u8 ((f 1).toNat : Int), .int .u8 ((f 2).toNat : Int), .int .u8 ((f 3).toNat : Int)]) (.agg #[.int .u8 0, .int .u8 0, .int .u8 0, .int .u8 0])).run Try.prog w = .ok true w := by
  rw [arr4_eq, decide_eq_true hz]
theorem arr4_no (d : Nat) (f : Nat → UInt8) (w : World) (hz : ¬ (f 0 = 0 ∧ f 1 = 0 ∧ f 2 = 0 ∧ f 3 = 0)) : (Op.equalIn (d + 2) 58 (.agg #[.int .u8 ((f 0).toNat : Int), .int .u8 ((f 1).toNat : Int), .int .u8 ((f 2).toNat : Int), .int .u8 ((f 3).toNat : Int)]) (.agg #[.int .u8 0, .int .u8 0, .int .u8 0, .int .u8 0])).run Try.prog w = .ok false w := by
  rw [arr4_eq, decide_eq_false hz]
end Go.Proofs.Ytmdclaahfndhdaa
