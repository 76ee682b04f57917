/- A table that came in, opened. -/
import Derived.Test.YtmdclaahfndhdaaArgs
import Derived.Test.YtmdclaahfndhdaaCrc
namespace Go.Proofs.Ytmdclaahfndhdaa
set_option linter.unusedVariables false
open Go.ChangeShapes Go.WideShapes Go.ChangeAt Go.RowKit

/-- what a row of integers reads as, cell by cell. -/
theorem cells_of_ints {H : Type} {enc : TypeId × Value → H} {P : Program} {w : World} {base : Nat} {spare : Nat → Bool} {held : Bool} {fuel n : Nat} {t e : TypeId} {k : IntKind} {cs : List Value} {x : DataW H × List MemPlace}
    (ht : P.underlying t = some (.array n e)) (he : P.underlying e = some (.int k)) (hC : P.cellsOf e = 1) (h : DataW.trod enc P w base spare held fuel t cs = some x) (i : Nat) (hi : i < n) : ∃ z, cs[i]? = some (.int k z) ∧ (Lit.int k z).wf = true := by
  obtain ⟨xs, m, _, _, _, hl, hx⟩ := DataW.trod_array ht h
  have h1 := hx i hi
  rw [hC, Nat.mul_one, List.getElem?_eq_getElem (by omega)] at h1
  obtain ⟨z, hz, _, hw⟩ := DataW.trod_int he h1
  refine ⟨z, ?_, hw⟩
  have h2 : ((cs.drop i).take 1)[0]? = some (.int k z) := by rw [hz]; rfl
  rw [List.getElem?_take, if_pos (by omega), List.getElem?_drop] at h2
  simpa using h2

theorem okWide_array {P : Program} {w : World} {r : Reach} {base n : Nat} {t e : TypeId} {v : Value} (ht : P.underlying t = some (.array n e)) (h : Value.okWide P w r base t v) : ∃ cs, v = .agg cs ∧ cs.size = P.cellsOf t := by
  simp only [Value.okWide, ht] at h
  obtain ⟨cs, h1, h2, _⟩ := h
  exact ⟨cs, h1, h2⟩
theorem open_tab {H : Type} {enc : TypeId × Value → H} {w : World} {base b0 : Nat} {r : Reach} {v : Value} {d : DataW H} {p : List MemPlace}
    (hv : Value.okWide Try.prog w r b0 44 v) (h : DataW.Trod enc Try.prog w base (fun _ => true) true 44 v d p) : ∃ (t : Nat → Nat), v = .agg (tabArr t) ∧ (∀ i, i < 256 → t i < 4294967296) := by
  obtain ⟨cs, rfl, hsz⟩ := okWide_array Try.underlying44 hv
  have hc : Try.prog.cellsOf 44 = 256 := by kernel_rfl
  have hc1 : Try.prog.cellsOf 43 = 1 := by kernel_rfl
  rw [hc] at hsz
  obtain ⟨fuel, hf⟩ := h
  have g := cells_of_ints Try.underlying44 Try.underlying43 hc1 hf
  have hg : ∀ i, ∃ n : Nat, i < 256 → (cs[i]? = some (.int .u32 n) ∧ n < 4294967296) := fun i => by
    by_cases hi : i < 256
    · obtain ⟨z, hz, hw⟩ := g i hi
      have hb := bounds_u32 hw
      refine ⟨z.toNat, fun _ => ⟨?_, by omega⟩⟩
      rw [show ((z.toNat : Nat) : Int) = z from by omega, ← hz]
      exact (Array.getElem?_toList ..).symm
    · exact ⟨0, fun h => absurd h hi⟩
  obtain ⟨t, ht⟩ := Classical.axiomOfChoice hg
  refine ⟨t, ?_, fun i hi => (ht i hi).2⟩
  congr 1
  apply Array.ext_getElem?
  intro i
  by_cases hi : i < 256
  · rw [tabArr_get _ _ hi, (ht i hi).1]
  · rw [Array.getElem?_eq_none (by omega), Array.getElem?_eq_none (by rw [tabArr_size]; omega)]
end Go.Proofs.Ytmdclaahfndhdaa
