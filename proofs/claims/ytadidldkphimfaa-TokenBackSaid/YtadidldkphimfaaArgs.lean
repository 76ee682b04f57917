/- What a walk is told of an argument that came in: slices of integers, slices of strings, strings. And the last step of a law. -/
import Derived.Test.YtadidldkphimfaaWords
import Derived.ProofKit
import Derived.OpenShut
import Derived.ShutString
import Derived.ChangeOld
namespace Go.Proofs.Ytadidldkphimfaa
set_option linter.unusedVariables false
open Go.ChangeShapes Go.WideShapes Go.ChangeAt Go.RowKit
open Go.ChangeMaps (open_string shut_string)

/-- a slice of integers that came in: it reads as zs. -/
def IntArg (k : IntKind) (w : World) (A : Option Addr) (n c : Nat) (zs : List Int) : Prop :=
  Reads w w.heap.size 1 A n (zs.map (Value.int k)) ∧ n ≤ c ∧ c ≤ maxLen ∧ (A = none → c = 0) ∧ ∀ z ∈ zs, (Lit.int k z).wf = true

/-- a slice of strings that came in: it reads as ss. -/
def StrArg (w : World) (A : Option Addr) (n c : Nat) (ss : List ByteArray) : Prop :=
  Reads w w.heap.size 1 A n (ss.map Value.string) ∧ n ≤ c ∧ c ≤ maxLen ∧ (A = none → c = 0) ∧ ∀ s ∈ ss, s.size ≤ maxLen

section
variable {H : Type} {enc : TypeId × Value → H} {P : Program} {w : World} {base : Nat} {spare : Nat → Bool} {held : Bool}

theorem intArg_open {t e : TypeId} {k : IntKind} {A : Option Addr} {n c : Nat} {d : DataW H} {p : List MemPlace} (ht : P.underlying t = some (.slice e)) (he : P.underlying e = some (.int k)) (hC : P.cellsOf e = 1)
    (h : DataW.Trod enc P w 0 (fun _ => true) true t (.slice A n c) d p) : ∃ zs, IntArg k w A n c zs := by
  obtain ⟨fuel, hf⟩ := h
  rcases open_ints ht he hC hf with ⟨hcs, _⟩ | ⟨x, l, c', zs, hcs, _, hl, hm, hz, _, hcell, hwz⟩
  · simp [Value.cells] at hcs
    obtain ⟨rfl, rfl, rfl⟩ := hcs
    exact ⟨[], Reads.none_, Nat.le_refl _, Nat.zero_le _, fun _ => rfl, by simp⟩
  · simp [Value.cells] at hcs
    obtain ⟨rfl, rfl, rfl⟩ := hcs
    have hz' : zs.length = c := by simpa using hz
    refine ⟨zs.take n, ⟨by simp; omega, fun hn => ⟨x, rfl, ?_, fun j u hu => ?_⟩⟩, hl, hm, fun h => (by cases h), fun z hz => hwz z (List.mem_of_mem_take hz)⟩
    · have h0 := World.block_lt_of_cell? w _ (hcell 0 (by omega))
      rwa [block_of_add] at h0
    · simp only [List.getElem?_map, Option.map_eq_some_iff] at hu
      obtain ⟨z, hz1, rfl⟩ := hu
      have hj : j < n := by
        rcases Nat.lt_or_ge j n with h | h
        · exact h
        · rw [List.getElem?_take, if_neg (by omega)] at hz1; cases hz1
      rw [List.getElem?_take, if_pos hj] at hz1
      rw [hcell j (by omega), List.getD_eq_getElem?_getD, hz1]; rfl

theorem strArg_open {t e : TypeId} {A : Option Addr} {n c : Nat} {d : DataW H} {p : List MemPlace} (ht : P.underlying t = some (.slice e)) (he : P.underlying e = some .string) (hC : P.cellsOf e = 1)
    (h : DataW.Trod enc P w 0 (fun _ => true) true t (.slice A n c) d p) : ∃ ss, StrArg w A n c ss := by
  obtain ⟨fuel, hf⟩ := h
  rcases open_strings ht he hC hf with ⟨hcs, _⟩ | ⟨x, l, c', zs, hcs, _, hl, hm, hz, _, hcell, hwz⟩
  · simp [Value.cells] at hcs
    obtain ⟨rfl, rfl, rfl⟩ := hcs
    exact ⟨[], Reads.none_, Nat.le_refl _, Nat.zero_le _, fun _ => rfl, by simp⟩
  · simp [Value.cells] at hcs
    obtain ⟨rfl, rfl, rfl⟩ := hcs
    have hz' : zs.length = c := by simpa using hz
    refine ⟨zs.take n, ⟨by simp; omega, fun hn => ⟨x, rfl, ?_, fun j u hu => ?_⟩⟩, hl, hm, fun h => (by cases h), fun z hz => hwz z (List.mem_of_mem_take hz)⟩
    · have h0 := World.block_lt_of_cell? w _ (hcell 0 (by omega))
      rwa [block_of_add] at h0
    · simp only [List.getElem?_map, Option.map_eq_some_iff] at hu
      obtain ⟨z, hz1, rfl⟩ := hu
      have hj : j < n := by
        rcases Nat.lt_or_ge j n with h | h
        · exact h
        · rw [List.getElem?_take, if_neg (by omega)] at hz1; cases hz1
      rw [List.getElem?_take, if_pos hj] at hz1
      rw [hcell j (by omega), List.getD_eq_getElem?_getD, hz1]; rfl

theorem trod_lt_of {t : TypeId} {v : Value} {d : DataW H} {p : List MemPlace} (h : DataW.Trod enc P w base spare held t v d p) : ∀ x ∈ p, x.block < w.heap.size := by
  obtain ⟨m, hm⟩ := h
  exact DataW.trod_lt m _ _ _ hm
end
end Go.Proofs.Ytadidldkphimfaa
