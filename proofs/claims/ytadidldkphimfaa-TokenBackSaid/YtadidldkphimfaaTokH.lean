/- Digits set in a token; rows of bytes made of a string; three bytes that came in. -/
import Derived.Test.YtadidldkphimfaaLawTok
import Derived.Test.YtadidldkphimfaaArgs
namespace Go.Proofs.Ytadidldkphimfaa
set_option linter.unusedVariables false
open Go.ChangeShapes Go.WideShapes Go.ChangeAt Go.RowKit

def setH (s : List UInt8) (k i : Nat) (f : Nat → UInt8) : List UInt8 := s.mapIdx fun j x => if k ≤ j ∧ j < k + i then f (j - k) else x
theorem setH_length (s : List UInt8) (k i : Nat) (f : Nat → UInt8) : (setH s k i f).length = s.length := by simp [setH]
theorem setH_get (s : List UInt8) (k i : Nat) (f : Nat → UInt8) (j : Nat) : (setH s k i f)[j]? = s[j]?.map fun x => if k ≤ j ∧ j < k + i then f (j - k) else x := by simp [setH]
theorem setH_zero (s : List UInt8) (k : Nat) (f : Nat → UInt8) : setH s k 0 f = s := by
  apply List.ext_getElem?
  intro j
  rw [setH_get]
  cases s[j]? with
  | none => rfl
  | some x => simp; intro h1 h2; omega
theorem setH_step (s : List UInt8) (k i : Nat) (f : Nat → UInt8) (hlt : k + i < s.length) : (setH s k i f).set (k + i) (f i) = setH s k (i + 1) f := by
  apply List.ext_getElem?
  intro j
  rw [List.getElem?_set]
  by_cases hj : k + i = j
  · subst hj
    rw [if_pos rfl, if_pos (by rw [setH_length]; exact hlt), setH_get, List.getElem?_eq_getElem hlt, Option.map_some, if_pos (by omega)]
    congr 2
    omega
  · rw [if_neg hj]
    simp only [setH_get]
    cases s[j]? with
    | none => rfl
    | some y =>
      simp only [Option.map_some]
      by_cases h1 : k ≤ j ∧ j < k + i
      · rw [if_pos h1, if_pos (by omega)]
      · rw [if_neg h1, if_neg (by omega)]
theorem setH_out (s : List UInt8) (k i : Nat) (f : Nat → UInt8) (j : Nat) (h : j < k ∨ k + i ≤ j) : (setH s k i f)[j]? = s[j]? := by
  rw [setH_get]
  cases s[j]? with
  | none => rfl
  | some x => rw [Option.map_some, if_neg (by omega)]

/-- a row of bytes in one block, none of it frozen. -/
def SRow (w : World) (g : Nat) (bs : List UInt8) : Prop := g < w.heap.size ∧ (∀ (j : Nat) (x : UInt8), bs[j]? = some x → w.cell? ⟨g, j, none⟩ = some (.int .u8 (x.toNat : Int))) ∧ ∀ j, j < bs.length → w.frozen? ⟨g, j, none⟩ = false
theorem SRow.drew {w : World} {g : Nat} {bs : List UInt8} (h : SRow w g bs) : SRow w.drew g bs := h
theorem SRow.below {w w' : World} {g B : Nat} {bs : List UInt8} (h : SRow w g bs) (hb : Below B w w') (hg : g < B) : SRow w' g bs :=
  ⟨Nat.lt_of_lt_of_le h.1 hb.size, fun j x hx => by rw [hb.cell hg]; exact h.2.1 j x hx, fun j hj => by rw [hb.frozen hg]; exact h.2.2 j hj⟩
theorem SRow.set {w : World} {g : Nat} {bs : List UInt8} (h : SRow w g bs) (k : Nat) (hk : k < bs.length) (x : UInt8) : SRow (w.setCell ⟨g, k, none⟩ (.int .u8 (x.toNat : Int))) g (bs.set k x) := by
  refine ⟨by simpa using h.1, fun j y hy => ?_, fun j hj => ?_⟩
  · rw [List.getElem?_set] at hy
    by_cases hkj : k = j
    · subst hkj
      rw [if_pos rfl, if_pos hk] at hy
      cases hy
      exact World.cell?_setCell_same _ _ _ (h.2.1 k _ (List.getElem?_eq_getElem hk))
    · rw [if_neg hkj] at hy
      rw [World.cell?_setCell_other]
      · exact h.2.1 j y hy
      · intro e; injection e; omega
  · rw [World.frozen?_setCell]
    exact h.2.2 j (by simpa using hj)
theorem SRow.reads {w : World} {g n : Nat} {bs : List UInt8} (h : SRow w g bs) (hn : bs.length = n) : Reads w (g + 1) 1 (some ⟨g, 0, none⟩) n (byteCells bs) := by
  refine ⟨by rw [byteCells_length, hn, Nat.mul_one], fun _ => ⟨_, rfl, Nat.lt_succ_self _, fun j u hu => ?_⟩⟩
  rw [add_plain, Nat.zero_add]
  simp only [byteCells, List.getElem?_map] at hu
  cases hx : bs[j]? with
  | none => rw [hx] at hu; cases hu
  | some x =>
    rw [hx] at hu
    rw [h.2.1 j x hx]
    exact hu
theorem conv_string (s : ByteArray) (w : World) : ∃ (g cap : Nat) (w' : World), (convert 9 37 (.string s)).run Try.prog w = .ok (.slice (some ⟨g, 0, none⟩) s.size cap) w' ∧ w.heap.size ≤ g ∧ SRow w' g s.data.toList ∧ Below w.heap.size w w' := by
  refine ⟨_, _, _, run_bytes_of_string w _ _ _ s Try.underlying9 Try.underlying37 Try.underlying5, Nat.le_refl _, ⟨?_, fun j x hx => ?_, fun j hj => ?_⟩, ?_⟩
  · show w.heap.size < (w.drew.alloc _).heap.size
    simp
  · rw [show (⟨w.heap.size, j, none⟩ : Addr) = ⟨w.drew.heap.size, j, none⟩ from rfl, World.cell?_alloc_mark]
    obtain ⟨hj, rfl⟩ := List.getElem?_eq_some_iff.1 hx
    rw [bytesRow_at s _ j (by simpa using hj)]
    simp
  · rw [show (⟨w.heap.size, j, none⟩ : Addr) = ⟨w.drew.heap.size, j, none⟩ from rfl, World.frozen?_alloc_mark]
    have : j < (bytesRow s (grownCap w s.size 0 5)).size := by
      have hj2 : j < s.data.size := by simpa using hj
      unfold bytesRow
      rw [Array.size_append, Array.size_map]
      omega
    rw [decide_eq_false (by omega), Bool.false_and]
  · exact ((Below.refl w.heap.size w).drew).alloc (Nat.le_refl _) _

/-- what a row of integers reads as, cell by cell. -/
theorem cells_of_ints {H : Type} {enc : TypeId × Value → H} {P : Program} {w : World} {base : Nat} {spare : Nat → Bool} {held : Bool} {fuel n : Nat} {t e : TypeId} {k : IntKind} {cs : List Value} {x : DataW H × List MemPlace}
    (ht : P.underlying t = some (.array n e)) (he : P.underlying e = some (.int k)) (hC : P.cellsOf e = 1) (h : DataW.trod enc P w base spare held fuel t cs = some x) (i : Nat) (hi : i < n) : ∃ z, cs[i]? = some (.int k z) ∧ (Lit.int k z).wf = true := by
  obtain ⟨xs, m, _, _, _, hl, hx⟩ := DataW.trod_array ht h
  have h1 := hx i hi
  rw [hC, Nat.mul_one, List.getElem?_eq_getElem (by omega)] at h1
  obtain ⟨z, hz, _, hw⟩ := DataW.trod_int he h1
  refine ⟨z, ?_, hw⟩
  have h2 : ((cs.drop i).take 1)[0]? = some (.int k z) := by rw [hz]; rfl
  rw [List.getElem?_take, if_pos (by omega), List.getElem?_drop] at h2
  simpa using h2

theorem okWide_array {P : Program} {w : World} {r : Reach} {base n : Nat} {t e : TypeId} {v : Value} (ht : P.underlying t = some (.array n e)) (h : Value.okWide P w r base t v) : ∃ cs, v = .agg cs ∧ cs.size = P.cellsOf t := by
  simp only [Value.okWide, ht] at h
  obtain ⟨cs, h1, h2, _⟩ := h
  exact ⟨cs, h1, h2⟩
theorem open_three {H : Type} {enc : TypeId × Value → H} {w : World} {base b0 : Nat} {r : Reach} {v : Value} {d : DataW H} {p : List MemPlace}
    (hv : Value.okWide Try.prog w r b0 36 v) (h : DataW.Trod enc Try.prog w base (fun _ => true) true 36 v d p) : ∃ (f : Nat → UInt8), v = .agg #[.int .u8 ((f 0).toNat : Int), .int .u8 ((f 1).toNat : Int), .int .u8 ((f 2).toNat : Int)] ∧ True := by
  obtain ⟨cs, rfl, hsz⟩ := okWide_array Try.underlying36 hv
  have hc : Try.prog.cellsOf 36 = 3 := by kernel_rfl
  have hc1 : Try.prog.cellsOf 5 = 1 := by kernel_rfl
  rw [hc] at hsz
  obtain ⟨fuel, hf⟩ := h
  have g := cells_of_ints Try.underlying36 Try.underlying5 hc1 hf
  have hg : ∀ i, ∃ n : UInt8, i < 3 → cs[i]? = some (.int .u8 (n.toNat : Int)) := fun i => by
    by_cases hi : i < 3
    · obtain ⟨z, hz, hw⟩ := g i hi
      have hb := bounds_u8 hw
      refine ⟨UInt8.ofNat z.toNat, fun _ => ?_⟩
      rw [byte_ofNat _ (by omega), show ((z.toNat : Nat) : Int) = z from by omega, ← hz]
      exact (Array.getElem?_toList ..).symm
    · exact ⟨0, fun h => absurd h hi⟩
  obtain ⟨f, hf⟩ := Classical.axiomOfChoice hg
  refine ⟨f, ?_, trivial⟩
  congr 1
  apply Array.ext_getElem?
  intro i
  by_cases hi : i < 3
  · rw [hf i hi]
    rcases (by omega : i = 0 ∨ i = 1 ∨ i = 2) with rfl | rfl | rfl <;> rfl
  · rw [Array.getElem?_eq_none (by omega), Array.getElem?_eq_none (by simp; omega)]
theorem data_extract (s : ByteArray) (k : Nat) : (s.extract 0 k).data.toList = s.data.toList.take k := by
  simp [ByteArray.data_extract]
theorem data_append (s r : ByteArray) : (s ++ r).data.toList = s.data.toList ++ r.data.toList := by
  simp [ByteArray.data_append]
end Go.Proofs.Ytadidldkphimfaa
