/- A histogram that came in, opened. -/
import Derived.Test.YtmdclaahfndhdaaArgs
import Derived.Test.YtmdclaahfndhdaaHistP
namespace Go.Proofs.Ytmdclaahfndhdaa
set_option linter.unusedVariables false
open Go.ChangeShapes Go.WideShapes Go.ChangeAt Go.RowKit

theorem ten {α : Type} (l : List α) (h : l.length = 10) : ∃ c0 c1 c2 c3 c4 c5 c6 c7 c8 c9, l = [c0, c1, c2, c3, c4, c5, c6, c7, c8, c9] := by
  match l, h with
  | [c0, c1, c2, c3, c4, c5, c6, c7, c8, c9], _ => exact ⟨c0, c1, c2, c3, c4, c5, c6, c7, c8, c9, rfl⟩

/-- what a row of integers reads as, cell by cell. -/
theorem ints_cells {H : Type} {enc : TypeId × Value → H} {P : Program} {w : World} {base : Nat} {spare : Nat → Bool} {held : Bool} {fuel n : Nat} {t e : TypeId} {k : IntKind} {cs : List Value} {x : DataW H × List MemPlace}
    (ht : P.underlying t = some (.array n e)) (he : P.underlying e = some (.int k)) (hC : P.cellsOf e = 1) (h : DataW.trod enc P w base spare held fuel t cs = some x) (i : Nat) (hi : i < n) : ∃ z, cs[i]? = some (.int k z) ∧ (Lit.int k z).wf = true := by
  obtain ⟨xs, m, _, _, _, hl, hx⟩ := DataW.trod_array ht h
  have h1 := hx i hi
  rw [hC, Nat.mul_one, List.getElem?_eq_getElem (by omega)] at h1
  obtain ⟨z, hz, _, hw⟩ := DataW.trod_int he h1
  refine ⟨z, ?_, hw⟩
  have h2 : ((cs.drop i).take 1)[0]? = some (.int k z) := by rw [hz]; rfl
  rw [List.getElem?_take, if_pos (by omega), List.getElem?_drop] at h2
  simpa using h2

theorem open_hist {H : Type} {enc : TypeId × Value → H} {w : World} {base b0 : Nat} {r : Reach} {v : Value} {d : DataW H} {p : List MemPlace}
    (hv : Value.okWide Try.prog w r b0 62 v) (h : DataW.Trod enc Try.prog w base (fun _ => true) true 62 v d p) : ∃ (f : Nat → Int) (s : Int), v = .agg #[.int .i64 (f 0), .int .i64 (f 1), .int .i64 (f 2), .int .i64 (f 3), .int .i64 (f 4), .int .i64 (f 5), .int .i64 (f 6), .int .i64 (f 7), .int .i64 (f 8), .int .i64 s] ∧ True := by
  obtain ⟨cs, rfl, hsz⟩ := okWide_struct Try.underlying62 hv
  have hc10 : Try.prog.cellsOf 62 = 10 := by kernel_rfl
  have hc9 : Try.prog.cellsOf 60 = 9 := by kernel_rfl
  have hc1 : Try.prog.cellsOf 2 = 1 := by kernel_rfl
  rw [hc10] at hsz
  obtain ⟨fuel, hf⟩ := h
  obtain ⟨xs, n, _, _, _, hxl, hfld⟩ := DataW.trod_struct Try.underlying62 hf
  have hxl2 : xs.length = 2 := hxl
  have f0 := hfld 0 _ rfl
  have f1 := hfld 1 _ rfl
  rw [List.getElem?_eq_getElem (by omega)] at f0 f1
  obtain ⟨l⟩ := cs
  obtain ⟨c0, c1, c2, c3, c4, c5, c6, c7, c8, c9, rfl⟩ := ten l (by simpa using hsz)
  have f0' : DataW.trod enc Try.prog w base (fun _ => true) true n 60 (List.take (Try.prog.cellsOf 60) [c0, c1, c2, c3, c4, c5, c6, c7, c8, c9]) = some xs[0] := f0
  have f1' : DataW.trod enc Try.prog w base (fun _ => true) true n 2 (List.take (Try.prog.cellsOf 2) [c9]) = some xs[1] := f1
  rw [hc9] at f0'
  rw [hc1] at f1'
  obtain ⟨z9, e9, _, _⟩ := DataW.trod_int Try.underlying2 f1'
  have g := ints_cells Try.underlying60 Try.underlying2 hc1 f0'
  obtain ⟨z0, e0, _⟩ := g 0 (by omega)
  obtain ⟨z1, e1, _⟩ := g 1 (by omega)
  obtain ⟨z2, e2, _⟩ := g 2 (by omega)
  obtain ⟨z3, e3, _⟩ := g 3 (by omega)
  obtain ⟨z4, e4, _⟩ := g 4 (by omega)
  obtain ⟨z5, e5, _⟩ := g 5 (by omega)
  obtain ⟨z6, e6, _⟩ := g 6 (by omega)
  obtain ⟨z7, e7, _⟩ := g 7 (by omega)
  obtain ⟨z8, e8, _⟩ := g 8 (by omega)
  simp at e0 e1 e2 e3 e4 e5 e6 e7 e8 e9
  subst e0 e1 e2 e3 e4 e5 e6 e7 e8 e9
  exact ⟨fun i => [z0, z1, z2, z3, z4, z5, z6, z7, z8].getD i 0, z9, rfl, trivial⟩
end Go.Proofs.Ytmdclaahfndhdaa
