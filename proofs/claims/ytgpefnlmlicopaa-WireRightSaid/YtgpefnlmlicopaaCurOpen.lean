/- A cursor that came in, opened. -/
import Derived.Test.YtgpefnlmlicopaaRows
import Derived.Test.YtgpefnlmlicopaaArgs
import Derived.Lib.SmallJoins
namespace Go.Proofs.Ytgpefnlmlicopaa
set_option linter.unusedVariables false
open Go.Joins Go.ChangeShapes Go.WideShapes Go.ChangeAt Go.RowKit Go.Deep

theorem open_cursor {H : Type} {enc : TypeId × Value → H} {w : World} {b0 : Nat} {r : Reach} {v : Value} {d : DataW H} {p : List MemPlace}
    (hv : Value.okWide Try.prog w r b0 26 v) (h : DataW.Trod enc Try.prog w 0 (fun _ => true) true 26 v d p) : ∃ (A : Option Addr) (n c : Nat) (x y : Int) (z : List Int), v = .agg #[.slice A n c, .int .i64 x, .int .i64 y] ∧ IntArg .u8 w A n c z := by
  obtain ⟨v0, v1, v2, y0, y1, y2, fuel, rfl, _, _, h0, h1, h2⟩ := open_agg3 Try.underlying26 (by kernel_rfl) (by kernel_rfl) hv h
  obtain ⟨x1, e1, _, _⟩ := DataW.trod_int Try.underlying3 h1
  obtain ⟨x2, e2, _, _⟩ := DataW.trod_int Try.underlying24 h2
  obtain ⟨A, n, c, e0⟩ : ∃ A n c, v0 = .slice A n c := by
    rcases open_ints Try.underlying22 Try.underlying5 (by kernel_rfl) h0 with ⟨hcs, _⟩ | ⟨x, l, c', zs, hcs, _⟩
    · exact ⟨none, 0, 0, by simpa using hcs⟩
    · exact ⟨some x, l, c', by simpa using hcs⟩
  obtain rfl : v1 = .int .i64 x1 := by simpa using e1
  obtain rfl : v2 = .int .i64 x2 := by simpa using e2
  subst e0
  obtain ⟨z, hz⟩ := intArg_open (k := .u8) (A := A) (n := n) (c := c) Try.underlying22 Try.underlying5 (by kernel_rfl) ⟨fuel, by simpa [Value.cells] using h0⟩
  exact ⟨A, n, c, x1, x2, z, rfl, hz⟩
end Go.Proofs.Ytgpefnlmlicopaa
