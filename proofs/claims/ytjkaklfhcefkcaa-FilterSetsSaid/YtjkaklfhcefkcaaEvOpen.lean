/- Arguments of struct types, opened. -/
import Derived.Test.YtjkaklfhcefkcaaRows
import Derived.Test.YtjkaklfhcefkcaaArgs
import Derived.Deep.Slices
import Derived.Deep.Fields
import Derived.ChangeSame
import Derived.ChangeArms
namespace Go.Proofs.Ytjkaklfhcefkcaa
set_option linter.unusedVariables false
open Go.ChangeShapes Go.WideShapes Go.ChangeAt Go.RowKit Go.Deep

section
variable {H : Type} {enc : TypeId × Value → H}
theorem event_trod {w : World} {base : Nat} {fuel : Nat} {cs : List Value} {x : DataW H × List MemPlace} (h : DataW.trod enc Try.prog w base (fun _ => true) true fuel 33 cs = some x) :
    ∃ (q : Int) (a : Int) (k : Int) (cm : ByteArray) (x : Int) (y : Int) (z : Int), cs = [.int .i64 q, .int .i64 a, .int .i64 k, .string cm, .int .i64 x, .int .i64 y, .int .i64 z] ∧ (Lit.int .i64 q).wf = true ∧ (Lit.int .i64 a).wf = true ∧ (Lit.int .i64 k).wf = true ∧ cm.size ≤ maxLen ∧ (Lit.int .i64 x).wf = true ∧ (Lit.int .i64 y).wf = true ∧ (Lit.int .i64 z).wf = true := by
  obtain ⟨xs, n, hf, _, hl, hxl, hall⟩ := DataW.trod_struct Try.underlying33 h
  rw [show Try.prog.cellsOf 33 = 7 from by kernel_rfl] at hl
  match cs, hl with
  | [c0, c1, c2, c3, c4, c5, c6], _ =>
    have hxn : xs.length = 7 := hxl
    match xs, hxn with
    | [x0, x1, x2, x3, x4, x5, x6], _ =>
      have f0 : DataW.trod enc Try.prog w base (fun _ => true) true n 2 [c0] = some x0 := by
        have h : DataW.trod enc Try.prog w base (fun _ => true) true n 2 ((([c0, c1, c2, c3, c4, c5, c6] : List Value).drop 0).take (Try.prog.cellsOf 2)) = ([x0, x1, x2, x3, x4, x5, x6])[0]? := hall 0 _ rfl
        rw [show Try.prog.cellsOf 2 = 1 from by kernel_rfl] at h
        exact h
      have f1 : DataW.trod enc Try.prog w base (fun _ => true) true n 2 [c1] = some x1 := by
        have h : DataW.trod enc Try.prog w base (fun _ => true) true n 2 ((([c0, c1, c2, c3, c4, c5, c6] : List Value).drop 1).take (Try.prog.cellsOf 2)) = ([x0, x1, x2, x3, x4, x5, x6])[1]? := hall 1 _ rfl
        rw [show Try.prog.cellsOf 2 = 1 from by kernel_rfl] at h
        exact h
      have f2 : DataW.trod enc Try.prog w base (fun _ => true) true n 3 [c2] = some x2 := by
        have h : DataW.trod enc Try.prog w base (fun _ => true) true n 3 ((([c0, c1, c2, c3, c4, c5, c6] : List Value).drop 2).take (Try.prog.cellsOf 3)) = ([x0, x1, x2, x3, x4, x5, x6])[2]? := hall 2 _ rfl
        rw [show Try.prog.cellsOf 3 = 1 from by kernel_rfl] at h
        exact h
      have f3 : DataW.trod enc Try.prog w base (fun _ => true) true n 9 [c3] = some x3 := by
        have h : DataW.trod enc Try.prog w base (fun _ => true) true n 9 ((([c0, c1, c2, c3, c4, c5, c6] : List Value).drop 3).take (Try.prog.cellsOf 9)) = ([x0, x1, x2, x3, x4, x5, x6])[3]? := hall 3 _ rfl
        rw [show Try.prog.cellsOf 9 = 1 from by kernel_rfl] at h
        exact h
      have f4 : DataW.trod enc Try.prog w base (fun _ => true) true n 2 [c4] = some x4 := by
        have h : DataW.trod enc Try.prog w base (fun _ => true) true n 2 ((([c0, c1, c2, c3, c4, c5, c6] : List Value).drop 4).take (Try.prog.cellsOf 2)) = ([x0, x1, x2, x3, x4, x5, x6])[4]? := hall 4 _ rfl
        rw [show Try.prog.cellsOf 2 = 1 from by kernel_rfl] at h
        exact h
      have f5 : DataW.trod enc Try.prog w base (fun _ => true) true n 2 [c5] = some x5 := by
        have h : DataW.trod enc Try.prog w base (fun _ => true) true n 2 ((([c0, c1, c2, c3, c4, c5, c6] : List Value).drop 5).take (Try.prog.cellsOf 2)) = ([x0, x1, x2, x3, x4, x5, x6])[5]? := hall 5 _ rfl
        rw [show Try.prog.cellsOf 2 = 1 from by kernel_rfl] at h
        exact h
      have f6 : DataW.trod enc Try.prog w base (fun _ => true) true n 2 [c6] = some x6 := by
        have h : DataW.trod enc Try.prog w base (fun _ => true) true n 2 ((([c0, c1, c2, c3, c4, c5, c6] : List Value).drop 6).take (Try.prog.cellsOf 2)) = ([x0, x1, x2, x3, x4, x5, x6])[6]? := hall 6 _ rfl
        rw [show Try.prog.cellsOf 2 = 1 from by kernel_rfl] at h
        exact h
      obtain ⟨q, h0, _, w0⟩ := DataW.trod_int Try.underlying2 f0
      obtain ⟨a, h1, _, w1⟩ := DataW.trod_int Try.underlying2 f1
      obtain ⟨k, h2, _, w2⟩ := DataW.trod_int Try.underlying3 f2
      obtain ⟨cm, h3, _, w3⟩ := DataW.trod_string Try.underlying9 f3
      obtain ⟨x, h4, _, w4⟩ := DataW.trod_int Try.underlying2 f4
      obtain ⟨y, h5, _, w5⟩ := DataW.trod_int Try.underlying2 f5
      obtain ⟨z, h6, _, w6⟩ := DataW.trod_int Try.underlying2 f6
      simp only [List.cons.injEq, and_true] at h0 h1 h2 h3 h4 h5 h6
      subst h0 h1 h2 h3 h4 h5 h6
      exact ⟨q, a, k, cm, x, y, z, rfl, w0, w1, w2, w3, w4, w5, w6⟩
theorem open_event {w : World} {base : Nat} {r : Reach} {v : Value} {d : DataW H} {p : List MemPlace} (hval : Value.okWide Try.prog w r base 33 v) (h : DataW.Trod enc Try.prog w 0 (fun _ => true) true 33 v d p) :
    ∃ (q : Int) (a : Int) (k : Int) (cm : ByteArray) (x : Int) (y : Int) (z : Int), v = .agg #[.int .i64 q, .int .i64 a, .int .i64 k, .string cm, .int .i64 x, .int .i64 y, .int .i64 z] ∧ (Lit.int .i64 q).wf = true ∧ (Lit.int .i64 a).wf = true ∧ (Lit.int .i64 k).wf = true ∧ cm.size ≤ maxLen ∧ (Lit.int .i64 x).wf = true ∧ (Lit.int .i64 y).wf = true ∧ (Lit.int .i64 z).wf = true := by
  obtain ⟨cs, rfl, hsz⟩ := okWide_struct Try.underlying33 hval
  obtain ⟨fuel, hf⟩ := h
  obtain ⟨q, a, k, cm, x, y, z, hc, hw⟩ := event_trod hf
  refine ⟨q, a, k, cm, x, y, z, ?_, hw⟩
  have hc' : cs.toList = [.int .i64 q, .int .i64 a, .int .i64 k, .string cm, .int .i64 x, .int .i64 y, .int .i64 z] := hc
  rw [← Array.toArray_toList (xs := cs), hc']
end
end Go.Proofs.Ytjkaklfhcefkcaa
