/- Arguments of struct types, opened. -/
import Derived.Test.YtgbcgkhcmellfaaRows
import Derived.Test.YtgbcgkhcmellfaaArgs
import Derived.Deep.Slices
import Derived.Deep.Fields
import Derived.ChangeSame
import Derived.ChangeArms
namespace Go.Proofs.Ytgbcgkhcmellfaa
set_option linter.unusedVariables false
open Go.ChangeShapes Go.WideShapes Go.ChangeAt Go.RowKit Go.Deep

section
variable {H : Type} {enc : TypeId × Value → H}
theorem seg_trod {w : World} {base : Nat} {fuel : Nat} {cs : List Value} {x : DataW H × List MemPlace} (h : DataW.trod enc Try.prog w base (fun _ => true) true fuel 26 cs = some x) :
    ∃ (nm : Int) (f : Int) (l : Int) (r : Int) (t : Int) (sz : Int) (sd : Bool), cs = [.int .i64 nm, .int .i64 f, .int .i64 l, .int .i64 r, .int .i64 t, .int .i64 sz, .bool sd] ∧ (Lit.int .i64 nm).wf = true ∧ (Lit.int .i64 f).wf = true ∧ (Lit.int .i64 l).wf = true ∧ (Lit.int .i64 r).wf = true ∧ (Lit.int .i64 t).wf = true ∧ (Lit.int .i64 sz).wf = true := by
  obtain ⟨xs, n, hf, _, hl, hxl, hall⟩ := DataW.trod_struct Try.underlying26 h
  rw [show Try.prog.cellsOf 26 = 7 from by kernel_rfl] at hl
  match cs, hl with
  | [c0, c1, c2, c3, c4, c5, c6], _ =>
    have hxn : xs.length = 7 := hxl
    match xs, hxn with
    | [x0, x1, x2, x3, x4, x5, x6], _ =>
      have f0 : DataW.trod enc Try.prog w base (fun _ => true) true n 2 [c0] = some x0 := by
        have h : DataW.trod enc Try.prog w base (fun _ => true) true n 2 ((([c0, c1, c2, c3, c4, c5, c6] : List Value).drop 0).take (Try.prog.cellsOf 2)) = ([x0, x1, x2, x3, x4, x5, x6])[0]? := hall 0 _ rfl
        rw [show Try.prog.cellsOf 2 = 1 from by kernel_rfl] at h
        exact h
      have f1 : DataW.trod enc Try.prog w base (fun _ => true) true n 2 [c1] = some x1 := by
        have h : DataW.trod enc Try.prog w base (fun _ => true) true n 2 ((([c0, c1, c2, c3, c4, c5, c6] : List Value).drop 1).take (Try.prog.cellsOf 2)) = ([x0, x1, x2, x3, x4, x5, x6])[1]? := hall 1 _ rfl
        rw [show Try.prog.cellsOf 2 = 1 from by kernel_rfl] at h
        exact h
      have f2 : DataW.trod enc Try.prog w base (fun _ => true) true n 2 [c2] = some x2 := by
        have h : DataW.trod enc Try.prog w base (fun _ => true) true n 2 ((([c0, c1, c2, c3, c4, c5, c6] : List Value).drop 2).take (Try.prog.cellsOf 2)) = ([x0, x1, x2, x3, x4, x5, x6])[2]? := hall 2 _ rfl
        rw [show Try.prog.cellsOf 2 = 1 from by kernel_rfl] at h
        exact h
      have f3 : DataW.trod enc Try.prog w base (fun _ => true) true n 2 [c3] = some x3 := by
        have h : DataW.trod enc Try.prog w base (fun _ => true) true n 2 ((([c0, c1, c2, c3, c4, c5, c6] : List Value).drop 3).take (Try.prog.cellsOf 2)) = ([x0, x1, x2, x3, x4, x5, x6])[3]? := hall 3 _ rfl
        rw [show Try.prog.cellsOf 2 = 1 from by kernel_rfl] at h
        exact h
      have f4 : DataW.trod enc Try.prog w base (fun _ => true) true n 2 [c4] = some x4 := by
        have h : DataW.trod enc Try.prog w base (fun _ => true) true n 2 ((([c0, c1, c2, c3, c4, c5, c6] : List Value).drop 4).take (Try.prog.cellsOf 2)) = ([x0, x1, x2, x3, x4, x5, x6])[4]? := hall 4 _ rfl
        rw [show Try.prog.cellsOf 2 = 1 from by kernel_rfl] at h
        exact h
      have f5 : DataW.trod enc Try.prog w base (fun _ => true) true n 3 [c5] = some x5 := by
        have h : DataW.trod enc Try.prog w base (fun _ => true) true n 3 ((([c0, c1, c2, c3, c4, c5, c6] : List Value).drop 5).take (Try.prog.cellsOf 3)) = ([x0, x1, x2, x3, x4, x5, x6])[5]? := hall 5 _ rfl
        rw [show Try.prog.cellsOf 3 = 1 from by kernel_rfl] at h
        exact h
      have f6 : DataW.trod enc Try.prog w base (fun _ => true) true n 4 [c6] = some x6 := by
        have h : DataW.trod enc Try.prog w base (fun _ => true) true n 4 ((([c0, c1, c2, c3, c4, c5, c6] : List Value).drop 6).take (Try.prog.cellsOf 4)) = ([x0, x1, x2, x3, x4, x5, x6])[6]? := hall 6 _ rfl
        rw [show Try.prog.cellsOf 4 = 1 from by kernel_rfl] at h
        exact h
      obtain ⟨nm, h0, _, w0⟩ := DataW.trod_int Try.underlying2 f0
      obtain ⟨f, h1, _, w1⟩ := DataW.trod_int Try.underlying2 f1
      obtain ⟨l, h2, _, w2⟩ := DataW.trod_int Try.underlying2 f2
      obtain ⟨r, h3, _, w3⟩ := DataW.trod_int Try.underlying2 f3
      obtain ⟨t, h4, _, w4⟩ := DataW.trod_int Try.underlying2 f4
      obtain ⟨sz, h5, _, w5⟩ := DataW.trod_int Try.underlying3 f5
      obtain ⟨sd, h6, _⟩ := DataW.trod_bool Try.underlying4 f6
      simp only [List.cons.injEq, and_true] at h0 h1 h2 h3 h4 h5 h6
      subst h0 h1 h2 h3 h4 h5 h6
      exact ⟨nm, f, l, r, t, sz, sd, rfl, w0, w1, w2, w3, w4, w5⟩
theorem open_seg {w : World} {base : Nat} {r : Reach} {v : Value} {d : DataW H} {p : List MemPlace} (hval : Value.okWide Try.prog w r base 26 v) (h : DataW.Trod enc Try.prog w 0 (fun _ => true) true 26 v d p) :
    ∃ (nm : Int) (f : Int) (l : Int) (r : Int) (t : Int) (sz : Int) (sd : Bool), v = .agg #[.int .i64 nm, .int .i64 f, .int .i64 l, .int .i64 r, .int .i64 t, .int .i64 sz, .bool sd] ∧ (Lit.int .i64 nm).wf = true ∧ (Lit.int .i64 f).wf = true ∧ (Lit.int .i64 l).wf = true ∧ (Lit.int .i64 r).wf = true ∧ (Lit.int .i64 t).wf = true ∧ (Lit.int .i64 sz).wf = true := by
  obtain ⟨cs, rfl, hsz⟩ := okWide_struct Try.underlying26 hval
  obtain ⟨fuel, hf⟩ := h
  obtain ⟨nm, f, l, r, t, sz, sd, hc, hw⟩ := seg_trod hf
  refine ⟨nm, f, l, r, t, sz, sd, ?_, hw⟩
  have hc' : cs.toList = [.int .i64 nm, .int .i64 f, .int .i64 l, .int .i64 r, .int .i64 t, .int .i64 sz, .bool sd] := hc
  rw [← Array.toArray_toList (xs := cs), hc']
end
section
variable {H : Type} {enc : TypeId × Value → H}
theorem span_trod {w : World} {base : Nat} {fuel : Nat} {cs : List Value} {x : DataW H × List MemPlace} (h : DataW.trod enc Try.prog w base (fun _ => true) true fuel 28 cs = some x) :
    ∃ (f : Int) (l : Int) (r : Int) (t : Int), cs = [.int .i64 f, .int .i64 l, .int .i64 r, .int .i64 t] ∧ (Lit.int .i64 f).wf = true ∧ (Lit.int .i64 l).wf = true ∧ (Lit.int .i64 r).wf = true ∧ (Lit.int .i64 t).wf = true := by
  obtain ⟨xs, n, hf, _, hl, hxl, hall⟩ := DataW.trod_struct Try.underlying28 h
  rw [show Try.prog.cellsOf 28 = 4 from by kernel_rfl] at hl
  match cs, hl with
  | [c0, c1, c2, c3], _ =>
    have hxn : xs.length = 4 := hxl
    match xs, hxn with
    | [x0, x1, x2, x3], _ =>
      have f0 : DataW.trod enc Try.prog w base (fun _ => true) true n 2 [c0] = some x0 := by
        have h : DataW.trod enc Try.prog w base (fun _ => true) true n 2 ((([c0, c1, c2, c3] : List Value).drop 0).take (Try.prog.cellsOf 2)) = ([x0, x1, x2, x3])[0]? := hall 0 _ rfl
        rw [show Try.prog.cellsOf 2 = 1 from by kernel_rfl] at h
        exact h
      have f1 : DataW.trod enc Try.prog w base (fun _ => true) true n 2 [c1] = some x1 := by
        have h : DataW.trod enc Try.prog w base (fun _ => true) true n 2 ((([c0, c1, c2, c3] : List Value).drop 1).take (Try.prog.cellsOf 2)) = ([x0, x1, x2, x3])[1]? := hall 1 _ rfl
        rw [show Try.prog.cellsOf 2 = 1 from by kernel_rfl] at h
        exact h
      have f2 : DataW.trod enc Try.prog w base (fun _ => true) true n 2 [c2] = some x2 := by
        have h : DataW.trod enc Try.prog w base (fun _ => true) true n 2 ((([c0, c1, c2, c3] : List Value).drop 2).take (Try.prog.cellsOf 2)) = ([x0, x1, x2, x3])[2]? := hall 2 _ rfl
        rw [show Try.prog.cellsOf 2 = 1 from by kernel_rfl] at h
        exact h
      have f3 : DataW.trod enc Try.prog w base (fun _ => true) true n 2 [c3] = some x3 := by
        have h : DataW.trod enc Try.prog w base (fun _ => true) true n 2 ((([c0, c1, c2, c3] : List Value).drop 3).take (Try.prog.cellsOf 2)) = ([x0, x1, x2, x3])[3]? := hall 3 _ rfl
        rw [show Try.prog.cellsOf 2 = 1 from by kernel_rfl] at h
        exact h
      obtain ⟨f, h0, _, w0⟩ := DataW.trod_int Try.underlying2 f0
      obtain ⟨l, h1, _, w1⟩ := DataW.trod_int Try.underlying2 f1
      obtain ⟨r, h2, _, w2⟩ := DataW.trod_int Try.underlying2 f2
      obtain ⟨t, h3, _, w3⟩ := DataW.trod_int Try.underlying2 f3
      simp only [List.cons.injEq, and_true] at h0 h1 h2 h3
      subst h0 h1 h2 h3
      exact ⟨f, l, r, t, rfl, w0, w1, w2, w3⟩
theorem open_span {w : World} {base : Nat} {r : Reach} {v : Value} {d : DataW H} {p : List MemPlace} (hval : Value.okWide Try.prog w r base 28 v) (h : DataW.Trod enc Try.prog w 0 (fun _ => true) true 28 v d p) :
    ∃ (f : Int) (l : Int) (r : Int) (t : Int), v = .agg #[.int .i64 f, .int .i64 l, .int .i64 r, .int .i64 t] ∧ (Lit.int .i64 f).wf = true ∧ (Lit.int .i64 l).wf = true ∧ (Lit.int .i64 r).wf = true ∧ (Lit.int .i64 t).wf = true := by
  obtain ⟨cs, rfl, hsz⟩ := okWide_struct Try.underlying28 hval
  obtain ⟨fuel, hf⟩ := h
  obtain ⟨f, l, r, t, hc, hw⟩ := span_trod hf
  refine ⟨f, l, r, t, ?_, hw⟩
  have hc' : cs.toList = [.int .i64 f, .int .i64 l, .int .i64 r, .int .i64 t] := hc
  rw [← Array.toArray_toList (xs := cs), hc']
end
end Go.Proofs.Ytgbcgkhcmellfaa
