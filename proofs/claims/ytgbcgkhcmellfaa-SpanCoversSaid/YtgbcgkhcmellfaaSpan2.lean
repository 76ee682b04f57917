/- Contracts of span.start and none. -/
import Derived.Test.YtgbcgkhcmellfaaSpan
import Derived.Test.YtgbcgkhcmellfaaHeld
namespace Go.Proofs.Ytgbcgkhcmellfaa
set_option linter.unusedVariables false
open Go.RowKit Go.ChangeShapes

theorem lnone_res {W : World} {g : Nat} {x0 x1 x2 x3 : Value} (h : Blk W g 28 #[x0, x1, x2, x3]) (tmps : Array Value) (ht : tmps[2]?.getD undef = .pointer (some ⟨g, 0, none⟩)) : (results Try.f38 tmps).run Try.prog W = .ok (.agg #[x0, x1, x2, x3]) W := by
  have c0 : W.cell? ⟨g, 0, none⟩ = some x0 := h.cell 0
  have c1 : W.cell? ⟨g, 1, none⟩ = some x1 := h.cell 1
  have c2 : W.cell? ⟨g, 2, none⟩ = some x2 := h.cell 2
  have c3 : W.cell? ⟨g, 3, none⟩ = some x3 := h.cell 3
  simp [results, Try.results38, go_sem, ht, c0, c1, c2, c3]
theorem start_res {W : World} {g : Nat} {x0 x1 x2 x3 : Value} (h : Blk W g 28 #[x0, x1, x2, x3]) (tmps : Array Value) (ht : tmps[2]?.getD undef = .pointer (some ⟨g, 0, none⟩)) : (results Try.f35 tmps).run Try.prog W = .ok (.agg #[x0, x1, x2, x3]) W := by
  have c0 : W.cell? ⟨g, 0, none⟩ = some x0 := h.cell 0
  have c1 : W.cell? ⟨g, 1, none⟩ = some x1 := h.cell 1
  have c2 : W.cell? ⟨g, 2, none⟩ = some x2 := h.cell 2
  have c3 : W.cell? ⟨g, 3, none⟩ = some x3 := h.cell 3
  simp [results, Try.results35, go_sem, ht, c0, c1, c2, c3]

theorem lnone_c (w : World) : Calls Try.prog 38 #[.agg #[]] w fun e w' => e = .returned (.agg (spc Sp.empty)) ∧ Below w.heap.size w w' := by
  have HR := Lib.hid (blk_at (w.alloc (.cells #[] 57)) 28 #[.int .i64 0, .int .i64 0, .int .i64 0, .int .i64 0] (w.heap.size + 1) (by simp))
  have HW := Lib.hid (((Below.refl w.heap.size w).alloc (Nat.le_refl _) (.cells #[] 57)).alloc (by simp) (.cells #[.int .i64 0, .int .i64 0, .int .i64 0, .int .i64 0] 28))
  go_enter Try.func38, Try.ntmps38
  go_wp2_with fail
  with_reducible refine (empty_c _).mono ?_
  rintro e w1 ⟨rfl, hb1⟩
  have HR1 := Lib.hid (HR.out.below hb1 HR.out.lt)
  have HW1 := Lib.hid (HW.out.trans (hb1.mono HW.out.size))
  clear hb1 HR HW
  have z0 : w1.cell? ⟨w.heap.size + 1, 0, none⟩ = some (.int .i64 0) := HR1.out.cell 0
  have zf0 : w1.frozen? ⟨w.heap.size + 1, 0, none⟩ = false := HR1.out.frozen 0
  have z1 : w1.cell? ⟨w.heap.size + 1, 1, none⟩ = some (.int .i64 0) := HR1.out.cell 1
  have zf1 : w1.frozen? ⟨w.heap.size + 1, 1, none⟩ = false := HR1.out.frozen 1
  have z2 : w1.cell? ⟨w.heap.size + 1, 2, none⟩ = some (.int .i64 0) := HR1.out.cell 2
  have zf2 : w1.frozen? ⟨w.heap.size + 1, 2, none⟩ = false := HR1.out.frozen 2
  have z3 : w1.cell? ⟨w.heap.size + 1, 3, none⟩ = some (.int .i64 0) := HR1.out.cell 3
  have zf3 : w1.frozen? ⟨w.heap.size + 1, 3, none⟩ = false := HR1.out.frozen 3
  go_wp2
  exact bodyPost_ret (lnone_res (put4 HR1.out) _ rfl) rfl ⟨rfl, put4_below HW1.out (by omega)⟩

theorem start_m (w : World) : Calls Try.prog 35 #[.iface 56 (.agg #[])] w fun e w' => e = .returned (.agg (spc Sp.whole)) ∧ Below w.heap.size w w' := by
  have t1 : ∀ w, (Instr.typeAssert (.iface 56 (.agg #[])) 72 56 true).run Try.prog w = .ok (.tuple #[.agg #[], .bool true]) w := fun _ => by kernel_rfl
  have HR := Lib.hid ((Blk.new w 28 #[.int .i64 0, .int .i64 0, .int .i64 0, .int .i64 0]).alloc (.cells #[] 56))
  have HW := Lib.hid (((Below.refl w.heap.size w).alloc (Nat.le_refl _) (.cells #[.int .i64 0, .int .i64 0, .int .i64 0, .int .i64 0] 28)).alloc (by simp) (.cells #[] 56))
  go_enter Try.func35, Try.ntmps35
  go_wp2_with fail
  with_reducible refine (whole_c _).mono ?_
  rintro e w1 ⟨rfl, hb1⟩
  have HR1 := Lib.hid (HR.out.below hb1 HR.out.lt)
  have HW1 := Lib.hid (HW.out.trans (hb1.mono HW.out.size))
  clear hb1 HR HW
  have z0 : w1.cell? ⟨w.heap.size, 0, none⟩ = some (.int .i64 0) := HR1.out.cell 0
  have zf0 : w1.frozen? ⟨w.heap.size, 0, none⟩ = false := HR1.out.frozen 0
  have z1 : w1.cell? ⟨w.heap.size, 1, none⟩ = some (.int .i64 0) := HR1.out.cell 1
  have zf1 : w1.frozen? ⟨w.heap.size, 1, none⟩ = false := HR1.out.frozen 1
  have z2 : w1.cell? ⟨w.heap.size, 2, none⟩ = some (.int .i64 0) := HR1.out.cell 2
  have zf2 : w1.frozen? ⟨w.heap.size, 2, none⟩ = false := HR1.out.frozen 2
  have z3 : w1.cell? ⟨w.heap.size, 3, none⟩ = some (.int .i64 0) := HR1.out.cell 3
  have zf3 : w1.frozen? ⟨w.heap.size, 3, none⟩ = false := HR1.out.frozen 3
  go_wp2
  exact bodyPost_ret (start_res (put4 HR1.out) _ rfl) rfl ⟨rfl, put4_below HW1.out (by omega)⟩

theorem start_l (w : World) : Calls Try.prog 35 #[.iface 57 (.agg #[])] w fun e w' => e = .returned (.agg (spc Sp.empty)) ∧ Below w.heap.size w w' := by
  have t1 : ∀ w, (Instr.typeAssert (.iface 57 (.agg #[])) 72 56 true).run Try.prog w = .ok (.tuple #[.agg #[], .bool false]) w := fun _ => by kernel_rfl
  have t2 : ∀ w, (Instr.typeAssert (.iface 57 (.agg #[])) 72 57 false).run Try.prog w = .ok (.agg #[]) w := fun _ => by kernel_rfl
  have HR := Lib.hid ((Blk.new w 28 #[.int .i64 0, .int .i64 0, .int .i64 0, .int .i64 0]).alloc (.cells #[] 56))
  have HW := Lib.hid (((Below.refl w.heap.size w).alloc (Nat.le_refl _) (.cells #[.int .i64 0, .int .i64 0, .int .i64 0, .int .i64 0] 28)).alloc (by simp) (.cells #[] 56))
  go_enter Try.func35, Try.ntmps35
  go_wp2_with fail
  with_reducible refine (lnone_c _).mono ?_
  rintro e w1 ⟨rfl, hb1⟩
  have HR1 := Lib.hid (HR.out.below hb1 HR.out.lt)
  have HW1 := Lib.hid (HW.out.trans (hb1.mono HW.out.size))
  clear hb1 HR HW
  have z0 : w1.cell? ⟨w.heap.size, 0, none⟩ = some (.int .i64 0) := HR1.out.cell 0
  have zf0 : w1.frozen? ⟨w.heap.size, 0, none⟩ = false := HR1.out.frozen 0
  have z1 : w1.cell? ⟨w.heap.size, 1, none⟩ = some (.int .i64 0) := HR1.out.cell 1
  have zf1 : w1.frozen? ⟨w.heap.size, 1, none⟩ = false := HR1.out.frozen 1
  have z2 : w1.cell? ⟨w.heap.size, 2, none⟩ = some (.int .i64 0) := HR1.out.cell 2
  have zf2 : w1.frozen? ⟨w.heap.size, 2, none⟩ = false := HR1.out.frozen 2
  have z3 : w1.cell? ⟨w.heap.size, 3, none⟩ = some (.int .i64 0) := HR1.out.cell 3
  have zf3 : w1.frozen? ⟨w.heap.size, 3, none⟩ = false := HR1.out.frozen 3
  go_wp2
  exact bodyPost_ret (start_res (put4 HR1.out) _ rfl) rfl ⟨rfl, put4_below HW1.out (by omega)⟩
end Go.Proofs.Ytgbcgkhcmellfaa
