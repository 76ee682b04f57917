/- Contracts of span's small functions and of the reference's. -/
import Derived.Test.YtgbcgkhcmellfaaTreeP
namespace Go.Proofs.Ytgbcgkhcmellfaa
set_option linter.unusedVariables false
open Go.RowKit Go.ChangeShapes

structure Sp where
  f : Int
  l : Int
  r : Int
  t : Int
def Sp.v (s : Sp) : Value := .agg #[.int .i64 s.f, .int .i64 s.l, .int .i64 s.r, .int .i64 s.t]
def Sp.whole : Sp := ⟨0, 4294967296, 0, 1099511627776⟩
def Sp.empty : Sp := ⟨1, 0, 1, 0⟩
def Sp.void (s : Sp) : Bool := decide (s.l < s.f ∨ s.t < s.r)
def Sp.norm (s : Sp) : Sp := if s.void = true then .empty else s
def joinM (a b : Sp) : Sp := ⟨max a.f b.f, min a.l b.l, max a.r b.r, min a.t b.t⟩
def joinW (a b : Sp) : Sp := ⟨min a.f b.f, max a.l b.l, min a.r b.r, max a.t b.t⟩
def joinL (a b : Sp) : Sp := if a.void = true then b else if b.void = true then a else joinW a b
abbrev spc (s : Sp) : Array Value := #[.int .i64 s.f, .int .i64 s.l, .int .i64 s.r, .int .i64 s.t]

theorem whole_c (w : World) : Calls Try.prog 26 #[] w fun e w' => e = .returned (.agg #[.int .i64 0, .int .i64 4294967296, .int .i64 0, .int .i64 1099511627776]) ∧ Below w.heap.size w w' := by
  go_enter Try.func26, Try.ntmps26
  go_wp2
  exact bodyPost_ret (v := .agg #[.int .i64 0, .int .i64 4294967296, .int .i64 0, .int .i64 1099511627776]) (by simp [results, Try.results26, go_sem]) rfl ⟨rfl, (Below.refl _ _).alloc (Nat.le_refl _) _⟩
theorem empty_c (w : World) : Calls Try.prog 29 #[] w fun e w' => e = .returned (.agg #[.int .i64 1, .int .i64 0, .int .i64 1, .int .i64 0]) ∧ Below w.heap.size w w' := by
  go_enter Try.func29, Try.ntmps29
  go_wp2
  exact bodyPost_ret (v := .agg #[.int .i64 1, .int .i64 0, .int .i64 1, .int .i64 0]) (by simp [results, Try.results29, go_sem]) rfl ⟨rfl, (Below.refl _ _).alloc (Nat.le_refl _) _⟩
theorem void_c (s : Sp) (w : World) : Calls Try.prog 28 #[.agg (spc s)] w fun e w' => e = .returned (.bool s.void) ∧ Below w.heap.size w w' := by
  go_enter Try.func28, Try.ntmps28
  go_wp2
  all_goals
    go_ret
    refine ⟨ret_bool ?_, (Below.refl _ _).alloc (Nat.le_refl _) _⟩
    unfold Sp.void
    first
    | (symm; rw [decide_eq_true_eq]; omega)
    | (rw [Bool.eq_iff_iff, decide_eq_true_eq, decide_eq_true_eq]; omega)
    | (rw [Bool.eq_iff_iff, decide_eq_true_eq, Bool.or_eq_true, decide_eq_true_eq, decide_eq_true_eq])
theorem none_c (s : Sp) (w : World) : Calls Try.prog 22 #[.agg (spc s)] w fun e w' => e = .returned (.bool s.void) ∧ Below w.heap.size w w' := by
  go_enter Try.func22, Try.ntmps22
  go_wp2
  all_goals
    go_ret
    refine ⟨ret_bool ?_, (Below.refl _ _).alloc (Nat.le_refl _) _⟩
    unfold Sp.void
    first
    | (symm; rw [decide_eq_true_eq]; omega)
    | (rw [Bool.eq_iff_iff, decide_eq_true_eq, decide_eq_true_eq]; omega)
    | (rw [Bool.eq_iff_iff, decide_eq_true_eq, Bool.or_eq_true, decide_eq_true_eq, decide_eq_true_eq])
theorem more_c (a b : Int) (w : World) : Calls Try.prog 20 #[.int .i64 a, .int .i64 b] w fun e w' => e = .returned (.int .i64 (max a b)) ∧ w = w' := by
  go_enter Try.func20, Try.ntmps20
  go_wp2
  all_goals
    go_ret
    exact ⟨ret_int (by omega), rfl⟩
theorem less_c (a b : Int) (w : World) : Calls Try.prog 21 #[.int .i64 a, .int .i64 b] w fun e w' => e = .returned (.int .i64 (min a b)) ∧ w = w' := by
  go_enter Try.func21, Try.ntmps21
  go_wp2
  all_goals
    go_ret
    exact ⟨ret_int (by omega), rfl⟩
theorem blk_at (w : World) (t : TypeId) (cs : Array Value) (k : Nat) (h : w.heap.size = k) : Blk (w.alloc (.cells cs t)) k t cs := h ▸ Blk.new w t cs
set_option maxHeartbeats 1000000 in
theorem joinM_c (a b : Sp) (w : World) : Calls Try.prog 54 #[.agg #[], .agg (spc a), .agg (spc b)] w fun e w' => e = .returned (.agg (spc (joinM a b))) ∧ Below w.heap.size w w' := by
  go_enter Try.func54, Try.ntmps54
  go_wp2
  all_goals
    refine bodyPost_ret (v := .agg (spc (joinM a b))) (by simp [results, Try.results54, go_sem, joinM]; omega) rfl ⟨rfl, ?_⟩
    exact ((((Below.refl _ _).alloc (Nat.le_refl _) _).alloc (by simp) _).alloc (by simp; omega) _).alloc (by simp; omega) _

def leastW (w : World) (a b : Sp) : World := (((w.alloc (.cells #[] 57)).alloc (.cells (spc a) 28)).alloc (.cells (spc b) 28)).alloc (.cells #[.int .i64 0, .int .i64 0, .int .i64 0, .int .i64 0] 28)
theorem least_a (w : World) (a b : Sp) : Blk (leastW w a b) (w.heap.size + 1) 28 (spc a) := ((blk_at (w.alloc (.cells #[] 57)) _ _ _ (by simp)).alloc _).alloc _
theorem least_b (w : World) (a b : Sp) : Blk (leastW w a b) (w.heap.size + 1 + 1) 28 (spc b) := (blk_at ((w.alloc (.cells #[] 57)).alloc (.cells (spc a) 28)) _ _ _ (by simp)).alloc _
theorem least_r (w : World) (a b : Sp) : Blk (leastW w a b) (w.heap.size + 1 + 1 + 1) 28 #[.int .i64 0, .int .i64 0, .int .i64 0, .int .i64 0] := blk_at (((w.alloc (.cells #[] 57)).alloc (.cells (spc a) 28)).alloc (.cells (spc b) 28)) _ _ _ (by simp)
theorem least_w (w : World) (a b : Sp) : Below w.heap.size w (leastW w a b) := ((((Below.refl _ _).alloc (Nat.le_refl _) _).alloc (by simp) _).alloc (by simp; omega) _).alloc (by simp; omega) _
theorem least_z (w : World) (a b : Sp) : (leastW w a b).heap.size = w.heap.size + 4 := by simp [leastW]
theorem put4 {w : World} {g : Nat} {a b c d a' b' c' d' : Value} (h : Blk w g 28 #[a, b, c, d]) : Blk ((((w.setCell ⟨g, 0, none⟩ a').setCell ⟨g, 1, none⟩ b').setCell ⟨g, 2, none⟩ c').setCell ⟨g, 3, none⟩ d') g 28 #[a', b', c', d'] := (((h.set_ 0 a').set_ 1 b').set_ 2 c').set_ 3 d'
theorem put4_below {B : Nat} {w0 w : World} {g : Nat} {a' b' c' d' : Value} (h : Below B w0 w) (hg : B ≤ g) : Below B w0 ((((w.setCell ⟨g, 0, none⟩ a').setCell ⟨g, 1, none⟩ b').setCell ⟨g, 2, none⟩ c').setCell ⟨g, 3, none⟩ d') := (((h.setCell (by simpa using hg) _).setCell (by simpa using hg) _).setCell (by simpa using hg) _).setCell (by simpa using hg) _

theorem least_res {W : World} {g : Nat} {x0 x1 x2 x3 : Value} (h : Blk W g 28 #[x0, x1, x2, x3]) (tmps : Array Value) (ht : tmps[6]?.getD undef = .pointer (some ⟨g, 0, none⟩)) : (results Try.f55 tmps).run Try.prog W = .ok (.agg #[x0, x1, x2, x3]) W := by
  have c0 : W.cell? ⟨g, 0, none⟩ = some x0 := h.cell 0
  have c1 : W.cell? ⟨g, 1, none⟩ = some x1 := h.cell 1
  have c2 : W.cell? ⟨g, 2, none⟩ = some x2 := h.cell 2
  have c3 : W.cell? ⟨g, 3, none⟩ = some x3 := h.cell 3
  simp [results, Try.results55, go_sem, ht, c0, c1, c2, c3]
set_option maxHeartbeats 2000000 in
theorem joinL_c (a b : Sp) (w : World) : Calls Try.prog 55 #[.agg #[], .agg (spc a), .agg (spc b)] w fun e w' => e = .returned (.agg (spc (joinL a b))) ∧ Below w.heap.size w w' := by
  have HA := Lib.hid (least_a w a b)
  have HB := Lib.hid (least_b w a b)
  have HR := Lib.hid (least_r w a b)
  have HW := Lib.hid (least_w w a b)
  go_enter Try.func55, Try.ntmps55
  go_wp2_with fail
  refine (void_c a (leastW w a b)).mono ?_
  rintro e w1 ⟨rfl, hb1⟩
  have HA' := Lib.hid (HA.out.below hb1 HA.out.lt)
  have HB' := Lib.hid (HB.out.below hb1 HB.out.lt)
  have HR' := Lib.hid (HR.out.below hb1 HR.out.lt)
  have HW' := Lib.hid (HW.out.trans (hb1.mono HW.out.size))
  clear HA HB HR HW hb1
  have HA := HA'
  have HB := HB'
  have HR := HR'
  have HW := HW'
  clear HA' HB' HR' HW'

  have cA0 : w1.cell? ⟨w.heap.size + 1, 0, none⟩ = some (.int .i64 a.f) := HA.out.cell 0
  have cA1 : w1.cell? ⟨w.heap.size + 1, 1, none⟩ = some (.int .i64 a.l) := HA.out.cell 1
  have cA2 : w1.cell? ⟨w.heap.size + 1, 2, none⟩ = some (.int .i64 a.r) := HA.out.cell 2
  have cA3 : w1.cell? ⟨w.heap.size + 1, 3, none⟩ = some (.int .i64 a.t) := HA.out.cell 3
  have cB0 : w1.cell? ⟨w.heap.size + 1 + 1, 0, none⟩ = some (.int .i64 b.f) := HB.out.cell 0
  have cB1 : w1.cell? ⟨w.heap.size + 1 + 1, 1, none⟩ = some (.int .i64 b.l) := HB.out.cell 1
  have cB2 : w1.cell? ⟨w.heap.size + 1 + 1, 2, none⟩ = some (.int .i64 b.r) := HB.out.cell 2
  have cB3 : w1.cell? ⟨w.heap.size + 1 + 1, 3, none⟩ = some (.int .i64 b.t) := HB.out.cell 3
  have z0 : w1.cell? ⟨w.heap.size + 1 + 1 + 1, 0, none⟩ = some (.int .i64 0) := HR.out.cell 0
  have y0 : w1.frozen? ⟨w.heap.size + 1 + 1 + 1, 0, none⟩ = false := HR.out.frozen 0
  have z1 : w1.cell? ⟨w.heap.size + 1 + 1 + 1, 1, none⟩ = some (.int .i64 0) := HR.out.cell 1
  have y1 : w1.frozen? ⟨w.heap.size + 1 + 1 + 1, 1, none⟩ = false := HR.out.frozen 1
  have z2 : w1.cell? ⟨w.heap.size + 1 + 1 + 1, 2, none⟩ = some (.int .i64 0) := HR.out.cell 2
  have y2 : w1.frozen? ⟨w.heap.size + 1 + 1 + 1, 2, none⟩ = false := HR.out.frozen 2
  have z3 : w1.cell? ⟨w.heap.size + 1 + 1 + 1, 3, none⟩ = some (.int .i64 0) := HR.out.cell 3
  have y3 : w1.frozen? ⟨w.heap.size + 1 + 1 + 1, 3, none⟩ = false := HR.out.frozen 3

  cases hv : a.void
  · go_wp2_with fail
    refine (void_c b _).mono ?_
    rintro e w2 ⟨rfl, hb2⟩
    clear cA0 cA1 cA2 cA3 cB0 cB1 cB2 cB3 z0 y0 z1 y1 z2 y2 z3 y3
    have HA' := Lib.hid (HA.out.below hb2 HA.out.lt)
    have HB' := Lib.hid (HB.out.below hb2 HB.out.lt)
    have HR' := Lib.hid (HR.out.below hb2 HR.out.lt)
    have HW' := Lib.hid (HW.out.trans (hb2.mono HW.out.size))
    clear HA HB HR HW hb2
    have HA := HA'
    have HB := HB'
    have HR := HR'
    have HW := HW'
    clear HA' HB' HR' HW'
    have cA0 : w2.cell? ⟨w.heap.size + 1, 0, none⟩ = some (.int .i64 a.f) := HA.out.cell 0
    have cA1 : w2.cell? ⟨w.heap.size + 1, 1, none⟩ = some (.int .i64 a.l) := HA.out.cell 1
    have cA2 : w2.cell? ⟨w.heap.size + 1, 2, none⟩ = some (.int .i64 a.r) := HA.out.cell 2
    have cA3 : w2.cell? ⟨w.heap.size + 1, 3, none⟩ = some (.int .i64 a.t) := HA.out.cell 3
    have cB0 : w2.cell? ⟨w.heap.size + 1 + 1, 0, none⟩ = some (.int .i64 b.f) := HB.out.cell 0
    have cB1 : w2.cell? ⟨w.heap.size + 1 + 1, 1, none⟩ = some (.int .i64 b.l) := HB.out.cell 1
    have cB2 : w2.cell? ⟨w.heap.size + 1 + 1, 2, none⟩ = some (.int .i64 b.r) := HB.out.cell 2
    have cB3 : w2.cell? ⟨w.heap.size + 1 + 1, 3, none⟩ = some (.int .i64 b.t) := HB.out.cell 3
    have z0 : w2.cell? ⟨w.heap.size + 1 + 1 + 1, 0, none⟩ = some (.int .i64 0) := HR.out.cell 0
    have y0 : w2.frozen? ⟨w.heap.size + 1 + 1 + 1, 0, none⟩ = false := HR.out.frozen 0
    have z1 : w2.cell? ⟨w.heap.size + 1 + 1 + 1, 1, none⟩ = some (.int .i64 0) := HR.out.cell 1
    have y1 : w2.frozen? ⟨w.heap.size + 1 + 1 + 1, 1, none⟩ = false := HR.out.frozen 1
    have z2 : w2.cell? ⟨w.heap.size + 1 + 1 + 1, 2, none⟩ = some (.int .i64 0) := HR.out.cell 2
    have y2 : w2.frozen? ⟨w.heap.size + 1 + 1 + 1, 2, none⟩ = false := HR.out.frozen 2
    have z3 : w2.cell? ⟨w.heap.size + 1 + 1 + 1, 3, none⟩ = some (.int .i64 0) := HR.out.cell 3
    have y3 : w2.frozen? ⟨w.heap.size + 1 + 1 + 1, 3, none⟩ = false := HR.out.frozen 3
    cases hv2 : b.void
    · have HE := Lib.hid (show joinL a b = joinW a b from by unfold joinL; rw [if_neg (by rw [hv]; simp), if_neg (by rw [hv2]; simp)])
      clear hv hv2
      go_wp2
      all_goals
        refine bodyPost_ret (least_res (put4 HR.out) _ rfl) rfl ⟨?_, put4_below HW.out (by omega)⟩
        rw [HE.out]
        simp [joinW]
        omega
    · have HE := Lib.hid (show joinL a b = a from by unfold joinL; rw [if_neg (by rw [hv]; simp), if_pos hv2])
      clear hv hv2
      go_wp2
      refine bodyPost_ret (least_res (put4 HR.out) _ rfl) rfl ⟨?_, put4_below HW.out (by omega)⟩
      rw [HE.out]
  · have HE := Lib.hid (show joinL a b = b from by unfold joinL; rw [if_pos hv])
    clear hv
    go_wp2
    refine bodyPost_ret (least_res (put4 HR.out) _ rfl) rfl ⟨?_, put4_below HW.out (by omega)⟩
    rw [HE.out]
end Go.Proofs.Ytgbcgkhcmellfaa
