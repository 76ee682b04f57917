/- Contracts of span.Of, Meets, Within. -/
import Derived.Test.YtgbcgkhcmellfaaSpan5
namespace Go.Proofs.Ytgbcgkhcmellfaa
set_option linter.unusedVariables false
open Go.RowKit Go.ChangeShapes

def OfP (t : FT) : Sp := if rightT t = true then ofF t else ⟨0, 0, 0, 0⟩
def OfE (t : FT) : Int := if rightT t = true then 0 else 1
theorem Of_res {W : World} {g : Nat} {x0 x1 x2 x3 : Value} (h : Blk W g 28 #[x0, x1, x2, x3]) (tmps : Array Value) (u : Value) (ht : tmps[2]?.getD undef = .pointer (some ⟨g, 0, none⟩)) (hu : tmps[3]?.getD undef = u) : (results Try.f8 tmps).run Try.prog W = .ok (.tuple #[.agg #[x0, x1, x2, x3], u]) W := by
  have c0 : W.cell? ⟨g, 0, none⟩ = some x0 := h.cell 0
  have c1 : W.cell? ⟨g, 1, none⟩ = some x1 := h.cell 1
  have c2 : W.cell? ⟨g, 2, none⟩ = some x2 := h.cell 2
  have c3 : W.cell? ⟨g, 3, none⟩ = some x3 := h.cell 3
  simp [results, Try.results8, go_sem, ht, hu, c0, c1, c2, c3]
theorem Of_c {w : World} {B : Nat} {cs : List Value} {t : FT} (h : FTr w B cs t) (W : World) (hB : Below B w W) (hBW : B ≤ W.heap.size) : Calls Try.prog 8 #[.agg cs.toArray] W fun e w' => e = .returned (.tuple #[.agg (spc (OfP t)), .int .i64 (OfE t)]) ∧ Below W.heap.size W w' := by
  have HH := Lib.hid h
  have HB := Lib.hid hB
  cases h with
  | mk op a b name A n c vs ks hop ha hb hnm hn hv hnc hcm hr hk =>
    clear hr hk hn hv hop ha hb hnm hnc hcm hB
    generalize FT.mk op a b name ks = t at HH ⊢
    have HC := Lib.hid ((Blk.new W 24 #[.int .i64 op, .int .i64 a, .int .i64 b, .string name, .slice A n c]).alloc (.cells #[.int .i64 0, .int .i64 0, .int .i64 0, .int .i64 0] 28))
    have HR := Lib.hid (blk_at (W.alloc (.cells #[.int .i64 op, .int .i64 a, .int .i64 b, .string name, .slice A n c] 24)) 28 #[.int .i64 0, .int .i64 0, .int .i64 0, .int .i64 0] (W.heap.size + 1) (by simp))
    have HW := Lib.hid (((Below.refl W.heap.size W).alloc (Nat.le_refl _) (.cells #[.int .i64 op, .int .i64 a, .int .i64 b, .string name, .slice A n c] 24)).alloc (by simp) (.cells #[.int .i64 0, .int .i64 0, .int .i64 0, .int .i64 0] 28))
    have hjb := HB.out.trans (HW.out.mono hBW)
    have hjz : B ≤ ((W.alloc (.cells #[.int .i64 op, .int .i64 a, .int .i64 b, .string name, .slice A n c] 24)).alloc (.cells #[.int .i64 0, .int .i64 0, .int .i64 0, .int .i64 0] 28)).heap.size := by have := HW.out.size; omega
    go_enter Try.func8, Try.ntmps8
    go_wp2_with fail
    with_reducible refine (Right_c HH.out _ hjb hjz).mono ?_
    rintro e w1 ⟨rfl, hb1⟩
    have HC1 := Lib.hid (HC.out.below hb1 HC.out.lt)
    have HR1 := Lib.hid (HR.out.below hb1 HR.out.lt)
    have HW1 := Lib.hid (HW.out.trans (hb1.mono HW.out.size))
    clear hb1 HC HR HW hjb hjz
    cases hrt : rightT t
    · have HP := Lib.hid (show OfP t = ⟨0, 0, 0, 0⟩ from by unfold OfP; rw [hrt]; rfl)
      have HE := Lib.hid (show OfE t = 1 from by unfold OfE; rw [hrt]; rfl)
      clear hrt
      have z0 : w1.cell? ⟨W.heap.size + 1, 0, none⟩ = some ((.int .i64 0)) := HR1.out.cell 0
      have zf0 : w1.frozen? ⟨W.heap.size + 1, 0, none⟩ = false := HR1.out.frozen 0
      have z1 : w1.cell? ⟨W.heap.size + 1, 1, none⟩ = some ((.int .i64 0)) := HR1.out.cell 1
      have zf1 : w1.frozen? ⟨W.heap.size + 1, 1, none⟩ = false := HR1.out.frozen 1
      have z2 : w1.cell? ⟨W.heap.size + 1, 2, none⟩ = some ((.int .i64 0)) := HR1.out.cell 2
      have zf2 : w1.frozen? ⟨W.heap.size + 1, 2, none⟩ = false := HR1.out.frozen 2
      have z3 : w1.cell? ⟨W.heap.size + 1, 3, none⟩ = some ((.int .i64 0)) := HR1.out.cell 3
      have zf3 : w1.frozen? ⟨W.heap.size + 1, 3, none⟩ = false := HR1.out.frozen 3
      go_wp2
      exact bodyPost_ret (Of_res (put4 HR1.out) _ (.int .i64 1) rfl rfl) rfl ⟨by rw [HP.out, HE.out], put4_below HW1.out (by omega)⟩
    · have HP := Lib.hid (show OfP t = ofF t from by unfold OfP; rw [hrt]; rfl)
      have HE := Lib.hid (show OfE t = 0 from by unfold OfE; rw [hrt]; rfl)
      clear hrt
      have r0 : w1.cell? ⟨W.heap.size, 0, none⟩ = some (.int .i64 op) := HC1.out.cell 0
      have r1 : w1.cell? ⟨W.heap.size, 1, none⟩ = some (.int .i64 a) := HC1.out.cell 1
      have r2 : w1.cell? ⟨W.heap.size, 2, none⟩ = some (.int .i64 b) := HC1.out.cell 2
      have r3 : w1.cell? ⟨W.heap.size, 3, none⟩ = some (.string name) := HC1.out.cell 3
      have r4 : w1.cell? ⟨W.heap.size, 4, none⟩ = some (.slice A n c) := HC1.out.cell 4
      have hjb := HB.out.trans (HW1.out.mono hBW)
      have hjz : B ≤ w1.heap.size := by have := HW1.out.size; omega
      go_wp2_with fail
      with_reducible refine (of_c HH.out _ hjb hjz).mono ?_
      rintro e w2 ⟨rfl, hb2⟩
      have HR2 := Lib.hid (HR1.out.below hb2 HR1.out.lt)
      have HW2 := Lib.hid (HW1.out.trans (hb2.mono HW1.out.size))
      clear hb2 HR1 HW1 hjb hjz
      have z0 : w2.cell? ⟨W.heap.size + 1, 0, none⟩ = some ((.int .i64 0)) := HR2.out.cell 0
      have zf0 : w2.frozen? ⟨W.heap.size + 1, 0, none⟩ = false := HR2.out.frozen 0
      have z1 : w2.cell? ⟨W.heap.size + 1, 1, none⟩ = some ((.int .i64 0)) := HR2.out.cell 1
      have zf1 : w2.frozen? ⟨W.heap.size + 1, 1, none⟩ = false := HR2.out.frozen 1
      have z2 : w2.cell? ⟨W.heap.size + 1, 2, none⟩ = some ((.int .i64 0)) := HR2.out.cell 2
      have zf2 : w2.frozen? ⟨W.heap.size + 1, 2, none⟩ = false := HR2.out.frozen 2
      have z3 : w2.cell? ⟨W.heap.size + 1, 3, none⟩ = some ((.int .i64 0)) := HR2.out.cell 3
      have zf3 : w2.frozen? ⟨W.heap.size + 1, 3, none⟩ = false := HR2.out.frozen 3
      go_wp2
      exact bodyPost_ret (Of_res (put4 HR2.out) _ (.int .i64 0) rfl rfl) rfl ⟨by rw [HP.out, HE.out], put4_below HW2.out (by omega)⟩

def meetsF (f l r t : Int) (p : Sp) : Bool := decide (f < l ∧ max (f + 1) p.f ≤ min l p.l ∧ max r p.r ≤ min t p.t)
def withinF (q a : Int) (p : Sp) : Bool := decide (p.f ≤ q ∧ q ≤ p.l ∧ p.r ≤ a ∧ a ≤ p.t)
abbrev segc (nm f l r t sz : Int) (sd : Bool) : Array Value := #[.int .i64 nm, .int .i64 f, .int .i64 l, .int .i64 r, .int .i64 t, .int .i64 sz, .bool sd]
abbrev evc (q a k : Int) (cm : ByteArray) (x y z : Int) : Array Value := #[.int .i64 q, .int .i64 a, .int .i64 k, .string cm, .int .i64 x, .int .i64 y, .int .i64 z]
theorem Meets_c (nm f l r t sz : Int) (sd : Bool) (p : Sp) (hf : -9223372036854775808 ≤ f) (hl : l ≤ 9223372036854775807) (w : World) : Calls Try.prog 11 #[.agg (segc nm f l r t sz sd), .agg (spc p)] w fun e w' => e = .returned (.bool (meetsF f l r t p)) ∧ Below w.heap.size w w' := by
  by_cases h : f < l
  · have hw : IntKind.i64.wrap (f + 1) = f + 1 := IntWalk.i64_in _ (by omega)
    go_enter Try.func11, Try.ntmps11
    go_wp2
    all_goals
      go_ret
      refine ⟨ret_bool ?_, ((Below.refl _ _).alloc (Nat.le_refl _) _).alloc (by simp) _⟩
      unfold meetsF
      first | (symm; rw [decide_eq_false_iff_not]; omega) | (symm; rw [decide_eq_true_eq]; omega) | (rw [Bool.eq_iff_iff, decide_eq_true_eq, decide_eq_true_eq]; omega) | (rw [Bool.eq_iff_iff]; simp only [Bool.and_eq_true, Bool.or_eq_true, decide_eq_true_eq]; omega)
  · have h2 : l ≤ f := by omega
    go_enter Try.func11, Try.ntmps11
    go_wp2
    all_goals
      go_ret
      refine ⟨ret_bool ?_, ((Below.refl _ _).alloc (Nat.le_refl _) _).alloc (by simp) _⟩
      unfold meetsF
      first | (symm; rw [decide_eq_false_iff_not]; omega) | (symm; rw [decide_eq_true_eq]; omega) | (rw [Bool.eq_iff_iff, decide_eq_true_eq, decide_eq_true_eq]; omega) | (rw [Bool.eq_iff_iff]; simp only [Bool.and_eq_true, Bool.or_eq_true, decide_eq_true_eq]; omega)
theorem Within_c (q a k : Int) (cm : ByteArray) (x y z : Int) (p : Sp) (w : World) : Calls Try.prog 13 #[.agg (evc q a k cm x y z), .agg (spc p)] w fun e w' => e = .returned (.bool (withinF q a p)) ∧ Below w.heap.size w w' := by
  go_enter Try.func13, Try.ntmps13
  go_wp2
  all_goals
    go_ret
    refine ⟨ret_bool ?_, ((Below.refl _ _).alloc (Nat.le_refl _) _).alloc (by simp) _⟩
    unfold withinF
    first | (symm; rw [decide_eq_false_iff_not]; omega) | (symm; rw [decide_eq_true_eq]; omega) | (rw [Bool.eq_iff_iff, decide_eq_true_eq, decide_eq_true_eq]; omega) | (rw [Bool.eq_iff_iff]; simp only [Bool.and_eq_true, Bool.or_eq_true, decide_eq_true_eq]; omega)
theorem rMeets_c (nm f l r t sz : Int) (sd : Bool) (p : Sp) (w : World) : Calls Try.prog 12 #[.agg (segc nm f l r t sz sd), .agg (spc p)] w fun e w' => e = .returned (.bool (meetsF f l r t p)) ∧ Below w.heap.size w w' := by
  have HC := Lib.hid ((Blk.new w 26 (segc nm f l r t sz sd)).alloc (.cells (spc p) 28))
  have HP := Lib.hid (blk_at (w.alloc (.cells (segc nm f l r t sz sd) 26)) 28 (spc p) (w.heap.size + 1) (by simp))
  have HW := Lib.hid (((Below.refl w.heap.size w).alloc (Nat.le_refl _) (.cells (segc nm f l r t sz sd) 26)).alloc (by simp) (.cells (spc p) 28))
  by_cases h : l ≤ f
  · go_enter Try.func12, Try.ntmps12
    go_wp2
    all_goals
      go_ret
      refine ⟨ret_bool ?_, HW.out⟩
      unfold meetsF
      first | (symm; rw [decide_eq_false_iff_not]; omega) | (symm; rw [decide_eq_true_eq]; omega) | (rw [Bool.eq_iff_iff, decide_eq_true_eq, decide_eq_true_eq]; omega) | (rw [Bool.eq_iff_iff]; simp only [Bool.and_eq_true, Bool.or_eq_true, decide_eq_true_eq]; omega)
  · go_enter Try.func12, Try.ntmps12
    go_wp2_with fail
    with_reducible refine (none_c p _).mono ?_
    rintro e w1 ⟨rfl, hb1⟩
    have HC1 := Lib.hid (HC.out.below hb1 HC.out.lt)
    have HP1 := Lib.hid (HP.out.below hb1 HP.out.lt)
    have HW1 := Lib.hid (HW.out.trans (hb1.mono HW.out.size))
    clear hb1 HC HP HW
    have s0 : w1.cell? ⟨w.heap.size, 0, none⟩ = some (.int .i64 nm) := HC1.out.cell 0
    have s1 : w1.cell? ⟨w.heap.size, 1, none⟩ = some (.int .i64 f) := HC1.out.cell 1
    have s2 : w1.cell? ⟨w.heap.size, 2, none⟩ = some (.int .i64 l) := HC1.out.cell 2
    have s3 : w1.cell? ⟨w.heap.size, 3, none⟩ = some (.int .i64 r) := HC1.out.cell 3
    have s4 : w1.cell? ⟨w.heap.size, 4, none⟩ = some (.int .i64 t) := HC1.out.cell 4
    have s5 : w1.cell? ⟨w.heap.size, 5, none⟩ = some (.int .i64 sz) := HC1.out.cell 5
    have s6 : w1.cell? ⟨w.heap.size, 6, none⟩ = some (.bool sd) := HC1.out.cell 6
    have p0 : w1.cell? ⟨w.heap.size + 1, 0, none⟩ = some (.int .i64 p.f) := HP1.out.cell 0
    have p1 : w1.cell? ⟨w.heap.size + 1, 1, none⟩ = some (.int .i64 p.l) := HP1.out.cell 1
    have p2 : w1.cell? ⟨w.heap.size + 1, 2, none⟩ = some (.int .i64 p.r) := HP1.out.cell 2
    have p3 : w1.cell? ⟨w.heap.size + 1, 3, none⟩ = some (.int .i64 p.t) := HP1.out.cell 3
    cases hv : p.void
    · have hv2 := hv
      unfold Sp.void at hv2
      rw [decide_eq_false_iff_not] at hv2
      go_wp2
      all_goals
        go_ret
        refine ⟨ret_bool ?_, HW1.out⟩
        unfold meetsF
        first | (symm; rw [decide_eq_false_iff_not]; omega) | (symm; rw [decide_eq_true_eq]; omega) | (rw [Bool.eq_iff_iff, decide_eq_true_eq, decide_eq_true_eq]; omega) | (rw [Bool.eq_iff_iff]; simp only [Bool.and_eq_true, Bool.or_eq_true, decide_eq_true_eq]; omega)
    · have hv2 := hv
      unfold Sp.void at hv2
      rw [decide_eq_true_eq] at hv2
      go_wp2
      all_goals
        go_ret
        refine ⟨ret_bool ?_, HW1.out⟩
        unfold meetsF
        first | (symm; rw [decide_eq_false_iff_not]; omega) | (symm; rw [decide_eq_true_eq]; omega) | (rw [Bool.eq_iff_iff, decide_eq_true_eq, decide_eq_true_eq]; omega) | (rw [Bool.eq_iff_iff]; simp only [Bool.and_eq_true, Bool.or_eq_true, decide_eq_true_eq]; omega)
end Go.Proofs.Ytgbcgkhcmellfaa
