/- awake of the laws of spans. -/
import Derived.Test.YtgbcgkhcmellfaaSpan6
namespace Go.Proofs.Ytgbcgkhcmellfaa
set_option linter.unusedVariables false
open Go.RowKit Go.ChangeShapes

theorem FTr.five {w : World} {B : Nat} {cs : List Value} {t : FT} (h : FTr w B cs t) : cs.length = 5 := by cases h; rfl
theorem FTr.leaf (w : World) (B : Nat) (op a b : Int) (hop : (Lit.int .i64 op).wf = true) (ha : (Lit.int .i64 a).wf = true) (hb : (Lit.int .i64 b).wf = true) : FTr w B [.int .i64 op, .int .i64 a, .int .i64 b, .string ⟨#[]⟩, .slice none 0 0] (.mk op a b ⟨#[]⟩ []) :=
  .mk op a b ⟨#[]⟩ none 0 0 [] [] hop ha hb (by decide) rfl rfl (Nat.le_refl _) (Nat.zero_le _) (fun h => absurd h (by omega)) (fun i v t hv => by simp at hv)
/-- a filter of two kids that lie one behind the other in a block. -/
theorem FTr.two {W : World} {B g : Nat} {ty : TypeId} {cs1 cs2 : List Value} {t1 t2 : FT} (h1 : FTr W B cs1 t1) (h2 : FTr W B cs2 t2) (hb : Blk W g ty (cs1 ++ cs2).toArray) (hg : g < B) (op : Int) (hop : (Lit.int .i64 op).wf = true) :
    FTr W B [.int .i64 op, .int .i64 0, .int .i64 0, .string ⟨#[]⟩, .slice (some ⟨g, 0, none⟩) 2 2] (.mk op 0 0 ⟨#[]⟩ [t1, t2]) := by
  have l1 := h1.five
  have l2 := h2.five
  refine .mk op 0 0 ⟨#[]⟩ (some ⟨g, 0, none⟩) 2 2 [cs1, cs2] [t1, t2] hop (by decide) (by decide) (by decide) rfl rfl (Nat.le_refl _) (by decide) (fun _ => ⟨⟨g, 0, none⟩, rfl, hg, ?_⟩) ?_
  · intro i v hv j u hu
    match i, hv with
    | 0, hv =>
      simp at hv; subst hv
      have hj : j < cs1.length := by rcases Nat.lt_or_ge j cs1.length with h | h; exact h; rw [List.getElem?_eq_none h] at hu; cases hu
      have hc := hb.cell j
      rw [List.getElem?_toArray, List.getElem?_append_left hj, hu] at hc
      rw [← hc]
      congr 1
      unfold Addr.add
      by_cases h0 : j = 0
      · subst h0; simp
      · simp [h0]
    | 1, hv =>
      simp at hv; subst hv
      have hj : j < cs2.length := by rcases Nat.lt_or_ge j cs2.length with h | h; exact h; rw [List.getElem?_eq_none h] at hu; cases hu
      have hc := hb.cell (5 + j)
      rw [List.getElem?_toArray, List.getElem?_append_right (by omega), show 5 + j - cs1.length = j from by omega, hu] at hc
      rw [← hc]
      congr 1
      unfold Addr.add
      by_cases h0 : j = 0
      · subst h0; simp
      · simp [h0]
  · intro i v t hv ht
    match i, hv, ht with
    | 0, hv, ht => simp at hv ht; subst hv ht; exact h1
    | 1, hv, ht => simp at hv ht; subst hv ht; exact h2

theorem awake_c (w : World) : Calls Try.prog 6 #[] w fun e w' => e = .returned (.bool true) ∧ Below w.heap.size w w' := by
  have HW := Lib.hid (((Below.refl w.heap.size w).alloc (Nat.le_refl _) (.cells #[.int .i64 3, .int .i64 3, .int .i64 9, .string ⟨#[]⟩, .slice none 0 0, .int .i64 2, .int .i64 50, .int .i64 60, .string ⟨#[]⟩, .slice none 0 0] 24)).alloc (by simp) (.cells #[.int .i64 6, .int .i64 0, .int .i64 0, .string ⟨#[]⟩, .slice (some ⟨w.heap.size, 0, none⟩) 2 2] 24))
  have HB := Lib.hid ((Blk.new w 24 #[.int .i64 3, .int .i64 3, .int .i64 9, .string ⟨#[]⟩, .slice none 0 0, .int .i64 2, .int .i64 50, .int .i64 60, .string ⟨#[]⟩, .slice none 0 0]).alloc (.cells #[.int .i64 6, .int .i64 0, .int .i64 0, .string ⟨#[]⟩, .slice (some ⟨w.heap.size, 0, none⟩) 2 2] 24))
  have HO := Lib.hid (Of_c (FTr.two (FTr.leaf _ ((w.alloc (.cells #[.int .i64 3, .int .i64 3, .int .i64 9, .string ⟨#[]⟩, .slice none 0 0, .int .i64 2, .int .i64 50, .int .i64 60, .string ⟨#[]⟩, .slice none 0 0] 24)).alloc (.cells #[.int .i64 6, .int .i64 0, .int .i64 0, .string ⟨#[]⟩, .slice (some ⟨w.heap.size, 0, none⟩) 2 2] 24)).heap.size 3 3 9 (by decide) (by decide) (by decide)) (FTr.leaf _ ((w.alloc (.cells #[.int .i64 3, .int .i64 3, .int .i64 9, .string ⟨#[]⟩, .slice none 0 0, .int .i64 2, .int .i64 50, .int .i64 60, .string ⟨#[]⟩, .slice none 0 0] 24)).alloc (.cells #[.int .i64 6, .int .i64 0, .int .i64 0, .string ⟨#[]⟩, .slice (some ⟨w.heap.size, 0, none⟩) 2 2] 24)).heap.size 2 50 60 (by decide) (by decide) (by decide)) HB.out (by simp; omega) 6 (by decide)) _ (Below.refl _ _) (Nat.le_refl _))
  rw [show OfP (.mk 6 0 0 ⟨#[]⟩ [.mk 3 3 9 ⟨#[]⟩ [], .mk 2 50 60 ⟨#[]⟩ []]) = ⟨3, 9, 50, 60⟩ from by kernel_rfl, show OfE (.mk 6 0 0 ⟨#[]⟩ [.mk 3 3 9 ⟨#[]⟩ [], .mk 2 50 60 ⟨#[]⟩ []]) = 0 from by kernel_rfl] at HO
  go_enter Try.func6, Try.ntmps6
  go_wp2_with fail
  with_reducible refine HO.out.mono ?_
  rintro e w1 ⟨rfl, hb1⟩
  have HP1 := Lib.hid (Blk.new w1 28 #[.int .i64 3, .int .i64 9, .int .i64 50, .int .i64 60])
  have HW1 := Lib.hid ((HW.out.trans (hb1.mono HW.out.size)).alloc (by have h1 := hb1.size; have h2 := HW.out.size; omega) (.cells #[.int .i64 3, .int .i64 9, .int .i64 50, .int .i64 60] 28))
  clear hb1 HW HB HO
  have p0 : (w1.alloc (.cells #[.int .i64 3, .int .i64 9, .int .i64 50, .int .i64 60] 28)).cell? ⟨w1.heap.size, 0, none⟩ = some (.int .i64 3) := HP1.out.cell 0
  have p1 : (w1.alloc (.cells #[.int .i64 3, .int .i64 9, .int .i64 50, .int .i64 60] 28)).cell? ⟨w1.heap.size, 1, none⟩ = some (.int .i64 9) := HP1.out.cell 1
  have p2 : (w1.alloc (.cells #[.int .i64 3, .int .i64 9, .int .i64 50, .int .i64 60] 28)).cell? ⟨w1.heap.size, 2, none⟩ = some (.int .i64 50) := HP1.out.cell 2
  have p3 : (w1.alloc (.cells #[.int .i64 3, .int .i64 9, .int .i64 50, .int .i64 60] 28)).cell? ⟨w1.heap.size, 3, none⟩ = some (.int .i64 60) := HP1.out.cell 3
  go_wp2_with fail
  with_reducible refine (Meets_c 0 8 12 60 99 0 false ⟨3, 9, 50, 60⟩ (by decide) (by decide) _).mono ?_
  rw [show meetsF 8 12 60 99 ⟨3, 9, 50, 60⟩ = true from by decide]
  rintro e w2 ⟨rfl, hb2⟩
  have HP2 := Lib.hid (HP1.out.below hb2 HP1.out.lt)
  have HW2 := Lib.hid (HW1.out.trans (hb2.mono HW1.out.size))
  clear hb2 HP1 HW1 p0 p1 p2 p3
  generalize w1.heap.size = gp at HP2 ⊢
  have p0 : w2.cell? ⟨gp, 0, none⟩ = some (.int .i64 3) := HP2.out.cell 0
  have p1 : w2.cell? ⟨gp, 1, none⟩ = some (.int .i64 9) := HP2.out.cell 1
  have p2 : w2.cell? ⟨gp, 2, none⟩ = some (.int .i64 50) := HP2.out.cell 2
  have p3 : w2.cell? ⟨gp, 3, none⟩ = some (.int .i64 60) := HP2.out.cell 3
  go_wp2_with fail
  with_reducible refine (Meets_c 0 9 12 60 99 0 false ⟨3, 9, 50, 60⟩ (by decide) (by decide) _).mono ?_
  rw [show meetsF 9 12 60 99 ⟨3, 9, 50, 60⟩ = false from by decide]
  rintro e w3 ⟨rfl, hb3⟩
  have HP3 := Lib.hid (HP2.out.below hb3 HP2.out.lt)
  have HW3 := Lib.hid (HW2.out.trans (hb3.mono HW2.out.size))
  clear hb3 HP2 HW2 p0 p1 p2 p3
  have p0 : w3.cell? ⟨gp, 0, none⟩ = some (.int .i64 3) := HP3.out.cell 0
  have p1 : w3.cell? ⟨gp, 1, none⟩ = some (.int .i64 9) := HP3.out.cell 1
  have p2 : w3.cell? ⟨gp, 2, none⟩ = some (.int .i64 50) := HP3.out.cell 2
  have p3 : w3.cell? ⟨gp, 3, none⟩ = some (.int .i64 60) := HP3.out.cell 3
  go_wp2_with fail
  with_reducible refine (Within_c 9 50 0 ⟨#[]⟩ 0 0 0 ⟨3, 9, 50, 60⟩ _).mono ?_
  rw [show withinF 9 50 ⟨3, 9, 50, 60⟩ = true from by decide]
  rintro e w4 ⟨rfl, hb4⟩
  have HW4 := Lib.hid (HW3.out.trans (hb4.mono HW3.out.size))
  clear hb4 HW3
  go_wp2
  go_ret
  exact ⟨rfl, HW4.out⟩
end Go.Proofs.Ytgbcgkhcmellfaa
