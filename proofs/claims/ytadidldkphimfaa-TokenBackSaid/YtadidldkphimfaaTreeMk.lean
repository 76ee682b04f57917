/- Trees of filters that a walk makes. -/
import Derived.Test.YtadidldkphimfaaMatch
namespace Go.Proofs.Ytadidldkphimfaa
set_option linter.unusedVariables false
open Go.RowKit Go.ChangeShapes

theorem FTr.five {w : World} {B : Nat} {cs : List Value} {t : FT} (h : FTr w B cs t) : cs.length = 5 := by cases h; rfl
theorem FTr.leaf (w : World) (B : Nat) (op a b : Int) (hop : (Lit.int .i64 op).wf = true) (ha : (Lit.int .i64 a).wf = true) (hb : (Lit.int .i64 b).wf = true) : FTr w B [.int .i64 op, .int .i64 a, .int .i64 b, .string ⟨#[]⟩, .slice none 0 0] (.mk op a b ⟨#[]⟩ []) :=
  .mk op a b ⟨#[]⟩ none 0 0 [] [] hop ha hb (by decide) rfl rfl (Nat.le_refl _) (Nat.zero_le _) (fun h => absurd h (by omega)) (fun i v t hv => by simp at hv)
/-- a filter of two kids that lie one behind the other in a block. -/
theorem FTr.two {W : World} {B g : Nat} {ty : TypeId} {cs1 cs2 : List Value} {t1 t2 : FT} (h1 : FTr W B cs1 t1) (h2 : FTr W B cs2 t2) (hb : Blk W g ty (cs1 ++ cs2).toArray) (hg : g < B) (op : Int) (hop : (Lit.int .i64 op).wf = true) :
    FTr W B [.int .i64 op, .int .i64 0, .int .i64 0, .string ⟨#[]⟩, .slice (some ⟨g, 0, none⟩) 2 2] (.mk op 0 0 ⟨#[]⟩ [t1, t2]) := by
  have l1 := h1.five
  have l2 := h2.five
  refine .mk op 0 0 ⟨#[]⟩ (some ⟨g, 0, none⟩) 2 2 [cs1, cs2] [t1, t2] hop (by decide) (by decide) (by decide) rfl rfl (Nat.le_refl _) (by decide) (fun _ => ⟨⟨g, 0, none⟩, rfl, hg, ?_⟩) ?_
  · intro i v hv j u hu
    match i, hv with
    | 0, hv =>
      simp at hv; subst hv
      have hj : j < cs1.length := by rcases Nat.lt_or_ge j cs1.length with h | h; exact h; rw [List.getElem?_eq_none h] at hu; cases hu
      have hc := hb.cell j
      rw [List.getElem?_toArray, List.getElem?_append_left hj, hu] at hc
      rw [← hc]
      congr 1
      unfold Addr.add
      by_cases h0 : j = 0
      · subst h0; simp
      · simp [h0]
    | 1, hv =>
      simp at hv; subst hv
      have hj : j < cs2.length := by rcases Nat.lt_or_ge j cs2.length with h | h; exact h; rw [List.getElem?_eq_none h] at hu; cases hu
      have hc := hb.cell (5 + j)
      rw [List.getElem?_toArray, List.getElem?_append_right (by omega), show 5 + j - cs1.length = j from by omega, hu] at hc
      rw [← hc]
      congr 1
      unfold Addr.add
      by_cases h0 : j = 0
      · subst h0; simp
      · simp [h0]
  · intro i v t hv ht
    match i, hv, ht with
    | 0, hv, ht => simp at hv ht; subst hv ht; exact h1
    | 1, hv, ht => simp at hv ht; subst hv ht; exact h2

theorem FTr.leafN (w : World) (B : Nat) (op a b : Int) (name : ByteArray) (hop : (Lit.int .i64 op).wf = true) (ha : (Lit.int .i64 a).wf = true) (hb : (Lit.int .i64 b).wf = true) (hn : name.size ≤ maxLen) : FTr w B [.int .i64 op, .int .i64 a, .int .i64 b, .string name, .slice none 0 0] (.mk op a b name []) :=
  .mk op a b name none 0 0 [] [] hop ha hb hn rfl rfl (Nat.le_refl _) (Nat.zero_le _) (fun h => absurd h (by omega)) (fun i v t hv => by simp at hv)
/-- a filter of one kid that lies in a block. -/
theorem FTr.one {W : World} {B g : Nat} {ty : TypeId} {cs1 : List Value} {t1 : FT} (h1 : FTr W B cs1 t1) (hb : Blk W g ty cs1.toArray) (hg : g < B) (op : Int) (hop : (Lit.int .i64 op).wf = true) :
    FTr W B [.int .i64 op, .int .i64 0, .int .i64 0, .string ⟨#[]⟩, .slice (some ⟨g, 0, none⟩) 1 1] (.mk op 0 0 ⟨#[]⟩ [t1]) := by
  refine .mk op 0 0 ⟨#[]⟩ (some ⟨g, 0, none⟩) 1 1 [cs1] [t1] hop (by decide) (by decide) (by decide) rfl rfl (Nat.le_refl _) (by decide) (fun _ => ⟨⟨g, 0, none⟩, rfl, hg, ?_⟩) ?_
  · intro i v hv j u hu
    match i, hv with
    | 0, hv =>
      simp at hv; subst hv
      have hc := hb.cell j
      rw [List.getElem?_toArray, hu] at hc
      rw [← hc]
      congr 1
      unfold Addr.add
      by_cases h0 : j = 0
      · subst h0; simp
      · simp [h0]
  · intro i v t hv ht
    match i, hv, ht with
    | 0, hv, ht => simp at hv ht; subst hv ht; exact h1
end Go.Proofs.Ytadidldkphimfaa
