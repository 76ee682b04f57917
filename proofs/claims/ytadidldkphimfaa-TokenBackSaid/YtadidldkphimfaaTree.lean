/- Filters as trees: what a filter's memory says; how an argument is opened to it. -/
import Derived.Test.YtadidldkphimfaaRows
import Derived.Test.YtadidldkphimfaaArgs
import Derived.Deep.Slices
import Derived.Deep.Fields
import Derived.ChangeSame
import Derived.ChangeArms
import Derived.WalkLawsBesides
import Derived.WalkSpells
import Derived.Outline
namespace Go.Proofs.Ytadidldkphimfaa
set_option linter.unusedVariables false
open Go.ChangeShapes Go.WideShapes Go.ChangeAt Go.RowKit Go.Deep

inductive FT : Type
  | mk (op a b : Int) (name : ByteArray) (kids : List FT) : FT

/-- the cells cs, and what they lead to below B, are those of the filter t. -/
inductive FTr (w : World) (B : Nat) : List Value → FT → Prop
  | mk (op a b : Int) (name : ByteArray) (A : Option Addr) (n c : Nat) (vs : List (List Value)) (ks : List FT)
      (hop : (Lit.int .i64 op).wf = true) (ha : (Lit.int .i64 a).wf = true) (hb : (Lit.int .i64 b).wf = true) (hnm : name.size ≤ maxLen)
      (hn : ks.length = n) (hv : vs.length = n) (hnc : n ≤ c) (hcm : c ≤ maxLen)
      (hr : 0 < n → ∃ ad, A = some ad ∧ ad.block < B ∧ ∀ i v, vs[i]? = some v → ∀ j u, v[j]? = some u → w.cell? ((ad.add (i * 5)).add j) = some u)
      (hk : ∀ (i : Nat) v t, vs[i]? = some v → ks[i]? = some t → FTr w B v t) :
      FTr w B [.int .i64 op, .int .i64 a, .int .i64 b, .string name, .slice A n c] (.mk op a b name ks)

theorem FTr.move {w w' : World} {B B' : Nat} {cs : List Value} {t : FT} (h : FTr w B cs t) (hb : Below B w w') (hB : B ≤ B') : FTr w' B' cs t := by
  induction h with
  | mk op a b name A n c vs ks hop ha hb' hnm hn hv hnc hcm hr hk ih =>
    refine .mk op a b name A n c vs ks hop ha hb' hnm hn hv hnc hcm (fun h0 => ?_) ih
    obtain ⟨ad, rfl, hlt, hc⟩ := hr h0
    exact ⟨ad, rfl, by omega, fun i v hv j u hu => (hb.cell (by rw [block_of_add, block_of_add]; exact hlt)).trans (hc i v hv j u hu)⟩

section
variable {H : Type} {enc : TypeId × Value → H}
theorem mk_of (P : List Value → FT → Prop) (n : Nat) (f : Nat → List Value) (h : ∀ i, i < n → ∃ t, P (f i) t) : ∃ ks : List FT, ks.length = n ∧ ∀ (i : Nat) v t, ((List.range n).map f)[i]? = some v → ks[i]? = some t → P v t := by
  induction n with
  | zero => exact ⟨[], rfl, fun i v t hv => by simp at hv⟩
  | succ n ih =>
    obtain ⟨ks, hl, hk⟩ := ih (fun i hi => h i (by omega))
    obtain ⟨t, ht⟩ := h n (by omega)
    refine ⟨ks ++ [t], by simp [hl], fun i v t' hv ht' => ?_⟩
    rw [List.range_succ, List.map_append] at hv
    by_cases hi : i < n
    · rw [List.getElem?_append_left (by simpa using hi)] at hv
      rw [List.getElem?_append_left (by omega)] at ht'
      exact hk i v t' hv ht'
    · rw [List.getElem?_append_right (by simpa using hi)] at hv
      rw [List.getElem?_append_right (by omega)] at ht'
      have h0 : i - ((List.range n).map f).length = 0 := by
        rcases Nat.eq_zero_or_pos (i - ((List.range n).map f).length) with h | h
        · exact h
        · rw [List.getElem?_eq_none (by simp at h ⊢; omega)] at hv; cases hv
      rw [h0] at hv
      rw [show i - ks.length = 0 from by simp at h0; omega] at ht'
      simp at hv ht'
      subst hv ht'
      exact ht
theorem field_trod {w : World} {base : Nat} {fuel : Nat} {cs : List Value} {x : DataW H × List MemPlace} (h : DataW.trod enc Try.prog w base (fun _ => true) true fuel 24 cs = some x) :
    ∃ (op a b : Int) (name : ByteArray) (s : Value) (n : Nat) (y : DataW H × List MemPlace), fuel = n + 1 ∧ cs = [.int .i64 op, .int .i64 a, .int .i64 b, .string name, s] ∧ (Lit.int .i64 op).wf = true ∧ (Lit.int .i64 a).wf = true ∧ (Lit.int .i64 b).wf = true ∧ name.size ≤ maxLen ∧
      DataW.trod enc Try.prog w base (fun _ => true) true n 22 [s] = some y := by
  obtain ⟨xs, n, hf, _, hl, hxl, hall⟩ := DataW.trod_struct Try.underlying24 h
  rw [show Try.prog.cellsOf 24 = 5 from by kernel_rfl] at hl
  match cs, hl with
  | [c0, c1, c2, c3, c4], _ =>
    have hx5 : xs.length = 5 := hxl
    match xs, hx5 with
    | [x0, x1, x2, x3, x4], _ =>
      have e : Try.prog.cellsOf 3 = 1 ∧ Try.prog.cellsOf 2 = 1 ∧ Try.prog.cellsOf 9 = 1 ∧ Try.prog.cellsOf 22 = 1 := ⟨by kernel_rfl, by kernel_rfl, by kernel_rfl, by kernel_rfl⟩
      have f0 : DataW.trod enc Try.prog w base (fun _ => true) true n 3 [c0] = some x0 := by
        have h : DataW.trod enc Try.prog w base (fun _ => true) true n 3 ((([c0, c1, c2, c3, c4] : List Value).drop 0).take (Try.prog.cellsOf 3)) = ([x0, x1, x2, x3, x4])[0]? := hall 0 _ rfl
        rw [e.1] at h
        exact h
      have f1 : DataW.trod enc Try.prog w base (fun _ => true) true n 2 [c1] = some x1 := by
        have h : DataW.trod enc Try.prog w base (fun _ => true) true n 2 ((([c0, c1, c2, c3, c4] : List Value).drop 1).take (Try.prog.cellsOf 2)) = ([x0, x1, x2, x3, x4])[1]? := hall 1 _ rfl
        rw [e.2.1] at h
        exact h
      have f2 : DataW.trod enc Try.prog w base (fun _ => true) true n 2 [c2] = some x2 := by
        have h : DataW.trod enc Try.prog w base (fun _ => true) true n 2 ((([c0, c1, c2, c3, c4] : List Value).drop 2).take (Try.prog.cellsOf 2)) = ([x0, x1, x2, x3, x4])[2]? := hall 2 _ rfl
        rw [e.2.1] at h
        exact h
      have f3 : DataW.trod enc Try.prog w base (fun _ => true) true n 9 [c3] = some x3 := by
        have h : DataW.trod enc Try.prog w base (fun _ => true) true n 9 ((([c0, c1, c2, c3, c4] : List Value).drop 3).take (Try.prog.cellsOf 9)) = ([x0, x1, x2, x3, x4])[3]? := hall 3 _ rfl
        rw [e.2.2.1] at h
        exact h
      have f4 : DataW.trod enc Try.prog w base (fun _ => true) true n 22 [c4] = some x4 := by
        have h : DataW.trod enc Try.prog w base (fun _ => true) true n 22 ((([c0, c1, c2, c3, c4] : List Value).drop 4).take (Try.prog.cellsOf 22)) = ([x0, x1, x2, x3, x4])[4]? := hall 4 _ rfl
        rw [e.2.2.2] at h
        exact h
      obtain ⟨op, h0, _, w0⟩ := DataW.trod_int Try.underlying3 f0
      obtain ⟨a, h1, _, w1⟩ := DataW.trod_int Try.underlying2 f1
      obtain ⟨b, h2, _, w2⟩ := DataW.trod_int Try.underlying2 f2
      obtain ⟨name, h3, _, w3⟩ := DataW.trod_string Try.underlying9 f3
      simp only [List.cons.injEq, and_true] at h0 h1 h2 h3
      subst h0 h1 h2 h3
      exact ⟨op, a, b, name, c4, n, x4, hf, rfl, w0, w1, w2, w3, f4⟩
theorem tree_open {w : World} : ∀ (fuel : Nat) (cs : List Value) (x : DataW H × List MemPlace), DataW.trod enc Try.prog w 0 (fun _ => true) true fuel 24 cs = some x → ∃ t, FTr w w.heap.size cs t := by
  intro fuel
  induction fuel using Nat.strongRecOn with
  | ind fuel ih =>
    intro cs x h
    obtain ⟨op, a, b, name, s, n, y, rfl, rfl, w0, w1, w2, w3, f4⟩ := field_trod h
    rcases DataW.trod_slice Try.underlying22 f4 with ⟨hs, _⟩ | ⟨ad, len, cap, elems, rest, m, rfl, hs, _, _, hl, hm, hlen, hel, _, _⟩
    · simp only [List.cons.injEq, and_true] at hs
      subst hs
      exact ⟨.mk op a b name [], .mk op a b name none 0 0 [] [] w0 w1 w2 w3 rfl rfl (Nat.le_refl _) (Nat.zero_le _) (fun h => absurd h (by omega)) (fun i v t hv => by simp at hv)⟩
    · simp only [List.cons.injEq, and_true] at hs
      subst hs
      rw [show Try.prog.cellsOf 24 = 5 from by kernel_rfl] at hel
      have hex : ∀ i, i < len → ∃ cs' y', w.cells? 0 (ad.add (i * 5)) 5 = some cs' ∧ DataW.trod enc Try.prog w 0 (fun _ => true) true m 24 cs' = some y' := by
        intro i hi
        have h1 := hel i hi
        rw [List.getElem?_eq_getElem (by omega), Option.bind_eq_some_iff] at h1
        obtain ⟨cs', h2, h3⟩ := h1
        exact ⟨cs', _, h2, h3⟩
      have hV : ∃ V : Nat → List Value, ∀ i, i < len → ∃ y', w.cells? 0 (ad.add (i * 5)) 5 = some (V i) ∧ DataW.trod enc Try.prog w 0 (fun _ => true) true m 24 (V i) = some y' := by
        refine ⟨fun i => (w.cells? 0 (ad.add (i * 5)) 5).getD [], fun i hi => ?_⟩
        obtain ⟨cs', y', h1, h2⟩ := hex i hi
        exact ⟨y', by show w.cells? 0 (ad.add (i * 5)) 5 = some ((w.cells? 0 (ad.add (i * 5)) 5).getD []); rw [h1]; rfl, by show DataW.trod enc Try.prog w 0 (fun _ => true) true m 24 ((w.cells? 0 (ad.add (i * 5)) 5).getD []) = some y'; rw [h1]; exact h2⟩
      obtain ⟨V, hV⟩ := hV
      obtain ⟨ks, hkl, hks⟩ := mk_of (fun v t => FTr w w.heap.size v t) len V (fun i hi => by
        obtain ⟨y', _, h2⟩ := hV i hi
        exact ih m (by omega) _ _ h2)
      refine ⟨.mk op a b name ks, .mk op a b name (some ad) len cap ((List.range len).map V) ks w0 w1 w2 w3 hkl (by simp) hl hm (fun h0 => ?_) hks⟩
      have hcell : ∀ i, i < len → ∀ j u, (V i)[j]? = some u → w.cell? ((ad.add (i * 5)).add j) = some u := by
        intro i hi j u hu
        obtain ⟨y', h1, _⟩ := hV i hi
        obtain ⟨_, hcl, hat⟩ := World.cells?_some h1
        have hj : j < 5 := by
          rcases Nat.lt_or_ge j 5 with h | h
          · exact h
          · rw [List.getElem?_eq_none (by omega)] at hu; cases hu
        rw [hat j hj]; exact hu
      refine ⟨ad, rfl, ?_, fun i v hv j u hu => ?_⟩
      · obtain ⟨y', h1, _⟩ := hV 0 h0
        obtain ⟨_, hcl, hat⟩ := World.cells?_some h1
        have h2 := World.block_lt_of_cell? w _ ((hat 0 (by omega)).trans (List.getElem?_eq_getElem (by omega)))
        rwa [block_of_add, block_of_add] at h2
      · have hi : i < len := by
          rcases Nat.lt_or_ge i len with h | h
          · exact h
          · rw [List.getElem?_eq_none (by simpa using h)] at hv; cases hv
        rw [List.getElem?_map, List.getElem?_range hi] at hv
        simp at hv
        subst hv
        exact hcell i hi j u hu
/-- an argument of type Filter, opened. -/
theorem open_filter {w : World} {base : Nat} {v : Value} {d : DataW H} {p : List MemPlace} (hval : Value.okWide Try.prog w .any base 24 v) (h : DataW.Trod enc Try.prog w 0 (fun _ => true) true 24 v d p) :
    ∃ cs : List Value, ∃ t, v = .agg cs.toArray ∧ FTr w w.heap.size cs t := by
  obtain ⟨cs, rfl, hsz⟩ := okWide_struct Try.underlying24 hval
  obtain ⟨fuel, hf⟩ := h
  obtain ⟨t, ht⟩ := tree_open fuel _ _ hf
  exact ⟨cs.toList, t, by simp, by simpa [Value.cells] using ht⟩
end
end Go.Proofs.Ytadidldkphimfaa
