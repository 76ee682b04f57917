/- Windows and their cells in memory. -/
import Derived.Test.YtmkjfpmailihjaaRows
import Derived.Test.YtmkjfpmailihjaaArgs
import Derived.Test.YtmkjfpmailihjaaKept
import Derived.Deep.Slices
import Derived.Deep.Fields
import Derived.ChangeSame
import Derived.ChangeArms
import Derived.WalkLawsBesides
import Derived.WalkSpells
import Derived.Outline
namespace Go.Proofs.Ytmkjfpmailihjaa
set_option linter.unusedVariables false
open Go.ChangeShapes Go.WideShapes Go.ChangeAt Go.RowKit Go.Deep

theorem add_pos (a : Addr) (j : Nat) (h : j ≠ 0) : a.add j = ⟨a.block, a.off + j, none⟩ := by unfold Addr.add; rw [if_neg h]
abbrev cellA (e : Int × Int) : Array Value := #[.int .i64 e.1, .int .i64 e.2]
def cellCells (cs : List (Int × Int)) : List Value := cs.flatMap (fun e => (cellA e).toList)
theorem cellCells_nil : cellCells [] = [] := rfl
theorem cellCells_cons (e : Int × Int) (l : List (Int × Int)) : cellCells (e :: l) = (cellA e).toList ++ cellCells l := by simp [cellCells]
theorem cellCells_append (a b : List (Int × Int)) : cellCells (a ++ b) = cellCells a ++ cellCells b := by simp [cellCells]
theorem cellCells_length (cs : List (Int × Int)) : (cellCells cs).length = cs.length * 2 := by
  induction cs with
  | nil => rfl
  | cons e l ih => rw [cellCells_cons, List.length_append, ih, List.length_cons]; simp; omega
theorem cellCells_one (cs : List (Int × Int)) : ∀ u ∈ cellCells cs, u.oneCell' = true := by
  intro u hu
  simp only [cellCells, List.mem_flatMap] at hu
  obtain ⟨e, _, hu⟩ := hu
  simp at hu
  rcases hu with rfl | rfl <;> rfl
theorem cell_get : ∀ (cs : List (Int × Int)) (i : Nat) (e : Int × Int), cs[i]? = some e → ∀ j u, (cellA e)[j]? = some u → (cellCells cs)[i * 2 + j]? = some u
  | [], i, e, h, _, _, _ => by simp at h
  | x :: l, 0, e, h, j, u, hu => by
    simp at h; subst h
    rw [cellCells_cons, Nat.zero_mul, Nat.zero_add]
    have hj : j < 2 := by
      rcases Nat.lt_or_ge j 2 with h | h
      · exact h
      · rw [Array.getElem?_eq_none (by simpa using h)] at hu; cases hu
    rw [List.getElem?_append_left (by simpa using hj)]
    simpa using hu
  | x :: l, i + 1, e, h, j, u, hu => by
    rw [cellCells_cons, List.getElem?_append_right (by simp; omega)]
    rw [show (i + 1) * 2 + j - (cellA x).toList.length = i * 2 + j from by simp; omega]
    exact cell_get l i e (by simpa using h) j u hu
theorem cell_in {w : World} {B n i : Nat} {A : Option Addr} {cs : List (Int × Int)} (h : Reads w B 2 A n (cellCells cs)) (hi : i < n) :
    ∃ (ad : Addr) (e : Int × Int), A = some ad ∧ ad.block < B ∧ cs[i]? = some e ∧ w.cell? (ad.add (i * 2)) = some (.int .i64 e.1) ∧ w.cell? ⟨(ad.add (i * 2)).block, (ad.add (i * 2)).off + 1, none⟩ = some (.int .i64 e.2) := by
  have hl : cs.length = n := by have := h.1; rw [cellCells_length] at this; omega
  obtain ⟨ad, rfl, hb, hc⟩ := h.2 (by omega)
  obtain ⟨e, he⟩ : ∃ e, cs[i]? = some e := ⟨_, List.getElem?_eq_getElem (by omega)⟩
  have q : ∀ j u, (cellA e)[j]? = some u → w.cell? ((ad.add (i * 2)).add j) = some u := fun j u hu => by rw [add_of_add]; exact hc _ u (cell_get cs i e he j u hu)
  have q1 := q 1 _ rfl
  rw [add_pos _ 1 (by omega)] at q1
  exact ⟨ad, e, rfl, hb, he, q 0 _ rfl, q1⟩
theorem Reads.cell_len {w : World} {B n : Nat} {A : Option Addr} {cs : List (Int × Int)} (h : Reads w B 2 A n (cellCells cs)) : cs.length = n := by have := h.1; rw [cellCells_length] at this; omega
theorem Try.infoCell : (Try.prog.info? 40).map (fun i => (i.zero, i.size, i.bytes)) = some (some (.agg #[.int .i64 0, .int .i64 0]), 2, 16) := by kernel_rfl
theorem own_cells {w : World} {base : Nat} {n : Nat} {v : Value} {cs : List (Int × Int)} (h : w.ownsRow base 40 2 v n (cellCells cs)) : ∃ A c, v = .slice A n c ∧ n ≤ c ∧ c ≤ maxLen ∧ Reads w w.heap.size 2 A n (cellCells cs) := by
  rcases h with ⟨h1, ⟨rfl, rfl⟩ | ⟨g, cap, cur, rfl, h3, h4, h5, h6, h7⟩⟩
  · exact ⟨none, 0, rfl, Nat.le_refl _, Nat.zero_le _, ⟨h1, fun h => absurd h (by omega)⟩⟩
  · refine ⟨_, cap, rfl, h5, h6, Reads.of_own (c := cap) (base := base) (e := 40) ⟨h1, .inr ⟨g, cap, cur, rfl, h3, h4, h5, h6, h7⟩⟩⟩
/-- a slice of cells that came in. -/
def CellArg (w : World) (A : Option Addr) (n c : Nat) (cs : List (Int × Int)) : Prop := Reads w w.heap.size 2 A n (cellCells cs) ∧ n ≤ c ∧ c ≤ maxLen ∧ (A = none → c = 0) ∧ ∀ e ∈ cs, (Lit.int .i64 e.1).wf = true ∧ (Lit.int .i64 e.2).wf = true
section
variable {H : Type} {enc : TypeId × Value → H}
theorem cell_trod {w : World} {base : Nat} {fuel : Nat} {cs : List Value} {x : DataW H × List MemPlace} (h : DataW.trod enc Try.prog w base (fun _ => true) true fuel 40 cs = some x) :
    ∃ (x : Int) (y : Int), cs = [.int .i64 x, .int .i64 y] ∧ (Lit.int .i64 x).wf = true ∧ (Lit.int .i64 y).wf = true := by
  obtain ⟨xs, n, hf, _, hl, hxl, hall⟩ := DataW.trod_struct Try.underlying40 h
  rw [show Try.prog.cellsOf 40 = 2 from by kernel_rfl] at hl
  match cs, hl with
  | [c0, c1], _ =>
    have hxn : xs.length = 2 := hxl
    match xs, hxn with
    | [x0, x1], _ =>
      have f0 : DataW.trod enc Try.prog w base (fun _ => true) true n 2 [c0] = some x0 := by
        have h : DataW.trod enc Try.prog w base (fun _ => true) true n 2 ((([c0, c1] : List Value).drop 0).take (Try.prog.cellsOf 2)) = ([x0, x1])[0]? := hall 0 _ rfl
        rw [show Try.prog.cellsOf 2 = 1 from by kernel_rfl] at h
        exact h
      have f1 : DataW.trod enc Try.prog w base (fun _ => true) true n 2 [c1] = some x1 := by
        have h : DataW.trod enc Try.prog w base (fun _ => true) true n 2 ((([c0, c1] : List Value).drop 1).take (Try.prog.cellsOf 2)) = ([x0, x1])[1]? := hall 1 _ rfl
        rw [show Try.prog.cellsOf 2 = 1 from by kernel_rfl] at h
        exact h
      obtain ⟨x, h0, _, w0⟩ := DataW.trod_int Try.underlying2 f0
      obtain ⟨y, h1, _, w1⟩ := DataW.trod_int Try.underlying2 f1
      simp only [List.cons.injEq, and_true] at h0 h1
      subst h0 h1
      exact ⟨x, y, rfl, w0, w1⟩
theorem open_cell {w : World} {base : Nat} {r : Reach} {v : Value} {d : DataW H} {p : List MemPlace} (hval : Value.okWide Try.prog w r base 40 v) (h : DataW.Trod enc Try.prog w 0 (fun _ => true) true 40 v d p) :
    ∃ (x : Int) (y : Int), v = .agg #[.int .i64 x, .int .i64 y] ∧ (Lit.int .i64 x).wf = true ∧ (Lit.int .i64 y).wf = true := by
  obtain ⟨cs, rfl, hsz⟩ := okWide_struct Try.underlying40 hval
  obtain ⟨fuel, hf⟩ := h
  obtain ⟨x, y, hc, hw⟩ := cell_trod hf
  refine ⟨x, y, ?_, hw⟩
  have hc' : cs.toList = [.int .i64 x, .int .i64 y] := hc
  rw [← Array.toArray_toList (xs := cs), hc']
end
section
variable {H : Type} {enc : TypeId × Value → H}
theorem win_trod {w : World} {base : Nat} {fuel : Nat} {cs : List Value} {x : DataW H × List MemPlace} (h : DataW.trod enc Try.prog w base (fun _ => true) true fuel 24 cs = some x) :
    ∃ (wd : Int) (sl : Int) (s : Value) (n : Nat) (y2 : DataW H × List MemPlace), fuel = n + 1 ∧ cs = [.int .i64 wd, .int .i64 sl, s] ∧ (Lit.int .i64 wd).wf = true ∧ (Lit.int .i64 sl).wf = true ∧ DataW.trod enc Try.prog w base (fun _ => true) true n 22 [s] = some y2 := by
  obtain ⟨xs, n, hf, _, hl, hxl, hall⟩ := DataW.trod_struct Try.underlying24 h
  rw [show Try.prog.cellsOf 24 = 3 from by kernel_rfl] at hl
  match cs, hl with
  | [c0, c1, c2], _ =>
    have hxn : xs.length = 3 := hxl
    match xs, hxn with
    | [x0, x1, x2], _ =>
      have f0 : DataW.trod enc Try.prog w base (fun _ => true) true n 2 [c0] = some x0 := by
        have h : DataW.trod enc Try.prog w base (fun _ => true) true n 2 ((([c0, c1, c2] : List Value).drop 0).take (Try.prog.cellsOf 2)) = ([x0, x1, x2])[0]? := hall 0 _ rfl
        rw [show Try.prog.cellsOf 2 = 1 from by kernel_rfl] at h
        exact h
      have f1 : DataW.trod enc Try.prog w base (fun _ => true) true n 2 [c1] = some x1 := by
        have h : DataW.trod enc Try.prog w base (fun _ => true) true n 2 ((([c0, c1, c2] : List Value).drop 1).take (Try.prog.cellsOf 2)) = ([x0, x1, x2])[1]? := hall 1 _ rfl
        rw [show Try.prog.cellsOf 2 = 1 from by kernel_rfl] at h
        exact h
      have f2 : DataW.trod enc Try.prog w base (fun _ => true) true n 22 [c2] = some x2 := by
        have h : DataW.trod enc Try.prog w base (fun _ => true) true n 22 ((([c0, c1, c2] : List Value).drop 2).take (Try.prog.cellsOf 22)) = ([x0, x1, x2])[2]? := hall 2 _ rfl
        rw [show Try.prog.cellsOf 22 = 1 from by kernel_rfl] at h
        exact h
      obtain ⟨wd, h0, _, w0⟩ := DataW.trod_int Try.underlying2 f0
      obtain ⟨sl, h1, _, w1⟩ := DataW.trod_int Try.underlying2 f1
      simp only [List.cons.injEq, and_true] at h0 h1
      subst h0 h1
      exact ⟨wd, sl, c2, n, x2, hf, rfl, w0, w1, f2⟩
end
section
variable {H : Type} {enc : TypeId × Value → H}
theorem mk_cells (P : List Value → Int × Int → Prop) (n : Nat) (f : Nat → List Value) (h : ∀ i, i < n → ∃ t, P (f i) t) : ∃ ks : List (Int × Int), ks.length = n ∧ ∀ (i : Nat) t, ks[i]? = some t → P (f i) t := by
  induction n with
  | zero => exact ⟨[], rfl, fun i t hv => by simp at hv⟩
  | succ n ih =>
    obtain ⟨ks, hl, hk⟩ := ih (fun i hi => h i (by omega))
    obtain ⟨t, ht⟩ := h n (by omega)
    refine ⟨ks ++ [t], by simp [hl], fun i t' ht' => ?_⟩
    by_cases hi : i < n
    · rw [List.getElem?_append_left (by omega)] at ht'
      exact hk i t' ht'
    · have hin : i = n := by
        have := (List.getElem?_eq_some_iff.1 ht').1
        simp at this; omega
      subst hin
      rw [List.getElem?_append_right (by omega), show i - ks.length = 0 from by omega] at ht'
      simp at ht'
      subst ht'
      exact ht
theorem cells_reads {w : World} {ad : Addr} {n : Nat} {cs : List (Int × Int)} (hl : cs.length = n) (h : ∀ (i : Nat) e, cs[i]? = some e → ∀ j u, (cellA e)[j]? = some u → w.cell? ((ad.add (i * 2)).add j) = some u) (hb : 0 < n → ad.block < w.heap.size) : Reads w w.heap.size 2 (some ad) n (cellCells cs) := by
  refine ⟨by rw [cellCells_length, hl], fun h0 => ⟨ad, rfl, hb h0, fun j u hu => ?_⟩⟩
  have hj : j < n * 2 := by have := (List.getElem?_eq_some_iff.1 hu).1; rw [cellCells_length] at this; omega
  obtain ⟨e, he⟩ : ∃ e, cs[j / 2]? = some e := ⟨_, List.getElem?_eq_getElem (by omega)⟩
  have hm : j % 2 < (cellA e).size := by show j % 2 < 2; omega
  have h1 := cell_get cs (j / 2) e he (j % 2) _ (Array.getElem?_eq_getElem hm)
  rw [show j / 2 * 2 + j % 2 = j from by omega] at h1
  rw [hu] at h1
  have h2 := h (j / 2) e he (j % 2) u (by rw [Array.getElem?_eq_getElem hm]; exact h1.symm)
  rw [add_of_add, show j / 2 * 2 + j % 2 = j from by omega] at h2
  exact h2
theorem cellArg_trod {w : World} {s : Value} {fuel : Nat} {x : DataW H × List MemPlace} (hf : DataW.trod enc Try.prog w 0 (fun _ => true) true fuel 22 [s] = some x) : ∃ A n c cs, s = .slice A n c ∧ CellArg w A n c cs := by
  rcases DataW.trod_slice Try.underlying22 hf with ⟨hs, _⟩ | ⟨ad, n, c, elems, rest, m, rfl, hs, _, _, hl, hm, hlen, hel, _, _⟩
  · simp only [List.cons.injEq, and_true] at hs
    exact ⟨none, 0, 0, [], hs, Reads.none_, Nat.le_refl _, Nat.zero_le _, fun _ => rfl, by simp⟩
  · simp only [List.cons.injEq, and_true] at hs
    rw [show Try.prog.cellsOf 40 = 2 from by kernel_rfl] at hel
    have hex : ∀ i, i < n → ∃ t : Int × Int, ((Lit.int .i64 t.1).wf = true ∧ (Lit.int .i64 t.2).wf = true) ∧ w.cells? 0 (ad.add (i * 2)) 2 = some ((w.cells? 0 (ad.add (i * 2)) 2).getD []) ∧ (w.cells? 0 (ad.add (i * 2)) 2).getD [] = (cellA t).toList := by
      intro i hi
      have h1 := hel i hi
      rw [List.getElem?_eq_getElem (by omega), Option.bind_eq_some_iff] at h1
      obtain ⟨cs', h2, h3⟩ := h1
      obtain ⟨x, y, rfl, hx, hy⟩ := cell_trod h3
      exact ⟨(x, y), ⟨hx, hy⟩, by rw [h2]; rfl, by rw [h2]; rfl⟩
    obtain ⟨cs, hel2, hks⟩ := mk_cells (fun v t => ((Lit.int .i64 t.1).wf = true ∧ (Lit.int .i64 t.2).wf = true) ∧ ∃ i, i < n ∧ w.cells? 0 (ad.add (i * 2)) 2 = some v ∧ v = (cellA t).toList) n (fun i => (w.cells? 0 (ad.add (i * 2)) 2).getD []) (fun i hi => by
      obtain ⟨t, h1, h2, h3⟩ := hex i hi
      exact ⟨t, h1, i, hi, h2, h3⟩)
    have hcell : ∀ (i : Nat) e, cs[i]? = some e → ∀ j u, (cellA e)[j]? = some u → w.cell? ((ad.add (i * 2)).add j) = some u := by
      intro i e he j u hu
      obtain ⟨_, i', hi', _, h3⟩ := hks i e he
      have hi : i < n := by have := (List.getElem?_eq_some_iff.1 he).1; omega
      obtain ⟨t, _, h4, _⟩ := hex i hi
      rw [h3] at h4
      obtain ⟨_, hcl, hat⟩ := World.cells?_some h4
      have hj : j < 2 := by
        rcases Nat.lt_or_ge j 2 with h | h
        · exact h
        · rw [Array.getElem?_eq_none (by simpa using h)] at hu; cases hu
      rw [hat j hj]
      simpa using hu
    refine ⟨some ad, n, c, cs, hs, cells_reads hel2 hcell (fun h0 => ?_), hl, hm, fun h => (by cases h), fun e he => ?_⟩
    · obtain ⟨e, he⟩ : ∃ e, cs[0]? = some e := ⟨_, List.getElem?_eq_getElem (by omega)⟩
      have h2 := World.block_lt_of_cell? w _ (hcell 0 e he 0 _ rfl)
      rwa [block_of_add, block_of_add] at h2
    · obtain ⟨i, hi⟩ := List.mem_iff_getElem?.1 he
      exact (hks i e hi).1
theorem open_win {w : World} {base : Nat} {r : Reach} {v : Value} {d : DataW H} {p : List MemPlace} (hval : Value.okWide Try.prog w r base 24 v) (h : DataW.Trod enc Try.prog w 0 (fun _ => true) true 24 v d p) :
    ∃ (wd sl : Int) (A : Option Addr) (n c : Nat) (cs : List (Int × Int)), v = .agg #[.int .i64 wd, .int .i64 sl, .slice A n c] ∧ ((Lit.int .i64 wd).wf = true ∧ (Lit.int .i64 sl).wf = true ∧ CellArg w A n c cs) := by
  obtain ⟨cs, rfl, hsz⟩ := okWide_struct Try.underlying24 hval
  obtain ⟨fuel, hf⟩ := h
  obtain ⟨wd, sl, s, n, y, _, hc, h1, h2, h3⟩ := win_trod hf
  obtain ⟨A, m, c, ks, rfl, hk⟩ := cellArg_trod h3
  refine ⟨wd, sl, A, m, c, ks, ?_, h1, h2, hk⟩
  have hc' : cs.toList = [.int .i64 wd, .int .i64 sl, .slice A m c] := hc
  rw [← Array.toArray_toList (xs := cs), hc']
end
end Go.Proofs.Ytmkjfpmailihjaa
