/- Plain: what a new window counts, at times that do not go back. And slices of bools that came in. -/
import Derived.Test.YtmkjfpmailihjaaWin16
import Derived.Deep.Grids
namespace Go.Proofs.Ytmkjfpmailihjaa
set_option linter.unusedVariables false
open Go.ChangeShapes Go.WideShapes Go.ChangeAt Go.RowKit Go.Deep

def BoolArg (w : World) (A : Option Addr) (n c : Nat) (bs : List Bool) : Prop :=
  Reads w w.heap.size 1 A n (bs.map Value.bool) ∧ n ≤ c ∧ c ≤ maxLen
section
variable {H : Type} {enc : TypeId × Value → H} {P : Program} {w : World}
theorem boolArg_open {t e : TypeId} {A : Option Addr} {n c : Nat} {d : DataW H} {p : List MemPlace} (ht : P.underlying t = some (.slice e)) (he : P.underlying e = some .bool) (hC : P.cellsOf e = 1)
    (h : DataW.Trod enc P w 0 (fun _ => true) true t (.slice A n c) d p) : ∃ bs, BoolArg w A n c bs := by
  obtain ⟨fuel, hf⟩ := h
  rcases open_bools ht he hC hf with ⟨hcs, _⟩ | ⟨x, l, c', B, hcs, _, hl, hm, _, hcell⟩
  · simp [Value.cells] at hcs
    obtain ⟨rfl, rfl, rfl⟩ := hcs
    exact ⟨[], Reads.none_, Nat.le_refl _, Nat.zero_le _⟩
  · simp [Value.cells] at hcs
    obtain ⟨rfl, rfl, rfl⟩ := hcs
    refine ⟨(List.range n).map B, ⟨by simp, fun hn => ⟨x, rfl, ?_, fun j u hu => ?_⟩⟩, hl, hm⟩
    · have h0 := World.block_lt_of_cell? w _ (hcell 0 (by omega))
      rwa [block_of_add] at h0
    · simp only [List.getElem?_map, Option.map_eq_some_iff] at hu
      obtain ⟨b, ⟨i, hi, rfl⟩, rfl⟩ := hu
      obtain ⟨hlt, rfl⟩ := List.getElem?_eq_some_iff.1 hi
      simp at hlt
      rw [List.getElem_range]
      exact hcell j (by omega)
end

def cnt (p : Int × Bool → Bool) (E : List (Int × Bool)) : Int := ((E.filter p).length : Int)
theorem cnt_snoc (p : Int × Bool → Bool) (E : List (Int × Bool)) (e : Int × Bool) : cnt p (E ++ [e]) = cnt p E + if p e = true then 1 else 0 := by
  unfold cnt
  rw [List.filter_append, List.length_append]
  by_cases h : p e = true
  · simp [h]
  · simp [h]
theorem cnt_bound (p : Int × Bool → Bool) (E : List (Int × Bool)) : 0 ≤ cnt p E ∧ cnt p E ≤ E.length := by
  unfold cnt
  have := List.length_filter_le p E
  omega
theorem cnt_zero (p : Int × Bool → Bool) (E : List (Int × Bool)) (h : ∀ e ∈ E, p e = false) : cnt p E = 0 := by
  unfold cnt
  rw [List.filter_eq_nil_iff.2 (fun e he => by rw [h e he]; simp)]
  rfl
def cellOf (E : List (Int × Bool)) (s : Int) : Int × Int := (cnt (fun e => decide (e.1 = s) && e.2) E, cnt (fun e => decide (e.1 = s) && !e.2) E)
def wantS (E : List (Int × Bool)) (lo : Int) : Int × Int := (cnt (fun e => decide (lo < e.1) && e.2) E, cnt (fun e => decide (lo < e.1) && !e.2) E)
def cellsOf (E : List (Int × Bool)) (s : Int) (n : Nat) : List (Int × Int) := (List.range n).map (fun i => cellOf E (whileOf s n i))
/-- one more. -/
def oneOf (b : Bool) : Int × Int := if b = true then (1, 0) else (0, 1)
theorem cellsOf_length (E : List (Int × Bool)) (s : Int) (n : Nat) : (cellsOf E s n).length = n := by simp [cellsOf]
theorem cellsOf_get (E : List (Int × Bool)) (s : Int) (n i : Nat) (hi : i < n) : (cellsOf E s n)[i]? = some (cellOf E (whileOf s n i)) := by
  rw [cellsOf, List.getElem?_map, List.getElem?_range hi, Option.map_some]
theorem cellOf_snoc (E : List (Int × Bool)) (e : Int × Bool) (s : Int) : cellOf (E ++ [e]) s = ((cellOf E s).1 + (if e.1 = s then (oneOf e.2).1 else 0), (cellOf E s).2 + (if e.1 = s then (oneOf e.2).2 else 0)) := by
  unfold cellOf oneOf
  rw [cnt_snoc, cnt_snoc]
  obtain ⟨x, b⟩ := e
  by_cases h : x = s <;> cases b <;> simp [h]
theorem wantS_snoc (E : List (Int × Bool)) (e : Int × Bool) (lo : Int) : wantS (E ++ [e]) lo = ((wantS E lo).1 + (if lo < e.1 then (oneOf e.2).1 else 0), (wantS E lo).2 + (if lo < e.1 then (oneOf e.2).2 else 0)) := by
  unfold wantS oneOf
  rw [cnt_snoc, cnt_snoc]
  obtain ⟨x, b⟩ := e
  by_cases h : lo < x <;> cases b <;> simp [h]
theorem cellOf_none (E : List (Int × Bool)) (s : Int) (h : ∀ e ∈ E, e.1 < s) : cellOf E s = (0, 0) := by
  unfold cellOf
  rw [cnt_zero _ _ (fun e he => by have := h e he; rw [decide_eq_false (by omega), Bool.false_and]), cnt_zero _ _ (fun e he => by have := h e he; rw [decide_eq_false (by omega), Bool.false_and])]
theorem cellOf_bound (E : List (Int × Bool)) (s : Int) : 0 ≤ (cellOf E s).1 ∧ (cellOf E s).1 ≤ E.length ∧ 0 ≤ (cellOf E s).2 ∧ (cellOf E s).2 ≤ E.length := by
  have h1 := cnt_bound (fun e => decide (e.1 = s) && e.2) E
  have h2 := cnt_bound (fun e => decide (e.1 = s) && !e.2) E
  exact ⟨h1.1, h1.2, h2.1, h2.2⟩
theorem cellsOf_right (E : List (Int × Bool)) (s : Int) (n : Nat) (h : E.length ≤ 1000) : ∀ e ∈ cellsOf E s n, wrongB e = false := by
  intro e he
  unfold cellsOf at he
  obtain ⟨i, _, rfl⟩ := List.mem_map.1 he
  have := cellOf_bound E (whileOf s n i)
  exact wrongB_iff.2 (by omega)
theorem cellsOf_moved (E : List (Int × Bool)) (s to : Int) (n : Nat) (hE : ∀ e ∈ E, e.1 ≤ s) (hlt : s < to) (hn : 1 ≤ n) : moved (cellsOf E s n) s to = cellsOf E to n := by
  apply List.ext_getElem?
  intro i
  by_cases hi : i < n
  · obtain ⟨g1, g2, g3⟩ := whileOf_spec (to := to) (n := (n : Int)) (i := i) (by omega) (by omega)
    rw [moved, List.getElem?_map, cellsOf_length, List.getElem?_range hi, Option.map_some, cellsOf_get _ _ _ _ hi]
    congr 1
    by_cases h : s < whileOf to n i
    · rw [if_pos h, cellOf_none _ _ (fun e he => by have := hE e he; omega)]
    · rw [if_neg h, List.getD_eq_getElem?_getD, cellsOf_get _ _ _ _ hi, Option.getD_some, ← whileOf_uniq (to := s) (n := (n : Int)) (i := i) (s := whileOf to n i) (by omega) (by omega) (by omega) (by omega) g3]
  · rw [List.getElem?_eq_none (by rw [moved_length, cellsOf_length]; omega), List.getElem?_eq_none (by rw [cellsOf_length]; omega)]
theorem whileOf_top {to n : Int} (hn : 0 < n) (h0 : 0 ≤ to % n) : whileOf to n (to % n).toNat = to := by
  have h1 := Int.emod_lt_of_pos to hn
  exact (whileOf_uniq (to := to) (n := n) (i := (to % n).toNat) (s := to) hn (by omega) (by omega) (Int.le_refl _) (by omega)).symm
theorem up_one (a : Int) (h0 : 0 ≤ a) (h1 : a ≤ 1000) : up a 1 = a + 1 := by
  unfold up
  rw [hold_id a h0 (by omega), hold_id 1 (by omega) (by omega), hold_id _ (by omega) (by omega)]
theorem cellsOf_set (E : List (Int × Bool)) (to : Int) (n : Nat) (ok : Bool) (hl : E.length ≤ 1000) (hn : 1 ≤ n) : (cellsOf E to n).set (to % (n : Int)).toNat (bump ok ((cellsOf E to n).getD (to % (n : Int)).toNat (0, 0))) = cellsOf (E ++ [(to, ok)]) to n := by
  have h0 := Int.emod_nonneg to (by omega : (n : Int) ≠ 0)
  have h1 := Int.emod_lt_of_pos to (by omega : (0 : Int) < (n : Int))
  apply List.ext_getElem?
  intro i
  by_cases hi : i < n
  · rw [List.getElem?_set, cellsOf_get _ _ _ _ hi, cellsOf_get _ _ _ _ hi]
    by_cases h : (to % (n : Int)).toNat = i
    · subst h
      rw [if_pos rfl, if_pos (by rw [cellsOf_length]; exact hi), List.getD_eq_getElem?_getD, cellsOf_get _ _ _ _ hi, Option.getD_some, whileOf_top (by omega) h0, cellOf_snoc]
      have hb := cellOf_bound E to
      congr 1
      unfold bump oneOf
      cases ok
      · simp only [Bool.false_eq_true, if_false, if_true, Int.add_zero]
        rw [up_one _ hb.2.2.1 (by omega)]
      · simp only [if_true, Int.add_zero]
        rw [up_one _ hb.1 (by omega)]
    · rw [if_neg h, cellOf_snoc]
      obtain ⟨g1, g2, g3⟩ := whileOf_spec (to := to) (n := (n : Int)) (i := i) (by omega) (by omega)
      have hne : ¬ to = whileOf to n i := by
        intro e
        rw [← e] at g3
        omega
      simp only [if_neg hne, Int.add_zero]
  · rw [List.getElem?_eq_none (by rw [List.length_set, cellsOf_length]; omega), List.getElem?_eq_none (by rw [cellsOf_length]; omega)]
theorem cells_rightW (size s : Int) (E : List (Int × Bool)) (n : Nat) (h1 : 1 ≤ size) (h2 : size ≤ 2147483647) (h3 : 0 ≤ s) (h4 : s ≤ 1099511627776) (hl : E.length ≤ 1000) (hn : 1 ≤ n) (hn2 : n ≤ 16) : rightW size s (cellsOf E s n) = true :=
  rightW_iff.2 ⟨⟨h1, h2, h3, h4, by rw [cellsOf_length]; exact hn, by rw [cellsOf_length]; exact hn2⟩, cellsOf_right _ _ _ hl⟩
theorem addR_step (size s a : Int) (E : List (Int × Bool)) (n : Nat) (ok : Bool) (h1 : 1 ≤ size) (h2 : size ≤ 2147483647) (h3 : 0 ≤ s) (h4 : s ≤ 1099511627776) (hl : E.length ≤ 1000) (hn : 1 ≤ n) (hn2 : n ≤ 16) (hE : ∀ e ∈ E, e.1 ≤ s) (ht : timeB a = true) (hle : s ≤ a / size) :
    addR size s (cellsOf E s n) a ok = ⟨size, a / size, cellsOf (E ++ [(a / size, ok)]) (a / size) n, 0⟩ := by
  have hr := cells_rightW size s E n h1 h2 h3 h4 hl hn hn2
  have hm : moveR size s (cellsOf E s n) a = ⟨size, a / size, cellsOf E (a / size) n, 0⟩ := by
    by_cases h : a / size ≤ s
    · rw [moveR_back hr ht h, show a / size = s from by omega]
    · rw [moveR_on hr ht h, cellsOf_moved _ _ _ _ hE (by omega) hn]
  rw [addR_ok hm (by rw [cellsOf_length]; omega), cellsOf_length, cellsOf_set _ _ _ _ hl hn]
theorem sumP_map_add (n : Nat) (f g h : Nat → Int × Int) (H : ∀ i, i < n → f i = ((g i).1 + (h i).1, (g i).2 + (h i).2)) : sumP ((List.range n).map f) = ((sumP ((List.range n).map g)).1 + (sumP ((List.range n).map h)).1, (sumP ((List.range n).map g)).2 + (sumP ((List.range n).map h)).2) := by
  induction n with
  | zero => simp [sumP]
  | succ n ih =>
    rw [List.range_succ, List.map_append, List.map_append, List.map_append]
    simp only [List.map_cons, List.map_nil]
    rw [sumP_snoc, sumP_snoc, sumP_snoc, ih (fun i hi => H i (by omega)), H n (by omega)]
    refine Prod.ext ?_ ?_ <;> simp only <;> omega
theorem sumP_one (n i0 : Nat) (x : Int × Int) : sumP ((List.range n).map (fun i => if i = i0 then x else (0, 0))) = if i0 < n then x else (0, 0) := by
  induction n with
  | zero => simp [sumP]
  | succ n ih =>
    rw [List.range_succ, List.map_append]
    simp only [List.map_cons, List.map_nil]
    rw [sumP_snoc, ih]
    by_cases h : n = i0
    · subst h
      rw [if_neg (by omega), if_pos rfl, if_pos (by omega)]
      simp
    · rw [if_neg h]
      by_cases h2 : i0 < n
      · rw [if_pos h2, if_pos (by omega)]; simp
      · rw [if_neg h2, if_neg (by omega)]; simp
theorem sumP_zero (n : Nat) : sumP ((List.range n).map (fun _ => ((0 : Int), (0 : Int)))) = (0, 0) := by
  induction n with
  | zero => rfl
  | succ n ih => rw [List.range_succ, List.map_append]; simp only [List.map_cons, List.map_nil]; rw [sumP_snoc, ih]; rfl
theorem sum_cells (s : Int) (n : Nat) (hn : 1 ≤ n) (k : Nat) : ∀ (E : List (Int × Bool)), E.length = k → (∀ e ∈ E, e.1 ≤ s) → sumP (cellsOf E s n) = wantS E (s - n) := by
  induction k with
  | zero =>
    intro E hE _
    obtain rfl := List.eq_nil_of_length_eq_zero hE
    unfold cellsOf
    exact sumP_zero n
  | succ k ih =>
    intro E hE hs
    have hne : E ≠ [] := by intro h; subst h; simp at hE
    obtain ⟨E', e, rfl⟩ : ∃ E' e, E = E' ++ [e] := ⟨_, _, (List.dropLast_concat_getLast hne).symm⟩
    have ih := ih E' (by simpa using hE) (fun x hx => hs x (List.mem_append_left _ hx))
    have hes := hs e (by simp)
    have h0 := Int.emod_nonneg e.1 (by omega : (n : Int) ≠ 0)
    have h1 := Int.emod_lt_of_pos e.1 (by omega : (0 : Int) < (n : Int))
    unfold cellsOf at ih ⊢
    by_cases hlo : s - n < e.1
    · rw [sumP_map_add n _ (fun i => cellOf E' (whileOf s n i)) (fun i => if i = (e.1 % n).toNat then oneOf e.2 else (0, 0)) (fun i hi => by
        rw [cellOf_snoc]
        obtain ⟨g1, g2, g3⟩ := whileOf_spec (to := s) (n := (n : Int)) (i := i) (by omega) (by omega)
        by_cases h : i = (e.1 % (n : Int)).toNat
        · have hw := whileOf_uniq (to := s) (n := (n : Int)) (i := i) (s := e.1) (by omega) (by omega) hlo hes (by omega)
          simp only [if_pos h, if_pos hw]
        · have hw : ¬ e.1 = whileOf s n i := by intro hw; rw [← hw] at g3; omega
          simp only [if_neg h, if_neg hw]), ih, sumP_one, if_pos (by omega), wantS_snoc, if_pos hlo, if_pos hlo]
    · rw [sumP_map_add n _ (fun i => cellOf E' (whileOf s n i)) (fun _ => (0, 0)) (fun i hi => by
        rw [cellOf_snoc]
        obtain ⟨g1, g2, g3⟩ := whileOf_spec (to := s) (n := (n : Int)) (i := i) (by omega) (by omega)
        have hw : ¬ e.1 = whileOf s n i := by omega
        simp only [if_neg hw]), ih, sumP_zero, wantS_snoc, if_neg hlo, if_neg hlo]
/-- the time behind k steps. -/
def timeK (st : List Int) : Nat → Int
  | 0 => 0
  | k + 1 => timeK st k + st.getD k 0
def okB (bd : List Bool) (k : Nat) : Bool := !(bd.getD k false)
def evK (st : List Int) (bd : List Bool) (size : Int) (k : Nat) : List (Int × Bool) := (List.range k).map (fun (j : Nat) => (timeK st (j + 1) / size, okB bd j))
theorem evK_succ (st : List Int) (bd : List Bool) (size : Int) (k : Nat) : evK st bd size (k + 1) = evK st bd size k ++ [(timeK st (k + 1) / size, okB bd k)] := by simp [evK, List.range_succ]
theorem evK_length (st : List Int) (bd : List Bool) (size : Int) (k : Nat) : (evK st bd size k).length = k := by simp [evK]
theorem timeK_le (st : List Int) (hst : ∀ x ∈ st, 0 ≤ x ∧ x ≤ 65535) (k : Nat) : 0 ≤ timeK st k ∧ timeK st k ≤ 65535 * k ∧ timeK st k ≤ timeK st (k + 1) := by
  have hg : ∀ k, 0 ≤ st.getD k 0 ∧ st.getD k 0 ≤ 65535 := by
    intro k
    rw [List.getD_eq_getElem?_getD]
    cases h : st[k]? with
    | none => simp
    | some x => exact hst x (List.mem_of_getElem? h)
  induction k with
  | zero => have := hg 0; simp only [timeK]; omega
  | succ k ih =>
    have h1 := hg k
    have h2 := hg (k + 1)
    simp only [timeK] at ih ⊢
    omega
theorem timeK_mono (st : List Int) (hst : ∀ x ∈ st, 0 ≤ x ∧ x ≤ 65535) (j k : Nat) (h : j ≤ k) : timeK st j ≤ timeK st k := by
  induction k with
  | zero => obtain rfl : j = 0 := by omega
            exact Int.le_refl _
  | succ k ih =>
    rcases Nat.lt_or_ge j (k + 1) with h' | h'
    · exact Int.le_trans (ih (by omega)) (timeK_le st hst k).2.2
    · obtain rfl : j = k + 1 := by omega
      exact Int.le_refl _
theorem evK_le (st : List Int) (bd : List Bool) (size : Int) (hs : 1 ≤ size) (hst : ∀ x ∈ st, 0 ≤ x ∧ x ≤ 65535) (k : Nat) : ∀ e ∈ evK st bd size k, e.1 ≤ timeK st k / size := by
  intro e he
  unfold evK at he
  obtain ⟨j, hj, rfl⟩ := List.mem_map.1 he
  rw [List.mem_range] at hj
  exact Int.ediv_le_ediv (by omega) (timeK_mono st hst (j + 1) k (by omega))
theorem partW_bounds (c : Int × Int) (h1 : 0 ≤ c.1) (h2 : 0 ≤ c.2) : 0 ≤ partW c ∧ partW c ≤ 1000 := by
  unfold partW
  split
  · omega
  · rename_i h
    have hp : 0 < c.1 + c.2 := by omega
    refine ⟨Int.ediv_nonneg (by omega) (by omega), ?_⟩
    exact Int.ediv_le_of_le_mul hp (by rw [Int.mul_comm]; exact (by have : c.2 * 1000 ≤ (c.1 + c.2) * 1000 := by omega
                                                                    omega))
theorem cellsOf_far (E : List (Int × Bool)) (s : Int) (n : Nat) (hE : ∀ e ∈ E, e.1 ≤ s) (hn : 1 ≤ n) : cellsOf E (s + n) n = List.replicate n (0, 0) := by
  apply List.ext_getElem?
  intro i
  by_cases hi : i < n
  · obtain ⟨g1, g2, g3⟩ := whileOf_spec (to := s + n) (n := (n : Int)) (i := i) (by omega) (by omega)
    rw [cellsOf_get _ _ _ _ hi, List.getElem?_replicate, if_pos hi, cellOf_none _ _ (fun e he => by have := hE e he; omega)]
  · rw [List.getElem?_eq_none (by rw [cellsOf_length]; omega), List.getElem?_eq_none (by simpa using hi)]
theorem turnN_zero (k : Nat) : turnN k (0, 0) = (0, 0) := by
  induction k with
  | zero => rfl
  | succ k ih => unfold turnN; rw [ih]; rfl
theorem beat_zero (zs : List Int) (h : ∀ z ∈ zs, z = 0) : beatF zs = (0, 0) := by
  have hb : ∀ k, sumP (beatK zs k) = (0, 0) := by
    intro k
    have : beatK zs k = (List.range k).map (fun _ => ((0 : Int), (0 : Int))) := by
      unfold beatK
      refine List.map_congr_left (fun i _ => ?_)
      have : zs.getD i 0 = 0 := by
        rw [List.getD_eq_getElem?_getD]
        cases h' : zs[i]? with
        | none => rfl
        | some x => exact h x (List.mem_of_getElem? h')
      rw [this, show hold 0 = 0 from by decide, turnN_zero]
    rw [this, sumP_zero]
  unfold beatF
  split
  · rfl
  · exact hb _
theorem far_beat (wd sl : Int) (n : Nat) : beatW wd sl (List.replicate n (0, 0)) = (0, 0) := by
  unfold beatW
  split
  · refine beat_zero _ (fun z hz => ?_)
    unfold badK at hz
    obtain ⟨i, _, rfl⟩ := List.mem_map.1 hz
    rw [List.getD_eq_getElem?_getD, List.getElem?_replicate]
    split <;> rfl
  · rfl
theorem far_sum (wd sl : Int) (n : Nat) : sumW wd sl (List.replicate n (0, 0)) = (0, 0) := by
  unfold sumW
  split
  · have := sumP_zero n
    rw [show List.replicate n ((0 : Int), (0 : Int)) = (List.range n).map (fun _ => ((0 : Int), (0 : Int))) from by simp [List.map_const']]
    exact this
  · rfl
theorem newR_cells (size : Int) (n : Nat) (h1 : 1 ≤ size) (h2 : size ≤ 2147483647) (hn : 1 ≤ n) (hn2 : n ≤ 16) : newR size n 0 = ⟨size, 0, cellsOf [] 0 n, 0⟩ := by
  rw [newR_ok (by omega) (by omega) (by omega) (by omega) (by rfl), Int.zero_ediv]
  congr 1
  apply List.ext_getElem?
  intro i
  by_cases hi : i < n
  · rw [cellsOf_get _ _ _ _ hi, List.getElem?_replicate, if_pos hi]; rfl
  · rw [List.getElem?_eq_none (by simpa using hi), List.getElem?_eq_none (by rw [cellsOf_length]; omega)]
end Go.Proofs.Ytmkjfpmailihjaa
