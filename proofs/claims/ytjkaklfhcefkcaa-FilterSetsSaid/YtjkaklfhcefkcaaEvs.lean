/- Lists of events in memory. -/
import Derived.Test.YtjkaklfhcefkcaaMeans
import Derived.Test.YtjkaklfhcefkcaaEvOpen
namespace Go.Proofs.Ytjkaklfhcefkcaa
set_option linter.unusedVariables false
open Go.ChangeShapes Go.WideShapes Go.ChangeAt Go.RowKit Go.Deep

def evCells (evs : List Evt) : List Value := evs.flatMap (fun e => (evA e).toList)
theorem evCells_nil : evCells [] = [] := rfl
theorem evCells_cons (e : Evt) (l : List Evt) : evCells (e :: l) = (evA e).toList ++ evCells l := by simp [evCells]
theorem evCells_append (a b : List Evt) : evCells (a ++ b) = evCells a ++ evCells b := by simp [evCells]
theorem evCells_length (evs : List Evt) : (evCells evs).length = evs.length * 7 := by
  induction evs with
  | nil => rfl
  | cons e l ih => rw [evCells_cons, List.length_append, ih, List.length_cons]; simp; omega
theorem evCells_one (evs : List Evt) : ∀ u ∈ evCells evs, u.oneCell' = true := by
  intro u hu
  simp only [evCells, List.mem_flatMap] at hu
  obtain ⟨e, _, hu⟩ := hu
  simp at hu
  rcases hu with rfl | rfl | rfl | rfl | rfl | rfl | rfl <;> rfl
theorem ev_get : ∀ (evs : List Evt) (i : Nat) (e : Evt), evs[i]? = some e → ∀ j u, (evA e)[j]? = some u → (evCells evs)[i * 7 + j]? = some u
  | [], i, e, h, _, _, _ => by simp at h
  | x :: l, 0, e, h, j, u, hu => by
    simp at h; subst h
    rw [evCells_cons, Nat.zero_mul, Nat.zero_add]
    have hj : j < 7 := by
      rcases Nat.lt_or_ge j 7 with h | h
      · exact h
      · rw [Array.getElem?_eq_none (by simpa using h)] at hu; cases hu
    rw [List.getElem?_append_left (by simpa using hj)]
    simpa using hu
  | x :: l, i + 1, e, h, j, u, hu => by
    rw [evCells_cons, List.getElem?_append_right (by simp; omega)]
    rw [show (i + 1) * 7 + j - (evA x).toList.length = i * 7 + j from by simp; omega]
    exact ev_get l i e (by simpa using h) j u hu
theorem ev_in {w : World} {B n i : Nat} {A : Option Addr} {evs : List Evt} (h : Reads w B 7 A n (evCells evs)) (hi : i < n) :
    ∃ (ad : Addr) (e : Evt), A = some ad ∧ ad.block < B ∧ evs[i]? = some e ∧ w.cell? (ad.add (i * 7)) = some (.int .i64 e.q) ∧ w.cell? ⟨(ad.add (i * 7)).block, (ad.add (i * 7)).off + 1, none⟩ = some (.int .i64 e.a) ∧ w.cell? ⟨(ad.add (i * 7)).block, (ad.add (i * 7)).off + 2, none⟩ = some (.int .i64 e.k) ∧ w.cell? ⟨(ad.add (i * 7)).block, (ad.add (i * 7)).off + 3, none⟩ = some (.string e.cm) ∧ w.cell? ⟨(ad.add (i * 7)).block, (ad.add (i * 7)).off + 4, none⟩ = some (.int .i64 e.x) ∧ w.cell? ⟨(ad.add (i * 7)).block, (ad.add (i * 7)).off + 5, none⟩ = some (.int .i64 e.y) ∧ w.cell? ⟨(ad.add (i * 7)).block, (ad.add (i * 7)).off + 6, none⟩ = some (.int .i64 e.z) := by
  have hl : evs.length = n := by have := h.1; rw [evCells_length] at this; omega
  obtain ⟨ad, rfl, hb, hc⟩ := h.2 (by omega)
  obtain ⟨e, he⟩ : ∃ e, evs[i]? = some e := ⟨_, List.getElem?_eq_getElem (by omega)⟩
  have q : ∀ j u, (evA e)[j]? = some u → w.cell? ((ad.add (i * 7)).add j) = some u := fun j u hu => by rw [add_of_add]; exact hc _ u (ev_get evs i e he j u hu)
  have q1 := q 1 _ rfl
  rw [add_pos _ 1 (by omega)] at q1
  have q2 := q 2 _ rfl
  rw [add_pos _ 2 (by omega)] at q2
  have q3 := q 3 _ rfl
  rw [add_pos _ 3 (by omega)] at q3
  have q4 := q 4 _ rfl
  rw [add_pos _ 4 (by omega)] at q4
  have q5 := q 5 _ rfl
  rw [add_pos _ 5 (by omega)] at q5
  have q6 := q 6 _ rfl
  rw [add_pos _ 6 (by omega)] at q6
  exact ⟨ad, e, rfl, hb, he, q 0 _ rfl, q1, q2, q3, q4, q5, q6⟩
theorem Reads.ev_len {w : World} {B n : Nat} {A : Option Addr} {evs : List Evt} (h : Reads w B 7 A n (evCells evs)) : evs.length = n := by have := h.1; rw [evCells_length] at this; omega
/-- a slice of events that came in. -/
def EvArg (w : World) (A : Option Addr) (n c : Nat) (evs : List Evt) : Prop := Reads w w.heap.size 7 A n (evCells evs) ∧ n ≤ c ∧ c ≤ maxLen ∧ (A = none → c = 0) ∧ ∀ e ∈ evs, e.cm.size ≤ maxLen
section
variable {H : Type} {enc : TypeId × Value → H}
theorem mk_evs (P : List Value → Evt → Prop) (n : Nat) (f : Nat → List Value) (h : ∀ i, i < n → ∃ t, P (f i) t) : ∃ ks : List Evt, ks.length = n ∧ ∀ (i : Nat) t, ks[i]? = some t → P (f i) t := by
  induction n with
  | zero => exact ⟨[], rfl, fun i t hv => by simp at hv⟩
  | succ n ih =>
    obtain ⟨ks, hl, hk⟩ := ih (fun i hi => h i (by omega))
    obtain ⟨t, ht⟩ := h n (by omega)
    refine ⟨ks ++ [t], by simp [hl], fun i t' ht' => ?_⟩
    by_cases hi : i < n
    · rw [List.getElem?_append_left (by omega)] at ht'
      exact hk i t' ht'
    · have hin : i = n := by
        have := (List.getElem?_eq_some_iff.1 ht').1
        simp at this; omega
      subst hin
      rw [List.getElem?_append_right (by omega), show i - ks.length = 0 from by omega] at ht'
      simp at ht'
      subst ht'
      exact ht
theorem evs_reads {w : World} {ad : Addr} {n : Nat} {evs : List Evt} (hl : evs.length = n) (h : ∀ (i : Nat) e, evs[i]? = some e → ∀ j u, (evA e)[j]? = some u → w.cell? ((ad.add (i * 7)).add j) = some u) (hb : 0 < n → ad.block < w.heap.size) : Reads w w.heap.size 7 (some ad) n (evCells evs) := by
  refine ⟨by rw [evCells_length, hl], fun h0 => ⟨ad, rfl, hb h0, fun j u hu => ?_⟩⟩
  have hj : j < n * 7 := by have := (List.getElem?_eq_some_iff.1 hu).1; rw [evCells_length] at this; omega
  obtain ⟨e, he⟩ : ∃ e, evs[j / 7]? = some e := ⟨_, List.getElem?_eq_getElem (by omega)⟩
  have hm : j % 7 < (evA e).size := by show j % 7 < 7; omega
  have h1 := ev_get evs (j / 7) e he (j % 7) _ (Array.getElem?_eq_getElem hm)
  rw [show j / 7 * 7 + j % 7 = j from by omega] at h1
  rw [hu] at h1
  have h2 := h (j / 7) e he (j % 7) u (by rw [Array.getElem?_eq_getElem hm]; exact h1.symm)
  rw [add_of_add, show j / 7 * 7 + j % 7 = j from by omega] at h2
  exact h2
theorem evArg_open {w : World} {A : Option Addr} {n c : Nat} {d : DataW H} {p : List MemPlace} (h : DataW.Trod enc Try.prog w 0 (fun _ => true) true 25 (.slice A n c) d p) : ∃ evs, EvArg w A n c evs := by
  obtain ⟨fuel, hf⟩ := h
  rcases DataW.trod_slice Try.underlying25 hf with ⟨hs, _⟩ | ⟨ad, len, cap, elems, rest, m, rfl, hs, _, _, hl, hm, hlen, hel, _, _⟩
  · simp [Value.cells] at hs
    obtain ⟨rfl, rfl, rfl⟩ := hs
    exact ⟨[], Reads.none_, Nat.le_refl _, Nat.zero_le _, fun _ => rfl, by simp⟩
  · simp [Value.cells] at hs
    obtain ⟨rfl, rfl, rfl⟩ := hs
    rw [show Try.prog.cellsOf 33 = 7 from by kernel_rfl] at hel
    have hex : ∀ i, i < n → ∃ t : Evt, (t.cm.size ≤ maxLen) ∧ w.cells? 0 (ad.add (i * 7)) 7 = some ((w.cells? 0 (ad.add (i * 7)) 7).getD []) ∧ (w.cells? 0 (ad.add (i * 7)) 7).getD [] = (evA t).toList := by
      intro i hi
      have h1 := hel i hi
      rw [List.getElem?_eq_getElem (by omega), Option.bind_eq_some_iff] at h1
      obtain ⟨cs', h2, h3⟩ := h1
      obtain ⟨q, a, k, cm, x, y, z, rfl, _, _, _, hcm, _⟩ := event_trod h3
      exact ⟨⟨q, a, k, cm, x, y, z⟩, hcm, by rw [h2]; rfl, by rw [h2]; rfl⟩
    obtain ⟨evs, hel2, hks⟩ := mk_evs (fun v t => t.cm.size ≤ maxLen ∧ ∃ i, i < n ∧ w.cells? 0 (ad.add (i * 7)) 7 = some v ∧ v = (evA t).toList) n (fun i => (w.cells? 0 (ad.add (i * 7)) 7).getD []) (fun i hi => by
      obtain ⟨t, h1, h2, h3⟩ := hex i hi
      exact ⟨t, h1, i, hi, h2, h3⟩)
    have hcell : ∀ (i : Nat) e, evs[i]? = some e → ∀ j u, (evA e)[j]? = some u → w.cell? ((ad.add (i * 7)).add j) = some u := by
      intro i e he j u hu
      obtain ⟨_, i', hi', _, h3⟩ := hks i e he
      have hi : i < n := by have := (List.getElem?_eq_some_iff.1 he).1; omega
      obtain ⟨t, _, h4, _⟩ := hex i hi
      rw [h3] at h4
      obtain ⟨_, hcl, hat⟩ := World.cells?_some h4
      have hj : j < 7 := by
        rcases Nat.lt_or_ge j 7 with h | h
        · exact h
        · rw [Array.getElem?_eq_none (by simpa using h)] at hu; cases hu
      rw [hat j hj]
      simpa using hu
    refine ⟨evs, evs_reads hel2 hcell (fun h0 => ?_), hl, hm, fun h => (by cases h), fun e he => ?_⟩
    · obtain ⟨e, he⟩ : ∃ e, evs[0]? = some e := ⟨_, List.getElem?_eq_getElem (by omega)⟩
      have h2 := World.block_lt_of_cell? w _ (hcell 0 e he 0 _ rfl)
      rwa [block_of_add, block_of_add] at h2
    · obtain ⟨i, hi⟩ := List.mem_iff_getElem?.1 he
      exact (hks i e hi).1
end
theorem Try.infoEv : (Try.prog.info? 33).map (fun i => (i.zero, i.size, i.bytes)) = some (some (.agg #[.int .i64 0, .int .i64 0, .int .i64 0, .string ⟨#[]⟩, .int .i64 0, .int .i64 0, .int .i64 0]), 7, 64) := by kernel_rfl
theorem own_evs {w : World} {base : Nat} {n : Nat} {v : Value} {evs : List Evt} (h : w.ownsRow base 33 7 v n (evCells evs)) : ∃ A c, v = .slice A n c ∧ n ≤ c ∧ c ≤ maxLen ∧ Reads w w.heap.size 7 A n (evCells evs) := by
  rcases h with ⟨h1, ⟨rfl, rfl⟩ | ⟨g, cap, cur, rfl, h3, h4, h5, h6, h7⟩⟩
  · exact ⟨none, 0, rfl, Nat.le_refl _, Nat.zero_le _, ⟨h1, fun h => absurd h (by omega)⟩⟩
  · refine ⟨_, cap, rfl, h5, h6, Reads.of_own (c := cap) (base := base) (e := 33) ⟨h1, .inr ⟨g, cap, cur, rfl, h3, h4, h5, h6, h7⟩⟩⟩
end Go.Proofs.Ytjkaklfhcefkcaa
