/- Contracts over filters' trees: the reference's names. -/
import Derived.Test.YtadidldkphimfaaTree
namespace Go.Proofs.Ytadidldkphimfaa
set_option linter.unusedVariables false
open Go.RowKit Go.ChangeShapes

mutual
def namesF : FT → Bool
  | .mk _ _ _ name ks => namesL ks && decide (name.size ≤ 100)
def namesL : List FT → Bool
  | [] => true
  | t :: ts => namesF t && namesL ts
end
theorem namesL_snoc (l : List FT) (t : FT) : namesL (l ++ [t]) = (namesL l && namesF t) := by
  induction l with
  | nil => simp [namesL]
  | cons x l ih => simp only [List.cons_append, namesL, ih, Bool.and_assoc]
theorem namesL_false (l : List FT) (k : Nat) (t : FT) (h : l[k]? = some t) (hf : namesF t = false) : namesL l = false := by
  induction l generalizing k with
  | nil => simp at h
  | cons x l ih =>
    cases k with
    | zero => simp at h; subst h; simp [namesL, hf]
    | succ k => simp only [namesL, ih k (by simpa using h), Bool.and_false]
theorem take_snoc_of {α : Type} (l : List α) (k : Nat) (t : α) (h : l[k]? = some t) : l.take (k + 1) = l.take k ++ [t] := by rw [List.take_add_one, h]; rfl
theorem ret_bool {a b : Bool} (h : a = b) : Ending.returned (.bool a) = .returned (.bool b) := by rw [h]
theorem ret_int {k : IntKind} {a b : Int} (h : a = b) : Ending.returned (.int k a) = .returned (.int k b) := by rw [h]
theorem add_pos (a : Addr) (j : Nat) (h : j ≠ 0) : a.add j = ⟨a.block, a.off + j, none⟩ := by unfold Addr.add; rw [if_neg h]

/-- the kid at a place: its cells, and that they are its tree's. -/
theorem kid_in {w wr : World} {B n : Nat} {A : Option Addr} {vs : List (List Value)} {ks : List FT} {i : Nat} (hn : ks.length = n) (hv : vs.length = n)
    (hr : 0 < n → ∃ ad, A = some ad ∧ ad.block < B ∧ ∀ i v, vs[i]? = some v → ∀ j u, v[j]? = some u → w.cell? ((ad.add (i * 5)).add j) = some u)
    (hk : ∀ (i : Nat) v t, vs[i]? = some v → ks[i]? = some t → FTr w B v t) (hw : Below B w wr) (hi : i < n) :
    ∃ (ad : Addr) (op a b : Int) (name : ByteArray) (A' : Option Addr) (n' c' : Nat) (t : FT) (v : List Value), A = some ad ∧ ks[i]? = some t ∧ vs[i]? = some v ∧ v = [.int .i64 op, .int .i64 a, .int .i64 b, .string name, .slice A' n' c'] ∧
      FTr w B v t ∧ wr.cell? (ad.add (i * 5)) = some (.int .i64 op) ∧ wr.cell? ⟨(ad.add (i * 5)).block, (ad.add (i * 5)).off + 1, none⟩ = some (.int .i64 a) ∧ wr.cell? ⟨(ad.add (i * 5)).block, (ad.add (i * 5)).off + 2, none⟩ = some (.int .i64 b) ∧
      wr.cell? ⟨(ad.add (i * 5)).block, (ad.add (i * 5)).off + 3, none⟩ = some (.string name) ∧ wr.cell? ⟨(ad.add (i * 5)).block, (ad.add (i * 5)).off + 4, none⟩ = some (.slice A' n' c') := by
  obtain ⟨ad, rfl, hb, hc⟩ := hr (by omega)
  obtain ⟨t, ht⟩ : ∃ t, ks[i]? = some t := ⟨_, List.getElem?_eq_getElem (by omega)⟩
  obtain ⟨v, hv'⟩ : ∃ v, vs[i]? = some v := ⟨_, List.getElem?_eq_getElem (by omega)⟩
  have h := hk i v t hv' ht
  have h' := h
  have q : ∀ j u, v[j]? = some u → wr.cell? ((ad.add (i * 5)).add j) = some u := fun j u hu => (hw.cell (by rw [block_of_add, block_of_add]; exact hb)).trans (hc i v hv' j u hu)
  cases h with
  | mk op a b name A n c vs' ks' hop ha hb' hnm hn hv hnc hcm hr hk =>
    have q1 := q 1 _ rfl
    have q2 := q 2 _ rfl
    have q3 := q 3 _ rfl
    have q4 := q 4 _ rfl
    rw [add_pos _ 1 (by omega)] at q1
    rw [add_pos _ 2 (by omega)] at q2
    rw [add_pos _ 3 (by omega)] at q3
    rw [add_pos _ 4 (by omega)] at q4
    exact ⟨ad, op, a, b, name, A, n, c, _, _, rfl, ht, hv', rfl, h', q 0 _ rfl, q1, q2, q3, q4⟩

theorem names_c {w : World} {B : Nat} {cs : List Value} {t : FT} (h : FTr w B cs t) : ∀ W, Below B w W → B ≤ W.heap.size → Calls Try.prog 13 #[.agg cs.toArray] W fun e w' => e = .returned (.bool (namesF t)) ∧ Below W.heap.size W w' := by
  induction h with
  | mk op a b name A n c vs ks hop ha hb hnm hn hv hnc hcm hr hk ih =>
    intro W hB hBW
    have HN := Lib.hid hn
    have HKI := Lib.hid (fun (wr : World) (hw : Below B w wr) (i : Nat) (hi : i < n) => kid_in hn hv hr hk hw hi)
    have IH := Lib.hid ih
    have HB := Lib.hid hB
    have o1 := bounds_i64 hop
    have a1 := bounds_i64 ha
    have b1 := bounds_i64 hb
    unfold maxLen at hcm hnm
    clear hr hk ih hB hn hv hop ha hb
    obtain ⟨o1, o2⟩ := o1
    obtain ⟨a1, a2⟩ := a1
    obtain ⟨b1, b2⟩ := b1
    have HC := Lib.hid (Blk.new W 24 #[.int .i64 op, .int .i64 a, .int .i64 b, .string name, .slice A n c])
    have HW := Lib.hid ((Below.refl W.heap.size W).alloc (Nat.le_refl _) (.cells #[.int .i64 op, .int .i64 a, .int .i64 b, .string name, .slice A n c] 24))
    go_enter Try.func13, Try.ntmps13
    go_wp2
    go_loopw [3] (fun i wr => ∃ k : Nat, k ≤ n ∧ i = .int .i64 k ∧ Hid (namesL (ks.take k) = true) ∧ Hid (Blk wr W.heap.size 24 #[.int .i64 op, .int .i64 a, .int .i64 b, .string name, .slice A n c]) ∧ Hid (Below W.heap.size W wr)) (fun i _ => n - (intOf i).toNat)
    case atStart => exact ⟨0, Nat.zero_le _, rfl, Lib.hid rfl, HC, HW⟩
    case round =>
      obtain ⟨k, hk, rfl, HS, HC1, HW1⟩ := hrel
      clear HC HW
      have r3 : wr.cell? ⟨W.heap.size, 3, none⟩ = some (.string name) := HC1.out.cell 3
      have r4 : wr.cell? ⟨W.heap.size, 4, none⟩ = some (.slice A n c) := HC1.out.cell 4
      have hz := HW1.out.size
      by_cases hlt : k < n
      · obtain ⟨ad, op', a', b', name', A', n', c', t', v', rfl, hkt, hvt, hve, hft, d0, d1, d2, d3, d4⟩ := HKI.out wr (HB.out.trans (HW1.out.mono hBW)) k hlt
        have ihk := IH.out k v' t' hvt hkt
        subst hve
        have HIK := Lib.hid ihk
        have HKT := Lib.hid hkt
        have i1 : (0 : Int) ≤ (k : Int) := by omega
        have i2 : (k : Int) < (n : Int) := by omega
        clear hkt hvt ihk
        have HT := Lib.hid (take_snoc_of ks k t' HKT.out)
        go_wp2_with fail
        with_reducible refine (HIK.out _ (HB.out.trans (HW1.out.mono hBW)) (by omega)).mono ?_
        rintro e w2 ⟨rfl, hb2⟩
        have HW2 := Lib.hid (HW1.out.trans (hb2.mono hz))
        have HC2 := Lib.hid (HC1.out.below hb2 HC1.out.lt)
        clear hb2 r3 r4 d0 d1 d2 d3 d4
        cases ht : namesF t'
        · have HE := Lib.hid (show namesF (.mk op a b name ks) = false from by unfold namesF; rw [namesL_false ks k t' HKT.out ht]; rfl)
          clear ht
          go_wp2
          go_ret
          exact ⟨ret_bool HE.out.symm, HW2.out⟩
        · have HS2 := Lib.hid (show namesL (ks.take (k + 1)) = true from by rw [HT.out, namesL_snoc, HS.out, ht]; rfl)
          clear ht
          go_wp2
          go_roundw
          case rel => exact ⟨k + 1, by omega, by go_num, HS2, HC2, HW2⟩
          case measure => simp [intOf]; omega
      · obtain rfl : n = k := by omega
        have HE := Lib.hid (show namesF (.mk op a b name ks) = decide (name.size ≤ 100) from by
          have h := HS.out
          rw [List.take_of_length_le (by rw [HN.out]; exact Nat.le_refl _)] at h
          unfold namesF; rw [h]; rfl)
        go_wp2
        go_ret
        exact ⟨ret_bool (by rw [HE.out]; exact decide_eq_decide.2 (by omega)), HW1.out⟩
end Go.Proofs.Ytadidldkphimfaa
