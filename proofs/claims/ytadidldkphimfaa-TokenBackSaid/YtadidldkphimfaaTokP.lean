/- Plain: tokens. -/
import Derived.Test.YtadidldkphimfaaWire6
import Derived.Test.YtadidldkphimfaaCrc3
namespace Go.Proofs.Ytadidldkphimfaa
set_option linter.unusedVariables false

def hexN (n : Nat) : Nat := if n < 10 then 48 + n else 87 + n
def hexOf (x : UInt8) : List UInt8 := [UInt8.ofNat (hexN (x.toNat / 16)), UInt8.ofNat (hexN (x.toNat % 16))]
def hexB (l : List UInt8) : List UInt8 := l.flatMap hexOf
/-- the value of a digit. -/
def dig (c : UInt8) : Option Nat := if 48 ≤ c.toNat ∧ c.toNat ≤ 57 then some (c.toNat - 48) else if 97 ≤ c.toNat ∧ c.toNat ≤ 102 then some (c.toNat - 87) else none
theorem hexB_cons (x : UInt8) (l : List UInt8) : hexB (x :: l) = UInt8.ofNat (hexN (x.toNat / 16)) :: UInt8.ofNat (hexN (x.toNat % 16)) :: hexB l := by simp [hexB, hexOf]
theorem hexB_append (a b : List UInt8) : hexB (a ++ b) = hexB a ++ hexB b := by simp [hexB]
theorem hexB_length (l : List UInt8) : (hexB l).length = 2 * l.length := by
  induction l with
  | nil => rfl
  | cons x l ih => rw [hexB_cons, List.length_cons, List.length_cons, List.length_cons, ih]; omega
theorem hexN_lt (n : Nat) (h : n < 16) : hexN n < 256 := by unfold hexN; split <;> omega
theorem hexN_toNat (n : Nat) (h : n < 16) : (UInt8.ofNat (hexN n)).toNat = hexN n := by
  have := hexN_lt n h
  simp
  omega
theorem dig_hex (n : Nat) (h : n < 16) : dig (UInt8.ofNat (hexN n)) = some n := by
  unfold dig
  rw [hexN_toNat n h]
  unfold hexN
  by_cases h1 : n < 10
  · rw [if_pos h1, if_pos (by omega)]; congr 1; omega
  · rw [if_neg h1, if_neg (by omega), if_pos (by omega)]; congr 1; omega
theorem dig_lt {c : UInt8} {v : Nat} (h : dig c = some v) : v < 16 := by
  unfold dig at h
  split at h
  · injection h with h; omega
  · split at h
    · injection h with h; omega
    · cases h
theorem byte_halves (x : UInt8) : UInt8.ofNat (16 * (x.toNat / 16) + x.toNat % 16) = x := by
  rw [Nat.div_add_mod]
  simp
theorem half_lt (x : UInt8) : x.toNat / 16 < 16 ∧ x.toNat % 16 < 16 := by have := x.toNat_lt; omega
/-- the bytes of at most k pairs of digits. -/
def decN : Nat → List UInt8 → Option (List UInt8)
  | k + 1, a :: b :: l => match dig a, dig b with
    | some h, some o => (decN k l).map (UInt8.ofNat (16 * h + o) :: ·)
    | _, _ => none
  | _, _ => some []
theorem decN_hex (r : List UInt8) : ∀ (l : List UInt8) (k : Nat), k ≤ l.length → decN k (hexB l ++ r) = some (l.take k)
  | _, 0, _ => by unfold decN; simp
  | [], k + 1, h => by simp at h
  | x :: l, k + 1, h => by
    rw [hexB_cons, List.cons_append, List.cons_append, decN, dig_hex _ (half_lt x).1, dig_hex _ (half_lt x).2]
    simp only
    rw [decN_hex r l k (by simpa using h), Option.map_some, byte_halves, List.take_succ_cons]
theorem decN_all : ∀ (l : List UInt8) (k : Nat), l.length ≤ k → decN k (hexB l) = some l
  | [], k, _ => by cases k <;> rfl
  | x :: l, 0, h => by simp at h
  | x :: l, k + 1, h => by
    rw [hexB_cons, decN, dig_hex _ (half_lt x).1, dig_hex _ (half_lt x).2]
    simp only
    rw [decN_all l k (by simpa using h), Option.map_some, byte_halves]
/-- the number of k pairs of digits. -/
def refN : Nat → List UInt8 → Option Nat
  | 0, _ => some 0
  | k + 1, a :: b :: l => match dig a, dig b with
    | some h, some o => (refN k l).map (fun v => (16 * h + o) % 128 + 128 * v)
    | _, _ => none
  | _, _ => none
theorem refN_hex (r : List UInt8) : ∀ (l : List UInt8), refN l.length (hexB l ++ r) = some (valB (natB l))
  | [] => rfl
  | x :: l => by
    rw [List.length_cons, hexB_cons, List.cons_append, List.cons_append, refN, dig_hex _ (half_lt x).1, dig_hex _ (half_lt x).2]
    simp only
    rw [refN_hex r l, Option.map_some, Nat.div_add_mod]
    rfl
theorem valB_uenc (n : Nat) : valB (uenc n) = n := by
  induction n using Nat.strongRecOn with
  | _ n ih =>
    by_cases h : n < 128
    · rw [uenc_small h]; simp [valB]; omega
    · rw [uenc_big (by omega), valB, ih (n / 128) (by omega)]; omega
/-- the bytes of which a token is written. -/
def tokP (E : List UInt8) (n : Nat) : List UInt8 := uencB n ++ le4B (plainN (natB (E ++ uencB n)))
def tokB (E : List UInt8) (n : Nat) : List UInt8 := hexB (tokP E n)
def numF (tok : List UInt8) : Option Nat := match decN 10 tok with
  | none => none
  | some b => if (uread 0 (natB b)).1 = 0 ∧ (uread 0 (natB b)).2.1 ≤ 4294967296 then some (uread 0 (natB b)).2.1 else none
def readF (E tok : List UInt8) : Option Nat := match numF tok with
  | none => none
  | some n => if tokB E n = tok then some n else none
def readR (E tok : List UInt8) : Option Nat := if tok.length < 10 ∨ 18 < tok.length then none else match refN ((tok.length - 7) / 2) tok with
  | none => none
  | some n => if n ≤ 4294967296 ∧ tokB E n = tok then some n else none
theorem uencB_len5 (n : Nat) (h : n ≤ 4294967296) : (uencB n).length ≤ 5 := by
  rw [uencB_length]; exact uenc_len 4 n (by omega)
theorem uencB_pos (n : Nat) : 0 < (uencB n).length := by rw [uencB_length]; exact uenc_pos n
theorem tokP_length (E : List UInt8) (n : Nat) : (tokP E n).length = (uencB n).length + 4 := by unfold tokP; rw [List.length_append, le4B_length]
theorem tokB_length (E : List UInt8) (n : Nat) : (tokB E n).length = 2 * ((uencB n).length + 4) := by unfold tokB; rw [hexB_length, tokP_length]
theorem uread_tok (n : Nat) (rest : List Nat) (h : n ≤ 4294967296) : uread 0 (uenc n ++ rest) = (0, n, (uenc n).length) :=
  uread_uenc rest n 0 (by omega) (by simp; omega) (by omega)
theorem numF_tok (E : List UInt8) (n : Nat) (h : n ≤ 4294967296) : numF (tokB E n) = some n := by
  unfold numF tokB
  have hl := uencB_len5 n h
  rw [decN_all _ _ (by rw [tokP_length]; omega)]
  simp only
  unfold tokP
  rw [natB_append, natB_uencB, uread_tok n _ h]
  simp only
  rw [if_pos ⟨trivial, h⟩]
theorem numF_le {tok : List UInt8} {n : Nat} (h : numF tok = some n) : n ≤ 4294967296 := by
  unfold numF at h
  split at h
  · cases h
  · split at h
    · rename_i h2; injection h with h; omega
    · cases h
theorem readF_iff (E tok : List UInt8) (n : Nat) : readF E tok = some n ↔ n ≤ 4294967296 ∧ tokB E n = tok := by
  constructor
  · intro h
    unfold readF at h
    split at h
    · cases h
    · rename_i m hm
      split at h
      · rename_i h2
        injection h with h
        subst h
        exact ⟨numF_le hm, h2⟩
      · cases h
  · rintro ⟨h, rfl⟩
    unfold readF
    rw [numF_tok E n h]
    simp
theorem refN_tok (E : List UInt8) (n : Nat) : refN (((tokB E n).length - 7) / 2) (tokB E n) = some n := by
  rw [tokB_length, show (2 * ((uencB n).length + 4) - 7) / 2 = (uencB n).length from by omega]
  unfold tokB tokP
  rw [hexB_append, refN_hex, natB_uencB, valB_uenc]
theorem readR_iff (E tok : List UInt8) (n : Nat) : readR E tok = some n ↔ n ≤ 4294967296 ∧ tokB E n = tok := by
  constructor
  · intro h
    unfold readR at h
    split at h
    · cases h
    · split at h
      · cases h
      · split at h
        · rename_i h2; injection h with h; subst h; exact h2
        · cases h
  · rintro ⟨h, rfl⟩
    have h1 := tokB_length E n
    have h2 := uencB_len5 n h
    have h3 := uencB_pos n
    unfold readR
    rw [if_neg (by omega), refN_tok]
    simp [h]
theorem read_same (E tok : List UInt8) : readR E tok = readF E tok := by
  apply Option.ext
  intro n
  rw [readR_iff, readF_iff]
theorem tokB_inj {E : List UInt8} {n m : Nat} (hn : n ≤ 4294967296) (hm : m ≤ 4294967296) (h : tokB E n = tokB E m) : n = m := by
  have h1 := numF_tok E n hn
  rw [h, numF_tok E m hm] at h1
  exact (Option.some.inj h1).symm
theorem tok_prefix_aux {E : List UInt8} {n m : Nat} {r s : List UInt8} (hn : n ≤ 4294967296) (hm : m ≤ 4294967296) (hle : (uencB n).length ≤ (uencB m).length) (h : tokB E n ++ r = tokB E m ++ s) : n = m := by
  have h1 := decN_hex r (tokP E n) (uencB n).length (by rw [tokP_length]; omega)
  have h2 := decN_hex s (tokP E m) (uencB n).length (by rw [tokP_length]; omega)
  unfold tokB at h
  rw [h, h2] at h1
  have h3 := Option.some.inj h1
  unfold tokP at h3
  rw [List.take_append_of_le_length hle, List.take_append_of_le_length (Nat.le_refl _), List.take_length] at h3
  have h4 : (uenc m).take (uencB n).length = uenc n := by
    rw [← natB_uencB m, ← natB_take, h3, natB_uencB]
  rcases Nat.lt_or_ge (uencB n).length (uencB m).length with hlt | hge
  · have h5 := uread_cut m 0 (uencB n).length (by omega) (by simp; omega) (by rw [← uencB_length]; exact hlt)
    rw [h4] at h5
    have h6 := uread_tok n [] hn
    rw [List.append_nil, h5] at h6
    simp at h6
  · have h5 : (uenc m).take (uencB n).length = uenc m := List.take_of_length_le (by rw [← uencB_length]; exact hge)
    have h6 := uread_tok n [] hn
    have h7 := uread_tok m [] hm
    rw [List.append_nil] at h6 h7
    rw [← h4, h5, h7] at h6
    simp at h6
    exact h6.symm
theorem tok_prefix {E : List UInt8} {n m : Nat} {r s : List UInt8} (hn : n ≤ 4294967296) (hm : m ≤ 4294967296) (h : tokB E n ++ r = tokB E m ++ s) : n = m := by
  rcases Nat.le_total (uencB n).length (uencB m).length with hle | hle
  · exact tok_prefix_aux hn hm hle h
  · exact (tok_prefix_aux hm hn hle h.symm).symm
theorem tok_cut {E : List UInt8} {n : Nat} (hn : n ≤ 4294967296) (k : Nat) (hk : k < (tokB E n).length) : readF E ((tokB E n).take k) = none := by
  cases h : readF E ((tokB E n).take k) with
  | none => rfl
  | some m =>
    obtain ⟨hm, he⟩ := (readF_iff ..).1 h
    have h1 := tok_prefix (r := (tokB E n).drop k) (s := []) hm hn (by rw [he, List.take_append_drop, List.append_nil])
    subst h1
    have := congrArg List.length he
    rw [List.length_take] at this
    omega
theorem tok_more {E : List UInt8} {n : Nat} (hn : n ≤ 4294967296) (r : List UInt8) (hr : r ≠ []) : readF E (tokB E n ++ r) = none := by
  cases h : readF E (tokB E n ++ r) with
  | none => rfl
  | some m =>
    obtain ⟨hm, he⟩ := (readF_iff ..).1 h
    have h1 := tok_prefix (r := []) (s := r) hm hn (by rw [he, List.append_nil])
    subst h1
    have := congrArg List.length he
    rw [List.length_append] at this
    have : r.length = 0 := by omega
    exact absurd (List.eq_nil_of_length_eq_zero this) hr
/-- all that was written is sealed. -/
theorem tok_sealed (E : List UInt8) (n : Nat) : regs maskN (natB E ++ natB (tokP E n)) = step32 maskN := by
  have h1 := (seal_iff (natB (E ++ uencB n)) (le4 (plainN (natB (E ++ uencB n)))) (natB_lt _) (le4_lt _) rfl).1 (by unfold sealT; rw [sumT_tab])
  unfold tokP
  rw [natB_append, natB_le4B, ← List.append_assoc, ← natB_append]
  exact h1
theorem hexB_get (l : List UInt8) (j : Nat) : (hexB l)[2 * j]? = l[j]?.map (fun x => UInt8.ofNat (hexN (x.toNat / 16))) ∧ (hexB l)[2 * j + 1]? = l[j]?.map (fun x => UInt8.ofNat (hexN (x.toNat % 16))) := by
  induction l generalizing j with
  | nil => simp [hexB]
  | cons x l ih =>
    rw [hexB_cons]
    cases j with
    | zero => simp
    | succ j =>
      rw [show 2 * (j + 1) = 2 * j + 1 + 1 from by omega]
      simp only [List.getElem?_cons_succ]
      exact ih j
theorem hexN_inj {a b : Nat} (ha : a < 16) (hb : b < 16) (h : UInt8.ofNat (hexN a) = UInt8.ofNat (hexN b)) : a = b := by
  have h1 := dig_hex a ha
  rw [h, dig_hex b hb] at h1
  exact (Option.some.inj h1).symm
theorem hexB_byte {l m : List UInt8} {j : Nat} (hj : j < l.length) (hm : j < m.length) (h0 : (hexB l)[2 * j]? = (hexB m)[2 * j]?) (h1 : (hexB l)[2 * j + 1]? = (hexB m)[2 * j + 1]?) : l[j]? = m[j]? := by
  rw [(hexB_get l j).1, (hexB_get m j).1, List.getElem?_eq_getElem hj, List.getElem?_eq_getElem hm] at h0
  rw [(hexB_get l j).2, (hexB_get m j).2, List.getElem?_eq_getElem hj, List.getElem?_eq_getElem hm] at h1
  simp only [Option.map_some, Option.some.injEq] at h0 h1
  have e0 := hexN_inj (half_lt _).1 (half_lt _).1 h0
  have e1 := hexN_inj (half_lt _).2 (half_lt _).2 h1
  rw [List.getElem?_eq_getElem hj, List.getElem?_eq_getElem hm]
  congr 1
  rw [← byte_halves l[j], ← byte_halves m[j], e0, e1]
theorem tok_burst {E b : List UInt8} {n k : Nat} (hn : n ≤ 4294967296) (hb : b.length = (tokB E n).length) (ho : ∀ j, (j < k ∨ k + 3 ≤ j) → b[j]? = (tokB E n)[j]?) (hne : b ≠ tokB E n) : readF E b = none := by
  cases h : readF E b with
  | none => rfl
  | some m =>
    exfalso
    obtain ⟨hm, rfl⟩ := (readF_iff ..).1 h
    apply hne
    have hl1 := tokB_length E n
    have hl2 := tokB_length E m
    have p1 := tokP_length E n
    have p2 := tokP_length E m
    have hpos := uencB_pos n
    have hlen : (tokP E m).length = (tokP E n).length := by omega
    have s1 := tok_sealed E n
    have s2 := tok_sealed E m
    have hby : ∀ j, j ≠ k / 2 → j ≠ k / 2 + 1 → (tokP E m)[j]? = (tokP E n)[j]? := by
      intro j h1 h2
      rcases Nat.lt_or_ge j (tokP E n).length with hj | hj
      · exact hexB_byte (by omega) hj (ho _ (by omega)) (ho _ (by omega))
      · rw [List.getElem?_eq_none hj, List.getElem?_eq_none (by omega)]
    unfold tokB
    congr 1
    generalize tokP E n = P at *
    generalize tokP E m = Q at *
    obtain ⟨i, hi, hi1, hi2⟩ : ∃ i, i + 4 ≤ P.length ∧ (i ≤ k / 2 ∨ P.length ≤ k / 2) ∧ (k / 2 + 1 < i + 4 ∨ P.length ≤ i + 4) := ⟨min (k / 2) (P.length - 4), by omega, by omega, by omega⟩
    have hsplit : ∀ (l : List UInt8), l = l.take i ++ (l.drop i).take 4 ++ l.drop (i + 4) := by
      intro l
      rw [List.append_assoc, show l.drop (i + 4) = (l.drop i).drop 4 from by rw [List.drop_drop], List.take_append_drop, List.take_append_drop]
    have ht : Q.take i = P.take i := by
      apply List.ext_getElem?
      intro j
      rw [List.getElem?_take, List.getElem?_take]
      by_cases hj : j < i
      · rw [if_pos hj, if_pos hj]; exact hby j (by omega) (by omega)
      · rw [if_neg hj, if_neg hj]
    have hd : Q.drop (i + 4) = P.drop (i + 4) := by
      apply List.ext_getElem?
      intro j
      rw [List.getElem?_drop, List.getElem?_drop]
      by_cases hj : i + 4 + j < P.length
      · exact hby _ (by omega) (by omega)
      · rw [List.getElem?_eq_none (by omega), List.getElem?_eq_none (by omega)]
    have hsP := hsplit P
    have hsQ := hsplit Q
    rw [ht, hd] at hsQ
    rw [hsP, natB_append, natB_append, ← List.append_assoc, ← List.append_assoc] at s1
    rw [hsQ, natB_append, natB_append, ← List.append_assoc, ← List.append_assoc] at s2
    have hc := burst (natB E ++ natB (P.take i)) (natB ((Q.drop i).take 4)) (natB ((P.drop i).take 4)) (natB (P.drop (i + 4))) (fun y hy => by rcases List.mem_append.1 hy with h | h <;> exact natB_lt _ _ h) (natB_lt _) (natB_lt _) (natB_lt _) (by rw [natB_length, List.length_take, List.length_drop]; omega) (by rw [natB_length, List.length_take, List.length_drop]; omega) maskN (by decide) (s2.trans s1.symm)
    rw [hsQ, natB_inj hc]
    exact hsP.symm
end Go.Proofs.Ytadidldkphimfaa
