/- The contracts of filter.put and of the reference's Bytes. -/
import Derived.Test.YtadidldkphimfaaPutText
import Derived.Test.YtadidldkphimfaaMatch
namespace Go.Proofs.Ytadidldkphimfaa
set_option linter.unusedVariables false
open Go.RowKit Go.ChangeShapes

def headB (op a b : Int) (name : ByteArray) (n : Nat) : List UInt8 := uencB op.toNat ++ uencB a.toNat ++ uencB b.toNat ++ textB name.data.toList ++ uencB n
mutual
def encF : FT → List UInt8
  | .mk op a b name ks => headB op a b name ks.length ++ encL ks
def encL : List FT → List UInt8
  | [] => []
  | t :: ts => encF t ++ encL ts
end
theorem encL_snoc : ∀ (l : List FT) (t : FT), encL (l ++ [t]) = encL l ++ encF t
  | [], t => by simp [encL]
  | x :: l, t => by simp only [List.cons_append, encL, encL_snoc l t, List.append_assoc]
theorem one_facts {op a b : Int} {m n : Nat} (h : oneF op a b m n = true) : 1 ≤ op ∧ op ≤ 8 ∧ 0 ≤ a ∧ a ≤ 1099511627776 ∧ 0 ≤ b ∧ b ≤ 1099511627776 ∧ m ≤ 24 := by
  unfold oneF at h; rw [decide_eq_true_eq] at h; unfold oneP at h; omega
theorem textB_len (l : List UInt8) (h : l.length ≤ 24) : (textB l).length ≤ 34 := by
  unfold textB; rw [List.length_append]; have := uencB_len l.length (by omega); omega
theorem data_len (s : ByteArray) : s.data.toList.length = s.size := Array.length_toList
theorem headB_len {op a b : Int} {name : ByteArray} {n : Nat} (h : oneF op a b name.size n = true) (hn : n ≤ 1000) : (headB op a b name n).length ≤ 80 := by
  have h1 := one_facts h
  unfold headB
  simp only [List.length_append]
  have e1 := uencB_len op.toNat (by omega)
  have e2 := uencB_len a.toNat (by omega)
  have e3 := uencB_len b.toNat (by omega)
  have e4 := textB_len name.data.toList (by rw [data_len]; omega)
  have e5 := uencB_len n (by omega)
  omega
mutual
theorem encF_len : ∀ (t : FT), everyF t = true → cntF t ≤ 1000 → (encF t).length ≤ 80 * cntF t
  | .mk op a b name ks, h, hc => by
    unfold everyF at h
    rw [Bool.and_eq_true] at h
    unfold cntF at hc
    have h1 := headB_len h.1 (by have := cntL_len ks; omega)
    have h2 := encL_len ks h.2 (by omega)
    rw [encF, cntF, List.length_append]
    omega
theorem encL_len : ∀ (ts : List FT), everyL ts = true → cntL ts ≤ 1000 → (encL ts).length ≤ 80 * cntL ts
  | [], _, _ => by simp [encL]
  | t :: ts, h, hc => by
    unfold everyL at h
    rw [Bool.and_eq_true] at h
    unfold cntL at hc
    have h1 := encF_len t h.1 (by omega)
    have h2 := encL_len ts h.2 (by omega)
    rw [encL, cntL, List.length_append]
    omega
end
theorem encL_take_len (ks : List FT) (k : Nat) (h : everyL ks = true) (hc : cntL ks ≤ 1000) : (encL (ks.take k)).length ≤ (encL ks).length := by
  induction ks generalizing k with
  | nil => simp [encL]
  | cons t ts ih =>
    cases k with
    | zero => simp [encL]
    | succ k =>
      unfold everyL at h
      rw [Bool.and_eq_true] at h
      unfold cntL at hc
      have := ih k h.2 (by omega)
      rw [List.take_succ_cons, encL, encL, List.length_append, List.length_append]
      omega
theorem str_list (s : ByteArray) : s = ⟨s.data.toList.toArray⟩ := by rw [Array.toArray_toList]
theorem encL_take_cnt (ks : List FT) (k : Nat) (t : FT) (h : everyL ks = true) (hc : cntL ks ≤ 1000) (hk : ks[k]? = some t) : (encL (ks.take k)).length + 80 * cntF t ≤ 80 * cntL ks := by
  induction ks generalizing k with
  | nil => simp at hk
  | cons x ts ih =>
    unfold everyL at h
    rw [Bool.and_eq_true] at h
    unfold cntL at hc
    cases k with
    | zero => simp at hk; subst hk; rw [List.take_zero, encL, cntL]; simp; omega
    | succ k =>
      have := ih k h.2 (by omega) (by simpa using hk)
      have h1 := encF_len x h.1 (by omega)
      rw [List.take_succ_cons, encL, cntL, List.length_append]
      omega
def PutOk (bs l : List UInt8) (n : Nat) (W : World) (e : Ending) (w' : World) : Prop := ∃ v, e = .returned v ∧ w'.ownsRow W.heap.size 5 1 v (n + l.length) (byteCells (bs ++ l)) ∧ Below W.heap.size W w'

set_option maxHeartbeats 4000000 in
theorem put_c {w : World} {B : Nat} {cs : List Value} {t : FT} (h : FTr w B cs t) : everyF t = true → cntF t ≤ 1000 → ∀ W, Below B w W → B ≤ W.heap.size → ∀ (A0 : Option Addr) (n0 c0 B0 : Nat) (bs : List UInt8), Reads W B0 1 A0 n0 (byteCells bs) → B0 ≤ W.heap.size → n0 + 80 * cntF t ≤ 200000 → Calls Try.prog 32 #[.slice A0 n0 c0, .agg cs.toArray] W (PutOk bs (encF t) n0 W) := by
  induction h with
  | mk op a b name A n c vs ks hop ha hb hnm hn hv hnc hcm hr hk ih =>
    intro hev hct W hB hBW A0 n0 c0 B0 bs hr0 hB0 hn0
    have HN := Lib.hid hn
    have HKI := Lib.hid (fun (wr : World) (hw : Below B w wr) (i : Nat) (hi : i < n) => kid_in hn hv hr hk hw hi)
    have IH := Lib.hid ih
    have HB := Lib.hid hB
    have HLL := Lib.hid (encF_len (.mk op a b name ks) hev hct)
    unfold everyF at hev
    rw [Bool.and_eq_true] at hev
    obtain ⟨hone, hel⟩ := hev
    have HEL := Lib.hid hel
    unfold cntF at hct
    have hnk : n ≤ 1000 := by have := cntL_len ks; omega
    have HCT := Lib.hid (fun (i : Nat) (t : FT) (hi : ks[i]? = some t) => show cntF t ≤ cntL ks from cntL_get ks i t hi)
    have HHD := Lib.hid (headB_len hone (by omega))
    obtain ⟨o1, o2, a1, a2, b1, b2, m1⟩ := one_facts hone
    have HTK := Lib.hid (fun k => encL_take_len ks k hel (by omega))
    have HTC := Lib.hid (fun k t hk => encL_take_cnt ks k t hel (by omega) hk)
    have HEE := Lib.hid (show encF (.mk op a b name ks) = headB op a b name n ++ encL ks from by rw [encF, hn])
    have hcn : cntF (.mk op a b name ks) = 1 + cntL ks := by rw [cntF]
    rw [HEE.out, hcn] at HLL
    rw [HEE.out]
    rw [hcn] at hn0
    rw [hn] at HHD
    clear hr hk ih hB hn hv hop ha hb hel hone hcn HEE
    obtain ⟨opn, rfl⟩ : ∃ m : Nat, op = (m : Int) := ⟨op.toNat, by omega⟩
    obtain ⟨an, rfl⟩ : ∃ m : Nat, a = (m : Int) := ⟨a.toNat, by omega⟩
    obtain ⟨bn, rfl⟩ : ∃ m : Nat, b = (m : Int) := ⟨b.toNat, by omega⟩
    obtain ⟨nl, rfl⟩ : ∃ l : List UInt8, name = ⟨l.toArray⟩ := ⟨_, str_list name⟩
    have hnl : nl.length ≤ 24 := by have := data_len ⟨nl.toArray⟩; simp at this; omega
    have e1 := uencB_len opn (by omega)
    have e2 := uencB_len an (by omega)
    have e3 := uencB_len bn (by omega)
    have e4 := textB_len nl hnl
    have e5 := uencB_len n (by omega)
    have HH : headB (opn : Int) (an : Int) (bn : Int) ⟨nl.toArray⟩ n = uencB opn ++ uencB an ++ uencB bn ++ textB nl ++ uencB n := by unfold headB; simp
    generalize headB (opn : Int) (an : Int) (bn : Int) ⟨nl.toArray⟩ n = hd at HLL HHD HH ⊢
    unfold PutOk
    have HK1 := Lib.hid (show Kept W (W.alloc (.cells #[.int .i64 (opn : Int), .int .i64 (an : Int), .int .i64 (bn : Int), .string ⟨nl.toArray⟩, .slice A n c] 24)) [(W.heap.size, 24, #[.int .i64 (opn : Int), .int .i64 (an : Int), .int .i64 (bn : Int), .string ⟨nl.toArray⟩, .slice A n c])] from ((Kept.start W).alloc_at 24 #[.int .i64 (opn : Int), .int .i64 (an : Int), .int .i64 (bn : Int), .string ⟨nl.toArray⟩, .slice A n c] (W.heap.size) (by simp)))
    have HR0 := Lib.hid hr0
    clear hr0
    go_enter Try.func32, Try.ntmps32
    obtain ⟨i0, hi0, hz0, hz1, hz2⟩ := info_parts Try.infoU8
    go_wp2_with fail
    with_reducible refine (PutUint_c A0 (n0) c0 B0 (bs) opn (by omega) _ (HR0.out.alloc hB0 _) (by simp; omega) (by omega)).mono ?_
    rintro e w1 ⟨v1, rfl, hown, hb1⟩
    obtain ⟨A1, c1, rfl, _, _, _, hrd⟩ := own_reads hown
    have HR1 := Lib.hid hrd
    clear hrd hown
    clear HR0
    have HK2 := Lib.hid (show Kept W w1 [(W.heap.size, 24, #[.int .i64 (opn : Int), .int .i64 (an : Int), .int .i64 (bn : Int), .string ⟨nl.toArray⟩, .slice A n c])] from HK1.out.next hb1)
    clear HK1
    clear hb1
    have c_f_0 : w1.cell? ⟨W.heap.size, 0, none⟩ = some (.int .i64 (opn : Int)) := HK2.out.cell 0 rfl 0
    have c_f_1 : w1.cell? ⟨W.heap.size, 1, none⟩ = some (.int .i64 (an : Int)) := HK2.out.cell 0 rfl 1
    have c_f_2 : w1.cell? ⟨W.heap.size, 2, none⟩ = some (.int .i64 (bn : Int)) := HK2.out.cell 0 rfl 2
    have c_f_3 : w1.cell? ⟨W.heap.size, 3, none⟩ = some (.string ⟨nl.toArray⟩) := HK2.out.cell 0 rfl 3
    have c_f_4 : w1.cell? ⟨W.heap.size, 4, none⟩ = some (.slice A n c) := HK2.out.cell 0 rfl 4
    go_wp2_with fail
    with_reducible refine (PutUint_c A1 (n0 + (uencB opn).length) c1 w1.heap.size (bs ++ uencB opn) an (by omega) _ HR1.out (Nat.le_refl _) (by omega)).mono ?_
    rintro e w2 ⟨v2, rfl, hown, hb2⟩
    obtain ⟨A2, c2, rfl, _, _, _, hrd⟩ := own_reads hown
    have HR2 := Lib.hid hrd
    clear hrd hown
    clear HR1
    clear c_f_0 c_f_1 c_f_2 c_f_3 c_f_4
    have HK3 := Lib.hid (show Kept W w2 [(W.heap.size, 24, #[.int .i64 (opn : Int), .int .i64 (an : Int), .int .i64 (bn : Int), .string ⟨nl.toArray⟩, .slice A n c])] from HK2.out.next hb2)
    clear HK2
    clear hb2
    have c_f_0 : w2.cell? ⟨W.heap.size, 0, none⟩ = some (.int .i64 (opn : Int)) := HK3.out.cell 0 rfl 0
    have c_f_1 : w2.cell? ⟨W.heap.size, 1, none⟩ = some (.int .i64 (an : Int)) := HK3.out.cell 0 rfl 1
    have c_f_2 : w2.cell? ⟨W.heap.size, 2, none⟩ = some (.int .i64 (bn : Int)) := HK3.out.cell 0 rfl 2
    have c_f_3 : w2.cell? ⟨W.heap.size, 3, none⟩ = some (.string ⟨nl.toArray⟩) := HK3.out.cell 0 rfl 3
    have c_f_4 : w2.cell? ⟨W.heap.size, 4, none⟩ = some (.slice A n c) := HK3.out.cell 0 rfl 4
    go_wp2_with fail
    with_reducible refine (PutUint_c A2 (n0 + (uencB opn).length + (uencB an).length) c2 w2.heap.size (bs ++ uencB opn ++ uencB an) bn (by omega) _ HR2.out (Nat.le_refl _) (by omega)).mono ?_
    rintro e w3 ⟨v3, rfl, hown, hb3⟩
    obtain ⟨A3, c3, rfl, _, _, _, hrd⟩ := own_reads hown
    have HR3 := Lib.hid hrd
    clear hrd hown
    clear HR2
    clear c_f_0 c_f_1 c_f_2 c_f_3 c_f_4
    have HK4 := Lib.hid (show Kept W w3 [(W.heap.size, 24, #[.int .i64 (opn : Int), .int .i64 (an : Int), .int .i64 (bn : Int), .string ⟨nl.toArray⟩, .slice A n c])] from HK3.out.next hb3)
    clear HK3
    clear hb3
    have c_f_0 : w3.cell? ⟨W.heap.size, 0, none⟩ = some (.int .i64 (opn : Int)) := HK4.out.cell 0 rfl 0
    have c_f_1 : w3.cell? ⟨W.heap.size, 1, none⟩ = some (.int .i64 (an : Int)) := HK4.out.cell 0 rfl 1
    have c_f_2 : w3.cell? ⟨W.heap.size, 2, none⟩ = some (.int .i64 (bn : Int)) := HK4.out.cell 0 rfl 2
    have c_f_3 : w3.cell? ⟨W.heap.size, 3, none⟩ = some (.string ⟨nl.toArray⟩) := HK4.out.cell 0 rfl 3
    have c_f_4 : w3.cell? ⟨W.heap.size, 4, none⟩ = some (.slice A n c) := HK4.out.cell 0 rfl 4
    go_wp2_with fail
    with_reducible refine (PutText_c A3 (n0 + (uencB opn).length + (uencB an).length + (uencB bn).length) c3 w3.heap.size (bs ++ uencB opn ++ uencB an ++ uencB bn) nl _ HR3.out (Nat.le_refl _) (by omega) (by omega)).mono ?_
    rintro e w4 ⟨v4, rfl, hown, hb4⟩
    obtain ⟨A4, c4, rfl, _, _, _, hrd⟩ := own_reads hown
    have HR4 := Lib.hid hrd
    clear hrd hown
    clear HR3
    clear c_f_0 c_f_1 c_f_2 c_f_3 c_f_4
    have HK5 := Lib.hid (show Kept W w4 [(W.heap.size, 24, #[.int .i64 (opn : Int), .int .i64 (an : Int), .int .i64 (bn : Int), .string ⟨nl.toArray⟩, .slice A n c])] from HK4.out.next hb4)
    clear HK4
    clear hb4
    have c_f_0 : w4.cell? ⟨W.heap.size, 0, none⟩ = some (.int .i64 (opn : Int)) := HK5.out.cell 0 rfl 0
    have c_f_1 : w4.cell? ⟨W.heap.size, 1, none⟩ = some (.int .i64 (an : Int)) := HK5.out.cell 0 rfl 1
    have c_f_2 : w4.cell? ⟨W.heap.size, 2, none⟩ = some (.int .i64 (bn : Int)) := HK5.out.cell 0 rfl 2
    have c_f_3 : w4.cell? ⟨W.heap.size, 3, none⟩ = some (.string ⟨nl.toArray⟩) := HK5.out.cell 0 rfl 3
    have c_f_4 : w4.cell? ⟨W.heap.size, 4, none⟩ = some (.slice A n c) := HK5.out.cell 0 rfl 4
    go_wp2_with fail
    with_reducible refine (PutUint_c A4 (n0 + (uencB opn).length + (uencB an).length + (uencB bn).length + (textB nl).length) c4 w4.heap.size (bs ++ uencB opn ++ uencB an ++ uencB bn ++ textB nl) n (by omega) _ HR4.out (Nat.le_refl _) (by omega)).mono ?_
    rintro e w5 ⟨v5, rfl, hown, hb5⟩
    obtain ⟨A5, c5, rfl, _, _, _, hrd⟩ := own_reads hown
    have HO := Lib.hid (ownsRow_base (base' := W.heap.size + 1) hown (HK5.out.lt 0 rfl))
    have HR5 := Lib.hid hrd
    clear hrd hown
    clear HR4
    clear c_f_0 c_f_1 c_f_2 c_f_3 c_f_4
    have HK6 := Lib.hid (show Kept W w5 [(W.heap.size, 24, #[.int .i64 (opn : Int), .int .i64 (an : Int), .int .i64 (bn : Int), .string ⟨nl.toArray⟩, .slice A n c])] from HK5.out.next hb5)
    clear HK5
    clear hb5
    have hnn : n0 + (uencB opn).length + (uencB an).length + (uencB bn).length + (textB nl).length + (uencB n).length = n0 + hd.length := by rw [HH]; simp only [List.length_append]; omega
    have hbb : bs ++ uencB opn ++ uencB an ++ uencB bn ++ textB nl ++ uencB n = bs ++ hd := by rw [HH]; simp only [List.append_assoc]
    rw [hnn] at HO ⊢
    rw [hbb] at HO
    clear hnn hbb HH HR5 e1 e2 e3 e4 e5
    have c_f_0 : w5.cell? ⟨W.heap.size, 0, none⟩ = some (.int .i64 (opn : Int)) := HK6.out.cell 0 rfl 0
    have c_f_1 : w5.cell? ⟨W.heap.size, 1, none⟩ = some (.int .i64 (an : Int)) := HK6.out.cell 0 rfl 1
    have c_f_2 : w5.cell? ⟨W.heap.size, 2, none⟩ = some (.int .i64 (bn : Int)) := HK6.out.cell 0 rfl 2
    have c_f_3 : w5.cell? ⟨W.heap.size, 3, none⟩ = some (.string ⟨nl.toArray⟩) := HK6.out.cell 0 rfl 3
    have c_f_4 : w5.cell? ⟨W.heap.size, 4, none⟩ = some (.slice A n c) := HK6.out.cell 0 rfl 4
    go_wp2
    clear c_f_0 c_f_1 c_f_2 c_f_3 c_f_4
    go_loopw [0, 35] (fun v i wr => ∃ (k : Nat), k ≤ n ∧ i = .int .i64 k ∧ Hid (wr.ownsRow (W.heap.size + 1) 5 1 v (n0 + hd.length + (encL (ks.take k)).length) (byteCells (bs ++ hd ++ encL (ks.take k)))) ∧ Hid (Kept W wr [(W.heap.size, 24, #[.int .i64 (opn : Int), .int .i64 (an : Int), .int .i64 (bn : Int), .string ⟨nl.toArray⟩, .slice A n c])])) (fun _ i _ => n - (intOf i).toNat)
    case atStart => exact ⟨0, Nat.zero_le _, rfl, Lib.hid (by rw [List.take_zero, encL, List.length_nil, List.append_nil, Nat.add_zero]; exact HO.out), HK6⟩
    case round =>
      clear HK6 HO
      obtain ⟨k, hk, rfl, HO, HK⟩ := hrel
      have hz := HK.out.lt 0 rfl
      by_cases hlt : k < n
      · obtain ⟨ad, op', a', b', name', A', n', c', t', v', rfl, hkt, hvt, hve, hft, d0, d1, d2, d3, d4⟩ := HKI.out wr (HB.out.trans (HK.out.bel.mono hBW)) k hlt
        have ihk := IH.out k v' t' hvt hkt
        subst hve
        have HIK := Lib.hid ihk
        have HKT := Lib.hid hkt
        have i1 : (0 : Int) ≤ (k : Int) := by omega
        have i2 : (k : Int) < (n : Int) := by omega
        clear hkt hvt ihk
        have HEV := Lib.hid (everyL_get HEL.out HKT.out)
        have hck := HCT.out _ _ HKT.out
        have htc := HTC.out _ _ HKT.out
        have hhd := HHD.out
        have hel2 := encF_len t' HEV.out (by omega)
        have HT2 := Lib.hid (show encL (ks.take (k + 1)) = encL (ks.take k) ++ encF t' from by rw [take_snoc_of ks k t' HKT.out, encL_snoc])
        generalize encL (ks.take k) = el at HO htc HT2 ⊢
        obtain ⟨A2, c2, rfl, _, _, _, hr2⟩ := own_reads HO.out
        have HR2 := Lib.hid hr2
        clear hr2
        have HK7 := Lib.hid (show Kept W (wr.alloc (.cells #[.int .i64 op', .int .i64 a', .int .i64 b', .string name', .slice A' n' c'] 24)) [(wr.heap.size, 24, #[.int .i64 op', .int .i64 a', .int .i64 b', .string name', .slice A' n' c']), (W.heap.size, 24, #[.int .i64 (opn : Int), .int .i64 (an : Int), .int .i64 (bn : Int), .string ⟨nl.toArray⟩, .slice (some ad) n c])] from HK.out.alloc 24 #[.int .i64 op', .int .i64 a', .int .i64 b', .string name', .slice A' n' c'])
        clear HK
        go_wp2_with fail
        clear d0 d1 d2 d3 d4
        with_reducible refine (HIK.out HEV.out (by omega) _ (HB.out.trans (HK7.out.bel.mono hBW)) (Nat.le_trans hBW HK7.out.size) A2 (n0 + hd.length + el.length) c2 wr.heap.size (bs ++ hd ++ el) (HR2.out.alloc (Nat.le_refl _) _) (by simp) (by omega)).mono ?_
        rintro e w2 ⟨v2, rfl, hown2, hb2⟩
        have HO2 := Lib.hid (show w2.ownsRow (W.heap.size + 1) 5 1 v2 (n0 + hd.length + (encL (ks.take (k + 1))).length) (byteCells (bs ++ hd ++ encL (ks.take (k + 1)))) from by rw [HT2.out, List.length_append, ← Nat.add_assoc, ← List.append_assoc]; exact ownsRow_base hown2 (by simp; omega))
        clear hown2 HO HR2 HT2
        have HK8 := Lib.hid (show Kept W w2 [(W.heap.size, 24, #[.int .i64 (opn : Int), .int .i64 (an : Int), .int .i64 (bn : Int), .string ⟨nl.toArray⟩, .slice (some ad) n c])] from (HK7.out.next hb2).sub (List.Sublist.cons _ (List.Sublist.cons_cons _ List.Sublist.slnil)))
        clear HK7
        clear hb2
        go_wp2
        exact ⟨⟨k + 1, by omega, rfl, HO2, HK8⟩, by simp [intOf]; omega⟩
      · obtain rfl : n = k := by omega
        have c_f_0 : wr.cell? ⟨W.heap.size, 0, none⟩ = some (.int .i64 (opn : Int)) := HK.out.cell 0 rfl 0
        have c_f_1 : wr.cell? ⟨W.heap.size, 1, none⟩ = some (.int .i64 (an : Int)) := HK.out.cell 0 rfl 1
        have c_f_2 : wr.cell? ⟨W.heap.size, 2, none⟩ = some (.int .i64 (bn : Int)) := HK.out.cell 0 rfl 2
        have c_f_3 : wr.cell? ⟨W.heap.size, 3, none⟩ = some (.string ⟨nl.toArray⟩) := HK.out.cell 0 rfl 3
        have c_f_4 : wr.cell? ⟨W.heap.size, 4, none⟩ = some (.slice A n c) := HK.out.cell 0 rfl 4
        have HO2 := Lib.hid (show wr.ownsRow W.heap.size 5 1 _ (n0 + (hd ++ encL ks).length) (byteCells (bs ++ (hd ++ encL ks))) from by have h := HO.out; rw [List.take_of_length_le (by rw [HN.out]; exact Nat.le_refl _)] at h; rw [List.length_append, ← Nat.add_assoc, ← List.append_assoc]; exact ownsRow_base h (by omega))
        clear HO
        go_wp2
        go_ret
        exact ⟨_, rfl, HO2.out, HK.out.bel⟩

set_option maxHeartbeats 4000000 in
theorem rBytes_c {w : World} {B : Nat} {cs : List Value} {t : FT} (h : FTr w B cs t) : everyF t = true → cntF t ≤ 1000 → ∀ W, Below B w W → B ≤ W.heap.size → Calls Try.prog 24 #[.agg cs.toArray] W (PutOk [] (encF t) 0 W) := by
  induction h with
  | mk op a b name A n c vs ks hop ha hb hnm hn hv hnc hcm hr hk ih =>
    intro hev hct W hB hBW 
    have HN := Lib.hid hn
    have HKI := Lib.hid (fun (wr : World) (hw : Below B w wr) (i : Nat) (hi : i < n) => kid_in hn hv hr hk hw hi)
    have IH := Lib.hid ih
    have HB := Lib.hid hB
    have HLL := Lib.hid (encF_len (.mk op a b name ks) hev hct)
    unfold everyF at hev
    rw [Bool.and_eq_true] at hev
    obtain ⟨hone, hel⟩ := hev
    have HEL := Lib.hid hel
    unfold cntF at hct
    have hnk : n ≤ 1000 := by have := cntL_len ks; omega
    have HCT := Lib.hid (fun (i : Nat) (t : FT) (hi : ks[i]? = some t) => show cntF t ≤ cntL ks from cntL_get ks i t hi)
    have HHD := Lib.hid (headB_len hone (by omega))
    obtain ⟨o1, o2, a1, a2, b1, b2, m1⟩ := one_facts hone
    have HTK := Lib.hid (fun k => encL_take_len ks k hel (by omega))
    have HTC := Lib.hid (fun k t hk => encL_take_cnt ks k t hel (by omega) hk)
    have HEE := Lib.hid (show encF (.mk op a b name ks) = headB op a b name n ++ encL ks from by rw [encF, hn])
    have hcn : cntF (.mk op a b name ks) = 1 + cntL ks := by rw [cntF]
    rw [HEE.out, hcn] at HLL
    rw [HEE.out]
    skip
    rw [hn] at HHD
    clear hr hk ih hB hn hv hop ha hb hel hone hcn HEE
    obtain ⟨opn, rfl⟩ : ∃ m : Nat, op = (m : Int) := ⟨op.toNat, by omega⟩
    obtain ⟨an, rfl⟩ : ∃ m : Nat, a = (m : Int) := ⟨a.toNat, by omega⟩
    obtain ⟨bn, rfl⟩ : ∃ m : Nat, b = (m : Int) := ⟨b.toNat, by omega⟩
    obtain ⟨nl, rfl⟩ : ∃ l : List UInt8, name = ⟨l.toArray⟩ := ⟨_, str_list name⟩
    have hnl : nl.length ≤ 24 := by have := data_len ⟨nl.toArray⟩; simp at this; omega
    have e1 := uencB_len opn (by omega)
    have e2 := uencB_len an (by omega)
    have e3 := uencB_len bn (by omega)
    have e4 := textB_len nl hnl
    have e5 := uencB_len n (by omega)
    have HH : headB (opn : Int) (an : Int) (bn : Int) ⟨nl.toArray⟩ n = uencB opn ++ uencB an ++ uencB bn ++ textB nl ++ uencB n := by unfold headB; simp
    generalize headB (opn : Int) (an : Int) (bn : Int) ⟨nl.toArray⟩ n = hd at HLL HHD HH ⊢
    unfold PutOk
    have HK1 := Lib.hid (show Kept W (W.alloc (.cells #[.int .i64 (opn : Int), .int .i64 (an : Int), .int .i64 (bn : Int), .string ⟨nl.toArray⟩, .slice A n c] 24)) [(W.heap.size, 24, #[.int .i64 (opn : Int), .int .i64 (an : Int), .int .i64 (bn : Int), .string ⟨nl.toArray⟩, .slice A n c])] from ((Kept.start W).alloc_at 24 #[.int .i64 (opn : Int), .int .i64 (an : Int), .int .i64 (bn : Int), .string ⟨nl.toArray⟩, .slice A n c] (W.heap.size) (by simp)))
    have HR0 := Lib.hid (Reads.none_ (w := W) (B := 0) (size := 1) (A := none))
    go_enter Try.func24, Try.ntmps24
    obtain ⟨i0, hi0, hz0, hz1, hz2⟩ := info_parts Try.infoU8
    go_wp2_with fail
    with_reducible refine (rPutUint_c none (0) 0 0 ([]) opn (by omega) _ (HR0.out.alloc (Nat.zero_le _) _) (Nat.zero_le _) (by omega)).mono ?_
    rintro e w1 ⟨v1, rfl, hown, hb1⟩
    rw [Nat.zero_add, List.nil_append] at hown
    obtain ⟨A1, c1, rfl, _, _, _, hrd⟩ := own_reads hown
    have HR1 := Lib.hid hrd
    clear hrd hown
    clear HR0
    have HK2 := Lib.hid (show Kept W w1 [(W.heap.size, 24, #[.int .i64 (opn : Int), .int .i64 (an : Int), .int .i64 (bn : Int), .string ⟨nl.toArray⟩, .slice A n c])] from HK1.out.next hb1)
    clear HK1
    clear hb1
    have c_f_0 : w1.cell? ⟨W.heap.size, 0, none⟩ = some (.int .i64 (opn : Int)) := HK2.out.cell 0 rfl 0
    have c_f_1 : w1.cell? ⟨W.heap.size, 1, none⟩ = some (.int .i64 (an : Int)) := HK2.out.cell 0 rfl 1
    have c_f_2 : w1.cell? ⟨W.heap.size, 2, none⟩ = some (.int .i64 (bn : Int)) := HK2.out.cell 0 rfl 2
    have c_f_3 : w1.cell? ⟨W.heap.size, 3, none⟩ = some (.string ⟨nl.toArray⟩) := HK2.out.cell 0 rfl 3
    have c_f_4 : w1.cell? ⟨W.heap.size, 4, none⟩ = some (.slice A n c) := HK2.out.cell 0 rfl 4
    go_wp2_with fail
    with_reducible refine (rPutUint_c A1 ((uencB opn).length) c1 w1.heap.size (uencB opn) an (by omega) _ HR1.out (Nat.le_refl _) (by omega)).mono ?_
    rintro e w2 ⟨v2, rfl, hown, hb2⟩
    obtain ⟨A2, c2, rfl, _, _, _, hrd⟩ := own_reads hown
    have HR2 := Lib.hid hrd
    clear hrd hown
    clear HR1
    clear c_f_0 c_f_1 c_f_2 c_f_3 c_f_4
    have HK3 := Lib.hid (show Kept W w2 [(W.heap.size, 24, #[.int .i64 (opn : Int), .int .i64 (an : Int), .int .i64 (bn : Int), .string ⟨nl.toArray⟩, .slice A n c])] from HK2.out.next hb2)
    clear HK2
    clear hb2
    have c_f_0 : w2.cell? ⟨W.heap.size, 0, none⟩ = some (.int .i64 (opn : Int)) := HK3.out.cell 0 rfl 0
    have c_f_1 : w2.cell? ⟨W.heap.size, 1, none⟩ = some (.int .i64 (an : Int)) := HK3.out.cell 0 rfl 1
    have c_f_2 : w2.cell? ⟨W.heap.size, 2, none⟩ = some (.int .i64 (bn : Int)) := HK3.out.cell 0 rfl 2
    have c_f_3 : w2.cell? ⟨W.heap.size, 3, none⟩ = some (.string ⟨nl.toArray⟩) := HK3.out.cell 0 rfl 3
    have c_f_4 : w2.cell? ⟨W.heap.size, 4, none⟩ = some (.slice A n c) := HK3.out.cell 0 rfl 4
    go_wp2_with fail
    with_reducible refine (rPutUint_c A2 ((uencB opn).length + (uencB an).length) c2 w2.heap.size (uencB opn ++ uencB an) bn (by omega) _ HR2.out (Nat.le_refl _) (by omega)).mono ?_
    rintro e w3 ⟨v3, rfl, hown, hb3⟩
    obtain ⟨A3, c3, rfl, _, _, _, hrd⟩ := own_reads hown
    have HR3 := Lib.hid hrd
    clear hrd hown
    clear HR2
    clear c_f_0 c_f_1 c_f_2 c_f_3 c_f_4
    have HK4 := Lib.hid (show Kept W w3 [(W.heap.size, 24, #[.int .i64 (opn : Int), .int .i64 (an : Int), .int .i64 (bn : Int), .string ⟨nl.toArray⟩, .slice A n c])] from HK3.out.next hb3)
    clear HK3
    clear hb3
    have c_f_0 : w3.cell? ⟨W.heap.size, 0, none⟩ = some (.int .i64 (opn : Int)) := HK4.out.cell 0 rfl 0
    have c_f_1 : w3.cell? ⟨W.heap.size, 1, none⟩ = some (.int .i64 (an : Int)) := HK4.out.cell 0 rfl 1
    have c_f_2 : w3.cell? ⟨W.heap.size, 2, none⟩ = some (.int .i64 (bn : Int)) := HK4.out.cell 0 rfl 2
    have c_f_3 : w3.cell? ⟨W.heap.size, 3, none⟩ = some (.string ⟨nl.toArray⟩) := HK4.out.cell 0 rfl 3
    have c_f_4 : w3.cell? ⟨W.heap.size, 4, none⟩ = some (.slice A n c) := HK4.out.cell 0 rfl 4
    go_wp2_with fail
    with_reducible refine (rPutText_c A3 ((uencB opn).length + (uencB an).length + (uencB bn).length) c3 w3.heap.size (uencB opn ++ uencB an ++ uencB bn) nl _ HR3.out (Nat.le_refl _) (by omega) (by omega)).mono ?_
    rintro e w4 ⟨v4, rfl, hown, hb4⟩
    obtain ⟨A4, c4, rfl, _, _, _, hrd⟩ := own_reads hown
    have HR4 := Lib.hid hrd
    clear hrd hown
    clear HR3
    clear c_f_0 c_f_1 c_f_2 c_f_3 c_f_4
    have HK5 := Lib.hid (show Kept W w4 [(W.heap.size, 24, #[.int .i64 (opn : Int), .int .i64 (an : Int), .int .i64 (bn : Int), .string ⟨nl.toArray⟩, .slice A n c])] from HK4.out.next hb4)
    clear HK4
    clear hb4
    have c_f_0 : w4.cell? ⟨W.heap.size, 0, none⟩ = some (.int .i64 (opn : Int)) := HK5.out.cell 0 rfl 0
    have c_f_1 : w4.cell? ⟨W.heap.size, 1, none⟩ = some (.int .i64 (an : Int)) := HK5.out.cell 0 rfl 1
    have c_f_2 : w4.cell? ⟨W.heap.size, 2, none⟩ = some (.int .i64 (bn : Int)) := HK5.out.cell 0 rfl 2
    have c_f_3 : w4.cell? ⟨W.heap.size, 3, none⟩ = some (.string ⟨nl.toArray⟩) := HK5.out.cell 0 rfl 3
    have c_f_4 : w4.cell? ⟨W.heap.size, 4, none⟩ = some (.slice A n c) := HK5.out.cell 0 rfl 4
    go_wp2_with fail
    with_reducible refine (rPutUint_c A4 ((uencB opn).length + (uencB an).length + (uencB bn).length + (textB nl).length) c4 w4.heap.size (uencB opn ++ uencB an ++ uencB bn ++ textB nl) n (by omega) _ HR4.out (Nat.le_refl _) (by omega)).mono ?_
    rintro e w5 ⟨v5, rfl, hown, hb5⟩
    obtain ⟨A5, c5, rfl, _, _, _, hrd⟩ := own_reads hown
    have HO := Lib.hid (ownsRow_base (base' := W.heap.size + 1) hown (HK5.out.lt 0 rfl))
    have HR5 := Lib.hid hrd
    clear hrd hown
    clear HR4
    clear c_f_0 c_f_1 c_f_2 c_f_3 c_f_4
    have HK6 := Lib.hid (show Kept W w5 [(W.heap.size, 24, #[.int .i64 (opn : Int), .int .i64 (an : Int), .int .i64 (bn : Int), .string ⟨nl.toArray⟩, .slice A n c])] from HK5.out.next hb5)
    clear HK5
    clear hb5
    have hnn : (uencB opn).length + (uencB an).length + (uencB bn).length + (textB nl).length + (uencB n).length = hd.length := by rw [HH]; simp only [List.length_append]
    have hbb : uencB opn ++ uencB an ++ uencB bn ++ textB nl ++ uencB n = hd := by rw [HH]
    rw [hnn] at HO ⊢
    rw [hbb] at HO
    clear hnn hbb HH HR5 e1 e2 e3 e4 e5
    have c_f_0 : w5.cell? ⟨W.heap.size, 0, none⟩ = some (.int .i64 (opn : Int)) := HK6.out.cell 0 rfl 0
    have c_f_1 : w5.cell? ⟨W.heap.size, 1, none⟩ = some (.int .i64 (an : Int)) := HK6.out.cell 0 rfl 1
    have c_f_2 : w5.cell? ⟨W.heap.size, 2, none⟩ = some (.int .i64 (bn : Int)) := HK6.out.cell 0 rfl 2
    have c_f_3 : w5.cell? ⟨W.heap.size, 3, none⟩ = some (.string ⟨nl.toArray⟩) := HK6.out.cell 0 rfl 3
    have c_f_4 : w5.cell? ⟨W.heap.size, 4, none⟩ = some (.slice A n c) := HK6.out.cell 0 rfl 4
    go_wp2
    clear c_f_0 c_f_1 c_f_2 c_f_3 c_f_4
    go_loopw [3, 4] (fun v i wr => ∃ (k : Nat), k ≤ n ∧ i = .int .i64 k ∧ Hid (wr.ownsRow (W.heap.size + 1) 5 1 v (hd.length + (encL (ks.take k)).length) (byteCells (hd ++ encL (ks.take k)))) ∧ Hid (Kept W wr [(W.heap.size, 24, #[.int .i64 (opn : Int), .int .i64 (an : Int), .int .i64 (bn : Int), .string ⟨nl.toArray⟩, .slice A n c])])) (fun _ i _ => n - (intOf i).toNat)
    case atStart => exact ⟨0, Nat.zero_le _, rfl, Lib.hid (by rw [List.take_zero, encL, List.length_nil, List.append_nil, Nat.add_zero]; exact HO.out), HK6⟩
    case round =>
      clear HK6 HO
      obtain ⟨k, hk, rfl, HO, HK⟩ := hrel
      have hz := HK.out.lt 0 rfl
      by_cases hlt : k < n
      · obtain ⟨ad, op', a', b', name', A', n', c', t', v', rfl, hkt, hvt, hve, hft, d0, d1, d2, d3, d4⟩ := HKI.out wr (HB.out.trans (HK.out.bel.mono hBW)) k hlt
        have ihk := IH.out k v' t' hvt hkt
        subst hve
        have HIK := Lib.hid ihk
        have HKT := Lib.hid hkt
        have i1 : (0 : Int) ≤ (k : Int) := by omega
        have i2 : (k : Int) < (n : Int) := by omega
        clear hkt hvt ihk
        have HEV := Lib.hid (everyL_get HEL.out HKT.out)
        have hck := HCT.out _ _ HKT.out
        have htc := HTC.out _ _ HKT.out
        have hhd := HHD.out
        have hel2 := encF_len t' HEV.out (by omega)
        have HT2 := Lib.hid (show encL (ks.take (k + 1)) = encL (ks.take k) ++ encF t' from by rw [take_snoc_of ks k t' HKT.out, encL_snoc])
        generalize encL (ks.take k) = el at HO htc HT2 ⊢
        obtain ⟨A2, c2, rfl, _, _, _, hr2⟩ := own_reads HO.out
        have HR2 := Lib.hid hr2
        clear hr2
        have c_f_0 : wr.cell? ⟨W.heap.size, 0, none⟩ = some (.int .i64 (opn : Int)) := HK.out.cell 0 rfl 0
        have c_f_1 : wr.cell? ⟨W.heap.size, 1, none⟩ = some (.int .i64 (an : Int)) := HK.out.cell 0 rfl 1
        have c_f_2 : wr.cell? ⟨W.heap.size, 2, none⟩ = some (.int .i64 (bn : Int)) := HK.out.cell 0 rfl 2
        have c_f_3 : wr.cell? ⟨W.heap.size, 3, none⟩ = some (.string ⟨nl.toArray⟩) := HK.out.cell 0 rfl 3
        have c_f_4 : wr.cell? ⟨W.heap.size, 4, none⟩ = some (.slice (some ad) n c) := HK.out.cell 0 rfl 4
        go_wp2_with fail
        clear d0 d1 d2 d3 d4
        with_reducible refine (HIK.out HEV.out (by omega) _ (HB.out.trans (HK.out.bel.mono hBW)) (Nat.le_trans hBW HK.out.size)).mono ?_
        rintro e w2 ⟨v2, rfl, hown2, hb2⟩
        obtain ⟨A3, c3, rfl, _, _, _, hr3⟩ := own_reads hown2
        have HO2 := Lib.hid (own_below HO.out hb2 (Nat.le_refl _))
        have HR3 := Lib.hid hr3
        clear hr3 hown2 HO HR2
        clear c_f_0 c_f_1 c_f_2 c_f_3 c_f_4
        have HK7 := Lib.hid (show Kept W w2 [(W.heap.size, 24, #[.int .i64 (opn : Int), .int .i64 (an : Int), .int .i64 (bn : Int), .string ⟨nl.toArray⟩, .slice (some ad) n c])] from HK.out.next hb2)
        clear HK
        clear hb2
        rw [Nat.zero_add] at *
        rw [List.nil_append] at HR3
        have hzz2 := HK7.out.size
        go_wp2_with (at_builtin; go_must (refine wpList_append_any _ rfl _ _ 37 rfl (W.heap.size + 1) 5 i0 _ 1 1 Try.underlying37 hi0 hz0 hz1 hz2 rfl (by omega) _ _ _ rfl HO2.out w2.heap.size A3 _ c3 _ rfl HR3.out (byteCells_one _) (by unfold maxLen; omega) (by omega) (HK7.out.lt 0 rfl) ?_); intro v3 w3 hown3 hg3 _)
        have HK3 := Lib.hid (HK7.out.own hg3 (fun g' e' => ⟨by have := own_ge HO2.out g' e'; omega, fun x hx => by have := own_ge HO2.out g' e'; simp at hx; subst hx; simp; omega⟩))
        have HO3 := Lib.hid (show w3.ownsRow (W.heap.size + 1) 5 1 v3 (hd.length + (encL (ks.take (k + 1))).length) (byteCells (hd ++ encL (ks.take (k + 1)))) from by rw [HT2.out, List.length_append, ← Nat.add_assoc, ← List.append_assoc, byteCells_append (hd ++ el)]; exact hown3)
        exact ⟨⟨k + 1, by omega, rfl, HO3, HK3⟩, by simp [intOf]; omega⟩
      · obtain rfl : n = k := by omega
        have c_f_0 : wr.cell? ⟨W.heap.size, 0, none⟩ = some (.int .i64 (opn : Int)) := HK.out.cell 0 rfl 0
        have c_f_1 : wr.cell? ⟨W.heap.size, 1, none⟩ = some (.int .i64 (an : Int)) := HK.out.cell 0 rfl 1
        have c_f_2 : wr.cell? ⟨W.heap.size, 2, none⟩ = some (.int .i64 (bn : Int)) := HK.out.cell 0 rfl 2
        have c_f_3 : wr.cell? ⟨W.heap.size, 3, none⟩ = some (.string ⟨nl.toArray⟩) := HK.out.cell 0 rfl 3
        have c_f_4 : wr.cell? ⟨W.heap.size, 4, none⟩ = some (.slice A n c) := HK.out.cell 0 rfl 4
        have HO2 := Lib.hid (show wr.ownsRow W.heap.size 5 1 _ (0 + (hd ++ encL ks).length) (byteCells ([] ++ (hd ++ encL ks))) from by have h := HO.out; rw [List.take_of_length_le (by rw [HN.out]; exact Nat.le_refl _)] at h; rw [Nat.zero_add, List.nil_append, List.length_append]; exact ownsRow_base h (by omega))
        clear HO
        go_wp2
        go_ret
        exact ⟨_, rfl, HO2.out, HK.out.bel⟩
end Go.Proofs.Ytadidldkphimfaa
