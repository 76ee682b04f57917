/- Lemmas and contracts that the proof of TopBytes uses, part 4 of 12: each is a theorem for every input that its premises allow. -/
import Derived.Lib.SlBytesConst
import Derived.StillTailTactics
import Derived.Deep.RegionHeld3
import Derived.Deep.DeepCutAuto
import Derived.Laws.MakeOwn
import Derived.ChangeKeysEq
import Derived.Calls
import Derived.Orders
import Derived.Test.YtpokkciheejeiaaGreatDoorTbC
set_option linter.unusedVariables false
set_option linter.unusedSimpArgs false
namespace Go.Proofs.YtpokkciheejeiaaGreatDoor
section
set_option maxRecDepth 100000
open Go.RowKit
set_option maxHeartbeats 4000000 in
theorem Head_o (num q a : Int) (X : List Nat) (w : World) (hX : XOk X w) (hn : numB num = true) (hc : rightC ⟨q, a, []⟩ = true) :
    Calls Tryz.prog 61 #[.int .i64 num, .agg #[.int .i64 q, .int .i64 a, .slice none 0 0]] w fun e w' => ∃ v, e = .returned (.tuple #[v, .int .i64 0]) ∧ w'.ownsRow w.heap.size 5 1 v (frameB 1 (markS ++ putS num q a)).length (byteCells (frameB 1 (markS ++ putS num q a))) ∧ Below w.heap.size w w' := by
  have HN := fun W => Lib.hid (numbered_c num W)
  have HR := fun (X : List Nat) (W : World) => Lib.hid (cRight_s q a [] none 0 0 X W Sl.nil_ (by omega))
  obtain ⟨hq0, hq1, ha0, ha1⟩ := right_bd hc
  obtain ⟨hn1, hn2⟩ : 1 ≤ num ∧ num ≤ 99999999 := by unfold numB at hn; simpa using hn
  simp only at hq0 hq1 ha0 ha1
  generalize numB num = nb at HN hn
  subst hn
  generalize rightC ⟨q, a, []⟩ = rc at HR hc
  subst hc
  have HK1 := Lib.hid (show Held w [] X (w.alloc (.cells #[.int .i64 q, .int .i64 a, .slice none 0 0] 34)) [.box (w.heap.size) 34 #[.int .i64 q, .int .i64 a, .slice none 0 0]] [] from ((Held.start w hX).alloc_at 34 #[.int .i64 q, .int .i64 a, .slice none 0 0] (w.heap.size) (by simp)))
  go_enter Tryz.func61, Tryz.ntmps61
  go_wp2_with (first | (go_at_call 53; refine ((HN _).out).mono ?_; rintro e w' ⟨rfl, rfl⟩) | fail)
  with_reducible refine ((HR [] _).out).mono ?_
  rintro e w1 ⟨rfl, hb⟩
  have HK2 := Lib.hid (show Held w [] X w1 [.box (w.heap.size) 34 #[.int .i64 q, .int .i64 a, .slice none 0 0]] [] from (HK1.out.on hb))
  clear HK1
  clear hb
  have c_c_0_3 : w1.cell? ⟨w.heap.size, 0, none⟩ = some (.int .i64 q) := HK2.out.cell 0 rfl 0
  have c_c_1_4 : w1.cell? ⟨w.heap.size, 1, none⟩ = some (.int .i64 a) := HK2.out.cell 0 rfl 1
  have c_c_2_5 : w1.cell? ⟨w.heap.size, 2, none⟩ = some (.slice none 0 0) := HK2.out.cell 0 rfl 2
  have kc := Lib.run_convert_bytes_const (P := Tryz.prog) w1 50 5 #[.int .u8 102, .int .u8 98, .int .u8 120, .int .u8 49] 4 4 Tryz.underlying50 Tryz.underlying5
  have lt1 : w.heap.size < w1.heap.size := HK2.out.lt 0 rfl
  go_wp2_with fail
  clear c_c_0_3 c_c_1_4 c_c_2_5
  clear kc
  have HK6 := Lib.hid (show Held w [] X (w1.alloc (.cells #[.int .u8 102, .int .u8 98, .int .u8 120, .int .u8 49] 5 (4, 5))) [.box (w.heap.size) 34 #[.int .i64 q, .int .i64 a, .slice none 0 0]] [Sl.fact byteSh (some ⟨w1.heap.size, 0, none⟩) 4 4 markS] from HK2.out.marked #[.int .u8 102, .int .u8 98, .int .u8 120, .int .u8 49] 5 (4, 5) markS rfl (by unfold maxLen; decide))
  clear HK2
  with_reducible refine (put_s (some ⟨w1.heap.size, 0, none⟩) 4 4 markS num q a _ _ _ HK6.out.xok' (HK6.out.sl 0 rfl) (by omega) (by omega) (by omega) hq0 hq1 ha0 ha1).mono ?_
  rintro e w2 ⟨A2, c2, rfl, hsl, hb⟩
  have hl := putS_len (n := num) (q := q) (a := a) (by omega) (by omega) (by omega)
  have HPl := Lib.hid (show (markS ++ putS num q a).length + 7 = (frameB 1 (markS ++ putS num q a)).length from (frameB_length 1 (markS ++ putS num q a)).symm)
  have HML := Lib.hid (show (markS ++ putS num q a).length = 4 + (putS num q a).length from by rw [List.length_append]; rfl)
  have HK7 := Lib.hid (show Held w [] X w2 [.box (w.heap.size) 34 #[.int .i64 q, .int .i64 a, .slice none 0 0]] [Sl.fact byteSh A2 (4 + (putS num q a).length) c2 (markS ++ putS num q a), Sl.fact byteSh (some ⟨w1.heap.size, 0, none⟩) 4 4 markS] from ((HK6.out.on hb).know (Sl.fact byteSh A2 (4 + (putS num q a).length) c2 (markS ++ putS num q a)) hsl))
  clear HK6
  clear hb
  clear hsl
  have hs2 := HK7.out.size
  go_wp2_with fail
  with_reducible refine (frPut_c 1 A2 (4 + (putS num q a).length) c2 w2.heap.size (markS ++ putS num q a) w2 (by omega) (by omega) (by omega) (HK7.out.sl 0 rfl).bytes (Nat.le_refl _)).mono ?_
  rintro e w3 ⟨v, rfl, hown, hb⟩
  have HK8 := Lib.hid (show Held w [] X w3 [.box (w.heap.size) 34 #[.int .i64 q, .int .i64 a, .slice none 0 0]] [Sl.fact byteSh A2 (4 + (putS num q a).length) c2 (markS ++ putS num q a), Sl.fact byteSh (some ⟨w1.heap.size, 0, none⟩) 4 4 markS] from (HK7.out.on hb))
  clear HK7
  clear hb
  go_wp2
  go_ret2
  refine ⟨v, rfl, ?_, HK8.out.below⟩
  rw [← HPl.out, HML.out]
  exact ownsRow_base hown hs2
theorem makeR_len (c : Cx) : ∀ (l : List Evt), okL c l → (recsB c l).length ≤ 111 * l.length
  | [], _ => by simp [recsB]
  | e :: l, h => by
    have h1 := bytesC_len h.1
    have h2 := makeR_len (nextC c e) l h.2
    simp only [recsB, List.length_append, frameB_length, List.length_cons]
    omega
theorem okL_pre : ∀ (a b : List Evt) (c : Cx), okL c (a ++ b) → okL c a
  | [], _, _, _ => trivial
  | x :: a, b, c, h => ⟨h.1, okL_pre a b _ h.2⟩
theorem okL_at : ∀ (c : Cx) (l : List Evt), okL c l → ∀ (k : Nat) (e : Evt), l[k]? = some e → errC (ctxA c (l.take k)) e = 0 ∧ nextC (ctxA c (l.take k)) e = ctxA c (l.take (k + 1)) ∧ recsB c (l.take k) ++ frameB 2 (bytesC (ctxA c (l.take k)) e) = recsB c (l.take (k + 1))
  | c, l, h, k, e, he => by
    have ht : l.take (k + 1) = l.take k ++ [e] := by rw [List.take_add_one, he]; rfl
    have hk : okL c (l.take (k + 1)) := okL_pre (l.take (k + 1)) (l.drop (k + 1)) c (by rw [List.take_append_drop]; exact h)
    rw [ht] at hk ⊢
    exact ⟨((okL_snoc _ _ _).1 hk).2, (ctxA_snoc _ _ _).symm, (recsB_snoc _ _ _).symm⟩
set_option maxHeartbeats 4000000 in
theorem Make_a (num q a : Int) (l : List Evt) (sd : Bool) (Ae : Option Addr) (n ce : Nat) (cx : Nat → Cx) (bb : Nat → List UInt8) (X : List Nat) (w : World) (hX : XOk X w) (hse : Sl evSh w X Ae n ce l) (hn : numB num = true) (hc : rightC ⟨q, a, []⟩ = true)
    (hb0 : bb 0 = frameB 1 (markS ++ putS num q a)) (hc0 : cx 0 = ⟨q, a, []⟩) (hst : ∀ k e, l[k]? = some e → errC (cx k) e = 0 ∧ nextC (cx k) e = cx (k + 1) ∧ bb k ++ frameB 2 (bytesC (cx k) e) = bb (k + 1)) (hbl : ∀ k, k ≤ n → (bb k).length ≤ 100000000) (hcr : ∀ k, k ≤ n → rightC (cx k) = true) :
    Calls Tryz.prog 20 #[.int .i64 num, .agg #[.int .i64 q, .int .i64 a, .slice none 0 0], .slice Ae n ce, .bool sd] w fun e w' => ∃ A c, e = .returned (.tuple #[.slice A (bb n ++ (if sd = true then frameB 3 (putS (n : Int) (cx n).q (cx n).a) else [])).length c, .int .i64 0]) ∧ Sl byteSh w' X A (bb n ++ (if sd = true then frameB 3 (putS (n : Int) (cx n).q (cx n).a) else [])).length c (bb n ++ (if sd = true then frameB 3 (putS (n : Int) (cx n).q (cx n).a) else [])) ∧ Below w.heap.size w w' := by
  have HH := fun (X : List Nat) (W : World) (hX : XOk X W) => Lib.hid (Head_o num q a X W hX hn hc)
  rw [← hb0] at HH
  obtain ⟨i0, hi0, hz0, hz1, hz2⟩ := info_parts Tryz.infoU8
  have HC0 := Lib.hid hc0
  have HST := Lib.hid hst
  have HBL := Lib.hid hbl
  have HCR := Lib.hid hcr
  have HLE := Lib.hid hse.len
  clear hc0 hst hbl hcr hb0 hn hc
  have HK1 := Lib.hid (show Held w [] X (w.alloc (.cells #[.int .i64 q, .int .i64 a, .slice none 0 0] 34)) [.box (w.heap.size) 34 #[.int .i64 q, .int .i64 a, .slice none 0 0]] [Sl.fact evSh Ae n ce l] from (((Held.start w hX).alloc_at 34 #[.int .i64 q, .int .i64 a, .slice none 0 0] (w.heap.size) (by simp)).know0 (Sl.fact evSh Ae n ce l) hse))
  clear hse
  go_enter Tryz.func20, Tryz.ntmps20
  have c_b_0_2 : (w.alloc (.cells #[.int .i64 q, .int .i64 a, .slice none 0 0] 34)).cell? ⟨w.heap.size, 0, none⟩ = some (.int .i64 q) := HK1.out.cell 0 rfl 0
  have c_b_1_3 : (w.alloc (.cells #[.int .i64 q, .int .i64 a, .slice none 0 0] 34)).cell? ⟨w.heap.size, 1, none⟩ = some (.int .i64 a) := HK1.out.cell 0 rfl 1
  have c_b_2_4 : (w.alloc (.cells #[.int .i64 q, .int .i64 a, .slice none 0 0] 34)).cell? ⟨w.heap.size, 2, none⟩ = some (.slice none 0 0) := HK1.out.cell 0 rfl 2
  go_wp2_with fail
  with_reducible refine ((HH _ _ HK1.out.xok').out).mono ?_
  rintro e w1 ⟨v, rfl, hown, hb⟩
  clear c_b_0_2 c_b_1_3 c_b_2_4
  have HK5 := Lib.hid (show Held w [] X w1 [.row 5 1 (v) ((bb 0).length) (byteCells (bb 0)), .box (w.heap.size) 34 #[.int .i64 q, .int .i64 a, .slice none 0 0]] [Sl.fact evSh Ae n ce l] from HK1.out.new_row hb hown)
  clear HK1
  clear hb hown
  have c_b_0_6 : w1.cell? ⟨w.heap.size, 0, none⟩ = some (.int .i64 q) := HK5.out.cell 1 rfl 0
  have c_b_1_7 : w1.cell? ⟨w.heap.size, 1, none⟩ = some (.int .i64 a) := HK5.out.cell 1 rfl 1
  have c_b_2_8 : w1.cell? ⟨w.heap.size, 2, none⟩ = some (.slice none 0 0) := HK5.out.cell 1 rfl 2
  go_wp2_with fail
  clear c_b_0_6 c_b_1_7 c_b_2_8
  have HK9 := Lib.hid (show Held w [] X (w1.alloc (.cells #[.int .i64 q, .int .i64 a, .slice none 0 0] 34)) [.box (w1.heap.size) 34 #[.int .i64 q, .int .i64 a, .slice none 0 0], .row 5 1 (v) ((bb 0).length) (byteCells (bb 0)), .box (w.heap.size) 34 #[.int .i64 q, .int .i64 a, .slice none 0 0]] [Sl.fact evSh Ae n ce l] from HK5.out.alloc_at 34 #[.int .i64 q, .int .i64 a, .slice none 0 0] (w1.heap.size) (by simp))
  clear HK5
  generalize w1.alloc (.cells #[.int .i64 q, .int .i64 a, .slice none 0 0] 34) = w2 at HK9 ⊢
  generalize w1.heap.size = gc at HK9 ⊢
  go_loopw [10, 32] (fun v i wr => ∃ (k : Nat) (An : Option Addr) (nn cn : Nat) (vb : Value), k ≤ n ∧ i = .int .i64 (k : Int) ∧ v = vb ∧ nn ≤ 1000 ∧ Hid (Held w [] X wr [.box (gc) 34 #[.int .i64 (cx k).q, .int .i64 (cx k).a, .slice An nn cn], .row 5 1 (vb) ((bb k).length) (byteCells (bb k)), .box (w.heap.size) 34 #[.int .i64 q, .int .i64 a, .slice none 0 0]] [Sl.fact nameSh An nn cn (cx k).ns, Sl.fact evSh Ae n ce l])) (fun _ i _ => n - (intOf i).toNat)
  case atStart => exact ⟨0, none, 0, 0, v, Nat.zero_le _, rfl, rfl, by omega, by rw [HC0.out]; exact Lib.hid (HK9.out.know (Sl.fact nameSh none 0 0 []) Sl.nil_)⟩
  case round =>
    clear HK9 HH
    obtain ⟨k, An, nn, cn, vb, hk, rfl, hvb, hnn, HKl⟩ := hrel
    replace hvb := hvb.symm
    subst hvb
    by_cases hlt : k < n
    · skip
      obtain ⟨e0, he⟩ : ∃ e0, l[k]? = some e0 := ⟨_, List.getElem?_eq_getElem (by have := HLE.out; omega)⟩
      obtain ⟨h1, h2, h3⟩ := HST.out k e0 he
      obtain ⟨ad, rfl, hbk, hbx, hoe, y0, y1, y2, y3, y4, y5, y6⟩ := ev_at (HKl.out.sl 1 rfl) he
      have d1 : decide ((k : Int) < (n : Int)) = true := by simp; omega
      have HST1 := Lib.hid h1
      have HST2 := Lib.hid h2
      have HST3 := Lib.hid h3
      have HHE := Lib.hid he
      clear h1 h2 h3 he
      go_upto_region 8 with (fail)
      clear y0 y1 y2 y3 y4 y5 y6 hbk hbx d1
      have HK10 := Lib.hid (show Held w [] X (wr.alloc (.cells #[.int .i64 e0.q, .int .i64 e0.a, .int .i64 e0.k, .string e0.cm, .int .i64 e0.x, .int .i64 e0.y, .int .i64 e0.z] 44)) [.box (wr.heap.size) 44 #[.int .i64 e0.q, .int .i64 e0.a, .int .i64 e0.k, .string e0.cm, .int .i64 e0.x, .int .i64 e0.y, .int .i64 e0.z], .box (gc) 34 #[.int .i64 (cx k).q, .int .i64 (cx k).a, .slice An nn cn], .row 5 1 (vb) ((bb k).length) (byteCells (bb k)), .box (w.heap.size) 34 #[.int .i64 q, .int .i64 a, .slice none 0 0]] [Sl.fact nameSh An nn cn (cx k).ns, Sl.fact evSh (some ad) n ce l] from HKl.out.alloc_at 44 #[.int .i64 e0.q, .int .i64 e0.a, .int .i64 e0.k, .string e0.cm, .int .i64 e0.x, .int .i64 e0.y, .int .i64 e0.z] (wr.heap.size) (by simp))
      clear HKl
      generalize wr.alloc (.cells #[.int .i64 e0.q, .int .i64 e0.a, .int .i64 e0.k, .string e0.cm, .int .i64 e0.x, .int .i64 e0.y, .int .i64 e0.z] 44) = w3 at HK10 ⊢
      generalize wr.heap.size = ge at HK10 ⊢
      have c_c_0_11 : w3.cell? ⟨gc, 0, none⟩ = some (.int .i64 (cx k).q) := HK10.out.cell 1 rfl 0
      have c_c_1_12 : w3.cell? ⟨gc, 1, none⟩ = some (.int .i64 (cx k).a) := HK10.out.cell 1 rfl 1
      have c_c_2_13 : w3.cell? ⟨gc, 2, none⟩ = some (.slice An nn cn) := HK10.out.cell 1 rfl 2
      have c_e_0_14 : w3.cell? ⟨ge, 0, none⟩ = some (.int .i64 e0.q) := HK10.out.cell 0 rfl 0
      have c_e_1_15 : w3.cell? ⟨ge, 1, none⟩ = some (.int .i64 e0.a) := HK10.out.cell 0 rfl 1
      have c_e_2_16 : w3.cell? ⟨ge, 2, none⟩ = some (.int .i64 e0.k) := HK10.out.cell 0 rfl 2
      have c_e_3_17 : w3.cell? ⟨ge, 3, none⟩ = some (.string e0.cm) := HK10.out.cell 0 rfl 3
      have c_e_4_18 : w3.cell? ⟨ge, 4, none⟩ = some (.int .i64 e0.x) := HK10.out.cell 0 rfl 4
      have c_e_5_19 : w3.cell? ⟨ge, 5, none⟩ = some (.int .i64 e0.y) := HK10.out.cell 0 rfl 5
      have c_e_6_20 : w3.cell? ⟨ge, 6, none⟩ = some (.int .i64 e0.z) := HK10.out.cell 0 rfl 6
      go_wp2_with fail
      with_reducible refine (Add_s (cx k).q (cx k).a (cx k).ns An nn cn e0 _ w3 HK10.out.xok' (HK10.out.sl 0 rfl) hnn (by unfold okE at hoe; exact hoe.2.2.2.1)).mono ?_
      rintro e w4 ⟨hb, ⟨hne, -⟩ | ⟨-, A3, c3, A2, n2, c2, rfl, hsb, hsn⟩⟩
      · skip
        exact absurd HST1.out hne
      rw [HST2.out] at hsn
      have HFB : ∀ f, frameB 2 (bytesC (cx k) e0) = f → Hid (frameB 2 (bytesC (cx k) e0) = f) := fun _ h => h
      generalize hfb : frameB 2 (bytesC (cx k) e0) = fb at hsb HST3 ⊢
      replace HFB := HFB _ hfb
      clear hfb
      have hn2 : n2 ≤ 1000 := by
        have h1 := hsn.len
        have h2 := HCR.out (k + 1) (by omega)
        unfold rightC at h2
        simp only [Bool.and_eq_true, decide_eq_true_iff] at h2
        have h3 := h2.2
        unfold rightB at h3
        rw [decide_eq_true_iff] at h3
        omega
      have hfl : fb.length ≤ 111 := by rw [← HFB.out, frameB_length]; have := bytesC_len HST1.out; omega
      clear c_c_0_11 c_c_1_12 c_c_2_13 c_e_0_14 c_e_1_15 c_e_2_16 c_e_3_17 c_e_4_18 c_e_5_19 c_e_6_20
      have HK21 := Lib.hid (show Held w [] X w4 [.box (ge) 44 #[.int .i64 e0.q, .int .i64 e0.a, .int .i64 e0.k, .string e0.cm, .int .i64 e0.x, .int .i64 e0.y, .int .i64 e0.z], .box (gc) 34 #[.int .i64 (cx k).q, .int .i64 (cx k).a, .slice An nn cn], .row 5 1 (vb) ((bb k).length) (byteCells (bb k)), .box (w.heap.size) 34 #[.int .i64 q, .int .i64 a, .slice none 0 0]] [Sl.fact nameSh A2 n2 c2 (cx (k + 1)).ns, Sl.fact byteSh A3 fb.length c3 fb, Sl.fact nameSh An nn cn (cx k).ns, Sl.fact evSh (some ad) n ce l] from (((HK10.out.on hb).know (Sl.fact byteSh A3 fb.length c3 fb) hsb).know (Sl.fact nameSh A2 n2 c2 (cx (k + 1)).ns) hsn))
      clear HK10
      clear hb
      clear hsb hsn
      have HK22 := Lib.hid (show Held w [] X (w4.alloc (.cells #[.int .i64 e0.q, .int .i64 e0.a, .slice A2 n2 c2] 34)) [.box (w4.heap.size) 34 #[.int .i64 e0.q, .int .i64 e0.a, .slice A2 n2 c2], .box (ge) 44 #[.int .i64 e0.q, .int .i64 e0.a, .int .i64 e0.k, .string e0.cm, .int .i64 e0.x, .int .i64 e0.y, .int .i64 e0.z], .box (gc) 34 #[.int .i64 (cx k).q, .int .i64 (cx k).a, .slice An nn cn], .row 5 1 (vb) ((bb k).length) (byteCells (bb k)), .box (w.heap.size) 34 #[.int .i64 q, .int .i64 a, .slice none 0 0]] [Sl.fact nameSh A2 n2 c2 (cx (k + 1)).ns, Sl.fact byteSh A3 fb.length c3 fb, Sl.fact nameSh An nn cn (cx k).ns, Sl.fact evSh (some ad) n ce l] from HK21.out.alloc_at 34 #[.int .i64 e0.q, .int .i64 e0.a, .slice A2 n2 c2] (w4.heap.size) (by simp))
      clear HK21
      go_upto_region 9 with (fail)
      generalize w4.alloc (.cells #[.int .i64 e0.q, .int .i64 e0.a, .slice A2 n2 c2] 34) = w5 at HK22 ⊢
      generalize w4.heap.size = gd at HK22 ⊢
      have hbb := HBL.out k hk
      have HQ := Lib.hid (show e0.q = (cx (k + 1)).q from by rw [← HST2.out]; rfl)
      have HA := Lib.hid (show e0.a = (cx (k + 1)).a from by rw [← HST2.out]; rfl)
      go_upto_region 12 with (at_builtin; go_must (refine wpList_append_any _ rfl _ _ 50 rfl 0 5 i0 _ 1 1 Tryz.underlying50 hi0 hz0 hz1 hz2 rfl (by omega) _ _ _ rfl (HK22.out.row_at 3 rfl) w5.heap.size A3 fb.length c3 _ rfl (HK22.out.sl 1 rfl).bytes (byteCells_one fb) (by unfold maxLen; omega) (by omega) (Nat.zero_le _) ?_); intro v6 w6 hown6 hg6 hat6)
      replace hown6 : w6.ownsRow 0 5 1 v6 (bb (k + 1)).length (byteCells (bb (k + 1))) := by rw [← HST3.out, byteCells_append, List.length_append]; exact hown6
      have HK23 := Lib.hid (show Held w [] X w6 [.box (gd) 34 #[.int .i64 e0.q, .int .i64 e0.a, .slice A2 n2 c2], .box (ge) 44 #[.int .i64 e0.q, .int .i64 e0.a, .int .i64 e0.k, .string e0.cm, .int .i64 e0.x, .int .i64 e0.y, .int .i64 e0.z], .box (gc) 34 #[.int .i64 (cx k).q, .int .i64 (cx k).a, .slice An nn cn], .row 5 1 (v6) ((bb (k + 1)).length) (byteCells (bb (k + 1))), .box (w.heap.size) 34 #[.int .i64 q, .int .i64 a, .slice none 0 0]] [Sl.fact nameSh A2 n2 c2 (cx (k + 1)).ns, Sl.fact byteSh A3 fb.length c3 fb, Sl.fact nameSh An nn cn (cx k).ns, Sl.fact evSh (some ad) n ce l] from HK22.out.appended 3 rfl hown6 hg6 hat6)
      clear HK22
      clear hown6 hg6 hat6
      have c_d_0_24 : w6.cell? ⟨gd, 0, none⟩ = some (.int .i64 e0.q) := HK23.out.cell 0 rfl 0
      have c_d_1_25 : w6.cell? ⟨gd, 1, none⟩ = some (.int .i64 e0.a) := HK23.out.cell 0 rfl 1
      have c_d_2_26 : w6.cell? ⟨gd, 2, none⟩ = some (.slice A2 n2 c2) := HK23.out.cell 0 rfl 2
      have c_c_0_27 : w6.cell? ⟨gc, 0, none⟩ = some (.int .i64 (cx k).q) := HK23.out.cell 2 rfl 0
      have z_c_0_28 : w6.frozen? ⟨gc, 0, none⟩ = false := HK23.out.frozen 2 rfl 0
      have c_c_1_29 : w6.cell? ⟨gc, 1, none⟩ = some (.int .i64 (cx k).a) := HK23.out.cell 2 rfl 1
      have z_c_1_30 : w6.frozen? ⟨gc, 1, none⟩ = false := HK23.out.frozen 2 rfl 1
      have c_c_2_31 : w6.cell? ⟨gc, 2, none⟩ = some (.slice An nn cn) := HK23.out.cell 2 rfl 2
      have z_c_2_32 : w6.frozen? ⟨gc, 2, none⟩ = false := HK23.out.frozen 2 rfl 2
      have ne_33 : ¬ (gc = gd) := HK23.out.ne 2 0 (by decide) rfl rfl
      have ne_34 : ¬ (gd = gc) := HK23.out.ne 0 2 (by decide) rfl rfl
      go_wp2
      clear c_d_0_24 c_d_1_25 c_d_2_26 c_c_0_27 z_c_0_28 c_c_1_29 z_c_1_30 c_c_2_31 z_c_2_32 ne_33 ne_34
      have HK35 := Lib.hid (show Held w [] X (w6.setCell ⟨gc, 0, none⟩ (.int .i64 e0.q)) [.box (gd) 34 #[.int .i64 e0.q, .int .i64 e0.a, .slice A2 n2 c2], .box (ge) 44 #[.int .i64 e0.q, .int .i64 e0.a, .int .i64 e0.k, .string e0.cm, .int .i64 e0.x, .int .i64 e0.y, .int .i64 e0.z], .box (gc) 34 #[.int .i64 e0.q, .int .i64 (cx k).a, .slice An nn cn], .row 5 1 (v6) ((bb (k + 1)).length) (byteCells (bb (k + 1))), .box (w.heap.size) 34 #[.int .i64 q, .int .i64 a, .slice none 0 0]] [Sl.fact nameSh A2 n2 c2 (cx (k + 1)).ns, Sl.fact byteSh A3 fb.length c3 fb, Sl.fact nameSh An nn cn (cx k).ns, Sl.fact evSh (some ad) n ce l] from HK23.out.set_ 2 rfl 0 (.int .i64 e0.q))
      clear HK23
      have HK36 := Lib.hid (show Held w [] X ((w6.setCell ⟨gc, 0, none⟩ (.int .i64 e0.q)).setCell ⟨gc, 1, none⟩ (.int .i64 e0.a)) [.box (gd) 34 #[.int .i64 e0.q, .int .i64 e0.a, .slice A2 n2 c2], .box (ge) 44 #[.int .i64 e0.q, .int .i64 e0.a, .int .i64 e0.k, .string e0.cm, .int .i64 e0.x, .int .i64 e0.y, .int .i64 e0.z], .box (gc) 34 #[.int .i64 e0.q, .int .i64 e0.a, .slice An nn cn], .row 5 1 (v6) ((bb (k + 1)).length) (byteCells (bb (k + 1))), .box (w.heap.size) 34 #[.int .i64 q, .int .i64 a, .slice none 0 0]] [Sl.fact nameSh A2 n2 c2 (cx (k + 1)).ns, Sl.fact byteSh A3 fb.length c3 fb, Sl.fact nameSh An nn cn (cx k).ns, Sl.fact evSh (some ad) n ce l] from HK35.out.set_ 2 rfl 1 (.int .i64 e0.a))
      clear HK35
      have HK37 := Lib.hid (show Held w [] X (((w6.setCell ⟨gc, 0, none⟩ (.int .i64 e0.q)).setCell ⟨gc, 1, none⟩ (.int .i64 e0.a)).setCell ⟨gc, 2, none⟩ (.slice A2 n2 c2)) [.box (gd) 34 #[.int .i64 e0.q, .int .i64 e0.a, .slice A2 n2 c2], .box (ge) 44 #[.int .i64 e0.q, .int .i64 e0.a, .int .i64 e0.k, .string e0.cm, .int .i64 e0.x, .int .i64 e0.y, .int .i64 e0.z], .box (gc) 34 #[.int .i64 e0.q, .int .i64 e0.a, .slice A2 n2 c2], .row 5 1 (v6) ((bb (k + 1)).length) (byteCells (bb (k + 1))), .box (w.heap.size) 34 #[.int .i64 q, .int .i64 a, .slice none 0 0]] [Sl.fact nameSh A2 n2 c2 (cx (k + 1)).ns, Sl.fact byteSh A3 fb.length c3 fb, Sl.fact nameSh An nn cn (cx k).ns, Sl.fact evSh (some ad) n ce l] from HK36.out.set_ 2 rfl 2 (.slice A2 n2 c2))
      clear HK36
      have HK38 := Lib.hid (show Held w [] X (((w6.setCell ⟨gc, 0, none⟩ (.int .i64 e0.q)).setCell ⟨gc, 1, none⟩ (.int .i64 e0.a)).setCell ⟨gc, 2, none⟩ (.slice A2 n2 c2)) [.box (gc) 34 #[.int .i64 e0.q, .int .i64 e0.a, .slice A2 n2 c2], .row 5 1 (v6) ((bb (k + 1)).length) (byteCells (bb (k + 1))), .box (w.heap.size) 34 #[.int .i64 q, .int .i64 a, .slice none 0 0]] [Sl.fact nameSh A2 n2 c2 (cx (k + 1)).ns, Sl.fact byteSh A3 fb.length c3 fb, Sl.fact nameSh An nn cn (cx k).ns, Sl.fact evSh (some ad) n ce l] from (HK37.out.drop (List.Sublist.cons _ (List.Sublist.cons _ (List.Sublist.cons_cons _ (List.Sublist.cons_cons _ (List.Sublist.cons_cons _ List.Sublist.slnil)))))))
      clear HK37
      have HK39 := Lib.hid (show Held w [] X (((w6.setCell ⟨gc, 0, none⟩ (.int .i64 e0.q)).setCell ⟨gc, 1, none⟩ (.int .i64 e0.a)).setCell ⟨gc, 2, none⟩ (.slice A2 n2 c2)) [.box (gc) 34 #[.int .i64 e0.q, .int .i64 e0.a, .slice A2 n2 c2], .row 5 1 (v6) ((bb (k + 1)).length) (byteCells (bb (k + 1))), .box (w.heap.size) 34 #[.int .i64 q, .int .i64 a, .slice none 0 0]] [Sl.fact nameSh A2 n2 c2 (cx (k + 1)).ns, Sl.fact evSh (some ad) n ce l] from (HK38.out.forget (List.Sublist.cons_cons _ (List.Sublist.cons _ (List.Sublist.cons _ (List.Sublist.cons_cons _ List.Sublist.slnil))))))
      clear HK38
      have hw64 : wrap64 ((k : Int) + 1) = ((k + 1 : Nat) : Int) := by have := (HK39.out.sl 1 rfl).max; have := (HK39.out.sl 1 rfl).le; unfold maxLen at *; unfold wrap64; omega
      exact ⟨⟨k + 1, A2, n2, c2, v6, hlt, by rw [hw64], rfl, hn2, by rw [← HQ.out, ← HA.out]; exact HK39⟩, by rw [hw64]; simp [intOf]; omega⟩
    · skip
      obtain rfl : k = n := by omega
      have d0 : decide ((k : Int) < (k : Int)) = false := by simp
      have hcr := HCR.out k (Nat.le_refl _)
      have hbb := HBL.out k (Nat.le_refl _)
      have hkm := (HKl.out.sl 1 rfl).max
      have hkc := (HKl.out.sl 1 rfl).le
      unfold maxLen at hkm
      cases sd
      · skip
        have hvb := (fun g e => (((HKl.out.ents _ (List.mem_of_getElem? (i := 1) rfl)).2 g e).1).resolve_right (by simp))
        obtain ⟨A9, c9, rfl, h9⟩ := Sl.of_own (s := byteSh) (X := X) (HKl.out.row_at 1 rfl) (fun b hb e => by have h1 := hvb b e; have h2 := hX b hb; omega) (repAll_bytes _) Nat.zero_lt_one
        have c_c_0_10 : wr.cell? ⟨gc, 0, none⟩ = some (.int .i64 (cx k).q) := HKl.out.cell 0 rfl 0
        have c_c_1_11 : wr.cell? ⟨gc, 1, none⟩ = some (.int .i64 (cx k).a) := HKl.out.cell 0 rfl 1
        have c_c_2_12 : wr.cell? ⟨gc, 2, none⟩ = some (.slice An nn cn) := HKl.out.cell 0 rfl 2
        go_wp2
        clear c_c_0_10 c_c_1_11 c_c_2_12
        go_ret2
        exact ⟨A9, c9, by simp, by simpa using h9, HKl.out.below⟩
      · skip
        have c_c_0_10 : wr.cell? ⟨gc, 0, none⟩ = some (.int .i64 (cx k).q) := HKl.out.cell 0 rfl 0
        have c_c_1_11 : wr.cell? ⟨gc, 1, none⟩ = some (.int .i64 (cx k).a) := HKl.out.cell 0 rfl 1
        have c_c_2_12 : wr.cell? ⟨gc, 2, none⟩ = some (.slice An nn cn) := HKl.out.cell 0 rfl 2
        have hse : sealR (k : Int) (cx k) = (frameB 3 (putS (k : Int) (cx k).q (cx k).a), 0) := by unfold sealR; rw [if_neg (by rw [hcr]; simp)]
        have HSE := Lib.hid hse
        clear hse
        go_wp2_with fail
        with_reducible refine (Seal_s (k : Int) (cx k).q (cx k).a (cx k).ns An nn cn _ wr HKl.out.xok' (HKl.out.sl 0 rfl) hnn (by omega)).mono ?_
        unfold BytesPost
        rw [show (⟨(cx k).q, (cx k).a, (cx k).ns⟩ : Cx) = cx k from rfl, HSE.out]
        rintro e w2 ⟨hb, ⟨hne, -⟩ | ⟨-, A3, c3, rfl, hsb⟩⟩
        · skip
          exact absurd rfl hne
        generalize hfb : frameB 3 (putS (k : Int) (cx k).q (cx k).a) = fb at hsb ⊢
        have HFB := Lib.hid hfb
        clear hfb
        clear c_c_0_10 c_c_1_11 c_c_2_12
        have HK13 := Lib.hid (show Held w [] X w2 [.box (gc) 34 #[.int .i64 (cx k).q, .int .i64 (cx k).a, .slice An nn cn], .row 5 1 (vb) ((bb k).length) (byteCells (bb k)), .box (w.heap.size) 34 #[.int .i64 q, .int .i64 a, .slice none 0 0]] [Sl.fact byteSh A3 fb.length c3 fb, Sl.fact nameSh An nn cn (cx k).ns, Sl.fact evSh Ae k ce l] from ((HKl.out.on hb).know (Sl.fact byteSh A3 fb.length c3 fb) hsb))
        clear HKl
        clear hb
        clear hsb
        have hfm := (HK13.out.sl 0 rfl).max
        have hfn := (HK13.out.sl 0 rfl).le
        have hfl : fb.length ≤ 1000 := by rw [← HFB.out, frameB_length]; have := right_bd hcr; have := putS_len (n := (k : Int)) (q := (cx k).q) (a := (cx k).a) (by omega) (by omega) (by omega); omega
        go_upto_region 19 with (at_builtin; go_must (refine wpList_append_any _ rfl _ _ 50 rfl 0 5 i0 _ 1 1 Tryz.underlying50 hi0 hz0 hz1 hz2 rfl (by omega) _ _ _ rfl (HK13.out.row_at 1 rfl) w2.heap.size A3 fb.length c3 _ rfl (HK13.out.sl 0 rfl).bytes (byteCells_one fb) (by unfold maxLen; omega) (by omega) (Nat.zero_le _) ?_); intro v6 w6 hown6 hg6 hat6)
        replace hown6 : w6.ownsRow 0 5 1 v6 (bb k ++ fb).length (byteCells (bb k ++ fb)) := by rw [byteCells_append, List.length_append]; exact hown6
        have HK14 := Lib.hid (show Held w [] X w6 [.box (gc) 34 #[.int .i64 (cx k).q, .int .i64 (cx k).a, .slice An nn cn], .row 5 1 (v6) ((bb k ++ fb).length) (byteCells (bb k ++ fb)), .box (w.heap.size) 34 #[.int .i64 q, .int .i64 a, .slice none 0 0]] [Sl.fact byteSh A3 fb.length c3 fb, Sl.fact nameSh An nn cn (cx k).ns, Sl.fact evSh Ae k ce l] from HK13.out.appended 1 rfl hown6 hg6 hat6)
        clear HK13
        clear hown6 hg6 hat6
        have hvb := (fun g e => (((HK14.out.ents _ (List.mem_of_getElem? (i := 1) rfl)).2 g e).1).resolve_right (by simp))
        obtain ⟨A9, c9, rfl, h9⟩ := Sl.of_own (s := byteSh) (X := X) (HK14.out.row_at 1 rfl) (fun b hb e => by have h1 := hvb b e; have h2 := hX b hb; omega) (repAll_bytes _) Nat.zero_lt_one
        go_wp2
        go_ret2
        exact ⟨A9, c9, by simp [HFB.out], by simpa [HFB.out] using h9, HK14.out.below⟩
theorem Make_s (num q a : Int) (l : List Evt) (sd : Bool) (Ae : Option Addr) (n ce : Nat) (X : List Nat) (w : World) (hX : XOk X w) (hse : Sl evSh w X Ae n ce l) (hn : numB num = true) (hc : rightC ⟨q, a, []⟩ = true) (hok : okL ⟨q, a, []⟩ l) (hl : n ≤ 100000) :
    Calls Tryz.prog 20 #[.int .i64 num, .agg #[.int .i64 q, .int .i64 a, .slice none 0 0], .slice Ae n ce, .bool sd] w fun e w' => ∃ A c, e = .returned (.tuple #[.slice A (makeR num ⟨q, a, []⟩ l sd).length c, .int .i64 0]) ∧ Sl byteSh w' X A (makeR num ⟨q, a, []⟩ l sd).length c (makeR num ⟨q, a, []⟩ l sd) ∧ Below w.heap.size w w' := by
  have hlen := hse.len
  have hpre : ∀ k, okL ⟨q, a, []⟩ (l.take k) := fun k => okL_pre (l.take k) (l.drop k) _ (by rw [List.take_append_drop]; exact hok)
  have h := Make_a num q a l sd Ae n ce (fun k => ctxA ⟨q, a, []⟩ (l.take k)) (fun k => frameB 1 (markS ++ putS num q a) ++ recsB ⟨q, a, []⟩ (l.take k)) X w hX hse hn hc (by simp [recsB]) rfl (fun k e he => by
    obtain ⟨h1, h2, h3⟩ := okL_at _ _ hok k e he
    exact ⟨h1, h2, by simp only [List.append_assoc]; rw [h3]⟩) (fun k hk => by
    have h1 := makeR_len _ _ (hpre k)
    have h2 := right_bd hc
    have hb : 1 ≤ num ∧ num ≤ 99999999 := by unfold numB at hn; simpa using hn
    have h3 := putS_len (n := num) (q := q) (a := a) (by omega) (by simp only at h2; omega) (by simp only at h2; omega)
    have h4 : (l.take k).length ≤ 100000 := by rw [List.length_take]; omega
    have h5 : (markS ++ putS num q a).length ≤ 34 := by rw [List.length_append]; simp [markS]; omega
    simp only [List.length_append, frameB_length] at h5 ⊢
    have h6 : (recsB ⟨q, a, []⟩ (l.take k)).length ≤ 111 * 100000 := Nat.le_trans h1 (Nat.mul_le_mul_left _ h4)
    omega) (fun k hk => okL_right _ _ hc (hpre k))
  have e1 : l.take n = l := List.take_of_length_le (by omega)
  have e2 : (frameB 1 (markS ++ putS num q a) ++ recsB ⟨q, a, []⟩ (l.take n)) ++ (if sd = true then frameB 3 (putS (n : Int) (ctxA ⟨q, a, []⟩ (l.take n)).q (ctxA ⟨q, a, []⟩ (l.take n)).a) else []) = makeR num ⟨q, a, []⟩ l sd := by
    unfold makeR
    rw [e1, hlen]
  simp only [e2] at h
  exact h
end
section
inductive AVal where
  | bool (b : Bool)
  | int (k : IntKind) (n : Int)
  | str (s : List UInt8)
  | nilp
  | ptr (id ver off lim : Nat)
  | nils
  | slc (id ver off len cap sz : Nat) (ex : Bool)
  | emp (id ver sz : Nat)
  | nilf
  | func (f : Nat) (caps : List AVal)
  | nili
  | agg (cs : List AVal)
  | tup (cs : List AVal)
structure Loc where
  b : Nat
  n : Nat
  ext : Nat
abbrev Rho := Nat → Nat → Option Loc
mutual
inductive VR (ρ : Rho) : AVal → Value → Prop where
  | bool (b : Bool) : VR ρ (.bool b) (.bool b)
  | int (k : IntKind) (n : Int) : VR ρ (.int k n) (.int k n)
  | str (s : List UInt8) : VR ρ (.str s) (.string ⟨⟨s⟩⟩)
  | nilp : VR ρ .nilp (.pointer none)
  | ptr (id ver off lim : Nat) (L : Loc) (h : ρ id ver = some L) (hl : off + lim ≤ L.ext) : VR ρ (.ptr id ver off lim) (.pointer (some ⟨L.b, off, none⟩))
  | nils : VR ρ .nils (.slice none 0 0)
  | slc (id ver off len cap sz : Nat) (ex : Bool) (L : Loc) (c : Nat) (h : ρ id ver = some L) (h1 : len ≤ cap) (h2 : off + cap * sz ≤ L.ext) (h3 : cap ≤ c ∧ c ≤ 9223372036854775807) (h4 : off + c * sz ≤ L.n) (h5 : ex = true → c = cap) : VR ρ (.slc id ver off len cap sz ex) (.slice (some ⟨L.b, off, none⟩) len c)
  | emp (id ver sz : Nat) (L : Loc) (o c : Nat) (h : ρ id ver = some L) (h3 : c ≤ 9223372036854775807) (h4 : o + c * sz ≤ L.n) : VR ρ (.emp id ver sz) (.slice (some ⟨L.b, o, none⟩) 0 c)
  | nilf : VR ρ .nilf .nilFunc
  | func (f : Nat) (caps : List AVal) (vs : List Value) (h : VRs ρ caps vs) : VR ρ (.func f caps) (.func (.func f) #[] ⟨vs⟩)
  | nili : VR ρ .nili .nilIface
  | agg (cs : List AVal) (vs : List Value) (h : VRs ρ cs vs) : VR ρ (.agg cs) (.agg ⟨vs⟩)
  | tup (cs : List AVal) (vs : List Value) (h : VRs ρ cs vs) : VR ρ (.tup cs) (.tuple ⟨vs⟩)
inductive VRs (ρ : Rho) : List AVal → List Value → Prop where
  | nil : VRs ρ [] []
  | cons (x : AVal) (v : Value) (xs : List AVal) (vs : List Value) (h : VR ρ x v) (hs : VRs ρ xs vs) : VRs ρ (x :: xs) (v :: vs)
end
def Rho.le (ρ ρ' : Rho) : Prop := ∀ id ver L, ρ id ver = some L → ρ' id ver = some L
theorem VR.mono {ρ ρ' : Rho} (hρ : ρ.le ρ') : ∀ {x v}, VR ρ x v → VR ρ' x v := fun h =>
  VR.rec (motive_1 := fun x v _ => VR ρ' x v) (motive_2 := fun xs vs _ => VRs ρ' xs vs)
    (fun b => .bool b) (fun k n => .int k n) (fun s => .str s) .nilp (fun id ver off lim L h hl => .ptr id ver off lim L (hρ _ _ _ h) hl) .nils
    (fun id ver off len cap sz ex L c h h1 h2 h3 h4 h5 => .slc id ver off len cap sz ex L c (hρ _ _ _ h) h1 h2 h3 h4 h5) (fun id ver sz L o c h h3 h4 => .emp id ver sz L o c (hρ _ _ _ h) h3 h4) .nilf (fun f caps vs _ ih => .func f caps vs ih) .nili
    (fun cs vs _ ih => .agg cs vs ih) (fun cs vs _ ih => .tup cs vs ih) .nil (fun x v xs vs _ _ ih ihs => .cons x v xs vs ih ihs) h
theorem VRs.mono {ρ ρ' : Rho} (hρ : ρ.le ρ') : ∀ {xs vs}, VRs ρ xs vs → VRs ρ' xs vs
  | _, _, .nil => .nil
  | _, _, .cons x v xs vs h hs => .cons x v xs vs (h.mono hρ) (hs.mono hρ)
theorem VRs.length {ρ : Rho} : ∀ {xs vs}, VRs ρ xs vs → vs.length = xs.length
  | _, _, .nil => rfl
  | _, _, .cons x v xs vs h hs => by simp [hs.length]
theorem VRs.append {ρ : Rho} : ∀ {xs vs ys us}, VRs ρ xs vs → VRs ρ ys us → VRs ρ (xs ++ ys) (vs ++ us)
  | _, _, _, _, .nil, h2 => h2
  | _, _, _, _, .cons x v xs vs h hs, h2 => .cons x v _ _ h (hs.append h2)
theorem VRs.get {ρ : Rho} : ∀ {xs vs}, VRs ρ xs vs → ∀ {i : Nat} {x : AVal}, xs[i]? = some x → ∃ v, vs[i]? = some v ∧ VR ρ x v
  | _, _, .cons x v xs vs h hs, 0, y, hy => by simp at hy; subst hy; exact ⟨v, by simp, h⟩
  | _, _, .cons x v xs vs h hs, i + 1, y, hy => by
    obtain ⟨u, h1, h2⟩ := hs.get (i := i) (x := y) (by simpa using hy)
    exact ⟨u, by simpa using h1, h2⟩
theorem VRs.take {ρ : Rho} : ∀ {xs vs}, VRs ρ xs vs → ∀ k, VRs ρ (xs.take k) (vs.take k)
  | _, _, .nil, k => by simp; exact .nil
  | _, _, .cons x v xs vs h hs, 0 => by simp; exact .nil
  | _, _, .cons x v xs vs h hs, k + 1 => by simp only [List.take_succ_cons]; exact .cons _ _ _ _ h (hs.take k)
theorem VRs.drop {ρ : Rho} : ∀ {xs vs}, VRs ρ xs vs → ∀ k, VRs ρ (xs.drop k) (vs.drop k)
  | _, _, .nil, k => by simp; exact .nil
  | _, _, .cons x v xs vs h hs, 0 => by simp only [List.drop_zero]; exact .cons _ _ _ _ h hs
  | _, _, .cons x v xs vs h hs, k + 1 => by simp only [List.drop_succ_cons]; exact hs.drop k
theorem VRs.of_get {ρ : Rho} : ∀ {xs : List AVal} {vs : List Value}, vs.length = xs.length → (∀ (i : Nat) x, xs[i]? = some x → ∃ v, vs[i]? = some v ∧ VR ρ x v) → VRs ρ xs vs
  | [], [], _, _ => .nil
  | [], v :: vs, h, _ => by simp at h
  | x :: xs, [], h, _ => by simp at h
  | x :: xs, v :: vs, h, hk => by
    obtain ⟨u, h1, h2⟩ := hk 0 x (by simp)
    simp at h1
    subst h1
    exact .cons _ _ _ _ h2 (VRs.of_get (by simpa using h) (fun i y hy => by simpa using hk (i + 1) y (by simpa using hy)))
def AVal.one : AVal → Bool
  | .agg _ | .tup _ => false
  | _ => true
theorem VR.one {ρ : Rho} {x : AVal} {v : Value} (h : VR ρ x v) : v.oneCell' = x.one := by cases h <;> rfl
def AVal.cells : AVal → List AVal
  | .agg cs => cs
  | v => [v]
theorem VR.cells {ρ : Rho} {x : AVal} {v : Value} (h : VR ρ x v) : VRs ρ x.cells v.cells.toList := by
  cases h <;> first | exact .cons _ _ _ _ (by constructor <;> assumption) .nil | assumption
def aconst1 : Value → Option AVal
  | .bool b => some (.bool b)
  | .int k n => some (.int k n)
  | .string s => some (.str s.data.toList)
  | .pointer none => some .nilp
  | .slice none 0 0 => some .nils
  | .nilFunc => some .nilf
  | .nilIface => some .nili
  | _ => none
def aconsts : List Value → Option (List AVal)
  | [] => some []
  | v :: vs => match aconst1 v, aconsts vs with
    | some x, some xs => some (x :: xs)
    | _, _ => none
def aconst : Value → Option AVal
  | .agg cs => (aconsts cs.toList).map .agg
  | .tuple cs => (aconsts cs.toList).map .tup
  | .func (.func f) first caps => if first.toList.isEmpty && caps.toList.isEmpty then some (.func f []) else none
  | v => aconst1 v
theorem aconst1_vr {ρ : Rho} {v : Value} {x : AVal} (h : aconst1 v = some x) : VR ρ x v := by
  unfold aconst1 at h
  split at h <;> (try cases h) <;> first | constructor | skip
theorem aconsts_vr {ρ : Rho} : ∀ {vs : List Value} {xs : List AVal}, aconsts vs = some xs → VRs ρ xs vs
  | [], xs, h => by cases h; exact .nil
  | v :: vs, xs, h => by
    unfold aconsts at h
    split at h
    · rename_i x xs' h1 h2
      cases h
      exact .cons _ _ _ _ (aconst1_vr h1) (aconsts_vr h2)
    · cases h
theorem aconst_vr {ρ : Rho} {v : Value} {x : AVal} (h : aconst v = some x) : VR ρ x v := by
  unfold aconst at h
  split at h
  · rename_i cs
    obtain ⟨xs, h1, rfl⟩ := Option.map_eq_some_iff.1 h
    exact .agg _ _ (aconsts_vr h1)
  · rename_i cs
    obtain ⟨xs, h1, rfl⟩ := Option.map_eq_some_iff.1 h
    exact .tup _ _ (aconsts_vr h1)
  · rename_i f first caps
    split at h
    · rename_i hc
      cases h
      obtain ⟨a⟩ := first
      obtain ⟨b⟩ := caps
      simp only [Bool.and_eq_true, List.isEmpty_iff] at hc
      obtain ⟨rfl, rfl⟩ := hc
      exact .func _ _ _ .nil
    · cases h
  · exact aconst1_vr h
inductive Tr (α : Type) where
  | nil
  | node (v : Option α) (a b c d e f g h : Tr α)
def sel8 {β : Type} (k : Nat) (a b c d e f g h : β) : β :=
  match Nat.ble k 3 with
  | true => (match Nat.ble k 1 with
    | true => (match Nat.beq k 0 with
      | true => a
      | false => b)
    | false => (match Nat.beq k 2 with
      | true => c
      | false => d))
  | false => (match Nat.ble k 5 with
    | true => (match Nat.beq k 4 with
      | true => e
      | false => f)
    | false => (match Nat.beq k 6 with
      | true => g
      | false => h))
def upd8 {α : Type} (k : Nat) (v : Option α) (a b c d e f g h y : Tr α) : Tr α :=
  match Nat.ble k 3 with
  | true => (match Nat.ble k 1 with
    | true => (match Nat.beq k 0 with
      | true => .node v y b c d e f g h
      | false => .node v a y c d e f g h)
    | false => (match Nat.beq k 2 with
      | true => .node v a b y d e f g h
      | false => .node v a b c y e f g h))
  | false => (match Nat.ble k 5 with
    | true => (match Nat.beq k 4 with
      | true => .node v a b c d y f g h
      | false => .node v a b c d e y g h)
    | false => (match Nat.beq k 6 with
      | true => .node v a b c d e f y h
      | false => .node v a b c d e f g y))
def Tr.val {α : Type} (t : Tr α) : Option α := match t with
  | .nil => none
  | .node v _ _ _ _ _ _ _ _ => v
def Tr.kid {α : Type} (k : Nat) (t : Tr α) : Tr α := match t with
  | .nil => .nil
  | .node _ a b c d e f g h => sel8 k a b c d e f g h
def Tr.putV {α : Type} (t : Tr α) (x : α) : Tr α := match t with
  | .nil => .node (some x) .nil .nil .nil .nil .nil .nil .nil .nil
  | .node _ a b c d e f g h => .node (some x) a b c d e f g h
def Tr.putK {α : Type} (k : Nat) (t y : Tr α) : Tr α := match t with
  | .nil => upd8 k none .nil .nil .nil .nil .nil .nil .nil .nil y
  | .node v a b c d e f g h => upd8 k v a b c d e f g h y
def Tr.getF {α : Type} : Nat → Tr α → Nat → Option α
  | 0, t, n => (match Nat.beq n 0 with
    | true => t.val
    | false => none)
  | D + 1, t, n => match t with
    | .nil => none
    | .node v a b c d e f g h => (match Nat.beq n 0 with
      | true => v
      | false => Tr.getF D (sel8 ((n - 1) % 8) a b c d e f g h) ((n - 1) / 8))
def Tr.get {α : Type} (t : Tr α) (n : Nat) : Option α := Tr.getF 40 t n
def Tr.set {α : Type} : Nat → Tr α → Nat → α → Tr α
  | 0, t, n, x => t.putV x
  | D + 1, t, n, x => (match Nat.beq n 0 with
    | true => t.putV x
    | false => t.putK ((n - 1) % 8) (Tr.set D (t.kid ((n - 1) % 8)) ((n - 1) / 8) x))
theorem eight {k : Nat} (h : k < 8) : k = 0 ∨ k = 1 ∨ k = 2 ∨ k = 3 ∨ k = 4 ∨ k = 5 ∨ k = 6 ∨ k = 7 := by omega
theorem kid_putK {α : Type} {k j : Nat} (hk : k < 8) (hj : j < 8) (t y : Tr α) : (t.putK k y).kid j = if j = k then y else t.kid j := by
  rcases eight hk with rfl | rfl | rfl | rfl | rfl | rfl | rfl | rfl <;> rcases eight hj with rfl | rfl | rfl | rfl | rfl | rfl | rfl | rfl <;> cases t <;> rfl
theorem val_putK {α : Type} {k : Nat} (hk : k < 8) (t y : Tr α) : (t.putK k y).val = t.val := by
  rcases eight hk with rfl | rfl | rfl | rfl | rfl | rfl | rfl | rfl <;> cases t <;> rfl
theorem kid_putV {α : Type} (j : Nat) (t : Tr α) (x : α) : (t.putV x).kid j = t.kid j := by
  cases t with
  | nil => simp only [Tr.putV, Tr.kid, sel8]; (repeat' split) <;> rfl
  | node => rfl
theorem val_putV {α : Type} (t : Tr α) (x : α) : (t.putV x).val = some x := by cases t <;> rfl
theorem beq0 {n : Nat} (h : n ≠ 0) : Nat.beq n 0 = false := by
  cases n with
  | zero => exact absurd rfl h
  | succ n => rfl
theorem Tr.getF_nil {α : Type} : ∀ (D n : Nat), (Tr.nil : Tr α).getF D n = none
  | 0, n => by unfold Tr.getF; split <;> rfl
  | D + 1, n => rfl
theorem Tr.getF_succ {α : Type} (D : Nat) (t : Tr α) (n : Nat) : t.getF (D + 1) n = (match Nat.beq n 0 with
    | true => t.val
    | false => Tr.getF D (t.kid ((n - 1) % 8)) ((n - 1) / 8)) := by
  cases t with
  | nil =>
    show none = _
    cases Nat.beq n 0 with
    | true => rfl
    | false => exact (Tr.getF_nil D _).symm
  | node => rfl
theorem Tr.get_nil {α : Type} (n : Nat) : (Tr.nil : Tr α).get n = none := Tr.getF_nil 40 n
theorem Tr.getF_set {α : Type} : ∀ (D : Nat) (t : Tr α) (n : Nat) (x : α), n < 2 ^ D → ∀ m, (Tr.set D t n x).getF D m = if m = n then some x else t.getF D m
  | 0, t, n, x, h, m => by
    have : n = 0 := by simpa using h
    subst this
    unfold Tr.set Tr.getF
    by_cases hm : m = 0
    · subst hm; simp [val_putV]
    · rw [beq0 hm, if_neg hm]
  | D + 1, t, n, x, h, m => by
    rw [Nat.pow_succ] at h
    rw [Tr.getF_succ, Tr.getF_succ]
    unfold Tr.set
    by_cases h0 : n = 0
    · subst h0
      by_cases hm : m = 0
      · subst hm; simp [val_putV]
      · simp only [beq0 hm, if_neg hm]
        rw [kid_putV]
    · simp only [beq0 h0]
      by_cases hm : m = 0
      · subst hm
        rw [if_neg (fun e => h0 e.symm)]
        exact val_putK (Nat.mod_lt _ (by decide)) _ _
      · simp only [beq0 hm]
        rw [kid_putK (Nat.mod_lt _ (by decide)) (Nat.mod_lt _ (by decide))]
        by_cases hk : (m - 1) % 8 = (n - 1) % 8
        · rw [if_pos hk, Tr.getF_set D _ _ x (by omega)]
          by_cases e : m = n
          · subst e; simp
          · rw [if_neg e, if_neg (by omega), hk]
        · rw [if_neg hk, if_neg (fun e => hk (by rw [e]))]
theorem Tr.get_set {α : Type} (_ : Nat) (t : Tr α) (n : Nat) (x : α) (h : n < 1099511627776) (m : Nat) : (Tr.set 40 t n x).get m = if m = n then some x else t.get m :=
  Tr.getF_set 40 t n x h m
end
section
structure ARow where
  ty : TypeId
  cells : List AVal
  ver : Nat
  lo : Nat
structure AHeap where
  next : Nat
  rows : Tr ARow
def AHeap.get (H : AHeap) (id : Nat) : Option ARow := H.rows.get id
def AHeap.put (H : AHeap) (id : Nat) (r : ARow) : AHeap := ⟨H.next, Tr.set 40 H.rows id r⟩
def AHeap.new (H : AHeap) (r : ARow) : AHeap := ⟨H.next + 1, Tr.set 40 H.rows H.next r⟩
def AHeap.none_ : AHeap := ⟨0, .nil⟩
structure AHeap.Ok (H : AHeap) : Prop where
  next : H.next ≤ 1099511627776
  lt : ∀ id r, H.get id = some r → id < H.next
theorem AHeap.get_put {H : AHeap} (h : H.Ok) {id : Nat} {r0 : ARow} (h0 : H.get id = some r0) (r : ARow) (j : Nat) : (H.put id r).get j = if j = id then some r else H.get j := by
  have h1 := h.lt id r0 h0
  have h2 := h.next
  exact Tr.get_set 40 H.rows id r (by show id < 1099511627776; omega) j
theorem AHeap.get_new {H : AHeap} (hn : H.next < 1099511627776) (r : ARow) (j : Nat) : (H.new r).get j = if j = H.next then some r else H.get j :=
  Tr.get_set 40 H.rows H.next r hn j
theorem AHeap.Ok.put {H : AHeap} (h : H.Ok) {id : Nat} {r0 : ARow} (h0 : H.get id = some r0) (r : ARow) : (H.put id r).Ok := by
  refine ⟨h.next, fun j r' hj => ?_⟩
  rw [AHeap.get_put h h0] at hj
  by_cases e : j = id
  · subst e; exact h.lt _ _ h0
  · rw [if_neg e] at hj; exact h.lt _ _ hj
theorem AHeap.Ok.new {H : AHeap} (h : H.Ok) (hn : H.next < 1099511627776) (r : ARow) : (H.new r).Ok := by
  refine ⟨hn, fun j r' hj => ?_⟩
  rw [AHeap.get_new hn] at hj
  show j < H.next + 1
  by_cases e : j = H.next
  · omega
  · rw [if_neg e] at hj; have := h.lt _ _ hj; omega
theorem AHeap.next_put (H : AHeap) (id : Nat) (r : ARow) : (H.put id r).next = H.next := rfl
theorem AHeap.next_new (H : AHeap) (r : ARow) : (H.new r).next = H.next + 1 := rfl
def RowOk (ρ : Rho) (w : World) (L : Loc) (r : ARow) (ver : Nat) : Prop :=
  ver ≤ r.ver ∧ L.ext ≤ L.n ∧ ∃ C t fr, w.heap[L.b]? = some (.cells C t fr) ∧ C.size = L.n ∧ (fr.1 ≠ fr.2 → L.n ≤ fr.1) ∧ (ver = r.ver → L.ext = r.cells.length) ∧
    (r.lo ≤ ver → L.ext ≤ r.cells.length ∧ ∀ j x, j < L.ext → r.cells[j]? = some x → ∃ u, C[j]? = some u ∧ u.oneCell' = true ∧ VR ρ x u)
structure HR (ρ : Rho) (H : AHeap) (w : World) : Prop where
  ok : H.Ok
  dom : ∀ id ver L, ρ id ver = some L → L.b < w.heap.size ∧ L.ext ≤ L.n
  inj : ∀ id ver L id' ver' L', ρ id ver = some L → ρ id' ver' = some L' → L.b = L'.b → id = id'
  row : ∀ id ver L r, ρ id ver = some L → H.get id = some r → RowOk ρ w L r ver
theorem RowOk.mono {ρ ρ' : Rho} {w w' : World} {L : Loc} {r : ARow} {ver : Nat} (h : RowOk ρ w L r ver) (hρ : ρ.le ρ') (hw : w'.heap[L.b]? = w.heap[L.b]?) : RowOk ρ' w' L r ver := by
  obtain ⟨h2, h3, C, t, fr, h4, h5, h6, h7, h8⟩ := h
  refine ⟨h2, h3, C, t, fr, hw.trans h4, h5, h6, h7, fun hl => ⟨(h8 hl).1, fun j x hj hx => ?_⟩⟩
  obtain ⟨u, k1, k2, k3⟩ := (h8 hl).2 j x hj hx
  exact ⟨u, k1, k2, k3.mono hρ⟩
theorem HR.of_heap {ρ : Rho} {H : AHeap} {w w' : World} (h : HR ρ H w) (hw : w'.heap = w.heap) : HR ρ H w' :=
  ⟨h.ok, fun id ver L hL => by rw [hw]; exact h.dom id ver L hL, h.inj, fun id ver L r hL hr => (h.row id ver L r hL hr).mono (fun _ _ _ h => h) (by rw [hw])⟩
structure Ext (ρ : Rho) (H : AHeap) (w : World) (ρ' : Rho) (H' : AHeap) (w' : World) : Prop where
  le : ρ.le ρ'
  next : H.next ≤ H'.next
  rows : ∀ id, (H'.get id).isSome → (H.get id).isSome ∨ (H.next ≤ id ∧ id < H'.next)
  keep : ∀ id, (H.get id).isSome → (H'.get id).isSome
  ids : ∀ id ver L, ρ' id ver = some L → ρ id ver = none → (H.next ≤ id ∧ id < H'.next) ∨ ((H.get id).isSome ∧ ∃ ver0 L0, ρ id ver0 = some L0)
  blk : ∀ id ver L, ρ' id ver = some L → ρ id ver = none → w.heap.size ≤ L.b ∨ ∃ ver0 L0, ρ id ver0 = some L0 ∧ L0.b = L.b ∧ (H.get id).isSome
  frame : ∀ b, b < w.heap.size → (∀ id ver L, ρ id ver = some L → (H.get id).isSome → L.b ≠ b) → w'.heap[b]? = w.heap[b]?
  size : w.heap.size ≤ w'.heap.size
  os : w'.os = w.os
  tape : w'.tape = w.tape
  output : w'.output = w.output
theorem Ext.refl (ρ : Rho) (H : AHeap) (w : World) : Ext ρ H w ρ H w :=
  ⟨fun _ _ _ h => h, Nat.le_refl _, fun _ h => .inl h, fun _ h => h, fun id ver L h h' => (by rw [h] at h'; cases h'), fun id ver L h h' => (by rw [h] at h'; cases h'), fun _ _ _ => rfl, Nat.le_refl _, rfl, rfl, rfl⟩
theorem Ext.same {ρ : Rho} {H : AHeap} {w w' : World} (hw : w'.heap = w.heap) (h1 : w'.os = w.os) (h2 : w'.tape = w.tape) (h3 : w'.output = w.output) : Ext ρ H w ρ H w' :=
  ⟨fun _ _ _ h => h, Nat.le_refl _, fun _ h => .inl h, fun _ h => h, fun id ver L h h' => (by rw [h] at h'; cases h'), fun id ver L h h' => (by rw [h] at h'; cases h'), fun _ _ _ => by rw [hw], by rw [hw]; exact Nat.le_refl _, h1, h2, h3⟩
def Free (ρ : Rho) (a b : Nat) : Prop := ∀ id ver, a ≤ id → id < b → ρ id ver = none
theorem Free.mono {ρ : Rho} {a b a' b' : Nat} (h : Free ρ a b) (ha : a ≤ a') (hb : b' ≤ b) : Free ρ a' b' := fun id ver h1 h2 => h id ver (Nat.le_trans ha h1) (Nat.lt_of_lt_of_le h2 hb)
theorem Ext.free {ρ : Rho} {H : AHeap} {w : World} {ρ' : Rho} {H' : AHeap} {w' : World} (h : Ext ρ H w ρ' H' w') (ok : H.Ok) {b : Nat} (hf : Free ρ H.next b) : Free ρ' H'.next b := by
  intro id ver h1 h2
  cases hr : ρ' id ver with
  | none => rfl
  | some L =>
    have h3 := hf id ver (Nat.le_trans h.next h1) h2
    rcases h.ids id ver L hr h3 with h4 | ⟨h4, -⟩
    · omega
    · obtain ⟨r, hr⟩ := Option.isSome_iff_exists.1 h4
      have := ok.lt _ _ hr
      have := h.next
      omega
theorem Ext.trans {ρ : Rho} {H : AHeap} {w : World} {ρ' : Rho} {H' : AHeap} {w' : World} {ρ'' : Rho} {H'' : AHeap} {w'' : World} (h : Ext ρ H w ρ' H' w') (k : Ext ρ' H' w' ρ'' H'' w'') (ok : H.Ok) (hf : Free ρ H.next H'.next) : Ext ρ H w ρ'' H'' w'' := by
  have known : ∀ id ver L, ρ' id ver = some L → (H'.get id).isSome → ((H.get id).isSome ∧ ∃ ver0 L0, ρ id ver0 = some L0) ∨ (H.next ≤ id ∧ id < H'.next) := by
    intro id ver L hL hs
    cases hr : ρ id ver with
    | none =>
      rcases h.ids id ver L hL hr with h1 | h1
      · exact .inr h1
      · exact .inl h1
    | some L0 =>
      rcases h.rows id hs with h1 | h1
      · exact .inl ⟨h1, ver, L0, hr⟩
      · exact .inr h1
  refine ⟨fun id ver L hL => k.le _ _ _ (h.le _ _ _ hL), Nat.le_trans h.next k.next, fun id hs => ?_, fun id hs => k.keep id (h.keep id hs), fun id ver L hL hn => ?_, fun id ver L hL hn => ?_, fun b hb hne => ?_, Nat.le_trans h.size k.size, k.os.trans h.os, k.tape.trans h.tape, k.output.trans h.output⟩
  · rcases k.rows id hs with h1 | h1
    · rcases h.rows id h1 with h2 | h2
      · exact .inl h2
      · exact .inr ⟨h2.1, Nat.lt_of_lt_of_le h2.2 k.next⟩
    · exact .inr ⟨Nat.le_trans h.next h1.1, h1.2⟩
  · cases hm : ρ' id ver with
    | some L1 =>
      rcases h.ids id ver L1 hm hn with h1 | h1
      · exact .inl ⟨h1.1, Nat.lt_of_lt_of_le h1.2 k.next⟩
      · exact .inr h1
    | none =>
      rcases k.ids id ver L hL hm with h1 | ⟨h1, ver0, L0, h2⟩
      · exact .inl ⟨Nat.le_trans h.next h1.1, h1.2⟩
      · rcases known id ver0 L0 h2 h1 with h3 | h3
        · exact .inr h3
        · exact .inl ⟨h3.1, Nat.lt_of_lt_of_le h3.2 k.next⟩
  · cases hm : ρ' id ver with
    | some L1 =>
      have e : L1 = L := by have := k.le _ _ _ hm; rw [hL] at this; injection this with this; exact this.symm
      subst e
      exact h.blk id ver L1 hm hn
    | none =>
      rcases k.blk id ver L hL hm with h1 | ⟨ver0, L0, h1, h2, h3⟩
      · exact .inl (Nat.le_trans h.size h1)
      · cases ho : ρ id ver0 with
        | some L2 =>
          have e : L2 = L0 := by have := h.le _ _ _ ho; rw [h1] at this; injection this with this; exact this.symm
          subst e
          rcases h.rows id h3 with h4 | h4
          · exact .inr ⟨ver0, L2, ho, h2, h4⟩
          · have := hf id ver0 h4.1 h4.2
            rw [ho] at this; cases this
        | none =>
          rcases h.blk id ver0 L0 h1 ho with h4 | ⟨ver1, L3, h4, h5, h6⟩
          · exact .inl (by omega)
          · exact .inr ⟨ver1, L3, h4, h5.trans h2, h6⟩
  · rw [k.frame b (Nat.lt_of_lt_of_le hb h.size) (fun id ver L hL hs e => ?_), h.frame b hb hne]
    cases ho : ρ id ver with
    | some L2 =>
      have e2 : L2 = L := by have := h.le _ _ _ ho; rw [hL] at this; injection this with this; exact this.symm
      subst e2
      rcases h.rows id hs with h4 | h4
      · exact hne id ver L2 ho h4 e
      · have := hf id ver h4.1 h4.2
        rw [ho] at this; cases this
    | none =>
      rcases h.blk id ver L hL ho with h4 | ⟨ver1, L3, h4, h5, h6⟩
      · omega
      · exact hne id ver1 L3 h4 h6 (h5.trans e)
theorem add_cell (b off i : Nat) : (Addr.mk b off none).add i = ⟨b, off + i, none⟩ := by
  unfold Addr.add
  split
  · rename_i h; subst h; rfl
  · rfl
theorem cell_of_heap {w : World} {b : Nat} {C : Array Value} {t : TypeId} {fr : Nat × Nat} (h : w.heap[b]? = some (.cells C t fr)) (off : Nat) : w.cell? ⟨b, off, none⟩ = C[off]? := by
  simp [World.cell?, h]
theorem frozen_of_heap {w : World} {b : Nat} {C : Array Value} {t : TypeId} {fr : Nat × Nat} (h : w.heap[b]? = some (.cells C t fr)) {n off : Nat} (hf : fr.1 ≠ fr.2 → n ≤ fr.1) (ho : off < n) : w.frozen? ⟨b, off, none⟩ = false := by
  simp only [World.frozen?, h]
  obtain ⟨lo, hi⟩ := fr
  simp only at hf ⊢
  by_cases h1 : lo ≤ off
  · by_cases h2 : off < hi
    · have := hf (by omega); omega
    · simp [h2]
  · simp [h1]
theorem HR.read {ρ : Rho} {H : AHeap} {w : World} (h : HR ρ H w) {id ver : Nat} {L : Loc} {r : ARow} (hL : ρ id ver = some L) (hr : H.get id = some r) (hlo : r.lo ≤ ver) {off k : Nat} (hk : off + k ≤ L.ext) :
    ∃ vs, vs.length = k ∧ VRs ρ ((r.cells.drop off).take k) vs ∧ (∀ u ∈ vs, u.oneCell' = true) ∧ ∀ (j : Nat) u, vs[j]? = some u → w.cell? ⟨L.b, off + j, none⟩ = some u := by
  obtain ⟨h2, h3, C, t, fr, h4, h5, h6, h7, h8⟩ := h.row id ver L r hL hr
  obtain ⟨h9, h10⟩ := h8 hlo
  have hC : (C.toList.drop off).take k = (C.toList.drop off).take k := rfl
  have hlen : ((C.toList.drop off).take k).length = k := by
    rw [List.length_take, List.length_drop, Array.length_toList]; omega
  refine ⟨(C.toList.drop off).take k, hlen, ?_, fun u hu => ?_, fun j u hj => ?_⟩
  · refine VRs.of_get ?_ (fun i x hx => ?_)
    · rw [hlen, List.length_take, List.length_drop]; omega
    · rw [List.getElem?_take] at hx
      split at hx
      · rename_i hi
        rw [List.getElem?_drop] at hx
        obtain ⟨u, k1, k2, k3⟩ := h10 (off + i) x (by omega) hx
        refine ⟨u, ?_, k3⟩
        rw [List.getElem?_take, if_pos hi, List.getElem?_drop]
        simpa using k1
      · cases hx
  · obtain ⟨i, hi⟩ := List.mem_iff_getElem?.1 hu
    rw [List.getElem?_take] at hi
    split at hi
    · rename_i hik
      rw [List.getElem?_drop] at hi
      have hc : off + i < r.cells.length := by omega
      obtain ⟨u', k1, k2, k3⟩ := h10 (off + i) _ (by omega) (List.getElem?_eq_getElem hc)
      have : u' = u := by
        have e : C.toList[off + i]? = some u' := by simpa using k1
        rw [e] at hi; injection hi
      rw [← this]; exact k2
    · cases hi
  · rw [cell_of_heap h4]
    rw [List.getElem?_take] at hj
    split at hj
    · rw [List.getElem?_drop] at hj
      simpa using hj
    · cases hj
theorem setCell_heap (w : World) (b off : Nat) (v : Value) (b' : Nat) : (w.setCell ⟨b, off, none⟩ v).heap[b']? = if b = b' then (match w.heap[b']? with | some (.cells C t fr) => some (.cells (C.setIfInBounds off v) t fr) | o => o) else w.heap[b']? := by
  simp only [World.setCell, Array.getElem?_modify]
  split
  · cases w.heap[b']? with
    | none => rfl
    | some o => cases o <;> rfl
  · rfl
theorem HR.raise {ρ : Rho} {H : AHeap} {w : World} (h : HR ρ H w) {id : Nat} {r : ARow} (hr : H.get id = some r) (lo : Nat) (hlo : r.lo ≤ lo) : HR ρ (H.put id { r with lo := lo }) w := by
  refine ⟨h.ok.put hr _, h.dom, h.inj, fun id' ver L r' hL hr' => ?_⟩
  rw [AHeap.get_put h.ok hr] at hr'
  by_cases e : id' = id
  · subst e
    rw [if_pos rfl] at hr'
    injection hr' with hr'
    subst hr'
    obtain ⟨h2, h3, C, t, fr, h4, h5, h6, h7, h8⟩ := h.row id' ver L r hL hr
    exact ⟨h2, h3, C, t, fr, h4, h5, h6, h7, fun hl => h8 (Nat.le_trans hlo hl)⟩
  · rw [if_neg e] at hr'
    exact h.row _ _ _ _ hL hr'
theorem Ext.put {ρ : Rho} {H : AHeap} {w : World} (ok : H.Ok) {id : Nat} {r0 r : ARow} (h0 : H.get id = some r0) : Ext ρ H w ρ (H.put id r) w :=
  ⟨fun _ _ _ h => h, Nat.le_refl _, fun j hj => by
    rw [AHeap.get_put ok h0] at hj
    by_cases e : j = id
    · subst e; exact .inl (by rw [h0]; rfl)
    · rw [if_neg e] at hj; exact .inl hj, fun j hj => by
    rw [AHeap.get_put ok h0]
    by_cases e : j = id
    · rw [if_pos e]; rfl
    · rw [if_neg e]; exact hj, fun id ver L h h' => (by rw [h] at h'; cases h'), fun id ver L h h' => (by rw [h] at h'; cases h'), fun _ _ _ => rfl, Nat.le_refl _, rfl, rfl, rfl⟩
theorem HR.set1 {ρ : Rho} {H : AHeap} {w : World} (h : HR ρ H w) {id : Nat} {L : Loc} {r : ARow} (hL : ρ id r.ver = some L) (hr : H.get id = some r) (hlo : r.lo = r.ver) {off : Nat} (ho : off < r.cells.length) {x : AVal} {v : Value} (hx : VR ρ x v) (h1 : v.oneCell' = true) :
    HR ρ (H.put id { r with cells := r.cells.set off x }) (w.setCell ⟨L.b, off, none⟩ v) ∧ Ext ρ H w ρ (H.put id { r with cells := r.cells.set off x }) (w.setCell ⟨L.b, off, none⟩ v) ∧ w.cell? ⟨L.b, off, none⟩ ≠ none ∧ w.frozen? ⟨L.b, off, none⟩ = false := by
  obtain ⟨a2, a3, C, t, fr, a4, a5, a6, a7, a8⟩ := h.row id r.ver L r hL hr
  have hext := a7 rfl
  have hsz : (w.setCell ⟨L.b, off, none⟩ v).heap.size = w.heap.size := by simp [World.setCell]
  refine ⟨⟨h.ok.put hr _, fun id' ver L' hL' => by rw [hsz]; exact h.dom id' ver L' hL', h.inj, fun id' ver L' r' hL' hr' => ?_⟩, ?_, ?_, frozen_of_heap a4 a6 (by omega)⟩
  · rw [AHeap.get_put h.ok hr] at hr'
    by_cases e : id' = id
    · subst e
      rw [if_pos rfl] at hr'
      injection hr' with hr'
      subst hr'
      obtain ⟨b2, b3, C', t', fr', b4, b5, b6, b7, b8⟩ := h.row id' ver L' r hL' hr
      by_cases eb : L.b = L'.b
      · rw [← eb] at b4
        rw [a4] at b4
        injection b4 with b4
        injection b4 with e1 e2 e3
        subst e1 e2 e3
        refine ⟨b2, b3, C.setIfInBounds off v, t, fr, by rw [← eb, setCell_heap, if_pos rfl, a4], by simpa using b5, b6, fun hv => by simp only [List.length_set]; exact b7 hv, fun hl => ?_⟩
        simp only at hl
        have hv : ver = r.ver := by have : ver ≤ r.ver := b2; omega
        subst hv
        have eL : L' = L := by rw [hL] at hL'; injection hL' with hL'; exact hL'.symm
        subst eL
        refine ⟨by simp only [List.length_set]; omega, fun j y hj hy => ?_⟩
        simp only [List.getElem?_set] at hy
        by_cases ej : off = j
        · subst ej
          rw [if_pos rfl, if_pos ho] at hy
          injection hy with hy
          subst hy
          refine ⟨v, ?_, h1, hx⟩
          rw [Array.getElem?_setIfInBounds_self_of_lt (by omega)]
        · rw [if_neg ej] at hy
          obtain ⟨u, k1, k2, k3⟩ := (a8 (by omega)).2 j y hj hy
          exact ⟨u, by rw [Array.getElem?_setIfInBounds_ne ej]; exact k1, k2, k3⟩
      · refine ⟨b2, b3, C', t', fr', by rw [setCell_heap, if_neg eb]; exact b4, b5, b6, fun hv => by simp only [List.length_set]; exact b7 hv, fun hl => ?_⟩
        simp only at hl
        have hv : ver = r.ver := by have : ver ≤ r.ver := b2; omega
        subst hv
        rw [hL] at hL'
        injection hL' with hL'
        exact absurd (by rw [hL']) eb
    · rw [if_neg e] at hr'
      refine (h.row _ _ _ _ hL' hr').mono (fun _ _ _ h => h) ?_
      rw [setCell_heap, if_neg (fun eb => e (h.inj _ _ _ _ _ _ hL' hL eb.symm))]
  · refine (Ext.put h.ok hr).trans (H' := H.put id { r with cells := r.cells.set off x }) ⟨fun _ _ _ h => h, Nat.le_refl _, fun _ h => .inl h, fun _ h => h, fun id ver L h h' => (by rw [h] at h'; cases h'), fun id ver L h h' => (by rw [h] at h'; cases h'), fun b hb hne => ?_, by rw [hsz]; exact Nat.le_refl _, rfl, rfl, rfl⟩ h.ok (fun id ver h1 h2 => by rw [AHeap.next_put] at h2; omega)
    rw [setCell_heap, if_neg (hne id r.ver L hL (by rw [AHeap.get_put h.ok hr, if_pos rfl]; rfl))]
  · rw [cell_of_heap a4]
    intro hn
    rw [Array.getElem?_eq_none_iff] at hn
    omega
def setAll : List AVal → Nat → List AVal → List AVal
  | cs, _, [] => cs
  | cs, off, x :: xs => setAll (cs.set off x) (off + 1) xs
theorem setAll_length : ∀ (xs cs : List AVal) (off : Nat), (setAll cs off xs).length = cs.length
  | [], cs, off => rfl
  | x :: xs, cs, off => by rw [setAll, setAll_length xs, List.length_set]
theorem put_put {H : AHeap} {id : Nat} {r r' : ARow} (j : Nat) (ok : H.Ok) {r0 : ARow} (h0 : H.get id = some r0) : ((H.put id r).put id r').get j = (H.put id r').get j := by
  rw [AHeap.get_put (ok.put h0 r) (r0 := r) (by rw [AHeap.get_put ok h0, if_pos rfl]), AHeap.get_put ok h0]
  by_cases e : j = id
  · rw [if_pos e, AHeap.get_put ok h0, if_pos e]
  · rw [if_neg e, if_neg e, AHeap.get_put ok h0, if_neg e]
def AHeap.same (H H' : AHeap) : Prop := H.next = H'.next ∧ ∀ j, H.get j = H'.get j
theorem HR.of_same {ρ : Rho} {H H' : AHeap} {w : World} (h : HR ρ H w) (hs : H.same H') : HR ρ H' w :=
  ⟨⟨hs.1 ▸ h.ok.next, fun id r hr => hs.1 ▸ h.ok.lt id r (by rw [hs.2]; exact hr)⟩, h.dom, h.inj, fun id ver L r hL hr => h.row id ver L r hL (by rw [hs.2]; exact hr)⟩
theorem Ext.of_same {ρ : Rho} {H : AHeap} {w : World} {ρ' : Rho} {H' H'' : AHeap} {w' : World} (h : Ext ρ H w ρ' H' w') (hs : H'.same H'') : Ext ρ H w ρ' H'' w' :=
  ⟨h.le, hs.1 ▸ h.next, fun id hi => by have := h.rows id (by rw [hs.2]; exact hi); rw [hs.1] at this; exact this, fun id hi => by rw [← hs.2]; exact h.keep id hi, fun id ver L h1 h2 => by have := h.ids id ver L h1 h2; rw [hs.1] at this; exact this, h.blk, h.frame, h.size, h.os, h.tape, h.output⟩
theorem HR.setAll {P : Program} {ρ : Rho} {id : Nat} {L : Loc} : ∀ (xs : List AVal) (vs : List Value) {H : AHeap} {w : World} (h : HR ρ H w) {r : ARow} (hL : ρ id r.ver = some L) (hr : H.get id = some r) (hlo : r.lo = r.ver) (a : Addr) (off i : Nat) (ha : ∀ j, a.add (i + j) = ⟨L.b, off + j, none⟩) (ho : off + xs.length ≤ r.cells.length) (hx : VRs ρ xs vs) (h1 : ∀ u ∈ vs, u.oneCell' = true),
    ∃ w', (storeCells a vs i).run P w = .ok () w' ∧ HR ρ (H.put id { r with cells := setAll r.cells off xs }) w' ∧ Ext ρ H w ρ (H.put id { r with cells := setAll r.cells off xs }) w'
  | [], _, H, w, h, r, hL, hr, hlo, a, off, i, ha, ho, .nil, h1 => by
    refine ⟨w, rfl, h.of_same ?_, (Ext.refl ρ H w).of_same ?_⟩ <;>
    · refine ⟨rfl, fun j => ?_⟩
      rw [AHeap.get_put h.ok hr]
      by_cases e : j = id
      · subst e; rw [if_pos rfl, hr]; rfl
      · rw [if_neg e]
  | x :: xs, _, H, w, h, r, hL, hr, hlo, a, off, i, ha, ho, .cons _ v _ vs hx hxs, h1 => by
    simp only [List.length_cons] at ho
    have ha0 : a.add i = ⟨L.b, off, none⟩ := by simpa using ha 0
    obtain ⟨g1, g2, g3, g4⟩ := h.set1 hL hr hlo (off := off) (by omega) hx (h1 v (by simp))
    have hr2 : (H.put id { r with cells := r.cells.set off x }).get id = some { r with cells := r.cells.set off x } := by rw [AHeap.get_put h.ok hr, if_pos rfl]
    obtain ⟨w', k1, k2, k3⟩ := HR.setAll (P := P) xs vs g1 (r := { r with cells := r.cells.set off x }) hL hr2 hlo a (off + 1) (i + 1) (fun j => by rw [Nat.add_assoc, Nat.add_assoc]; exact ha (1 + j)) (by simp only [List.length_set]; omega) hxs (fun u hu => h1 u (by simp [hu]))
    have hs : ((H.put id { r with cells := r.cells.set off x }).put id { r with cells := Go.Proofs.YtpokkciheejeiaaGreatDoor.setAll (r.cells.set off x) (off + 1) xs }).same (H.put id { r with cells := Go.Proofs.YtpokkciheejeiaaGreatDoor.setAll r.cells off (x :: xs) }) := ⟨rfl, fun j => put_put j h.ok hr⟩
    refine ⟨w', ?_, k2.of_same hs, (g2.trans k3 h.ok (fun id ver h1 h2 => by rw [AHeap.next_put] at h2; omega)).of_same hs⟩
    unfold storeCells
    rw [Sem.run_bind, run_store _ _ _ _ _ (h1 v (by simp)), ha0]
    cases hc : w.cell? ⟨L.b, off, none⟩ with
    | none => exact absurd hc g3
    | some u => simp only [g4, Bool.false_eq_true, if_false, Result.andThen_ok]; exact k1
def Rho.add (ρ : Rho) (id ver : Nat) (L : Loc) : Rho := fun i v => if i = id ∧ v = ver then some L else ρ i v
theorem Rho.add_le {ρ : Rho} {id ver : Nat} {L : Loc} (h : ρ id ver = none) : ρ.le (ρ.add id ver L) := fun i v L' h' => by
  unfold Rho.add
  by_cases e : i = id ∧ v = ver
  · obtain ⟨rfl, rfl⟩ := e; rw [h] at h'; cases h'
  · rw [if_neg e]; exact h'
theorem Rho.add_self (ρ : Rho) (id ver : Nat) (L : Loc) : ρ.add id ver L id ver = some L := by unfold Rho.add; rw [if_pos ⟨rfl, rfl⟩]
theorem Rho.add_cases {ρ : Rho} {id ver : Nat} {L : Loc} {i v : Nat} {L' : Loc} (h : ρ.add id ver L i v = some L') : (i = id ∧ v = ver ∧ L' = L) ∨ ρ i v = some L' := by
  unfold Rho.add at h
  by_cases e : i = id ∧ v = ver
  · rw [if_pos e] at h; injection h with h; exact .inl ⟨e.1, e.2, h.symm⟩
  · rw [if_neg e] at h; exact .inr h
theorem alloc_heap (w : World) (o : Obj) (b : Nat) : (w.alloc o).heap[b]? = if b = w.heap.size then some o else w.heap[b]? := by
  show (w.heap.push o)[b]? = _
  rw [Array.getElem?_push]
theorem HR.alloc {ρ : Rho} {H : AHeap} {w : World} (h : HR ρ H w) (hn : H.next < 1099511627776) (hf : Free ρ H.next (H.next + 1)) (ty : TypeId) (t : TypeId) {xs : List AVal} {C : Array Value} {fr : Nat × Nat} (hfr : fr.1 ≠ fr.2 → C.size ≤ fr.1) (hx : VRs ρ xs (C.toList.take xs.length)) (hl : xs.length ≤ C.size) (h1 : ∀ u ∈ C.toList.take xs.length, u.oneCell' = true) :
    HR (ρ.add H.next 0 ⟨w.heap.size, C.size, xs.length⟩) (H.new ⟨ty, xs, 0, 0⟩) (w.alloc (.cells C t fr)) ∧ Ext ρ H w (ρ.add H.next 0 ⟨w.heap.size, C.size, xs.length⟩) (H.new ⟨ty, xs, 0, 0⟩) (w.alloc (.cells C t fr)) := by
  have hle : ρ.le (ρ.add H.next 0 ⟨w.heap.size, C.size, xs.length⟩) := Rho.add_le (hf _ _ (Nat.le_refl _) (Nat.lt_succ_self _))
  have hsz : (w.alloc (.cells C t fr)).heap.size = w.heap.size + 1 := by simp
  refine ⟨⟨h.ok.new hn _, fun id ver L hL => ?_, fun id ver L id' ver' L' hL hL' e => ?_, fun id ver L r hL hr => ?_⟩, ⟨hle, Nat.le_succ _, fun id hi => ?_, fun id hi => ?_, fun id ver L hL hn' => ?_, fun id ver L hL hn' => ?_, fun b hb hne => ?_, by omega, rfl, rfl, rfl⟩⟩
  · rw [hsz]
    rcases Rho.add_cases hL with ⟨-, -, rfl⟩ | hL
    · exact ⟨Nat.lt_succ_self _, hl⟩
    · have := h.dom _ _ _ hL; exact ⟨by omega, this.2⟩
  · rcases Rho.add_cases hL with ⟨rfl, rfl, rfl⟩ | hL
    · rcases Rho.add_cases hL' with ⟨rfl, rfl, rfl⟩ | hL'
      · rfl
      · have := (h.dom _ _ _ hL').1; simp only at e; omega
    · rcases Rho.add_cases hL' with ⟨rfl, rfl, rfl⟩ | hL'
      · have := (h.dom _ _ _ hL).1; simp only at e; omega
      · exact h.inj _ _ _ _ _ _ hL hL' e
  · rw [AHeap.get_new hn] at hr
    rcases Rho.add_cases hL with ⟨rfl, rfl, rfl⟩ | hL
    · rw [if_pos rfl] at hr
      injection hr with hr
      subst hr
      refine ⟨Nat.le_refl _, hl, C, t, fr, by rw [alloc_heap, if_pos rfl], rfl, hfr, fun _ => rfl, fun _ => ⟨Nat.le_refl _, fun j x hj hxj => ?_⟩⟩
      obtain ⟨u, k1, k2⟩ := (hx.mono hle).get hxj
      refine ⟨u, ?_, h1 u (List.mem_of_getElem? k1), k2⟩
      rw [List.getElem?_take, if_pos hj] at k1
      simpa using k1
    · by_cases e : id = H.next
      · subst e
        have := hf _ ver (Nat.le_refl _) (Nat.lt_succ_self _)
        rw [hL] at this; cases this
      · rw [if_neg e] at hr
        refine (h.row _ _ _ _ hL hr).mono hle ?_
        rw [alloc_heap, if_neg (by have := (h.dom _ _ _ hL).1; omega)]
  · rw [AHeap.get_new hn] at hi
    by_cases e : id = H.next
    · exact .inr ⟨by omega, by rw [AHeap.next_new]; omega⟩
    · rw [if_neg e] at hi; exact .inl hi
  · rw [AHeap.get_new hn]
    by_cases e : id = H.next
    · rw [if_pos e]; rfl
    · rw [if_neg e]; exact hi
  · rcases Rho.add_cases hL with ⟨rfl, rfl, rfl⟩ | hL
    · exact .inl ⟨Nat.le_refl _, by rw [AHeap.next_new]; omega⟩
    · rw [hL] at hn'; cases hn'
  · rcases Rho.add_cases hL with ⟨rfl, rfl, rfl⟩ | hL
    · exact .inl (Nat.le_refl _)
    · rw [hL] at hn'; cases hn'
  · rw [alloc_heap, if_neg (by omega)]
theorem freeze_heap (w : World) (b n b' : Nat) : (w.freeze ⟨b, n, none⟩ 1).heap[b']? = if b = b' then (match w.heap[b']? with | some (.cells C t (lo, hi)) => some (.cells C t (if lo == hi then (n, n + 1) else (min lo n, max hi (n + 1)))) | o => o) else w.heap[b']? := by
  unfold World.freeze
  rw [if_neg (by decide)]
  simp only [Array.getElem?_modify]
  split
  · cases w.heap[b']? with
    | none => rfl
    | some o => cases o <;> rfl
  · rfl
theorem HR.freeze {ρ : Rho} {H : AHeap} {w : World} (h : HR ρ H w) {id ver : Nat} {L : Loc} (hL : ρ id ver = some L) (hr : (H.get id).isSome = true) : HR ρ H (w.freeze ⟨L.b, L.n, none⟩ 1) ∧ Ext ρ H w ρ H (w.freeze ⟨L.b, L.n, none⟩ 1) := by
  have hsz : (w.freeze ⟨L.b, L.n, none⟩ 1).heap.size = w.heap.size := by unfold World.freeze; rw [if_neg (by decide)]; simp
  have hos : (w.freeze ⟨L.b, L.n, none⟩ 1).os = w.os ∧ (w.freeze ⟨L.b, L.n, none⟩ 1).tape = w.tape ∧ (w.freeze ⟨L.b, L.n, none⟩ 1).output = w.output := by unfold World.freeze; rw [if_neg (by decide)]; exact ⟨rfl, rfl, rfl⟩
  refine ⟨⟨h.ok, fun id' ver L' hL' => by rw [hsz]; exact h.dom id' ver L' hL', h.inj, fun id' ver' L' r' hL' hr' => ?_⟩, ⟨fun _ _ _ h => h, Nat.le_refl _, fun _ h => .inl h, fun _ h => h, fun id ver L h h' => (by rw [h] at h'; cases h'), fun id ver L h h' => (by rw [h] at h'; cases h'), fun b hb hne => ?_, by rw [hsz]; exact Nat.le_refl _, hos.1, hos.2.1, hos.2.2⟩⟩
  · by_cases eb : L.b = L'.b
    · have e := h.inj _ _ _ _ _ _ hL hL' eb
      subst e
      obtain ⟨r, hr⟩ := Option.isSome_iff_exists.1 hr
      have hrr : r' = r := by rw [hr] at hr'; injection hr' with hr'; exact hr'.symm
      subst hrr
      obtain ⟨a2, a3, C, t, fr, a4, a5, a6, a7, a8⟩ := h.row id ver L r' hL hr
      obtain ⟨b2, b3, C', t', fr', b4, b5, b6, b7, b8⟩ := h.row id ver' L' r' hL' hr
      rw [← eb] at b4
      rw [a4] at b4
      injection b4 with b4
      injection b4 with e1 e2 e3
      subst e1 e2 e3
      obtain ⟨lo, hi⟩ := fr
      refine ⟨b2, b3, C, t, (if lo == hi then (L.n, L.n + 1) else (min lo L.n, max hi (L.n + 1))), by rw [← eb, freeze_heap, if_pos rfl, a4], b5, fun _ => ?_, b7, b8⟩
      have : L'.n = L.n := by omega
      by_cases e : lo = hi
      · subst e; simp; omega
      · have := a6 e
        simp only at this
        rw [if_neg (by simpa using e)]
        simp only
        omega
    · refine (h.row _ _ _ _ hL' hr').mono (fun _ _ _ h => h) ?_
      rw [freeze_heap, if_neg eb]
  · rw [freeze_heap, if_neg (hne id ver L hL hr)]
end
section
structure TI where
  und : TypeDesc
  size : Nat
  bytes : Nat
  zero : Value
  flat : Bool
def TTok (P : Program) (tt : TypeId → Option TI) : Prop := ∀ T i, tt T = some i → ∃ I, P.info? T = some I ∧ P.underlying T = some i.und ∧ I.size = i.size ∧ I.bytes = i.bytes ∧ I.zero = some i.zero
section
variable {P : Program} {tt : TypeId → Option TI} (ht : TTok P tt) {T : TypeId} {i : TI} (hT : tt T = some i)
include ht hT
theorem TTok.run_und (w : World) : (underlying T).run P w = .ok i.und w := by
  obtain ⟨I, h1, h2, h3, h4, h5⟩ := ht T i hT
  exact run_underlying h2 w
theorem TTok.run_size (w : World) : (sizeOf T).run P w = .ok i.size w := by
  obtain ⟨I, h1, h2, h3, h4, h5⟩ := ht T i hT
  simp [sizeOf, typeInfo, h1, h3]
theorem TTok.run_zero (w : World) : (zeroValue T).run P w = .ok i.zero w := by
  obtain ⟨I, h1, h2, h3, h4, h5⟩ := ht T i hT
  simp [zeroValue, typeInfo, h1, h5]
def aggD : TypeDesc → Bool
  | .struct _ | .array _ _ => true
  | _ => false
theorem TTok.run_agg (w : World) : (isAgg T).run P w = .ok (aggD i.und) w := by
  unfold isAgg
  rw [Sem.run_bind, TTok.run_und ht hT]
  simp only [Result.andThen_ok]
  cases i.und <;> rfl
end
def Gives (P : Program) (s : Sem Value) (ρ : Rho) (H : AHeap) (w : World) (x : AVal) (H' : AHeap) : Prop :=
  ∃ v w' ρ', s.run P w = .ok v w' ∧ VR ρ' x v ∧ HR ρ' H' w' ∧ Ext ρ H w ρ' H' w'
theorem Gives.pure {P : Program} {s : Sem Value} {ρ : Rho} {H : AHeap} {w : World} {x : AVal} {v : Value} (h : HR ρ H w) (hs : s.run P w = .ok v w) (hv : VR ρ x v) : Gives P s ρ H w x H :=
  ⟨v, w, ρ, hs, hv, h, Ext.refl _ _ _⟩
def AVal.ones (xs : List AVal) : Bool := xs.all AVal.one
theorem VRs.ones {ρ : Rho} : ∀ {xs vs}, VRs ρ xs vs → AVal.ones xs = true → ∀ u ∈ vs, u.oneCell' = true
  | _, _, .nil, _, u, hu => by cases hu
  | _, _, .cons x v xs vs h hs, ho, u, hu => by
    unfold AVal.ones at ho
    rw [List.all_cons, Bool.and_eq_true] at ho
    rcases List.mem_cons.1 hu with rfl | hu
    · rw [h.one]; exact ho.1
    · exact hs.ones (by unfold AVal.ones; exact ho.2) u hu
def dropC {α : Type} : Nat → Nat → List α → List α
  | 0, n, l => l.drop n
  | c + 1, n, l => match l with
    | _ :: _ :: _ :: _ :: _ :: _ :: _ :: _ :: t => dropC c n t
    | _ => []
theorem dropC_eq {α : Type} : ∀ (c n : Nat) (l : List α), dropC c n l = l.drop (8 * c + n)
  | 0, n, l => by rw [Nat.mul_zero, Nat.zero_add]; rfl
  | c + 1, n, l => by
    unfold dropC
    split
    · rename_i t
      rw [dropC_eq c n t, show 8 * (c + 1) + n = (8 * c + n) + 8 from by omega]
      rfl
    · rename_i h
      symm
      apply List.drop_of_length_le
      rcases l with _ | ⟨a, _ | ⟨b, _ | ⟨c, _ | ⟨d, _ | ⟨e, _ | ⟨f, _ | ⟨g, _ | ⟨k, t⟩⟩⟩⟩⟩⟩⟩⟩ <;> first | (simp only [List.length_cons, List.length_nil]; omega) | exact absurd rfl (h _ _ _ _ _ _ _ _ _)
def dropF {α : Type} (n : Nat) (l : List α) : List α := dropC (n / 8) (n % 8) l
theorem dropF_eq {α : Type} (n : Nat) (l : List α) : dropF n l = l.drop n := by
  unfold dropF
  rw [dropC_eq]
  congr 1
  omega
def takeC (l : List AVal) (k : Nat) : Option (List AVal) := match Nat.beq k 1 with
  | true => (match l with
    | x :: _ => some [x]
    | [] => none)
  | false => if (l.take k).length = k then some (l.take k) else none
theorem takeC_eq (l : List AVal) (k : Nat) : takeC l k = if (l.take k).length = k then some (l.take k) else none := by
  unfold takeC
  split
  · rename_i h
    have h := Nat.eq_of_beq_eq_true h
    subst h
    cases l <;> simp
  · rfl
def readA (H : AHeap) (id ver off k : Nat) : Option (List AVal) :=
  match H.get id with
  | some r => if r.lo ≤ ver then takeC (dropF off r.cells) k else none
  | none => none
theorem readA_eq (H : AHeap) (id ver off k : Nat) : readA H id ver off k = (match H.get id with
  | some r => if r.lo ≤ ver then (if (((r.cells.drop off).take k).length = k) then some ((r.cells.drop off).take k) else none) else none
  | none => none) := by
  unfold readA
  simp only [dropF_eq, takeC_eq]
theorem readA_ok {P : Program} {ρ : Rho} {H : AHeap} {w : World} (h : HR ρ H w) {id ver off k : Nat} {L : Loc} (hL : ρ id ver = some L) (hk : off + k ≤ L.ext) {xs : List AVal} (hr : readA H id ver off k = some xs) :
    ∃ vs : List Value, VRs ρ xs vs ∧ vs.length = k ∧ (∀ u ∈ vs, u.oneCell' = true) ∧ (∀ (j : Nat) u, vs[j]? = some u → w.cell? ⟨L.b, off + j, none⟩ = some u) ∧ (loadCells ⟨L.b, off, none⟩ k).run P w = .ok ⟨vs⟩ w := by
  rw [readA_eq] at hr
  split at hr
  · rename_i r hg
    split at hr
    · rename_i hlo
      split at hr
      · injection hr with hr
        subst hr
        obtain ⟨vs, h1, h2, h3, h4⟩ := h.read hL hg hlo hk
        refine ⟨vs, h2, h1, h3, h4, ?_⟩
        rw [← h1]
        exact run_loadCells_list w _ vs (fun j u hj => by rw [add_cell]; exact h4 j u hj)
      · cases hr
    · cases hr
  · cases hr
def writeA (H : AHeap) (id ver off : Nat) (xs : List AVal) : Option AHeap :=
  match H.get id with
  | some r => if r.ver = ver ∧ r.lo ≤ r.ver ∧ off + xs.length ≤ r.cells.length ∧ AVal.ones xs = true then some (H.put id { r with cells := setAll r.cells off xs, lo := r.ver }) else none
  | none => none
theorem writeA_ok {P : Program} {ρ : Rho} {H H' : AHeap} {w : World} (h : HR ρ H w) {id ver off : Nat} {L : Loc} (hL : ρ id ver = some L) {xs : List AVal} {vs : List Value} (hx : VRs ρ xs vs) (hw : writeA H id ver off xs = some H') :
    ∃ w', (storeCells ⟨L.b, off, none⟩ vs).run P w = .ok () w' ∧ HR ρ H' w' ∧ Ext ρ H w ρ H' w' := by
  unfold writeA at hw
  split at hw
  · rename_i r hg
    split at hw
    · rename_i hc
      obtain ⟨rfl, hlo, h1, h2⟩ := hc
      injection hw with hw
      subst hw
      have hR := h.raise hg r.ver hlo
      have hg2 : (H.put id { r with lo := r.ver }).get id = some { r with lo := r.ver } := by rw [AHeap.get_put h.ok hg, if_pos rfl]
      obtain ⟨w', k1, k2, k3⟩ := HR.setAll (P := P) xs vs hR (r := { r with lo := r.ver }) hL hg2 rfl ⟨L.b, off, none⟩ off 0 (fun j => by rw [add_cell, Nat.zero_add]) h1 hx (hx.ones h2)
      have hs : ((H.put id { r with lo := r.ver }).put id { r with cells := setAll r.cells off xs, lo := r.ver }).same (H.put id { r with cells := setAll r.cells off xs, lo := r.ver }) := ⟨rfl, fun j => put_put j h.ok hg⟩
      exact ⟨w', k1, k2.of_same hs, ((Ext.put h.ok hg).trans k3 h.ok (fun id ver h1 h2 => by rw [AHeap.next_put] at h2; omega)).of_same hs⟩
    · cases hw
  · cases hw
def newA (H : AHeap) (ty : TypeId) (xs : List AVal) : Option AHeap :=
  if H.next < 1099511627776 ∧ AVal.ones xs = true then some (H.new ⟨ty, xs, 0, 0⟩) else none
theorem newA_ok {ρ : Rho} {H H' : AHeap} {w : World} (h : HR ρ H w) {ty : TypeId} {xs : List AVal} (hn : newA H ty xs = some H') (hf : Free ρ H.next H'.next) (t : TypeId) {C : Array Value} {fr : Nat × Nat} (hfr : fr.1 ≠ fr.2 → C.size ≤ fr.1) {more : List Value} (hC : C.toList = (C.toList.take xs.length) ++ more) (hx : VRs ρ xs (C.toList.take xs.length)) :
    HR (ρ.add H.next 0 ⟨w.heap.size, C.size, xs.length⟩) H' (w.alloc (.cells C t fr)) ∧ Ext ρ H w (ρ.add H.next 0 ⟨w.heap.size, C.size, xs.length⟩) H' (w.alloc (.cells C t fr)) := by
  unfold newA at hn
  split at hn
  · rename_i hc
    injection hn with hn
    subst hn
    have hl := hx.length
    rw [List.length_take, Array.length_toList (xs := C)] at hl
    exact h.alloc hc.1 hf ty t (C := C) (fr := fr) hfr hx (by omega) (hx.ones hc.2)
  · cases hn
def aLoad (tt : TypeId → Option TI) (H : AHeap) (T : TypeId) : AVal → Option AVal
  | .ptr id ver off lim => match tt T with
    | some i => if i.size ≤ lim then (if aggD i.und then (readA H id ver off i.size).map .agg else match readA H id ver off 1 with
      | some [x] => if 1 ≤ lim then some x else none
      | _ => none) else none
    | none => none
  | _ => none
theorem aLoad_run {P : Program} {tt : TypeId → Option TI} (ht : TTok P tt) {ρ : Rho} {H : AHeap} {w : World} (h : HR ρ H w) {T : TypeId} {p x : AVal} {v : Value} (hp : VR ρ p v) (hx : aLoad tt H T p = some x) : ∃ u, (Instr.loadAt T v).run P w = .ok u w ∧ VR ρ x u := by
  cases hp with
  | ptr id ver off lim L hL hl =>
    simp only [aLoad] at hx
    split at hx
    · rename_i i hi
      split at hx
      · rename_i hs
        have ha := ht.run_agg hi w
        have hsz := ht.run_size hi w
        split at hx
        · rename_i hag
          obtain ⟨xs, h1, rfl⟩ := Option.map_eq_some_iff.1 hx
          obtain ⟨vs, k1, k2, k3, k4, k5⟩ := readA_ok (P := P) h hL (by omega) h1
          refine ⟨_, ?_, .agg xs vs k1⟩
          simp [Instr.loadAt, Instr.sureAddr, loadVar, ha, hag, hsz, k5]
        · rename_i hag
          split at hx
          · rename_i x' h1
            split at hx
            · rename_i h1l
              injection hx with hx
              subst hx
              obtain ⟨vs, k1, k2, k3, k4, k5⟩ := readA_ok (P := P) h hL (by omega) h1
              cases k1 with
              | cons _ u _ us g gs =>
                have hc := k4 0 u (by simp)
                refine ⟨_, ?_, g⟩
                simp only [Nat.add_zero] at hc
                simp [Instr.loadAt, Instr.sureAddr, loadVar, ha, hag, hc]
            · cases hx
          · cases hx
      · cases hx
    · cases hx
  | _ => simp [aLoad] at hx
theorem aLoad_ok {P : Program} {tt : TypeId → Option TI} (ht : TTok P tt) {ρ : Rho} {H : AHeap} {w : World} (h : HR ρ H w) {T : TypeId} {p x : AVal} {v : Value} (hp : VR ρ p v) (hx : aLoad tt H T p = some x) : Gives P (Instr.loadAt T v) ρ H w x H := by
  obtain ⟨u, k1, k2⟩ := aLoad_run (P := P) ht h hp hx
  exact .pure h k1 k2
def aStore (tt : TypeId → Option TI) (H : AHeap) (T : TypeId) (p x : AVal) : Option AHeap :=
  match p with
  | .ptr id ver off lim => match tt T with
    | some i => if x.cells.length = i.size ∧ i.size ≤ lim then writeA H id ver off x.cells else none
    | none => none
  | _ => none
theorem aStore_ok {P : Program} {tt : TypeId → Option TI} (ht : TTok P tt) {ρ : Rho} {H H' : AHeap} {w : World} (h : HR ρ H w) {T : TypeId} {p x : AVal} {v u : Value} (hp : VR ρ p v) (hu : VR ρ x u) (hx : aStore tt H T p x = some H') :
    ∃ w', (Instr.storeAt T v u).run P w = .ok () w' ∧ HR ρ H' w' ∧ Ext ρ H w ρ H' w' := by
  cases hp with
  | ptr id ver off lim L hL hl =>
    simp only [aStore] at hx
    split at hx
    · rename_i i hi
      split at hx
      · rename_i hs
        obtain ⟨w', k1, k2, k3⟩ := writeA_ok (P := P) h hL hu.cells hx
        refine ⟨w', ?_, k2, k3⟩
        have hsz := ht.run_size hi w
        have hl := hu.cells.length
        rw [Array.length_toList (xs := u.cells)] at hl
        have e : u.cells.size = i.size := by omega
        simp [Instr.storeAt, Instr.sureAddr, storeVar, hsz, e, k1]
      · cases hx
    · cases hx
  | _ => simp [aStore] at hx
def aNew (H : AHeap) (T : TypeId) (xs : List AVal) : Option (AVal × AHeap) := (newA H T xs).map fun H' => (.ptr H.next 0 0 xs.length, H')
theorem aNew_ok {P : Program} {ρ : Rho} {H H' : AHeap} {w : World} (h : HR ρ H w) {T : TypeId} {xs : List AVal} {x : AVal} {v : Value} (hx : VRs ρ xs v.cells.toList) (hn : aNew H T xs = some (x, H')) (hf : Free ρ H.next H'.next) :
    ∃ v' ρ', (newVar T v).run P w = .ok ⟨w.heap.size, 0, none⟩ (w.alloc (.cells v.cells T)) ∧ v' = .pointer (some ⟨w.heap.size, 0, none⟩) ∧ VR ρ' x v' ∧ HR ρ' H' (w.alloc (.cells v.cells T)) ∧ Ext ρ H w ρ' H' (w.alloc (.cells v.cells T)) := by
  unfold aNew at hn
  obtain ⟨H2, h1, h2⟩ := Option.map_eq_some_iff.1 hn
  injection h2 with h2 h3
  subst h2 h3
  have hl := hx.length
  rw [Array.length_toList (xs := v.cells)] at hl
  have e : v.cells.toList.take xs.length = v.cells.toList := List.take_of_length_le (by rw [Array.length_toList (xs := v.cells)]; omega)
  obtain ⟨k1, k2⟩ := newA_ok h h1 hf T (C := v.cells) (fr := (0, 0)) (by simp) (more := []) (by rw [e]; simp) (by rw [e]; exact hx)
  refine ⟨_, _, rfl, rfl, ?_, k1, k2⟩
  · exact .ptr _ _ _ _ _ (Rho.add_self _ _ _ _) (by simp)
def aAlloc (tt : TypeId → Option TI) (H : AHeap) (T : TypeId) : Option (AVal × AHeap) :=
  match tt T with
  | some i => match aconst i.zero with
    | some z => aNew H T z.cells
    | none => none
  | none => none
theorem aAlloc_ok {P : Program} {tt : TypeId → Option TI} (ht : TTok P tt) {ρ : Rho} {H H' : AHeap} {w : World} (h : HR ρ H w) {T : TypeId} {x : AVal} (hn : aAlloc tt H T = some (x, H')) (hf : Free ρ H.next H'.next) : Gives P (Instr.alloc T true (.tuple #[])) ρ H w x H' := by
  unfold aAlloc at hn
  split at hn
  · rename_i i hi
    split at hn
    · rename_i z hz
      obtain ⟨v', ρ', k1, k2, k3, k4, k5⟩ := aNew_ok (P := P) h (aconst_vr (ρ := ρ) hz).cells hn hf
      subst k2
      refine ⟨_, _, ρ', ?_, k3, k4, k5⟩
      simp [Instr.alloc, ht.run_zero hi, k1]
    · cases hn
  · cases hn
def aBox (H : AHeap) (T : TypeId) (x : AVal) : Option (AVal × AHeap) := aNew H T x.cells
theorem aBox_ok {P : Program} {ρ : Rho} {H H' : AHeap} {w : World} (h : HR ρ H w) {T : TypeId} {x y : AVal} {v : Value} (hv : VR ρ y v) (hn : aBox H T y = some (x, H')) (hf : Free ρ H.next H'.next) : Gives P (Instr.box T v) ρ H w x H' := by
  obtain ⟨v', ρ', k1, k2, k3, k4, k5⟩ := aNew_ok (P := P) h hv.cells hn hf
  subst k2
  refine ⟨_, _, ρ', ?_, k3, k4, k5⟩
  simp [Instr.box, k1]
def aFieldAt (tt : TypeId → Option TI) (S : TypeId) (n : Nat) : AVal → Option AVal
  | .ptr id ver off lim => match tt S with
    | some i => match i.und with
      | .struct fields => match fields[n]? with
        | some f => match tt f.type with
          | some j => if j.size ≠ 0 ∧ f.offset + j.size ≤ lim then some (.ptr id ver (off + f.offset) j.size) else none
          | none => none
        | none => none
      | _ => none
    | none => none
  | _ => none
theorem aFieldAt_ok {P : Program} {tt : TypeId → Option TI} (ht : TTok P tt) {ρ : Rho} {H : AHeap} {w : World} (h : HR ρ H w) {S : TypeId} {n : Nat} {p x : AVal} {v : Value} (hp : VR ρ p v) (hx : aFieldAt tt S n p = some x) : Gives P (Instr.fieldAt S v n) ρ H w x H := by
  cases hp with
  | ptr id ver off lim L hL hl =>
    simp only [aFieldAt] at hx
    split at hx
    · rename_i i hi
      split at hx
      · rename_i fields hu
        split at hx
        · rename_i f hf
          split at hx
          · rename_i j hj
            split at hx
            · rename_i hc
              injection hx with hx
              subst hx
              have h1 := ht.run_und hi w
              rw [hu] at h1
              have h2 := ht.run_size hj w
              refine .pure h (v := .pointer (some ⟨L.b, off + f.offset, none⟩)) ?_ (.ptr _ _ _ _ L hL (by omega))
              simp [Instr.fieldAt, Instr.sureAddr, h1, hf, fieldPlace, h2, hc.1, add_cell]
            · cases hx
          · cases hx
        · cases hx
      · cases hx
    · cases hx
  | _ => simp [aFieldAt] at hx
def aPart (tt : TypeId → Option TI) (T : TypeId) (cs : List AVal) (off : Nat) : Option AVal :=
  match tt T with
  | some i => if aggD i.und then some (.agg ((cs.take (off + i.size)).drop off)) else cs[off]?
  | none => none
theorem aPart_ok {P : Program} {tt : TypeId → Option TI} (ht : TTok P tt) {ρ : Rho} (w : World) {T : TypeId} {cs : List AVal} {off : Nat} {x : AVal} {vs : List Value} (hv : VRs ρ cs vs) (hx : aPart tt T cs off = some x) : ∃ v, (part T ⟨vs⟩ off).run P w = .ok v w ∧ VR ρ x v := by
  unfold aPart at hx
  split at hx
  · rename_i i hi
    have h1 := ht.run_agg hi w
    have h2 := ht.run_size hi w
    split at hx
    · rename_i ha
      injection hx with hx
      subst hx
      refine ⟨.agg ⟨(vs.take (off + i.size)).drop off⟩, ?_, .agg _ _ ((hv.take _).drop _)⟩
      simp [part, h1, ha, h2, List.extract_eq_take_drop]
      rw [List.drop_take]
      congr 2
      omega
    · rename_i ha
      obtain ⟨v, k1, k2⟩ := hv.get hx
      refine ⟨v, ?_, k2⟩
      simp [part, h1, ha, k1]
  · cases hx
def aField (tt : TypeId → Option TI) (S : TypeId) (n : Nat) : AVal → Option AVal
  | .agg cs => match tt S with
    | some i => match i.und with
      | .struct fields => match fields[n]? with
        | some f => aPart tt f.type cs f.offset
        | none => none
      | _ => none
    | none => none
  | _ => none
theorem aField_ok {P : Program} {tt : TypeId → Option TI} (ht : TTok P tt) {ρ : Rho} {H : AHeap} {w : World} (h : HR ρ H w) {S : TypeId} {n : Nat} {p x : AVal} {v : Value} (hp : VR ρ p v) (hx : aField tt S n p = some x) : Gives P (Instr.field S v n) ρ H w x H := by
  cases hp with
  | agg cs vs hvs =>
    simp only [aField] at hx
    split at hx
    · rename_i i hi
      split at hx
      · rename_i fields hu
        split at hx
        · rename_i f hf
          have h1 := ht.run_und hi w
          rw [hu] at h1
          obtain ⟨u, k1, k2⟩ := aPart_ok ht w hvs hx
          refine .pure h ?_ k2
          simp [Instr.field, h1, hf, asAgg, k1]
        · cases hx
      · cases hx
    · cases hx
  | _ => simp [aField] at hx
end
section
def aIndexAt (tt : TypeId → Option TI) (T : TypeId) (x y : AVal) : Option AVal :=
  match tt T, y with
  | some i, .int _ k => match i.und, x with
    | .slice e, .slc id ver off len cap sz _ => match tt e with
      | some j => if 0 ≤ k ∧ k < (len : Int) ∧ j.size = sz then some (.ptr id ver (off + k.toNat * j.size) j.size) else none
      | none => none
    | .array n e, .ptr id ver off lim => match tt e with
      | some j => if 0 ≤ k ∧ k < (n : Int) ∧ n * j.size ≤ lim then some (.ptr id ver (off + k.toNat * j.size) j.size) else none
      | none => none
    | _, _ => none
  | _, _ => none
theorem mul_in {k n s : Nat} (h : k < n) : k * s + s ≤ n * s := by
  have := Nat.mul_le_mul_right s (Nat.succ_le_of_lt h)
  rw [Nat.succ_mul] at this
  exact this
theorem aIndexAt_ok {P : Program} {tt : TypeId → Option TI} (ht : TTok P tt) {ρ : Rho} {H : AHeap} {w : World} (h : HR ρ H w) {T : TypeId} {x y z : AVal} {u v : Value} (hu : VR ρ x u) (hv : VR ρ y v) (hx : aIndexAt tt T x y = some z) : Gives P (Instr.indexAt T u v) ρ H w z H := by
  unfold aIndexAt at hx
  split at hx
  · rename_i i k' k hi
    cases hv with
    | int _ _ =>
    split at hx
    · rename_i e id ver off len cap sz ex hd
      cases hu with
      | slc _ _ _ _ _ _ _ L c hL h1 h2 h3 h4 h5 =>
      split at hx
      · rename_i j hj
        split at hx
        · rename_i hk
          injection hx with hx
          subst hx
          have hjs := hk.2.2
          obtain ⟨k, rfl⟩ := Int.eq_ofNat_of_zero_le hk.1
          have hk2 : (k : Int) < (len : Int) := hk.2.1
          have hkl : k < cap := by omega
          have hm := mul_in (s := sz) hkl
          have e1 := ht.run_und hi w
          rw [hd] at e1
          have e2 := ht.run_size hj w
          refine .pure h (v := .pointer (some ⟨L.b, off + k * j.size, none⟩)) ?_ (.ptr _ _ _ _ L hL (by simp only [Int.toNat_natCast, Int.ofNat_eq_natCast]; rw [hjs]; omega))
          have hk3 : k < len := by omega
          simp [Instr.indexAt, asIntOf, e1, hk3, e2, add_cell]
        · cases hx
      · cases hx
    · rename_i n e id ver off lim hd
      cases hu with
      | ptr _ _ _ _ L hL hl =>
      split at hx
      · rename_i j hj
        split at hx
        · rename_i hk
          injection hx with hx
          subst hx
          obtain ⟨k, rfl⟩ := Int.eq_ofNat_of_zero_le hk.1
          have hk2 : (k : Int) < (n : Int) := hk.2.1
          have hm := mul_in (s := j.size) (show k < n by omega)
          have e1 := ht.run_und hi w
          rw [hd] at e1
          have e2 := ht.run_size hj w
          refine .pure h (v := .pointer (some ⟨L.b, off + k * j.size, none⟩)) ?_ (.ptr _ _ _ _ L hL (by have h3 := hk.2.2; simp only [Int.toNat_natCast, Int.ofNat_eq_natCast]; omega))
          have hk3 : k < n := by omega
          simp [Instr.indexAt, asIntOf, e1, hk3, e2, add_cell, Instr.sureAddr]
        · cases hx
      · cases hx
    · cases hx
  · cases hx
def aIndex (tt : TypeId → Option TI) (T : TypeId) (x y : AVal) : Option AVal :=
  match tt T, y with
  | some i, .int _ k => match i.und, x with
    | .array n e, .agg cs => match tt e with
      | some j => if 0 ≤ k ∧ k < (n : Int) then aPart tt e cs (k.toNat * j.size) else none
      | none => none
    | .string, .str s => if 0 ≤ k then (match s[k.toNat]? with
      | some b => some (.int .u8 (b.toNat : Int))
      | none => none) else none
    | _, _ => none
  | _, _ => none
theorem aIndex_ok {P : Program} {tt : TypeId → Option TI} (ht : TTok P tt) {ρ : Rho} {H : AHeap} {w : World} (h : HR ρ H w) {T : TypeId} {x y z : AVal} {u v : Value} (hu : VR ρ x u) (hv : VR ρ y v) (hx : aIndex tt T x y = some z) : Gives P (Instr.index T u v) ρ H w z H := by
  unfold aIndex at hx
  split at hx
  · rename_i i k' k hi
    cases hv with
    | int _ _ =>
    have e1 := ht.run_und hi w
    split at hx
    · rename_i n e cs hd
      rw [hd] at e1
      cases hu with
      | agg _ vs hvs =>
      split at hx
      · rename_i j hj
        split at hx
        · rename_i hk
          obtain ⟨u, k1, k2⟩ := aPart_ok ht w hvs hx
          have e2 := ht.run_size hj w
          refine .pure h ?_ k2
          simp [Instr.index, asIntOf, e1, e2, hk, k1]
        · cases hx
      · cases hx
    · rename_i s hd
      rw [hd] at e1
      cases hu with
      | str _ =>
      split at hx
      · rename_i hk
        split at hx
        · rename_i b hb
          injection hx with hx
          subst hx
          refine .pure h ?_ (.int _ _)
          have hb2 : (⟨⟨s⟩⟩ : ByteArray)[k.toNat]? = some b := by
            obtain ⟨hl, he⟩ := List.getElem?_eq_some_iff.1 hb
            have hsz : k.toNat < (⟨⟨s⟩⟩ : ByteArray).size := hl
            rw [getElem?_pos (⟨⟨s⟩⟩ : ByteArray) k.toNat hsz]
            congr 1
          simp [Instr.index, asIntOf, e1, hk, hb2]
        · cases hx
      · cases hx
    · cases hx
  · cases hx
def aBound (y : Nat) : Option AVal → Option (Option Nat)
  | none => some none
  | some (.int _ k) => if 0 ≤ k ∧ k ≤ (y : Int) then some (some k.toNat) else none
  | some _ => none
theorem aBound_ok {P : Program} {ρ : Rho} {w : World} {y y' : Nat} (hy : y ≤ y') {x : AVal} {v : Value} {n : Nat} {code : BoundsCode} (hv : VR ρ x v) (hx : aBound y (some x) = some (some n)) : (Instr.sliceBound v y' code).run P w = .ok n w ∧ n ≤ y := by
  cases hv with
  | int k m =>
    simp only [aBound] at hx
    split at hx
    · rename_i hk
      injection hx with hx
      injection hx with hx
      subst hx
      refine ⟨?_, by omega⟩
      have hk2 : 0 ≤ m ∧ m ≤ (y' : Int) := ⟨hk.1, by omega⟩
      simp [Instr.sliceBound, asIntOf, hk2]
    · cases hx
  | _ => simp [aBound] at hx
def aSlice (tt : TypeId → Option TI) (T : TypeId) (x : AVal) (lo hi mx : Option AVal) : Option AVal :=
  match tt T with
  | some i => match i.und, x with
    | .string, .str s => match mx with
      | some _ => none
      | none => match aBound s.length hi with
        | none => none
        | some h => match aBound (h.getD s.length) lo with
          | none => none
          | some l => some (.str ((s.take (h.getD s.length)).drop (l.getD 0)))
    | .slice e, .slc id ver off len cap sz ex => match tt e with
      | none => none
      | some j => if j.size ≠ sz then none else match aBound cap mx with
        | none => none
        | some m => match aBound (m.getD cap) hi with
          | none => none
          | some h => match aBound (h.getD len) lo with
            | none => none
            | some l => if mx.isSome ∧ hi.isNone then none else if m.getD cap = l.getD 0 then (if ex ∨ mx.isSome then some (.slc id ver off (h.getD len - l.getD 0) 0 sz true) else some (.emp id ver sz))
              else some (.slc id ver (off + l.getD 0 * j.size) (h.getD len - l.getD 0) (m.getD cap - l.getD 0) sz (ex || mx.isSome))
    | .slice e, .emp id ver sz => match tt e with
      | none => none
      | some j => if j.size ≠ sz then none else match aBound 0 mx with
        | none => none
        | some m => match aBound (m.getD 0) hi with
          | none => none
          | some h => match aBound (h.getD 0) lo with
            | none => none
            | some _ => if mx.isSome ∧ hi.isNone then none else some (.emp id ver sz)
    | .slice e, .nils => match tt e with
      | none => none
      | some _ => match aBound 0 mx with
        | none => none
        | some _ => match aBound 0 hi with
          | none => none
          | some _ => match aBound 0 lo with
            | none => none
            | some _ => if mx.isSome ∧ hi.isNone then none else some .nils
    | .array n e, .ptr id ver off lim => match tt e with
      | none => none
      | some j => match mx with
        | some _ => none
        | none => match aBound n hi with
          | none => none
          | some h => match aBound (h.getD n) lo with
            | none => none
            | some l => if n * j.size ≤ lim ∧ 0 < j.size ∧ n ≠ l.getD 0 ∧ n ≤ 9223372036854775807 then some (.slc id ver (off + l.getD 0 * j.size) (h.getD n - l.getD 0) (n - l.getD 0) j.size true) else none
    | _, _ => none
  | none => none
theorem run_bounds {P : Program} {w : World} {ρ : Rho} {isS : Bool} {len cap c : Nat} (hc : cap ≤ c) {lo hi mx : Option AVal} {lo' hi' mx' : Option Value} {m h l : Option Nat}
    (hlo : ∀ x, lo = some x → ∃ v, lo' = some v ∧ VR ρ x v) (hlo0 : lo = none → lo' = none) (hhi : ∀ x, hi = some x → ∃ v, hi' = some v ∧ VR ρ x v) (hhi0 : hi = none → hi' = none) (hmx : ∀ x, mx = some x → ∃ v, mx' = some v ∧ VR ρ x v) (hmx0 : mx = none → mx' = none)
    (h1 : aBound cap mx = some m) (h2 : aBound (m.getD cap) hi = some h) (h3 : aBound (h.getD len) lo = some l) (h4 : ¬ (mx.isSome = true ∧ hi.isNone = true)) (hlen : len ≤ cap) :
    (Instr.sliceBounds isS len c lo' hi' mx').run P w = .ok (l.getD 0, h.getD len, m.getD c) w ∧ l.getD 0 ≤ h.getD len ∧ h.getD len ≤ m.getD cap ∧ m.getD cap ≤ cap ∧ (m.isSome = mx.isSome) := by
  unfold Instr.sliceBounds
  cases mx with
  | none =>
    have e := hmx0 rfl
    subst e
    simp only [aBound] at h1
    injection h1 with h1
    subst h1
    simp only [Option.getD_none] at h2 ⊢
    cases hi with
    | none =>
      have e := hhi0 rfl
      subst e
      simp only [aBound] at h2
      injection h2 with h2
      subst h2
      simp only [Option.getD_none] at h3 ⊢
      cases lo with
      | none =>
        have e := hlo0 rfl
        subst e
        simp only [aBound] at h3
        injection h3 with h3
        subst h3
        simp [hlen]
      | some x =>
        obtain ⟨v, rfl, hv⟩ := hlo x rfl
        cases l with
        | none => cases hv <;> simp [aBound] at h3
        | some l =>
          obtain ⟨k1, k2⟩ := aBound_ok (P := P) (w := w) (code := .sliceB) (Nat.le_refl _) hv h3
          simp [k1, k2, hlen]
    | some x =>
      obtain ⟨v, rfl, hv⟩ := hhi x rfl
      cases h with
      | none => cases hv <;> simp [aBound] at h2
      | some h =>
        simp only [Option.getD_some] at h3 ⊢
        have kk := fun code => aBound_ok (P := P) (w := w) (code := code) hc hv h2
        cases lo with
        | none =>
          have e := hlo0 rfl
          subst e
          simp only [aBound] at h3
          injection h3 with h3
          subst h3
          simp [(kk _).1, (kk .sliceB).2]
        | some y =>
          obtain ⟨u, rfl, hu⟩ := hlo y rfl
          cases l with
          | none => cases hu <;> simp [aBound] at h3
          | some l =>
            obtain ⟨k1, k2⟩ := aBound_ok (P := P) (w := w) (code := .sliceB) (Nat.le_refl _) hu h3
            simp [(kk _).1, (kk .sliceB).2, k1, k2]
  | some z =>
    obtain ⟨vz, rfl, hvz⟩ := hmx z rfl
    cases m with
    | none => cases hvz <;> simp [aBound] at h1
    | some m =>
      have km := fun code => aBound_ok (P := P) (w := w) (code := code) hc hvz h1
      simp only [Option.getD_some] at h2 ⊢
      cases hi with
      | none => exact absurd ⟨rfl, rfl⟩ h4
      | some x =>
        obtain ⟨v, rfl, hv⟩ := hhi x rfl
        cases h with
        | none => cases hv <;> simp [aBound] at h2
        | some h =>
          simp only [Option.getD_some] at h3 ⊢
          have kk := fun code => aBound_ok (P := P) (w := w) (code := code) (Nat.le_refl _) hv h2
          cases lo with
          | none =>
            have e := hlo0 rfl
            subst e
            simp only [aBound] at h3
            injection h3 with h3
            subst h3
            simp [(km _).1, (km .sliceB).2, (kk _).1, (kk .sliceB).2]
          | some y =>
            obtain ⟨u, rfl, hu⟩ := hlo y rfl
            cases l with
            | none => cases hu <;> simp [aBound] at h3
            | some l =>
              have kl := fun code => aBound_ok (P := P) (w := w) (code := code) (Nat.le_refl _) hu h3
              simp [(km _).1, (km .sliceB).2, (kk _).1, (kk .sliceB).2, (kl _).1, (kl .sliceB).2]
def OptVR (ρ : Rho) (x : Option AVal) (v : Option Value) : Prop := (∀ y, x = some y → ∃ u, v = some u ∧ VR ρ y u) ∧ (x = none → v = none)
theorem str_extract (s : List UInt8) (l h : Nat) : (⟨⟨s⟩⟩ : ByteArray).extract l h = ⟨⟨(s.take h).drop l⟩⟩ := by
  apply ByteArray.ext
  rw [ByteArray.data_extract]
  apply Array.ext'
  simp [Array.toList_extract, List.extract_eq_take_drop, List.drop_take]
theorem aSlice_ok {P : Program} {tt : TypeId → Option TI} (ht : TTok P tt) {ρ : Rho} {H : AHeap} {w : World} (h : HR ρ H w) {T : TypeId} {x z : AVal} {u : Value} {lo hi mx : Option AVal} {lo' hi' mx' : Option Value} (hu : VR ρ x u) (hlo : OptVR ρ lo lo') (hhi : OptVR ρ hi hi') (hmx : OptVR ρ mx mx') (hx : aSlice tt T x lo hi mx = some z) : Gives P (Instr.sliceAt T u lo' hi' mx') ρ H w z H := by
  unfold aSlice at hx
  split at hx
  · rename_i i hT
    have e1 := ht.run_und hT w
    split at hx
    · rename_i s hd
      rw [hd] at e1
      cases hu with
      | str _ =>
      split at hx
      · cases hx
      · have hm' := hmx.2 rfl
        subst hm'
        split at hx
        · cases hx
        · rename_i hh h2
          split at hx
          · cases hx
          · rename_i ll h3
            injection hx with hx
            subst hx
            obtain ⟨k1, k2, k3, -, -⟩ := run_bounds (P := P) (w := w) (Nat.le_refl _) (isS := false) (len := s.length) (cap := s.length) (m := none) (mx := none) (mx' := none) hlo.1 hlo.2 hhi.1 hhi.2 (by simp) (by simp) rfl h2 h3 (by simp) (Nat.le_refl _)
            refine .pure h ?_ (.str _)
            have hsz : (⟨⟨s⟩⟩ : ByteArray).size = s.length := rfl
            simp only [Option.getD_none] at k1
            simp [Instr.sliceAt, Instr.slice, e1, hsz, k1, str_extract]
    · rename_i e id ver off len cap sz ex hd
      rw [hd] at e1
      cases hu with
      | slc _ _ _ _ _ _ _ L c hL g1 g2 g3 g4 g5 =>
      split at hx
      · cases hx
      · rename_i j hj
        have e2 := ht.run_size hj w
        split at hx
        · cases hx
        · rename_i hsz
          have hsz : j.size = sz := Classical.not_not.1 hsz
          subst hsz
          split at hx
          · cases hx
          · rename_i m h1
            split at hx
            · cases hx
            · rename_i hh h2
              split at hx
              · cases hx
              · rename_i ll h3
                split at hx
                · cases hx
                · rename_i h4
                  obtain ⟨k1, k2, k3, k4, k5⟩ := run_bounds (P := P) (w := w) (isS := true) (len := len) (cap := cap) (c := c) g3.1 (m := m) (h := hh) (l := ll) hlo.1 hlo.2 hhi.1 hhi.2 hmx.1 hmx.2 h1 h2 h3 h4 g1
                  have hn := (h.dom _ _ _ hL).2
                  have hmc : m.getD c ≤ c ∧ m.getD cap ≤ m.getD c ∧ (m.isSome = true → m.getD c = m.getD cap) ∧ (m.isSome = false → m.getD c = c ∧ m.getD cap = cap) := by
                    cases m with
                    | none => simpa using g3.1
                    | some m => simp only [Option.getD_some] at k4 ⊢; simp; omega
                  split at hx
                  · rename_i h6
                    split at hx
                    · rename_i h7
                      injection hx with hx
                      subst hx
                      have e0 : m.getD c = ll.getD 0 := by
                        rw [← h6]
                        cases hm : m.isSome with
                        | true => exact hmc.2.2.1 hm
                        | false =>
                          have h8 := hmc.2.2.2 hm
                          rw [h8.1, h8.2]
                          rcases h7 with h7 | h7
                          · exact g5 h7
                          · rw [← k5, hm] at h7; cases h7
                      refine .pure h (v := .slice (some ⟨L.b, off, none⟩) (hh.getD len - ll.getD 0) 0) ?_ (.slc _ _ _ _ _ _ _ L 0 hL (by omega) (by omega) ⟨Nat.le_refl _, by omega⟩ (by omega) (fun _ => rfl))
                      simp [Instr.sliceAt, Instr.slice, e1, k1, e2, e0]
                    · injection hx with hx
                      subst hx
                      have hz0 : hh.getD len - ll.getD 0 = 0 := by omega
                      by_cases e0 : m.getD c = ll.getD 0
                      · refine .pure h (v := .slice (some ⟨L.b, off, none⟩) 0 0) ?_ (.emp _ _ _ L off 0 hL (by omega) (by omega))
                        simp [Instr.sliceAt, Instr.slice, e1, k1, e2, e0, hz0]
                      · have q2 : ll.getD 0 * j.size + (m.getD c - ll.getD 0) * j.size = m.getD c * j.size := by rw [← Nat.add_mul]; congr 1; omega
                        have q4 : m.getD c * j.size ≤ c * j.size := Nat.mul_le_mul_right _ hmc.1
                        refine .pure h (v := .slice (some ⟨L.b, off + ll.getD 0 * j.size, none⟩) 0 (m.getD c - ll.getD 0)) ?_ (.emp _ _ _ L _ _ hL (by omega) (by omega))
                        simp [Instr.sliceAt, Instr.slice, e1, k1, e2, e0, add_cell, hz0]
                  · rename_i h6
                    injection hx with hx
                    subst hx
                    have e0 : ¬ (m.getD c = ll.getD 0) := by
                      cases hm : m.isSome with
                      | true => rw [hmc.2.2.1 hm]; exact h6
                      | false => have h8 := hmc.2.2.2 hm; omega
                    have q1 : ll.getD 0 * j.size + (m.getD cap - ll.getD 0) * j.size = m.getD cap * j.size := by rw [← Nat.add_mul]; congr 1; omega
                    have q2 : ll.getD 0 * j.size + (m.getD c - ll.getD 0) * j.size = m.getD c * j.size := by rw [← Nat.add_mul]; congr 1; omega
                    have q3 : m.getD cap * j.size ≤ cap * j.size := Nat.mul_le_mul_right _ k4
                    have q4 : m.getD c * j.size ≤ c * j.size := Nat.mul_le_mul_right _ hmc.1
                    refine .pure h (v := .slice (some ⟨L.b, off + ll.getD 0 * j.size, none⟩) (hh.getD len - ll.getD 0) (m.getD c - ll.getD 0)) ?_ (.slc _ _ _ _ _ _ _ L (m.getD c - ll.getD 0) hL (by omega) (by omega) (by omega) (by omega) (fun hex => ?_))
                    · simp [Instr.sliceAt, Instr.slice, e1, k1, e2, e0, add_cell]
                    · rw [Bool.or_eq_true] at hex
                      cases hm : m.isSome with
                      | true => rw [hmc.2.2.1 hm]
                      | false =>
                        have h8 := hmc.2.2.2 hm
                        rw [h8.1, h8.2]
                        rcases hex with h7 | h7
                        · rw [g5 h7]
                        · rw [← k5, hm] at h7; cases h7
    · rename_i e id ver sz hd
      rw [hd] at e1
      cases hu with
      | emp _ _ _ L o c hL g3 g4 =>
      split at hx
      · cases hx
      · rename_i j hj
        have e2 := ht.run_size hj w
        split at hx
        · cases hx
        · rename_i hsz
          have hsz : j.size = sz := Classical.not_not.1 hsz
          subst hsz
          split at hx
          · cases hx
          · rename_i m h1
            split at hx
            · cases hx
            · rename_i hh h2
              split at hx
              · cases hx
              · rename_i ll h3
                split at hx
                · cases hx
                · rename_i h4
                  obtain ⟨k1, k2, k3, k4, k5⟩ := run_bounds (P := P) (w := w) (isS := true) (len := 0) (cap := 0) (c := c) (Nat.zero_le _) (m := m) (h := hh) (l := ll) hlo.1 hlo.2 hhi.1 hhi.2 hmx.1 hmx.2 h1 h2 h3 h4 (Nat.le_refl _)
                  injection hx with hx
                  subst hx
                  have z1 : hh.getD 0 = 0 := by omega
                  have z2 : ll.getD 0 = 0 := by omega
                  have hmc : m.getD c ≤ c := by
                    cases m with
                    | none => simp
                    | some m => simp only [Option.getD_some] at k4 ⊢; omega
                  rw [z1, z2] at k1
                  by_cases e0 : m.getD c = 0
                  · refine .pure h (v := .slice (some ⟨L.b, o, none⟩) 0 0) ?_ (.emp _ _ _ L o 0 hL (by omega) (by omega))
                    simp [Instr.sliceAt, Instr.slice, e1, k1, e2, e0]
                  · have q4 : m.getD c * j.size ≤ c * j.size := Nat.mul_le_mul_right _ hmc
                    refine .pure h (v := .slice (some ⟨L.b, o, none⟩) 0 (m.getD c)) ?_ (.emp _ _ _ L o _ hL (by omega) (by omega))
                    simp [Instr.sliceAt, Instr.slice, e1, k1, e2, e0, add_cell]
    · rename_i e hd
      rw [hd] at e1
      cases hu with
      | nils =>
      split at hx
      · cases hx
      · rename_i j hj
        have e2 := ht.run_size hj w
        split at hx
        · cases hx
        · rename_i m h1
          split at hx
          · cases hx
          · rename_i hh h2
            split at hx
            · cases hx
            · rename_i ll h3
              split at hx
              · cases hx
              · rename_i h4
                injection hx with hx
                subst hx
                have hb0 : ∀ (o : Option AVal) (r : Option Nat), aBound 0 o = some r → r.getD 0 = 0 := by
                  intro o r ho
                  cases o with
                  | none => simp [aBound] at ho; subst ho; rfl
                  | some y => cases y <;> simp [aBound] at ho; obtain ⟨ho1, ho2⟩ := ho; subst ho2; simp; omega
                have m0 := hb0 _ _ h1
                have hh0 := hb0 _ _ h2
                have ll0 := hb0 _ _ h3
                obtain ⟨k1, k2, k3, k4, k5⟩ := run_bounds (P := P) (w := w) (Nat.le_refl _) (isS := true) (len := 0) (cap := 0) (m := m) (h := hh) (l := ll) hlo.1 hlo.2 hhi.1 hhi.2 hmx.1 hmx.2 h1 (by rw [m0]; exact h2) (by rw [hh0]; exact h3) h4 (Nat.le_refl _)
                rw [m0, hh0, ll0] at k1
                refine .pure h ?_ .nils
                simp [Instr.sliceAt, Instr.slice, e1, k1, e2]
    · rename_i n e id ver off lim hd
      rw [hd] at e1
      cases hu with
      | ptr _ _ _ _ L hL hl =>
      split at hx
      · cases hx
      · rename_i j hj
        have e2 := ht.run_size hj w
        split at hx
        · cases hx
        · have hm' := hmx.2 rfl
          subst hm'
          split at hx
          · cases hx
          · rename_i hh h2
            split at hx
            · cases hx
            · rename_i ll h3
              split at hx
              · rename_i h4
                injection hx with hx
                subst hx
                obtain ⟨k1, k2, k3, -, -⟩ := run_bounds (P := P) (w := w) (Nat.le_refl _) (isS := false) (len := n) (cap := n) (m := none) (mx := none) (mx' := none) hlo.1 hlo.2 hhi.1 hhi.2 (by simp) (by simp) rfl h2 h3 (by simp) (Nat.le_refl _)
                simp only [Option.getD_none] at k1 k3
                have hmul : ll.getD 0 * j.size + (n - ll.getD 0) * j.size = n * j.size := by rw [← Nat.add_mul]; congr 1; omega
                refine .pure h (v := .slice (some ⟨L.b, off + ll.getD 0 * j.size, none⟩) (hh.getD n - ll.getD 0) (n - ll.getD 0)) ?_ (.slc _ _ _ _ _ _ _ L _ hL (by omega) (by omega) ⟨Nat.le_refl _, by omega⟩ (by have := (h.dom _ _ _ hL).2; omega) (fun _ => rfl))
                simp [Instr.sliceAt, e1, Instr.sureAddr, k1, e2, h4.2.2.1, add_cell]
              · cases hx
    · cases hx
  · cases hx
end
section
section
variable {P : Program} {w w' : World} {t xt ty e : TypeId} {d : TypeDesc} {I : TypeInfo} {z : Value} {size m sLen sCap : Nat} {vs olds : List Value} {x : Value}
def intD : TypeDesc → Bool
  | .int _ => true
  | _ => false
def rowD : TypeDesc → Bool
  | .slice _ | .string => true
  | _ => false
theorem rowD_true (hd : rowD d = true) : (∃ e, d = .slice e) ∨ d = .string := by cases d <;> first | exact .inl ⟨_, rfl⟩ | exact .inr rfl | cases hd
theorem intD_true (hd : intD d = true) : ∃ k, d = .int k := by cases d <;> first | exact ⟨_, rfl⟩ | cases hd
set_option maxHeartbeats 1000000 in
theorem run_app_room (ht : P.underlying t = some (.slice e)) (hu : P.underlying xt = some d) (hd : rowD d = true) (hi : P.info? e = some I) (hl : (Builtin.lenOf x).run P w = .ok m w) (hf : (Builtin.firstCells I.size m x).run P w = .ok ⟨vs⟩ w) {a : Addr}
    (hs : (storeCells (a.add (sLen * I.size)) vs).run P w = .ok () w') (hroom : sLen + m ≤ sCap) : (Builtin.append_ #[t, xt] ty #[.slice (some a) sLen sCap, x]).run P w = .ok (.slice (some a) (sLen + m) sCap) w' := by
  rcases rowD_true hd with ⟨e', rfl⟩ | rfl <;> simp [Builtin.append_, run_underlying ht, run_underlying hu, sizeOf, typeInfo, hi, hl, hroom, hf, hs]
set_option maxHeartbeats 1000000 in
theorem run_app_stay (ht : P.underlying t = some (.slice e)) (hu : P.underlying xt = some d) (hd : rowD d = true) (hi : P.info? e = some I) (hl : (Builtin.lenOf x).run P w = .ok 0 w) (hf : (Builtin.firstCells I.size 0 x).run P w = .ok #[] w) {b : Option Addr}
    (hroom : sLen ≤ sCap) : (Builtin.append_ #[t, xt] ty #[.slice b sLen sCap, x]).run P w = .ok (.slice b sLen sCap) w := by
  cases b <;> rcases rowD_true hd with ⟨e', rfl⟩ | rfl <;> simp [Builtin.append_, run_underlying ht, run_underlying hu, sizeOf, typeInfo, hi, hl, hroom, hf, storeCells]
set_option maxHeartbeats 1000000 in
theorem run_app_grow (ht : P.underlying t = some (.slice e)) (hu : P.underlying xt = some d) (hd : rowD d = true) (hi : P.info? e = some I) (hz : I.zero = some z) (hl : (Builtin.lenOf x).run P w = .ok m w) (hf : (Builtin.firstCells I.size m x).run P w.drew = .ok ⟨vs⟩ w.drew) {b : Option Addr}
    (hfo : (Builtin.firstCells I.size sLen (.slice b sLen sCap)).run P w.drew = .ok ⟨olds⟩ w.drew) (hroom : sCap < sLen + m) (h63 : sLen + m ≤ 1048576) (hb : I.bytes ≤ 1048576) :
    (Builtin.append_ #[t, xt] ty #[.slice b sLen sCap, x]).run P w = .ok (.slice (some ⟨w.heap.size, 0, none⟩) (sLen + m) (grownCap w (sLen + m) sCap e)) (w.drew.alloc (.cells ⟨olds ++ vs ++ (Builtin.zeroCells z.cells (grownCap w (sLen + m) sCap e - (sLen + m))).toList⟩ e)) := by
  have hn : ¬ (sLen + m ≤ sCap) := by omega
  have h63' : ¬ (9223372036854775807 < ((sLen : Int) + (m : Int))) := by omega
  have hmul : (sLen + m) * I.bytes ≤ 1048576 * 1048576 := Nat.mul_le_mul h63 hb
  have h48 := growslice_fits (bytes := I.bytes) hroom (by omega)
  have h48' : ¬ (281474976710656 < Builtin.nextslicecap (sLen + m) sCap * I.bytes) := by omega
  rcases rowD_true hd with ⟨e', rfl⟩ | rfl <;> simp [Builtin.append_, run_underlying ht, run_underlying hu, sizeOf, typeInfo, zeroValue, hi, hz, hl, hn, h63', h48', Question.forced, hf, hfo, newRow, grownCap] <;> (congr 2; apply Array.ext'; simp [List.append_assoc])
set_option maxHeartbeats 1000000 in
theorem run_app_grow0 (ht : P.underlying t = some (.slice e)) (hu : P.underlying xt = some d) (hd : intD d = true) (hi : P.info? e = some I) (hz : I.zero = some z) {k : IntKind} (hm : m * I.size ≠ 0) {b : Option Addr}
    (hfo : (Builtin.firstCells I.size sLen (.slice b sLen sCap)).run P w.drew = .ok ⟨olds⟩ w.drew) (hroom : sCap < sLen + m) (h63 : sLen + m ≤ 1048576) (hb : I.bytes ≤ 1048576) :
    (Builtin.append_ #[t, xt] ty #[.slice b sLen sCap, .int k (m : Int)]).run P w = .ok (.slice (some ⟨w.heap.size, 0, none⟩) (sLen + m) (grownCap w (sLen + m) sCap e)) (w.drew.alloc (.cells ⟨olds ++ (Builtin.zeroCells z.cells m).toList ++ (Builtin.zeroCells z.cells (grownCap w (sLen + m) sCap e - (sLen + m))).toList⟩ e)) := by
  obtain ⟨k', rfl⟩ := intD_true hd
  have hw : IntKind.i64.wrap (m : Int) = (m : Int) := by rw [IntKind.wrap_i64]; omega
  have hmul0 : m * I.bytes ≤ 1048576 * 1048576 := Nat.mul_le_mul (by omega) hb
  have h3 : ¬ ((281474976710656 : Int) < (m : Int) * (I.bytes : Int)) := by rw [← Int.natCast_mul]; omega
  have hm3 : ¬ ((m : Int) < 0) := by omega
  have hm4 : ¬ (m * I.size = 0) := hm
  have hm0 : ¬ (m = 0 ∨ I.size = 0) := by rw [← Nat.mul_eq_zero]; exact hm
  have hm1 : ¬ m = 0 := fun h => hm0 (.inl h)
  have hm2 : ¬ I.size = 0 := fun h => hm0 (.inr h)
  have hn : ¬ (sLen + m ≤ sCap) := by omega
  have h63' : ¬ (9223372036854775807 < ((sLen : Int) + (m : Int))) := by omega
  have hmul : (sLen + m) * I.bytes ≤ 1048576 * 1048576 := Nat.mul_le_mul h63 hb
  have h48 := growslice_fits (bytes := I.bytes) hroom (by omega)
  have h48' : ¬ (281474976710656 < Builtin.nextslicecap (sLen + m) sCap * I.bytes) := by omega
  simp [Builtin.append_, run_underlying ht, run_underlying hu, sizeOf, typeInfo, zeroValue, hi, hz, asInt, asIntOf, hw, h3, hm1, hm2, hm3, hm4, hn, h63', h48', Question.forced, hfo, newRow, grownCap]
  congr 2
  apply Array.ext'
  simp [List.append_assoc]
end
end
section
theorem raw_store {P : Program} {b : Nat} {t : TypeId} {fr : Nat × Nat} : ∀ (vs : List Value) (w : World) (C : Array Value) (a : Addr) (off i : Nat) (ha : ∀ j, a.add (i + j) = ⟨b, off + j, none⟩) (hb : w.heap[b]? = some (.cells C t fr)) (hfr : fr.1 ≠ fr.2 → C.size ≤ fr.1) (ho : off + vs.length ≤ C.size) (h1 : ∀ u ∈ vs, u.oneCell' = true),
    ∃ (w' : World) (C' : Array Value), (storeCells a vs i).run P w = .ok () w' ∧ w'.heap[b]? = some (.cells C' t fr) ∧ C'.size = C.size ∧ (∀ j, j < off → C'[j]? = C[j]?) ∧ (∀ j, off + vs.length ≤ j → C'[j]? = C[j]?) ∧ (∀ (j : Nat) u, vs[j]? = some u → C'[off + j]? = some u) ∧
      (∀ b', b' ≠ b → w'.heap[b']? = w.heap[b']?) ∧ w'.heap.size = w.heap.size ∧ w'.os = w.os ∧ w'.tape = w.tape ∧ w'.output = w.output
  | [], w, C, a, off, i, ha, hb, hfr, ho, h1 => ⟨w, C, rfl, hb, rfl, fun _ _ => rfl, fun _ _ => rfl, fun j u h => by simp at h, fun _ _ => rfl, rfl, rfl, rfl, rfl⟩
  | v :: vs, w, C, a, off, i, ha, hb, hfr, ho, h1 => by
    simp only [List.length_cons] at ho
    have ha0 : a.add i = ⟨b, off, none⟩ := by simpa using ha 0
    have hc : w.cell? ⟨b, off, none⟩ = some (C[off]'(by omega)) := by rw [cell_of_heap hb]; exact Array.getElem?_eq_getElem (by omega)
    have hz := frozen_of_heap hb hfr (off := off) (by omega)
    obtain ⟨w', C', k1, k2, k3, k4, k5, k6, k7, k8, k9, k10, k11⟩ := raw_store (P := P) vs (w.setCell ⟨b, off, none⟩ v) (C.setIfInBounds off v) a (off + 1) (i + 1) (fun j => by rw [Nat.add_assoc, Nat.add_assoc]; exact ha (1 + j)) (by rw [setCell_heap, if_pos rfl, hb]) (by simpa using hfr) (by simp; omega) (fun u hu => h1 u (by simp [hu]))
    refine ⟨w', C', ?_, k2, by simpa using k3, fun j hj => ?_, fun j hj => ?_, fun j u hj => ?_, fun b' hb' => ?_, by rw [k8]; simp [World.setCell], k9, k10, k11⟩
    · unfold storeCells
      rw [Sem.run_bind, run_store _ _ _ _ _ (h1 v (by simp)), ha0, hc]
      simp only [hz, Bool.false_eq_true, if_false, Result.andThen_ok]
      exact k1
    · rw [k4 j (by omega), Array.getElem?_setIfInBounds_ne (by omega)]
    · rw [List.length_cons] at hj
      rw [k5 j (by omega), Array.getElem?_setIfInBounds_ne (by omega)]
    · cases j with
      | zero =>
        simp at hj
        subst hj
        rw [Nat.add_zero, k4 off (by omega), Array.getElem?_setIfInBounds_self_of_lt (by omega)]
      | succ j =>
        rw [show off + (j + 1) = off + 1 + j from by omega]
        exact k6 j u (by simpa using hj)
    · rw [k7 b' hb', setCell_heap, if_neg (fun e => hb' e.symm)]
def growA (H : AHeap) (id ver n : Nat) (xs : List AVal) : Option AHeap :=
  match H.get id with
  | some r => if r.ver = ver ∧ r.lo ≤ r.ver ∧ r.cells.length = n ∧ AVal.ones xs = true then some (H.put id { r with cells := r.cells ++ xs, ver := ver + 1 }) else none
  | none => none
theorem HR.grown {ρ : Rho} {H : AHeap} {w w' : World} (h : HR ρ H w) {id : Nat} {L L' : Loc} {r : ARow} (hL : ρ id r.ver = some L) (hr : H.get id = some r) (xs : List AVal)
    (hb : (L'.b = L.b ∧ L'.n = L.n) ∨ L'.b = w.heap.size) (he : L'.ext = r.cells.length + xs.length) (hn : L'.ext ≤ L'.n)
    (hsz : w.heap.size ≤ w'.heap.size) (hlt : L'.b < w'.heap.size) (hos : w'.os = w.os) (hta : w'.tape = w.tape) (hou : w'.output = w.output)
    (hoth : ∀ b, b < w.heap.size → b ≠ L'.b → w'.heap[b]? = w.heap[b]?)
    (hnew : ∃ C t fr, w'.heap[L'.b]? = some (.cells C t fr) ∧ C.size = L'.n ∧ (fr.1 ≠ fr.2 → L'.n ≤ fr.1) ∧ ∀ j x, j < L'.ext → (r.cells ++ xs)[j]? = some x → ∃ u, C[j]? = some u ∧ u.oneCell' = true ∧ VR ρ x u) :
    HR (ρ.add id (r.ver + 1) L') (H.put id { r with cells := r.cells ++ xs, ver := r.ver + 1 }) w' ∧ Ext ρ H w (ρ.add id (r.ver + 1) L') (H.put id { r with cells := r.cells ++ xs, ver := r.ver + 1 }) w' := by
  have hnone : ρ id (r.ver + 1) = none := by
    cases hc : ρ id (r.ver + 1) with
    | none => rfl
    | some L2 => have := (h.row _ _ _ _ hc hr).1; omega
  have hle : ρ.le (ρ.add id (r.ver + 1) L') := Rho.add_le hnone
  have hk : (H.get id).isSome = true := by rw [hr]; rfl
  have key : ∀ i v M, ρ i v = some M → M.b = L'.b → i = id := by
    intro i v M hM e
    rcases hb with hb | hb
    · exact h.inj _ _ _ _ _ _ hM hL (e.trans hb.1)
    · have := (h.dom _ _ _ hM).1; omega
  obtain ⟨C, t, fr, n1, n2, n3, n4⟩ := hnew
  refine ⟨⟨h.ok.put hr _, fun i v M hM => ?_, fun i v M i' v' M' hM hM' e => ?_, fun i v M r' hM hr' => ?_⟩, ⟨hle, Nat.le_refl _, (Ext.put (ρ := ρ) (w := w) h.ok hr).rows, (Ext.put (ρ := ρ) (w := w) h.ok hr).keep, fun i v M hM hn' => ?_, fun i v M hM hn' => ?_, fun b hb' hne => ?_, hsz, hos, hta, hou⟩⟩
  · rcases Rho.add_cases hM with ⟨-, -, rfl⟩ | hN
    · exact ⟨hlt, hn⟩
    · have := h.dom _ _ _ hN; exact ⟨by omega, this.2⟩
  · rcases Rho.add_cases hM with ⟨rfl, rfl, rfl⟩ | hN
    · rcases Rho.add_cases hM' with ⟨rfl, rfl, rfl⟩ | hN'
      · rfl
      · exact (key _ _ _ hN' e.symm).symm
    · rcases Rho.add_cases hM' with ⟨rfl, rfl, rfl⟩ | hN'
      · exact key _ _ _ hN e
      · exact h.inj _ _ _ _ _ _ hN hN' e
  · rw [AHeap.get_put h.ok hr] at hr'
    rcases Rho.add_cases hM with ⟨rfl, rfl, rfl⟩ | hN
    · rw [if_pos rfl] at hr'
      injection hr' with hr'
      subst hr'
      refine ⟨Nat.le_refl _, hn, C, t, fr, n1, n2, n3, fun _ => by simp [he], fun _ => ⟨by simp [he], fun j x hj hx => ?_⟩⟩
      obtain ⟨u, q1, q2, q3⟩ := n4 j x hj hx
      exact ⟨u, q1, q2, q3.mono hle⟩
    · by_cases e : i = id
      · subst e
        rw [if_pos rfl] at hr'
        injection hr' with hr'
        subst hr'
        obtain ⟨a2, a3, C0, t0, fr0, a4, a5, a6, a7, a8⟩ := h.row _ _ _ _ hN hr
        by_cases eb : M.b = L'.b
        · refine ⟨by simp only; omega, a3, C, t, fr, by rw [eb]; exact n1, ?_, ?_, fun hv => by simp only at hv; omega, fun hl => ?_⟩
          · rcases hb with hb | hb
            · rw [n2, hb.2]
              obtain ⟨c2, c3, C1, t1, fr1, c4, c5, -⟩ := h.row _ _ _ _ hL hr
              rw [eb, hb.1, c4] at a4
              injection a4 with a4
              injection a4 with e1 e2 e3
              subst e1
              omega
            · have := (h.dom _ _ _ hN).1; omega
          · rcases hb with hb | hb
            · obtain ⟨c2, c3, C1, t1, fr1, c4, c5, -⟩ := h.row _ _ _ _ hL hr
              rw [eb, hb.1, c4] at a4
              injection a4 with a4
              injection a4 with e1 e2 e3
              subst e1
              intro hf
              have := n3 hf
              omega
            · have := (h.dom _ _ _ hN).1; omega
          · obtain ⟨d1, d2⟩ := a8 hl
            refine ⟨by simp only [List.length_append]; omega, fun j x hj hx => ?_⟩
            obtain ⟨u, q1, q2, q3⟩ := n4 j x (by omega) hx
            exact ⟨u, q1, q2, q3.mono hle⟩
        · refine ⟨by simp only; omega, a3, C0, t0, fr0, by rw [hoth _ (h.dom _ _ _ hN).1 eb]; exact a4, a5, a6, fun hv => by simp only at hv; omega, fun hl => ?_⟩
          obtain ⟨d1, d2⟩ := a8 hl
          refine ⟨by simp only [List.length_append]; omega, fun j x hj hx => ?_⟩
          simp only at hx
          rw [List.getElem?_append_left (by omega)] at hx
          obtain ⟨u, q1, q2, q3⟩ := d2 j x hj hx
          exact ⟨u, q1, q2, q3.mono hle⟩
      · rw [if_neg e] at hr'
        exact (h.row _ _ _ _ hN hr').mono hle (hoth _ (h.dom _ _ _ hN).1 (fun eb => e (key _ _ _ hN eb)))
  · rcases Rho.add_cases hM with ⟨rfl, rfl, rfl⟩ | hN
    · exact .inr ⟨hk, r.ver, L, hL⟩
    · rw [hN] at hn'; cases hn'
  · rcases Rho.add_cases hM with ⟨rfl, rfl, rfl⟩ | hN
    · rcases hb with hb | hb
      · exact .inr ⟨r.ver, L, hL, hb.1.symm, hk⟩
      · exact .inl (by omega)
    · rw [hN] at hn'; cases hn'
  · refine hoth b hb' (fun e => ?_)
    rcases hb with hb | hb
    · exact hne id r.ver L hL hk (by omega)
    · omega
theorem growA_in {P : Program} {ρ : Rho} {H H' : AHeap} {w : World} (h : HR ρ H w) {id ver n : Nat} {L : Loc} (hL : ρ id ver = some L) {xs : List AVal} {vs : List Value} (hx : VRs ρ xs vs) (hg : growA H id ver n xs = some H') (hroom : n + xs.length ≤ L.n) :
    ∃ w', (storeCells ⟨L.b, n, none⟩ vs).run P w = .ok () w' ∧ HR (ρ.add id (ver + 1) ⟨L.b, L.n, n + xs.length⟩) H' w' ∧ Ext ρ H w (ρ.add id (ver + 1) ⟨L.b, L.n, n + xs.length⟩) H' w' := by
  unfold growA at hg
  split at hg
  · rename_i r hr
    split at hg
    · rename_i hc
      obtain ⟨rfl, c1, c2, c3⟩ := hc
      injection hg with hg
      subst hg
      obtain ⟨a2, a3, C, t, fr, a4, a5, a6, a7, a8⟩ := h.row _ _ _ _ hL hr
      have hlen := hx.length
      obtain ⟨w', C', k1, k2, k3, k4, k5, k6, k7, k8, k9, k10, k11⟩ := raw_store (P := P) vs w C ⟨L.b, n, none⟩ n 0 (fun j => by rw [add_cell, Nat.zero_add]) a4 (by rw [a5]; exact a6) (by omega) (hx.ones c3)
      have hd := (h.dom _ _ _ hL).1
      have := h.grown (L' := ⟨L.b, L.n, n + xs.length⟩) (w' := w') hL hr xs (.inl ⟨rfl, rfl⟩) (by simp only; omega) hroom (by omega) (by rw [k8]; exact hd) k9 k10 k11 (fun b hb hne => k7 b hne) ⟨C', t, fr, k2, (by show C'.size = L.n; omega), a6, fun j x hj hxj => by
        by_cases hjl : j < r.cells.length
        · rw [List.getElem?_append_left hjl] at hxj
          obtain ⟨u, q1, q2, q3⟩ := (a8 c1).2 j x (by have := a7 rfl; omega) hxj
          exact ⟨u, (k4 j (by omega)).trans q1, q2, q3⟩
        · rw [List.getElem?_append_right (by omega)] at hxj
          obtain ⟨u, q1, q2⟩ := hx.get hxj
          refine ⟨u, ?_, hx.ones c3 u (List.mem_of_getElem? q1), q2⟩
          have := k6 _ u q1
          rw [show n + (j - r.cells.length) = j from by omega] at this
          exact this⟩
      exact ⟨w', k1, this⟩
    · cases hg
  · cases hg
theorem growA_new {ρ : Rho} {H H' : AHeap} {w : World} (h : HR ρ H w) {id ver n : Nat} {L : Loc} (hL : ρ id ver = some L) {olds xs : List AVal} {os vs more : List Value} (ho : VRs ρ olds os) (hx : VRs ρ xs vs) (hg : growA H id ver n xs = some H') (hold : readA H id ver 0 n = some olds) (t : TypeId) :
    HR (ρ.add id (ver + 1) ⟨w.heap.size, (os ++ vs ++ more).length, n + xs.length⟩) H' (w.alloc (.cells ⟨os ++ vs ++ more⟩ t)) ∧ Ext ρ H w (ρ.add id (ver + 1) ⟨w.heap.size, (os ++ vs ++ more).length, n + xs.length⟩) H' (w.alloc (.cells ⟨os ++ vs ++ more⟩ t)) := by
  unfold growA at hg
  rw [readA_eq] at hold
  split at hg
  · rename_i r hr
    rw [hr] at hold
    split at hg
    · rename_i hc
      obtain ⟨rfl, c1, c2, c3⟩ := hc
      injection hg with hg
      subst hg
      simp only [if_pos c1, List.drop_zero] at hold
      split at hold
      · rename_i hln
        injection hold with hold
        have e : r.cells = olds := by rw [← hold, List.take_of_length_le (by omega)]
        subst e
        have hl1 := ho.length
        have hl2 := hx.length
        refine h.grown (L' := ⟨w.heap.size, (os ++ vs ++ more).length, n + xs.length⟩) hL hr xs (.inr rfl) (by simp only; omega) (by simp; omega) (by simp) (by simp) rfl rfl rfl (fun b hb hne => by rw [alloc_heap, if_neg (by omega)]) ⟨_, t, (0, 0), by rw [alloc_heap, if_pos rfl], rfl, by simp, fun j x hj hxj => ?_⟩
        have ha := ho.append hx
        obtain ⟨u, q1, q2⟩ := ha.get hxj
        refine ⟨u, ?_, ?_, q2⟩
        · have : (os ++ vs ++ more)[j]? = some u := by rw [List.getElem?_append_left (by rw [ha.length]; exact (List.getElem?_eq_some_iff.1 hxj).1)]; exact q1
          simpa using this
        · by_cases hjl : j < os.length
          · rw [List.getElem?_append_left hjl] at q1
            obtain ⟨a2, a3, C, t', fr, a4, a5, a6, a7, a8⟩ := h.row _ _ _ _ hL hr
            rw [List.getElem?_append_left (by omega)] at hxj
            rw [q2.one]
            obtain ⟨u', z1, z2, z3⟩ := (a8 c1).2 j x (by have := a7 rfl; omega) hxj
            rw [← z3.one]
            exact z2
          · rw [List.getElem?_append_right (by omega)] at q1
            exact hx.ones c3 u (List.mem_of_getElem? q1)
      · cases hold
    · cases hg
  · cases hg
end
section
theorem grown_max {w : World} {need old : Nat} {e : TypeId} (h : need ≤ 1048576) : grownCap w need old e ≤ 9223372036854775807 := grownCap_le_maxLen w need old e (Nat.le_trans h (by decide))
def repA (zc : List AVal) : Nat → List AVal
  | 0 => []
  | n + 1 => zc ++ repA zc n
theorem repA_length (zc : List AVal) : ∀ n, (repA zc n).length = n * zc.length
  | 0 => by simp [repA]
  | n + 1 => by rw [repA, List.length_append, repA_length zc n, Nat.succ_mul]; omega
theorem repA_get (zc : List AVal) : ∀ (n i : Nat), i < n * zc.length → (repA zc n)[i]? = zc[i % zc.length]?
  | 0, i, h => by omega
  | n + 1, i, h => by
    rw [repA]
    rw [Nat.succ_mul] at h
    by_cases hi : i < zc.length
    · rw [List.getElem?_append_left hi, Nat.mod_eq_of_lt hi]
    · rw [List.getElem?_append_right (by omega), repA_get zc n (i - zc.length) (by omega), ← Nat.mod_eq_sub_mod (by omega)]
theorem zero_cells {ρ : Rho} {z : Value} {zx : AVal} (h : VR ρ zx z) (n : Nat) : VRs ρ (repA zx.cells n) (Builtin.zeroCells z.cells n).toList := by
  have hc := h.cells
  have hl := hc.length
  rw [Array.length_toList (xs := z.cells)] at hl
  refine VRs.of_get ?_ (fun i x hx => ?_)
  · rw [Array.length_toList, size_zeroCells, repA_length, hl]
  · have hi : i < n * zx.cells.length := by
      have := (List.getElem?_eq_some_iff.1 hx).1
      rwa [repA_length] at this
    rw [repA_get _ _ _ hi] at hx
    obtain ⟨v, k1, k2⟩ := hc.get hx
    refine ⟨v, ?_, k2⟩
    have hp : i % z.cells.size < z.cells.size := Nat.mod_lt _ (by rw [hl]; rcases Nat.eq_zero_or_pos zx.cells.length with h0 | h0; (rw [h0] at hi; omega); exact h0)
    simp only [Builtin.zeroCells, Array.toList_map, List.getElem?_map, Array.toList_range]
    rw [List.getElem?_range (by rw [hl]; exact hi), Option.map_some]
    congr 1
    rw [getElem!_pos z.cells _ hp]
    rw [← hl] at k1
    have : z.cells[i % z.cells.size]? = some v := by simpa using k1
    rw [Array.getElem?_eq_getElem hp] at this
    injection this
def aNews (H : AHeap) (sz : Nat) : AVal → Option (Nat × List AVal)
  | .nils => some (0, [])
  | .emp _ _ _ => some (0, [])
  | .slc id ver off len cap z _ => if z = sz then (readA H id ver off (len * sz)).map fun xs => (len, xs) else none
  | .str s => if sz = 1 then some (s.length, s.map fun b => .int .u8 (b.toNat : Int)) else none
  | _ => none
theorem str_cells_vr {ρ : Rho} : ∀ s : List UInt8, VRs ρ (s.map fun b => AVal.int .u8 (b.toNat : Int)) (s.map fun b => Value.int .u8 (b.toNat : Int))
  | [] => .nil
  | b :: s => .cons _ _ _ _ (.int _ _) (str_cells_vr s)
theorem str_first {P : Program} (size : Nat) (s : List UInt8) (w : World) : (Builtin.firstCells size s.length (.string ⟨⟨s⟩⟩)).run P w = .ok ⟨s.map fun b => Value.int .u8 (b.toNat : Int)⟩ w := by
  unfold Builtin.firstCells
  have : ((⟨⟨s⟩⟩ : ByteArray).extract 0 s.length).data = ⟨s⟩ := by rw [str_extract]; simp
  simp [this]
theorem aNews_ok {P : Program} {ρ : Rho} {H : AHeap} {w : World} (h : HR ρ H w) {sz m : Nat} {x : AVal} {v : Value} {xs : List AVal} (hv : VR ρ x v) (hn : aNews H sz x = some (m, xs)) : (Builtin.lenOf v).run P w = .ok m w ∧ ∃ vs, VRs ρ xs vs ∧ (Builtin.firstCells sz m v).run P w = .ok ⟨vs⟩ w ∧ (m = 0 → vs = []) := by
  cases hv with
  | nils =>
    simp only [aNews] at hn
    injection hn with hn
    injection hn with h1 h2
    subst h1 h2
    exact ⟨rfl, [], .nil, rfl, fun _ => rfl⟩
  | emp =>
    simp only [aNews] at hn
    injection hn with hn
    injection hn with h1 h2
    subst h1 h2
    exact ⟨rfl, [], .nil, by simp [Builtin.firstCells, loadCells, loadCellsFrom], fun _ => rfl⟩
  | str s =>
    simp only [aNews] at hn
    split at hn
    · rename_i h1
      injection hn with hn
      injection hn with h2 h3
      subst h1 h2 h3
      exact ⟨rfl, _, str_cells_vr s, str_first _ _ _, fun h => by rw [List.eq_nil_of_length_eq_zero h]; rfl⟩
    · cases hn
  | slc id ver off len cap z ex L c hL h1 h2 h3 h4 h5 =>
    simp only [aNews] at hn
    split at hn
    · rename_i hz
      subst hz
      obtain ⟨ys, k1, k2⟩ := Option.map_eq_some_iff.1 hn
      injection k2 with k2 k3
      subst k2 k3
      have hm : len * z ≤ cap * z := Nat.mul_le_mul_right _ h1
      obtain ⟨vs, q1, q2, q3, q4, q5⟩ := readA_ok (P := P) h hL (by omega) k1
      exact ⟨rfl, vs, q1, q5, fun h0 => by subst h0; simpa using q2⟩
    · cases hn
  | _ => simp [aNews] at hn
def aAppend (tt : TypeId → Option TI) (H : AHeap) (t xt : TypeId) (s x : AVal) : Option (AVal × AHeap) :=
  match tt t, tt xt with
  | some i, some d => match i.und with
    | .slice e => match tt e with
      | some j => if j.bytes ≤ 1048576 ∧ rowD d.und then match aNews H j.size x with
        | some (m, news) => match s with
          | .nils => if m = 0 then some (.nils, H) else if m ≤ 1048576 ∧ m * j.size = news.length then (newA H e news).map fun H' => (.slc H.next 0 0 m m j.size false, H') else none
          | .slc id ver off len cap sz ex => if sz = j.size ∧ m * sz = news.length then
              (if m = 0 then some (s, H) else if len + m ≤ cap then (writeA H id ver (off + len * sz) news).map fun H' => (.slc id ver off (len + m) cap sz ex, H')
              else if len + m ≤ 1048576 then (if ex then (match readA H id ver off (len * sz) with
                | some olds => (newA H e (olds ++ news)).map fun H' => (.slc H.next 0 0 (len + m) (len + m) sz false, H')
                | none => none) else if off = 0 ∧ len = cap ∧ (readA H id ver 0 (len * sz)).isSome then (growA H id ver (len * sz) news).map fun H' => (.slc id (ver + 1) 0 (len + m) (len + m) sz false, H') else none) else none) else none
          | _ => none
        | none => none
        else none
      | none => none
    | _ => none
  | _, _ => none
theorem grown_cap {w : World} {need old : Nat} {e : TypeId} : need ≤ grownCap w need old e := grownCap_ge w need old e
set_option maxHeartbeats 1000000 in
theorem aAppend_ok {P : Program} {tt : TypeId → Option TI} (ht : TTok P tt) (hzs : ∀ e j, tt e = some j → j.zero.cells.size = j.size) {ρ : Rho} {H H' : AHeap} {w : World} (h : HR ρ H w) {t xt ty : TypeId} {s x y : AVal} {sv xv : Value} (hs : VR ρ s sv) (hx : VR ρ x xv) (ha : aAppend tt H t xt s x = some (y, H')) (hf : Free ρ H.next H'.next) :
    Gives P (Builtin.append_ #[t, xt] ty #[sv, xv]) ρ H w y H' := by
  unfold aAppend at ha
  split at ha
  · rename_i i d hi hd
    split at ha
    · rename_i e hu
      split at ha
      · rename_i j hj
        split at ha
        · rename_i hc
          obtain ⟨hc1, hc2⟩ := hc
          split at ha
          · rename_i m news hnw
            obtain ⟨_, _, e1, _⟩ := ht t i hi
            obtain ⟨_, _, e2, _⟩ := ht xt d hd
            obtain ⟨I, e3, e4, e5, e6, e7⟩ := ht e j hj
            rw [hu] at e1
            have hd0 : HR ρ H w.drew := h.of_heap rfl
            obtain ⟨n1, vs, n2, n3, n4⟩ := aNews_ok (P := P) h hx hnw
            obtain ⟨-, vs', n2', n3', -⟩ := aNews_ok (P := P) hd0 hx hnw
            have hvs := n2.length
            have hvs' := n2'.length
            have hzz := hzs e j hj
            split at ha
            · cases hs with
              | nils =>
              split at ha
              · rename_i hm
                subst hm
                injection ha with ha
                injection ha with h1 h2
                subst h1 h2
                have hvn := n4 rfl
                subst hvn
                exact .pure h (run_app_stay e1 e2 hc2 e3 n1 (by rw [e5]; exact n3) (Nat.le_refl _)) .nils
              · rename_i hm
                split at ha
                · rename_i hm2
                  obtain ⟨H2, k1, k2⟩ := Option.map_eq_some_iff.1 ha
                  injection k2 with k2 k3
                  subst k2 k3
                  have hr := run_app_grow (P := P) (ty := ty) e1 e2 hc2 e3 e7 n1 (by rw [e5]; exact n3') (b := none) (sLen := 0) (sCap := 0) (olds := []) rfl (by omega) (by omega) (by omega)
                  simp only [Nat.zero_add, List.nil_append] at hr
                  have hg := grown_cap (w := w) (need := m) (old := 0) (e := e)
                  have hzl : (Builtin.zeroCells j.zero.cells (grownCap w m 0 e - m)).toList.length = (grownCap w m 0 e - m) * j.size := by rw [Array.length_toList, size_zeroCells, hzz]
                  have hmul : m * j.size + (grownCap w m 0 e - m) * j.size = grownCap w m 0 e * j.size := by rw [← Nat.add_mul]; congr 1; omega
                  obtain ⟨q1, q2⟩ := newA_ok hd0 k1 hf e (C := ⟨vs' ++ (Builtin.zeroCells j.zero.cells (grownCap w m 0 e - m)).toList⟩) (fr := (0, 0)) (by simp) (more := (Builtin.zeroCells j.zero.cells (grownCap w m 0 e - m)).toList) (by simp [hvs']) (by simp only [List.take_left' hvs']; exact n2')
                  refine ⟨_, _, _, hr, ?_, q1, ?_⟩
                  · refine .slc _ _ _ _ _ _ _ _ _ (Rho.add_self _ _ _ _) (Nat.le_refl _) (by simp only; omega) ⟨hg, grown_max (by omega)⟩ ?_ (by simp)
                    simp only [List.size_toArray, List.length_append]
                    omega
                  · exact (Ext.same (w := w) (w' := w.drew) rfl rfl rfl rfl).trans q2 h.ok (fun id ver h1 h2 => by omega)
                · cases ha
            · rename_i id ver off len cap sz ex
              cases hs with
              | slc _ _ _ _ _ _ _ L c hL g1 g2 g3 g4 g5 =>
              split at ha
              · rename_i hsz
                obtain ⟨rfl, hml⟩ := hsz
                have hlc : len * j.size ≤ cap * j.size := Nat.mul_le_mul_right _ g1
                split at ha
                · rename_i hm
                  subst hm
                  injection ha with ha
                  injection ha with h1 h2
                  subst h1 h2
                  have hvn := n4 rfl
                  subst hvn
                  exact .pure h (run_app_stay e1 e2 hc2 e3 n1 (by rw [e5]; exact n3) (by omega)) (.slc _ _ _ _ _ _ _ L c hL g1 g2 g3 g4 g5)
                · rename_i hm
                  split at ha
                  · rename_i hroom
                    obtain ⟨H2, k1, k2⟩ := Option.map_eq_some_iff.1 ha
                    injection k2 with k2 k3
                    subst k2 k3
                    obtain ⟨w', q1, q2, q3⟩ := writeA_ok (P := P) h hL n2 k1
                    refine ⟨_, w', ρ, run_app_room (P := P) e1 e2 hc2 e3 n1 (by rw [e5]; exact n3) (by rw [e5, add_cell]; exact q1) (by omega), .slc _ _ _ _ _ _ _ L c hL hroom g2 g3 g4 g5, q2, q3⟩
                  · rename_i hroom
                    split at ha
                    · rename_i hbig
                      split at ha
                      · rename_i hex
                        split at ha
                        · rename_i olds hol
                          obtain ⟨H2, k1, k2⟩ := Option.map_eq_some_iff.1 ha
                          injection k2 with k2 k3
                          subst k2 k3
                          have hcc := g5 hex
                          obtain ⟨os, o1, o2, o3, o4, o5⟩ := readA_ok (P := P) hd0 hL (by omega) hol
                          have hr := run_app_grow (P := P) (ty := ty) e1 e2 hc2 e3 e7 n1 (by rw [e5]; exact n3') (b := some ⟨L.b, off, none⟩) (sLen := len) (sCap := c) (olds := os) (by rw [e5]; exact o5) (by omega) hbig (by omega)
                          have hg := grown_cap (w := w) (need := len + m) (old := c) (e := e)
                          have hol2 := o1.length
                          have hzl : (Builtin.zeroCells j.zero.cells (grownCap w (len + m) c e - (len + m))).toList.length = (grownCap w (len + m) c e - (len + m)) * j.size := by rw [Array.length_toList, size_zeroCells, hzz]
                          have hmul : (len + m) * j.size + (grownCap w (len + m) c e - (len + m)) * j.size = grownCap w (len + m) c e * j.size := by rw [← Nat.add_mul]; congr 1; omega
                          have hadd : (len + m) * j.size = len * j.size + m * j.size := Nat.add_mul _ _ _
                          obtain ⟨q1, q2⟩ := newA_ok hd0 k1 hf e (C := ⟨os ++ vs' ++ (Builtin.zeroCells j.zero.cells (grownCap w (len + m) c e - (len + m))).toList⟩) (fr := (0, 0)) (by simp) (more := (Builtin.zeroCells j.zero.cells (grownCap w (len + m) c e - (len + m))).toList) (by simp only; rw [List.take_left' (by simp; omega)]) (by simp only; rw [List.take_left' (by simp; omega)]; exact o1.append n2')
                          refine ⟨_, _, _, hr, ?_, q1, ?_⟩
                          · refine .slc _ _ _ _ _ _ _ _ _ (Rho.add_self _ _ _ _) (Nat.le_refl _) (by simp only [List.length_append]; omega) ⟨hg, grown_max (by omega)⟩ ?_ (by simp)
                            simp only [List.size_toArray, List.length_append]
                            omega
                          · exact (Ext.same (w := w) (w' := w.drew) rfl rfl rfl rfl).trans q2 h.ok (fun id ver h1 h2 => by omega)
                        · cases ha
                      · split at ha
                        · rename_i hoff
                          obtain ⟨rfl, rfl, hsome⟩ := hoff
                          obtain ⟨olds, hol⟩ := Option.isSome_iff_exists.1 hsome
                          obtain ⟨H2, k1, k2⟩ := Option.map_eq_some_iff.1 ha
                          injection k2 with k2 k3
                          subst k2 k3
                          by_cases hin : len + m ≤ c
                          · have hmul : (len + m) * j.size ≤ c * j.size := Nat.mul_le_mul_right _ hin
                            have hadd : (len + m) * j.size = len * j.size + m * j.size := Nat.add_mul _ _ _
                            obtain ⟨w', q1, q2, q3⟩ := growA_in (P := P) h hL n2 k1 (by omega)
                            refine ⟨_, w', _, run_app_room (P := P) e1 e2 hc2 e3 n1 (by rw [e5]; exact n3) (by rw [e5, add_cell, Nat.zero_add]; exact q1) hin, ?_, q2, q3⟩
                            exact .slc _ _ _ _ _ _ _ ⟨L.b, L.n, len * j.size + news.length⟩ c (Rho.add_self _ _ _ _) (Nat.le_refl _) (by simp only; omega) ⟨hin, g3.2⟩ (by simp only; omega) (by simp)
                          · obtain ⟨os, o1, o2, o3, o4, o5⟩ := readA_ok (P := P) hd0 hL (by omega) hol
                            have hr := run_app_grow (P := P) (ty := ty) e1 e2 hc2 e3 e7 n1 (by rw [e5]; exact n3') (b := some ⟨L.b, 0, none⟩) (sLen := len) (sCap := c) (olds := os) (by rw [e5]; exact o5) (by omega) hbig (by omega)
                            have hg := grown_cap (w := w) (need := len + m) (old := c) (e := e)
                            have hol2 := o1.length
                            have hzl : (Builtin.zeroCells j.zero.cells (grownCap w (len + m) c e - (len + m))).toList.length = (grownCap w (len + m) c e - (len + m)) * j.size := by rw [Array.length_toList, size_zeroCells, hzz]
                            have hmul : (len + m) * j.size + (grownCap w (len + m) c e - (len + m)) * j.size = grownCap w (len + m) c e * j.size := by rw [← Nat.add_mul]; congr 1; omega
                            have hadd : (len + m) * j.size = len * j.size + m * j.size := Nat.add_mul _ _ _
                            obtain ⟨q1, q2⟩ := growA_new hd0 hL o1 n2' (more := (Builtin.zeroCells j.zero.cells (grownCap w (len + m) c e - (len + m))).toList) k1 hol e
                            refine ⟨_, _, _, hr, ?_, q1, ?_⟩
                            · refine .slc _ _ _ _ _ _ _ _ _ (Rho.add_self _ _ _ _) (Nat.le_refl _) (by simp only; omega) ⟨hg, grown_max (by omega)⟩ ?_ (by simp)
                              simp only [List.length_append]
                              omega
                            · exact (Ext.same (w := w) (w' := w.drew) rfl rfl rfl rfl).trans q2 h.ok (fun id ver h1 h2 => by omega)
                        · cases ha
                    · cases ha
              · cases ha
            · cases ha
          · cases ha
        · cases ha
      · cases ha
    · cases ha
  · cases ha
end
section
def ZOk (tt : TypeId → Option TI) : Prop := ∀ e j, tt e = some j → j.zero.cells.size = j.size
def aAppend0 (tt : TypeId → Option TI) (H : AHeap) (t xt : TypeId) (s x : AVal) : Option (AVal × AHeap) :=
  match tt t, tt xt, x with
  | some i, some d, .int _ k => match i.und with
    | .slice e => match tt e with
      | some j => match aconst j.zero with
        | some z => if j.bytes ≤ 1048576 ∧ intD d.und ∧ 0 < k ∧ k ≤ 1048576 ∧ 0 < j.size ∧ z.cells.length = j.size then (match s with
          | .nils => (newA H e (repA z.cells k.toNat)).map fun H' => (.slc H.next 0 0 k.toNat k.toNat j.size false, H')
          | _ => none) else none
        | none => none
      | none => none
    | _ => none
  | _, _, _ => none
set_option maxHeartbeats 1000000 in
theorem aAppend0_ok {P : Program} {tt : TypeId → Option TI} (ht : TTok P tt) {ρ : Rho} {H H' : AHeap} {w : World} (h : HR ρ H w) {t xt ty : TypeId} {s x y : AVal} {sv xv : Value} (hs : VR ρ s sv) (hx : VR ρ x xv) (ha : aAppend0 tt H t xt s x = some (y, H')) (hf : Free ρ H.next H'.next) :
    Gives P (Builtin.append_ #[t, xt] ty #[sv, xv]) ρ H w y H' := by
  unfold aAppend0 at ha
  split at ha
  · rename_i i d k' k hi hd
    cases hx with
    | int _ _ =>
    split at ha
    · rename_i e hu
      split at ha
      · rename_i j hj
        split at ha
        · rename_i z hz
          split at ha
          · rename_i hc
            obtain ⟨hc1, hc2, hc3, hc4, hc5, hc6⟩ := hc
            obtain ⟨_, _, e1, _⟩ := ht t i hi
            obtain ⟨_, _, e2, _⟩ := ht xt d hd
            obtain ⟨I, e3, e4, e5, e6, e7⟩ := ht e j hj
            rw [hu] at e1
            have hd0 : HR ρ H w.drew := h.of_heap rfl
            obtain ⟨k, rfl⟩ := Int.eq_ofNat_of_zero_le (show 0 ≤ k by omega)
            have hk : 0 < k := by omega
            split at ha
            · cases hs with
              | nils =>
              obtain ⟨H2, k1, k2⟩ := Option.map_eq_some_iff.1 ha
              injection k2 with k2 k3
              subst k2 k3
              rw [Int.toNat_natCast] at k1 ⊢
              have hkm : k * I.size ≠ 0 := by rw [e5]; exact Nat.mul_ne_zero (by omega) (by omega)
              have hr := run_app_grow0 (P := P) (w := w) (ty := ty) (k := k') e1 e2 hc2 e3 e7 hkm (b := none) (sLen := 0) (sCap := 0) (olds := []) rfl (by omega) (by omega) (by omega)
              simp only [Nat.zero_add, List.nil_append] at hr
              have hg := grown_cap (w := w) (need := k) (old := 0) (e := e)
              have hzv := zero_cells (ρ := ρ) (aconst_vr hz) k
              have hl1 := hzv.length
              have hl2 := repA_length z.cells k
              have hzz : j.zero.cells.size = j.size := by
                have := (aconst_vr (ρ := ρ) hz).cells.length
                rw [Array.length_toList] at this
                omega
              have hzl : (Builtin.zeroCells j.zero.cells (grownCap w k 0 e - k)).toList.length = (grownCap w k 0 e - k) * j.size := by rw [Array.length_toList, size_zeroCells, hzz]
              have hmul : k * j.size + (grownCap w k 0 e - k) * j.size = grownCap w k 0 e * j.size := by rw [← Nat.add_mul]; congr 1; omega
              rw [hc6] at hl2
              obtain ⟨q1, q2⟩ := newA_ok hd0 k1 hf e (C := ⟨(Builtin.zeroCells j.zero.cells k).toList ++ (Builtin.zeroCells j.zero.cells (grownCap w k 0 e - k)).toList⟩) (fr := (0, 0)) (by simp) (more := (Builtin.zeroCells j.zero.cells (grownCap w k 0 e - k)).toList) (by simp only; rw [List.take_left' hl1]) (by simp only; rw [List.take_left' hl1]; exact hzv)
              refine ⟨_, _, _, hr, ?_, q1, ?_⟩
              · refine .slc _ _ _ _ _ _ _ _ _ (Rho.add_self _ _ _ _) (Nat.le_refl _) (by simp only; omega) ⟨hg, grown_max (by omega)⟩ ?_ (by simp)
                simp only [List.size_toArray, List.length_append]
                omega
              · exact (Ext.same (w := w) (w' := w.drew) rfl rfl rfl rfl).trans q2 h.ok (fun id ver h1 h2 => by omega)
            · cases ha
          · cases ha
        · cases ha
      · cases ha
    · cases ha
  · cases ha
def aCopy (tt : TypeId → Option TI) (H : AHeap) (t : TypeId) (s x : AVal) : Option (AVal × AHeap) :=
  match tt t with
  | some i => match i.und with
    | .slice e => match tt e with
      | some j => match s with
        | .slc id ver off len cap sz ex => if sz = j.size then (match aNews H j.size x with
            | some (m, news) => if m * sz = news.length then (match writeA H id ver off (news.take (Nat.min m len * sz)) with
              | some H' => some (.int .i64 (Nat.min m len : Nat), H')
              | none => none) else none
            | none => none) else none
        | .nils => match aNews H j.size x with
            | some (m, news) => some (.int .i64 0, H)
            | none => none
        | _ => none
      | none => none
    | _ => none
  | none => none
theorem first_some {P : Program} {ρ : Rho} {H : AHeap} {w : World} (h : HR ρ H w) {sz m : Nat} {x : AVal} {v : Value} {xs : List AVal} (hv : VR ρ x v) (hn : aNews H sz x = some (m, xs)) (hm : m * sz = xs.length) (k : Nat) (hk : k ≤ m) : ∃ vs, VRs ρ (xs.take (k * sz)) vs ∧ (Builtin.firstCells sz k v).run P w = .ok ⟨vs⟩ w := by
  have hkm : k * sz ≤ m * sz := Nat.mul_le_mul_right _ hk
  cases hv with
  | nils =>
    simp only [aNews] at hn
    injection hn with hn
    injection hn with h1 h2
    subst h1 h2
    exact ⟨[], by simp; exact .nil, by rw [show k = 0 by omega]; rfl⟩
  | str s =>
    simp only [aNews] at hn
    split at hn
    · rename_i h1
      injection hn with hn
      injection hn with h2 h3
      subst h1 h2 h3
      refine ⟨_, (str_cells_vr s).take _, ?_⟩
      unfold Builtin.firstCells
      have : ((⟨⟨s⟩⟩ : ByteArray).extract 0 k).data = ⟨s.take k⟩ := by rw [str_extract]; simp
      simp [this]
    · cases hn
  | slc id ver off len cap z ex L c hL h1 h2 h3 h4 h5 =>
    simp only [aNews] at hn
    split at hn
    · rename_i hz
      subst hz
      obtain ⟨ys, k1, k2⟩ := Option.map_eq_some_iff.1 hn
      injection k2 with k2 k3
      subst k2 k3
      have hm : len * z ≤ cap * z := Nat.mul_le_mul_right _ h1
      obtain ⟨vs, q1, q2, q3, q4, q5⟩ := readA_ok (P := P) h hL (by omega) k1
      refine ⟨vs.take (k * z), q1.take _, ?_⟩
      have hl : (vs.take (k * z)).length = k * z := by rw [List.length_take]; omega
      refine run_firstCells_some w z k ⟨L.b, off, none⟩ len c _ hl (fun j u hj => ?_)
      rw [add_cell]
      rw [List.getElem?_take] at hj
      split at hj
      · exact q4 j u hj
      · cases hj
    · cases hn
  | emp =>
    simp only [aNews] at hn
    injection hn with hn
    injection hn with h1 h2
    subst h1 h2
    exact ⟨[], by simp; exact .nil, by rw [show k = 0 by omega]; simp [Builtin.firstCells, loadCells, loadCellsFrom]⟩
  | _ => simp [aNews] at hn
theorem aCopy_ok {P : Program} {tt : TypeId → Option TI} (ht : TTok P tt) {ρ : Rho} {H H' : AHeap} {w : World} (h : HR ρ H w) {t xt ty : TypeId} {s x y : AVal} {sv xv : Value} (hs : VR ρ s sv) (hx : VR ρ x xv) (ha : aCopy tt H t s x = some (y, H')) :
    Gives P (Builtin.copy_ #[t, xt] ty #[sv, xv]) ρ H w y H' := by
  unfold aCopy at ha
  split at ha
  · rename_i i hi
    split at ha
    · rename_i e hu
      split at ha
      · rename_i j hj
        have e1 := ht.run_und hi w
        rw [hu] at e1
        have e2 := ht.run_size hj w
        split at ha
        · rename_i id ver off len cap sz ex
          cases hs with
          | slc _ _ _ _ _ _ _ L c hL g1 g2 g3 g4 g5 =>
          split at ha
          · rename_i hsz
            subst hsz
            split at ha
            · rename_i m news hnw
              split at ha
              · rename_i hml
                split at ha
                · rename_i H2 hw
                  injection ha with ha
                  injection ha with h1 h2
                  subst h1 h2
                  obtain ⟨n1, -⟩ := aNews_ok (P := P) h hx hnw
                  obtain ⟨vs, k1, k2⟩ := first_some (P := P) h hx hnw hml (Nat.min m len) (Nat.min_le_left _ _)
                  obtain ⟨w', q1, q2, q3⟩ := writeA_ok (P := P) h hL k1 hw
                  refine ⟨_, w', ρ, ?_, .int _ _, q2, q3⟩
                  simp [Builtin.copy_, e1, n1, e2, k2, q1, goInt]
                · cases ha
              · cases ha
            · cases ha
          · cases ha
        · cases hs with
          | nils =>
          split at ha
          · rename_i m news hnw
            injection ha with ha
            injection ha with h1 h2
            subst h1 h2
            obtain ⟨n1, -⟩ := aNews_ok (P := P) h hx hnw
            refine .pure h ?_ (.int _ _)
            have hz : (Builtin.firstCells j.size 0 xv).run P w = .ok #[] w ∨ True := .inr trivial
            cases hx with
            | nils => simp [Builtin.copy_, e1, e2, goInt, Builtin.firstCells, Builtin.lenOf]
            | str s =>
              have : ((⟨⟨s⟩⟩ : ByteArray).extract 0 0).data = ⟨[]⟩ := by rw [str_extract]; simp
              simp [Builtin.copy_, e1, e2, goInt, Builtin.firstCells, Builtin.lenOf]
            | slc => simp [Builtin.copy_, e1, e2, goInt, Builtin.firstCells, Builtin.lenOf, loadCells, loadCellsFrom]
            | emp => simp [Builtin.copy_, e1, e2, goInt, Builtin.firstCells, Builtin.lenOf, loadCells, loadCellsFrom]
            | _ => simp [aNews] at hnw
          · cases ha
        · cases ha
      · cases ha
    · cases ha
  · cases ha
def aMake (tt : TypeId → Option TI) (H : AHeap) (t : TypeId) (l c : AVal) : Option (AVal × AHeap) :=
  match tt t, l, c with
  | some i, .int _ l, .int _ c => match i.und with
    | .slice e => match tt e with
      | some j => match aconst j.zero with
        | some z => if 0 ≤ l ∧ l ≤ c ∧ c ≤ 1048576 ∧ j.bytes ≤ 1048576 ∧ z.cells.length = j.size ∧ 0 < j.size then
            (newA H e (repA z.cells c.toNat)).map fun H' => (.slc H.next 0 0 l.toNat c.toNat j.size true, H') else none
        | none => none
      | none => none
    | _ => none
  | _, _, _ => none
theorem made_zero (z : Array Value) (n : Nat) : madeCells z (n * z.size) = Builtin.zeroCells z n := rfl
theorem aMake_ok {P : Program} {tt : TypeId → Option TI} (ht : TTok P tt) {ρ : Rho} {H H' : AHeap} {w : World} (h : HR ρ H w) {t : TypeId} {l c y : AVal} {lv cv : Value} (hl : VR ρ l lv) (hc : VR ρ c cv) (ha : aMake tt H t l c = some (y, H')) (hf : Free ρ H.next H'.next) :
    Gives P (Instr.makeSlice t lv cv) ρ H w y H' := by
  unfold aMake at ha
  split at ha
  · rename_i i kl l kc c hi
    cases hl with
    | int _ _ =>
    cases hc with
    | int _ _ =>
    split at ha
    · rename_i e hu
      split at ha
      · rename_i j hj
        split at ha
        · rename_i z hz
          split at ha
          · rename_i hc
            obtain ⟨c1, c2, c3, c4, c5, c6⟩ := hc
            obtain ⟨H2, k1, k2⟩ := Option.map_eq_some_iff.1 ha
            injection k2 with k2 k3
            subst k2 k3
            obtain ⟨_, _, e1, _⟩ := ht t i hi
            obtain ⟨I, e3, e4, e5, e6, e7⟩ := ht e j hj
            rw [hu] at e1
            have hmul : j.bytes * c.toNat ≤ 1048576 * 1048576 := Nat.mul_le_mul c4 (by omega)
            have hmul2 : (I.bytes : Int) * c ≤ 281474976710656 := by
              rw [e6, show c = ((c.toNat : Nat) : Int) from by omega, ← Int.natCast_mul]
              omega
            have hr := run_make (P := P) w t e I j.zero e1 e3 e7 kl kc l c c1 c2 hmul2 (by omega)
            have hzz : j.zero.cells.size = j.size := by
              have := (aconst_vr (ρ := ρ) hz).cells.length
              rw [Array.length_toList] at this
              omega
            rw [e5, ← hzz, made_zero] at hr
            have hzv := zero_cells (ρ := ρ) (aconst_vr hz) c.toNat
            have hl1 := hzv.length
            have hl2 := repA_length z.cells c.toNat
            obtain ⟨q1, q2⟩ := newA_ok h k1 hf e (C := Builtin.zeroCells j.zero.cells c.toNat) (fr := (0, 0)) (by simp) (more := []) (by rw [List.take_of_length_le (by omega)]; simp) (by rw [List.take_of_length_le (by omega)]; exact hzv)
            refine ⟨_, _, _, hr, ?_, q1, q2⟩
            refine .slc _ _ _ _ _ _ _ _ _ (Rho.add_self _ _ _ _) (by omega) (by simp only; rw [hl2, c5]; omega) ⟨Nat.le_refl _, by omega⟩ ?_ (fun _ => rfl)
            simp only
            rw [size_zeroCells, hzz]
            omega
          · cases ha
        · cases ha
      · cases ha
    · cases ha
  · cases ha
def aLen (tt : TypeId → Option TI) (t : TypeId) (x : AVal) : Option AVal :=
  match tt t with
  | some i => match i.und, x with
    | .string, .str s => some (.int .i64 (s.length : Int))
    | .slice _, .slc _ _ _ len _ _ _ => some (.int .i64 (len : Int))
    | .slice _, .nils => some (.int .i64 0)
    | .slice _, .emp _ _ _ => some (.int .i64 0)
    | .array n _, _ => some (.int .i64 (n : Int))
    | _, _ => none
  | none => none
theorem aLen_ok {P : Program} {tt : TypeId → Option TI} (ht : TTok P tt) {ρ : Rho} {H : AHeap} {w : World} (h : HR ρ H w) {t ty : TypeId} {x y : AVal} {v : Value} (hv : VR ρ x v) (ha : aLen tt t x = some y) : Gives P (Builtin.len_ #[t] ty #[v]) ρ H w y H := by
  unfold aLen at ha
  split at ha
  · rename_i i hi
    have e1 := ht.run_und hi w
    split at ha
    · rename_i s hd
      rw [hd] at e1
      injection ha with ha
      subst ha
      cases hv with
      | str _ =>
      refine .pure h ?_ (.int _ _)
      have : (⟨⟨s⟩⟩ : ByteArray).size = s.length := rfl
      simp [Builtin.len_, e1, goInt, this]
    · rename_i hd
      rw [hd] at e1
      injection ha with ha
      subst ha
      cases hv with
      | slc =>
      refine .pure h ?_ (.int _ _)
      simp [Builtin.len_, e1, goInt]
    · rename_i hd
      rw [hd] at e1
      injection ha with ha
      subst ha
      cases hv with
      | nils =>
      refine .pure h ?_ (.int _ _)
      simp [Builtin.len_, e1, goInt]
    · rename_i hd
      rw [hd] at e1
      injection ha with ha
      subst ha
      cases hv with
      | emp =>
      refine .pure h ?_ (.int _ _)
      simp [Builtin.len_, e1, goInt]
    · rename_i hd
      rw [hd] at e1
      injection ha with ha
      subst ha
      refine .pure h ?_ (.int _ _)
      simp [Builtin.len_, e1, goInt]
    · cases ha
  · cases ha
def aCap (tt : TypeId → Option TI) (t : TypeId) (x : AVal) : Option AVal :=
  match tt t with
  | some i => match i.und, x with
    | .slice _, .slc _ _ _ _ cap _ true => some (.int .i64 (cap : Int))
    | .slice _, .nils => some (.int .i64 0)
    | _, _ => none
  | none => none
theorem aCap_ok {P : Program} {tt : TypeId → Option TI} (ht : TTok P tt) {ρ : Rho} {H : AHeap} {w : World} (h : HR ρ H w) {t ty : TypeId} {x y : AVal} {v : Value} (hv : VR ρ x v) (ha : aCap tt t x = some y) : Gives P (Builtin.cap_ #[t] ty #[v]) ρ H w y H := by
  unfold aCap at ha
  split at ha
  · rename_i i hi
    have e1 := ht.run_und hi w
    split at ha
    · rename_i hd
      rw [hd] at e1
      injection ha with ha
      subst ha
      cases hv with
      | slc _ _ _ _ _ _ _ L c hL g1 g2 g3 g4 g5 =>
      have := g5 rfl
      subst this
      refine .pure h ?_ (.int _ _)
      simp [Builtin.cap_, e1, goInt]
    · rename_i hd
      rw [hd] at e1
      injection ha with ha
      subst ha
      cases hv with
      | nils =>
      refine .pure h ?_ (.int _ _)
      simp [Builtin.cap_, e1, goInt]
    · cases ha
  · cases ha
end
section
def FOk (P : Program) (tt : TypeId → Option TI) : Prop := ∀ T i, tt T = some i → i.flat = true → P.stoodInHeld T = false ∧ P.eqGuardType P.depth T = false
def aEqFields (tt : TypeId → Option TI) (eq : TypeId → AVal → AVal → Option Bool) (xs ys : List AVal) : List Field → Option Bool
  | [] => some true
  | f :: fs => if f.name ≠ "_" then (match aPart tt f.type xs f.offset, aPart tt f.type ys f.offset with
    | some a, some b => match eq f.type a b with
      | some true => aEqFields tt eq xs ys fs
      | some false => some false
      | none => none
    | _, _ => none) else aEqFields tt eq xs ys fs
def aEqItems (tt : TypeId → Option TI) (eq : TypeId → AVal → AVal → Option Bool) (e : TypeId) (s : Nat) (xs ys : List AVal) : List Nat → Option Bool
  | [] => some true
  | i :: is => match aPart tt e xs (i * s), aPart tt e ys (i * s) with
    | some a, some b => match eq e a b with
      | some true => aEqItems tt eq e s xs ys is
      | some false => some false
      | none => none
    | _, _ => none
def nilEq : TypeDesc → AVal → AVal → Option Bool
  | .slice _, .nils, .nils => some true
  | .slice _, .nils, .slc _ _ _ _ _ _ _ => some false
  | .slice _, .slc _ _ _ _ _ _ _, .nils => some false
  | .slice _, .nils, .emp _ _ _ => some false
  | .slice _, .emp _ _ _, .nils => some false
  | .pointer _, .nilp, .nilp => some true
  | .pointer _, .nilp, .ptr _ _ _ _ => some false
  | .pointer _, .ptr _ _ _ _, .nilp => some false
  | .func _ _ _, .nilf, .nilf => some true
  | .func _ _ _, .nilf, .func _ _ => some false
  | .func _ _ _, .func _ _, .nilf => some false
  | _, _, _ => none
theorem nilEq_run {P : Program} {ρ : Rho} {D : TypeDesc} {x y : AVal} {u v : Value} {b : Bool} (hx : VR ρ x u) (hy : VR ρ y v) (h : nilEq D x y = some b) {T : TypeId} (hT : ∀ w : World, (underlying T).run P w = .ok D w) (d : Nat) (w : World) : (Op.equalIn (d + 1) T u v).run P w = .ok b w := by
  have e1 := hT w
  unfold nilEq at h
  split at h
  all_goals first
    | (cases h; done)
    | (cases hx; cases hy; injection h with h; subst h; simp [Op.equalIn, e1])
def aEq (tt : TypeId → Option TI) : Nat → TypeId → AVal → AVal → Option Bool
  | 0, _, _, _ => none
  | d + 1, T, x, y => match tt T with
    | none => none
    | some i => match i.und, x, y with
      | .bool, .bool a, .bool b => some (a == b)
      | .int _, .int k a, .int k' b => if k = k' then some (a == b) else none
      | .string, .str a, .str b => some (a == b)
      | .interface _, .nili, .nili => some true
      | .struct fs, .agg xs, .agg ys => if i.flat then aEqFields tt (aEq tt d) xs ys fs.toList else none
      | .array n e, .agg xs, .agg ys => match tt e with
        | some j => aEqItems tt (aEq tt d) e j.size xs ys (List.range n)
        | none => none
      | D, x, y => nilEq D x y
section
variable {P : Program} {tt : TypeId → Option TI} (ht : TTok P tt) {ρ : Rho}
include ht
theorem aEqFields_ok (d : Nat) (eq : TypeId → AVal → AVal → Option Bool) (heq : ∀ T x y u v b (w : World), VR ρ x u → VR ρ y v → eq T x y = some b → (Op.equalIn d T u v).run P w = .ok b w) {xs ys : List AVal} {us vs : List Value} (hx : VRs ρ xs us) (hy : VRs ρ ys vs) (w : World) :
    ∀ (fs : List Field) (b : Bool), aEqFields tt eq xs ys fs = some b → (Op.eqFields d ⟨us⟩ ⟨vs⟩ fs).run P w = .ok b w
  | [], b, h => by simp [aEqFields] at h; subst h; simp [Op.eqFields]
  | f :: fs, b, h => by
    unfold aEqFields at h
    unfold Op.eqFields
    split at h
    · rename_i hn
      rw [if_pos hn]
      split at h
      · rename_i a c h1 h2
        obtain ⟨a', k1, k2⟩ := aPart_ok ht w hx h1
        obtain ⟨c', q1, q2⟩ := aPart_ok ht w hy h2
        split at h
        · rename_i h3
          have := heq _ _ _ _ _ _ w k2 q2 h3
          simp [k1, q1, this]
          exact aEqFields_ok d eq heq hx hy w fs b h
        · rename_i h3
          injection h with h
          subst h
          have := heq _ _ _ _ _ _ w k2 q2 h3
          simp [k1, q1, this]
        · cases h
      · cases h
    · rename_i hn
      rw [if_neg hn]
      exact aEqFields_ok d eq heq hx hy w fs b h
theorem aEqItems_ok (d : Nat) (eq : TypeId → AVal → AVal → Option Bool) (heq : ∀ T x y u v b (w : World), VR ρ x u → VR ρ y v → eq T x y = some b → (Op.equalIn d T u v).run P w = .ok b w) {xs ys : List AVal} {us vs : List Value} (hx : VRs ρ xs us) (hy : VRs ρ ys vs) (e : TypeId) (s : Nat) (w : World) :
    ∀ (is : List Nat) (b : Bool), aEqItems tt eq e s xs ys is = some b → (Op.eqItems d e s ⟨us⟩ ⟨vs⟩ is).run P w = .ok b w
  | [], b, h => by simp [aEqItems] at h; subst h; simp [Op.eqItems]
  | i :: is, b, h => by
    unfold aEqItems at h
    unfold Op.eqItems
    split at h
    · rename_i a c h1 h2
      obtain ⟨a', k1, k2⟩ := aPart_ok ht w hx h1
      obtain ⟨c', q1, q2⟩ := aPart_ok ht w hy h2
      split at h
      · rename_i h3
        have := heq _ _ _ _ _ _ w k2 q2 h3
        simp [k1, q1, this]
        exact aEqItems_ok d eq heq hx hy e s w is b h
      · rename_i h3
        injection h with h
        subst h
        have := heq _ _ _ _ _ _ w k2 q2 h3
        simp [k1, q1, this]
      · cases h
    · cases h
theorem aEq_ok (hf : FOk P tt) : ∀ (d m : Nat) (T : TypeId) (x y : AVal) (u v : Value) (b : Bool) (w : World), VR ρ x u → VR ρ y v → aEq tt d T x y = some b → (Op.equalIn (d + m) T u v).run P w = .ok b w
  | 0, m, T, x, y, u, v, b, w, hx, hy, h => by simp [aEq] at h
  | d + 1, m, T, x, y, u, v, b, w, hx, hy, h => by
    unfold aEq at h
    split at h
    · cases h
    · rename_i i hi
      have e1 := ht.run_und hi w
      obtain ⟨I, e2, e3, -⟩ := ht T i hi
      rw [show d + 1 + m = (d + m) + 1 from by omega]
      split at h
      · rename_i hd
        rw [hd] at e1
        cases hx; cases hy
        injection h with h
        subst h
        simp [Op.equalIn, e1]
      · rename_i hd
        rw [hd] at e1
        cases hx; cases hy
        split at h
        · rename_i hk
          subst hk
          injection h with h
          subst h
          simp [Op.equalIn, e1]
        · cases h
      · rename_i a c hd
        rw [hd] at e1 e3
        cases hx; cases hy
        injection h with h
        subst h
        rw [run_equalIn_string w (d + m) T _ _ e3, ByteArray.toList_eq, ByteArray.toList_eq]
      · rename_i hd
        rw [hd] at e1
        cases hx; cases hy
        injection h with h
        subst h
        simp [Op.equalIn, e1]
      · rename_i fs xs ys hd
        rw [hd] at e1 e3
        cases hx with
        | agg _ us hus =>
        cases hy with
        | agg _ vs hvs =>
        split at h
        · rename_i hfl
          have hfo : P.fieldsOf T = fs := by unfold Program.fieldsOf; rw [e3]
          rw [run_equalIn_struct w (d + m) T _ _ (by rw [hfo]; exact e3) (hf T i hi hfl).1, hfo]
          exact aEqFields_ok ht (d + m) (aEq tt d) (fun T x y u v b w hx hy h => aEq_ok hf d m T x y u v b w hx hy h) hus hvs w _ _ h
        · cases h
      · rename_i n e xs ys hd
        rw [hd] at e1 e3
        cases hx with
        | agg _ us hus =>
        cases hy with
        | agg _ vs hvs =>
        split at h
        · rename_i j hj
          obtain ⟨J, f2, f3, f4, -⟩ := ht e j hj
          rw [run_equalIn_array w (d + m) _ _ e3 f2]
          have hc : P.cellsOf e = j.size := by unfold Program.cellsOf; rw [f2]; simpa using f4
          rw [hc]
          exact aEqItems_ok ht (d + m) (aEq tt d) (fun T x y u v b w hx hy h => aEq_ok hf d m T x y u v b w hx hy h) hus hvs e j.size w _ _ h
        · cases h
      · exact nilEq_run hx hy h (fun w => ht.run_und hi w) (d + m) w
end
def isLit : Operand → Bool
  | .const _ => true
  | _ => false
def bytesLt : List UInt8 → List UInt8 → Bool
  | _, [] => false
  | [], _ :: _ => true
  | a :: x, b :: y => a < b || (a == b && bytesLt x y)
theorem bytesLt_eq : ∀ x y : List UInt8, Op.bytesLess x y = bytesLt x y
  | _, [] => by cases ‹List UInt8› <;> simp [Op.bytesLess, bytesLt]
  | [], _ :: _ => by simp [Op.bytesLess, bytesLt]
  | a :: x, b :: y => by simp [Op.bytesLess, bytesLt, bytesLt_eq x y]
def aInt (op : BinOp) (k : IntKind) (a b : Int) : Option AVal :=
  match op with
  | .add => some (.int k (k.wrap (a + b)))
  | .sub => some (.int k (k.wrap (a - b)))
  | .mul => some (.int k (k.wrap (a * b)))
  | .quo => if b = 0 then none else some (.int k (k.wrap (a.tdiv b)))
  | .rem => if b = 0 then none else some (.int k (a.tmod b))
  | .and => some (.int k (bits .and k a b))
  | .or => some (.int k (bits .or k a b))
  | .xor => some (.int k (bits .xor k a b))
  | .andNot => some (.int k (bits .andNot k a b))
  | .eql => some (.bool (a == b))
  | .neq => some (.bool (a != b))
  | .lss => some (.bool (decide (a < b)))
  | .leq => some (.bool (decide (a ≤ b)))
  | .gtr => some (.bool (decide (a > b)))
  | .geq => some (.bool (decide (a ≥ b)))
  | _ => none
def aStr (op : BinOp) (a b : List UInt8) : Option AVal :=
  match op with
  | .add => if a.length + b.length ≤ 1048576 then some (.str (a ++ b)) else none
  | .eql => some (.bool (a == b))
  | .neq => some (.bool (!(a == b)))
  | .lss => some (.bool (bytesLt a b))
  | .leq => some (.bool (bytesLt a b || a == b))
  | .gtr => some (.bool (!(bytesLt a b || a == b)))
  | .geq => some (.bool (!(bytesLt a b)))
  | _ => none
def aShift (op : BinOp) (k : IntKind) (a b : Int) : Option AVal :=
  match op with
  | .shl => if b < 0 then none else some (.int k (k.wrap (a * 2 ^ (min b.toNat k.bits))))
  | .shr => if b < 0 then none else some (.int k (a.fdiv (2 ^ (min b.toNat k.bits))))
  | _ => none
def nilBin (tt : TypeId → Option TI) (op : BinOp) (T : TypeId) (x y : AVal) : Option AVal :=
  match tt T with
  | some i => match nilEq i.und x y with
    | some b => match op with
      | .eql => some (.bool b)
      | .neq => some (.bool (!b))
      | _ => none
    | none => none
  | none => none
def aBin (tt : TypeId → Option TI) (op : BinOp) (T : TypeId) (xo yo : Operand) (x y : AVal) : Option AVal :=
  match x, y with
  | .int k a, .int k' b => match op with
    | .shl | .shr => aShift op k a b
    | _ => if k = k' then aInt op k a b else none
  | .str a, .str b => aStr op a b
  | .bool _, .bool _ => match op with
    | .eql => (aEq tt 1 T x y).map .bool
    | .neq => (aEq tt 1 T x y).map fun b => .bool (!b)
    | _ => none
  | .nili, .nili => if isLit xo || isLit yo then (match op with
    | .eql => (aEq tt 1 T x y).map .bool
    | .neq => (aEq tt 1 T x y).map fun b => .bool (!b)
    | _ => none) else none
  | .agg _, .agg _ => match tt T with
    | some i => if i.flat then (match op with
      | .eql => (aEq tt 8 T x y).map .bool
      | .neq => (aEq tt 8 T x y).map fun b => .bool (!b)
      | _ => none) else none
    | none => none
  | x, y => nilBin tt op T x y
end
section
theorem aInt_ok {P : Program} {ρ : Rho} {w : World} {op : BinOp} {T : TypeId} {k : IntKind} {a b : Int} {x : AVal} (h : aInt op k a b = some x) : ∃ v, (binOp op T (.int k a) (.int k b)).run P w = .ok v w ∧ VR ρ x v := by
  unfold aInt at h
  cases op <;> simp only at h
  case quo =>
    split at h
    · cases h
    · rename_i h0
      injection h with h
      subst h
      exact ⟨_, by simp [binOp, Op.intDiv, h0], .int _ _⟩
  case rem =>
    split at h
    · cases h
    · rename_i h0
      injection h with h
      subst h
      exact ⟨_, by simp [binOp, Op.intDiv, h0], .int _ _⟩
  case shl => cases h
  case shr => cases h
  case and => injection h with h; subst h; exact ⟨_, by simp [binOp, intBits_and], .int _ _⟩
  case or => injection h with h; subst h; exact ⟨_, by simp [binOp, intBits_or], .int _ _⟩
  case xor => injection h with h; subst h; exact ⟨_, by simp [binOp, intBits_xor], .int _ _⟩
  case andNot => injection h with h; subst h; exact ⟨_, by simp [binOp, intBits_andNot], .int _ _⟩
  all_goals (injection h with h; subst h; first | exact ⟨_, by simp [binOp, Op.intArith], .int _ _⟩ | exact ⟨_, by simp [binOp, Op.intCmp], .bool _⟩)
theorem aShift_ok {P : Program} {ρ : Rho} {w : World} {op : BinOp} {T : TypeId} {k k' : IntKind} {a b : Int} {x : AVal} (h : aShift op k a b = some x) (hop : op = .shl ∨ op = .shr) : ∃ v, (binOp op T (.int k a) (.int k' b)).run P w = .ok v w ∧ VR ρ x v := by
  unfold aShift at h
  rcases hop with rfl | rfl <;> simp only at h <;> split at h
  · cases h
  · rename_i hb
    injection h with h
    subst h
    exact ⟨_, by simp [binOp, Op.shift, hb], .int _ _⟩
  · cases h
  · rename_i hb
    injection h with h
    subst h
    exact ⟨_, by simp [binOp, Op.shift, hb], .int _ _⟩
theorem str_app (a b : List UInt8) : (⟨⟨a⟩⟩ : ByteArray) ++ ⟨⟨b⟩⟩ = ⟨⟨a ++ b⟩⟩ := by
  apply ByteArray.ext
  rw [ByteArray.data_append]
  simp
theorem aStr_ok {P : Program} {ρ : Rho} {w : World} {op : BinOp} {T : TypeId} {a b : List UInt8} {x : AVal} (h : aStr op a b = some x) : ∃ v, (binOp op T (.string ⟨⟨a⟩⟩) (.string ⟨⟨b⟩⟩)).run P w = .ok v w ∧ VR ρ x v := by
  unfold aStr at h
  have t1 : (⟨⟨a⟩⟩ : ByteArray).toList = a := by rw [ByteArray.toList_eq]
  have t2 : (⟨⟨b⟩⟩ : ByteArray).toList = b := by rw [ByteArray.toList_eq]
  have s1 : (⟨⟨a⟩⟩ : ByteArray).size = a.length := rfl
  have s2 : (⟨⟨b⟩⟩ : ByteArray).size = b.length := rfl
  cases op <;> simp only at h
  case add =>
    split at h
    · rename_i hl
      injection h with h
      subst h
      refine ⟨.string ⟨⟨a ++ b⟩⟩, ?_, .str _⟩
      have hm : ¬ (IntKind.i64.max < ((a.length : Int) + (b.length : Int))) := by
        have : IntKind.i64.max = 9223372036854775807 := by decide
        omega
      simp [binOp, Op.stringOp, s1, s2, hm, str_app]
      omega
    · cases h
  all_goals first
    | (cases h; done)
    | (injection h with h; subst h; exact ⟨_, by simp only [binOp, Op.stringOp, t1, t2, bytesLt_eq]; rfl, .bool _⟩)
theorem run_guard {P : Program} {w : World} {op : BinOp} {T : TypeId} {xo yo : Operand} {u v : Value} (h : (∃ b, u = .bool b) ∨ (∃ k n, u = .int k n) ∨ (∃ s, u = .string s)) : (eqGuard op T xo yo u v).run P w = .ok () w := by
  rcases h with ⟨b, rfl⟩ | ⟨k, n, rfl⟩ | ⟨s, rfl⟩ <;> (unfold eqGuard; cases op <;> rfl)
theorem isLit_guard {P : Program} {w : World} {op : BinOp} {T : TypeId} {xo yo : Operand} (h : (isLit xo || isLit yo) = true) : (eqGuard op T xo yo .nilIface .nilIface).run P w = .ok () w := by
  unfold eqGuard
  cases xo <;> cases yo <;> first | (cases h; done) | (cases op <;> rfl)
theorem nilBin_ok {P : Program} {tt : TypeId → Option TI} (ht : TTok P tt) {ρ : Rho} {H : AHeap} {w : World} (h : HR ρ H w) {op : BinOp} {T : TypeId} {xo yo : Operand} {x y z : AVal} {u v : Value} (hx : VR ρ x u) (hy : VR ρ y v) (ha : nilBin tt op T x y = some z) :
    Gives P (do eqGuard op T xo yo u v; binOp op T u v) ρ H w z H := by
  unfold nilBin at ha
  split at ha
  · rename_i i hi
    split at ha
    · rename_i b hb
      have key := nilEq_run (P := P) hx hy hb (fun w => ht.run_und hi w) 9999 w
      have hg : (eqGuard op T xo yo u v).run P w = .ok () w := by
        unfold nilEq at hb
        split at hb
        all_goals first
          | (cases hb; done)
          | (cases hx; cases hy; unfold eqGuard; cases op <;> rfl)
      split at ha
      · injection ha with ha
        subst ha
        refine .pure h (v := .bool b) ?_ (.bool _)
        unfold nilEq at hb
        split at hb
        all_goals first
          | (cases hb; done)
          | (cases hx; cases hy; simp [hg, binOp, Op.equal, Op.maxDepth, key])
      · injection ha with ha
        subst ha
        refine .pure h (v := .bool (!b)) ?_ (.bool _)
        unfold nilEq at hb
        split at hb
        all_goals first
          | (cases hb; done)
          | (cases hx; cases hy; simp [hg, binOp, Op.equal, Op.maxDepth, key])
      · cases ha
    · cases ha
  · cases ha
theorem aBin_ok {P : Program} {tt : TypeId → Option TI} (ht : TTok P tt) (hf : FOk P tt) {ρ : Rho} {H : AHeap} {w : World} (h : HR ρ H w) {op : BinOp} {T : TypeId} {xo yo : Operand} {x y z : AVal} {u v : Value} (hx : VR ρ x u) (hy : VR ρ y v) (ha : aBin tt op T xo yo x y = some z) :
    Gives P (do eqGuard op T xo yo u v; binOp op T u v) ρ H w z H := by
  unfold aBin at ha
  split at ha
  · rename_i k a k' b
    cases hx; cases hy
    have hg := run_guard (P := P) (w := w) (op := op) (T := T) (xo := xo) (yo := yo) (u := .int k a) (v := .int k' b) (.inr (.inl ⟨k, a, rfl⟩))
    have key : ∃ r, (binOp op T (.int k a) (.int k' b)).run P w = .ok r w ∧ VR ρ z r := by
      split at ha
      · exact aShift_ok ha (.inl rfl)
      · exact aShift_ok ha (.inr rfl)
      · split at ha
        · rename_i hk
          subst hk
          exact aInt_ok ha
        · cases ha
    obtain ⟨r, k1, k2⟩ := key
    exact .pure h (by simp [hg, k1]) k2
  · rename_i a b
    cases hx; cases hy
    have hg := run_guard (P := P) (w := w) (op := op) (T := T) (xo := xo) (yo := yo) (u := .string ⟨⟨a⟩⟩) (v := .string ⟨⟨b⟩⟩) (.inr (.inr ⟨_, rfl⟩))
    obtain ⟨r, k1, k2⟩ := aStr_ok (P := P) (ρ := ρ) (w := w) (T := T) ha
    exact .pure h (by simp [hg, k1]) k2
  · rename_i a b
    cases hx; cases hy
    have hg := run_guard (P := P) (w := w) (op := op) (T := T) (xo := xo) (yo := yo) (u := .bool a) (v := .bool b) (.inl ⟨_, rfl⟩)
    split at ha
    · obtain ⟨r, q1, q2⟩ := Option.map_eq_some_iff.1 ha
      subst q2
      have := aEq_ok ht hf 1 9999 T _ _ _ _ r w (.bool (ρ := ρ) a) (.bool b) q1
      refine .pure h (v := .bool r) ?_ (.bool _)
      simp [hg, binOp, Op.equal, Op.maxDepth, this]
    · obtain ⟨r, q1, q2⟩ := Option.map_eq_some_iff.1 ha
      subst q2
      have := aEq_ok ht hf 1 9999 T _ _ _ _ r w (.bool (ρ := ρ) a) (.bool b) q1
      refine .pure h (v := .bool (!r)) ?_ (.bool _)
      simp [hg, binOp, Op.equal, Op.maxDepth, this]
    · cases ha
  · cases hx; cases hy
    split at ha
    · rename_i hl
      have hg := isLit_guard (P := P) (w := w) (op := op) (T := T) hl
      split at ha
      · obtain ⟨r, q1, q2⟩ := Option.map_eq_some_iff.1 ha
        subst q2
        have := aEq_ok ht hf 1 9999 T _ _ _ _ r w (.nili (ρ := ρ)) .nili q1
        refine .pure h (v := .bool r) ?_ (.bool _)
        simp [hg, binOp, Op.equal, Op.maxDepth, this]
      · obtain ⟨r, q1, q2⟩ := Option.map_eq_some_iff.1 ha
        subst q2
        have := aEq_ok ht hf 1 9999 T _ _ _ _ r w (.nili (ρ := ρ)) .nili q1
        refine .pure h (v := .bool (!r)) ?_ (.bool _)
        simp [hg, binOp, Op.equal, Op.maxDepth, this]
      · cases ha
    · cases ha
  · rename_i xs ys
    cases hx with
    | agg _ us hus =>
    cases hy with
    | agg _ vs hvs =>
    split at ha
    · rename_i i hi
      split at ha
      · rename_i hfl
        have hg := run_eqGuard_agg (P := P) w op T xo yo ⟨us⟩ ⟨vs⟩ (hf T i hi hfl).2
        split at ha
        · obtain ⟨r, q1, q2⟩ := Option.map_eq_some_iff.1 ha
          subst q2
          have := aEq_ok ht hf 8 9992 T _ _ _ _ r w (.agg xs us hus) (.agg ys vs hvs) q1
          refine .pure h (v := .bool r) ?_ (.bool _)
          simp [hg, run_eql_struct, this]
        · obtain ⟨r, q1, q2⟩ := Option.map_eq_some_iff.1 ha
          subst q2
          have := aEq_ok ht hf 8 9992 T _ _ _ _ r w (.agg xs us hus) (.agg ys vs hvs) q1
          refine .pure h (v := .bool (!r)) ?_ (.bool _)
          simp [hg, run_neq_struct, this]
        · cases ha
      · cases ha
    · cases ha
  · exact nilBin_ok ht h hx hy ha
def aUn (op : UnOp) : AVal → Option AVal
  | .int k n => match op with
    | .neg => some (.int k (k.wrap (0 - n)))
    | .xor => some (.int k (bits .xor k (if k.signed then -1 else k.max) n))
    | _ => none
  | .bool b => match op with
    | .not => some (.bool !b)
    | _ => none
  | _ => none
theorem aUn_ok {P : Program} {ρ : Rho} {H : AHeap} {w : World} (h : HR ρ H w) {op : UnOp} {x z : AVal} {u : Value} (hx : VR ρ x u) (ha : aUn op x = some z) : Gives P (Op.unary op u) ρ H w z H := by
  cases hx with
  | int k n =>
    simp only [aUn] at ha
    split at ha
    · injection ha with ha
      subst ha
      exact .pure h (by simp [Op.unary, Op.intArith]) (.int _ _)
    · injection ha with ha
      subst ha
      exact .pure h (by simp only [Op.unary, intBits_xor]; rfl) (.int _ _)
    · cases ha
  | bool b =>
    simp only [aUn] at ha
    split at ha
    · injection ha with ha
      subst ha
      exact .pure h (by simp [Op.unary]) (.bool _)
    · cases ha
  | _ => simp [aUn] at ha
def bytesOf : List AVal → Option (List UInt8)
  | [] => some []
  | .int .u8 n :: xs => match bytesOf xs with
    | some l => some (UInt8.ofNat n.toNat :: l)
    | none => none
  | _ :: _ => none
theorem bytesOf_ok {ρ : Rho} : ∀ {xs : List AVal} {vs : List Value} {l : List UInt8}, VRs ρ xs vs → bytesOf xs = some l → ∃ ns : List Int, vs = ns.map (Value.int .u8) ∧ l = ns.map fun n => UInt8.ofNat n.toNat
  | _, _, l, .nil, h => by simp [bytesOf] at h; subst h; exact ⟨[], rfl, rfl⟩
  | _, _, l, .cons x v xs vs hx hs, h => by
    unfold bytesOf at h
    split at h
    · rename_i h1; cases h1
    · rename_i n ys h1
      injection h1 with h1 h2
      subst h1 h2
      cases hx
      split at h
      · rename_i l' h3
        injection h with h
        subst h
        obtain ⟨ns, k1, k2⟩ := bytesOf_ok hs h3
        exact ⟨n :: ns, by rw [k1]; rfl, by rw [k2]; rfl⟩
      · cases h
    · cases h
def aConv (tt : TypeId → Option TI) (H : AHeap) (src dst : TypeId) (x : AVal) : Option (AVal × AHeap) :=
  match tt src, tt dst with
  | some i, some j => match i.und, j.und, x with
    | .int _, .int k, .int _ n => some (.int k (k.wrap n), H)
    | .string, .string, .str s => some (.str s, H)
    | .string, .slice e, .str s => match tt e with
      | some m => match m.und with
        | .int .u8 => if s.length ≤ 1048576 then (newA H e (s.map fun b => .int .u8 (b.toNat : Int))).map fun H' => (.slc H.next 0 0 s.length s.length 1 false, H') else none
        | _ => none
      | none => none
    | .slice _, .slice e, .slc id ver off len cap sz ex => match tt e with
      | some m => match m.und with
        | .int .u8 => if src = dst ∧ (H.get id).isSome = true then some (.slc id ver off len cap sz ex, H) else none
        | _ => none
      | none => none
    | .slice e, .string, .emp _ _ _ => match tt e with
      | some m => match m.und with
        | .int .u8 => some (.str [], H)
        | _ => none
      | none => none
    | .slice e, .string, .nils => match tt e with
      | some m => match m.und with
        | .int .u8 => some (.str [], H)
        | _ => none
      | none => none
    | .slice e, .string, .slc id ver off len cap sz _ => match tt e with
      | some m => match m.und with
        | .int .u8 => if sz = 1 then (match readA H id ver off len with
          | some xs => (bytesOf xs).map fun l => (.str l, H)
          | none => none) else none
        | _ => none
      | none => none
    | _, _, _ => none
  | _, _ => none
theorem foldl_push : ∀ (ns : List Int) (s : List UInt8), ns.foldl (fun (r : ByteArray) n => r.push (UInt8.ofNat n.toNat)) ⟨⟨s⟩⟩ = ⟨⟨s ++ ns.map fun n => UInt8.ofNat n.toNat⟩⟩
  | [], s => by simp
  | n :: ns, s => by
    rw [List.foldl_cons]
    have : (⟨⟨s⟩⟩ : ByteArray).push (UInt8.ofNat n.toNat) = ⟨⟨s ++ [UInt8.ofNat n.toNat]⟩⟩ := by
      show (⟨(⟨s⟩ : Array UInt8).push _⟩ : ByteArray) = _
      simp
    rw [this, foldl_push ns]
    simp
theorem freeze_new (w : World) (C : Array Value) (e : TypeId) (n : Nat) : (w.alloc (.cells C e)).freeze ⟨w.heap.size, n, none⟩ 1 = w.alloc (.cells C e (n, n + 1)) := by
  unfold World.freeze
  rw [if_neg (by decide)]
  unfold World.alloc
  congr 1
  apply Array.ext_getElem?
  intro i
  rw [Array.getElem?_modify, Array.getElem?_push, Array.getElem?_push]
  by_cases h : i = w.heap.size
  · subst h; simp
  · rw [if_neg (fun e => h e.symm), if_neg h, if_neg h]
theorem run_str_bytes {P : Program} {w : World} (e : TypeId) (s : List UInt8) : (Conv.stringToBytes e ⟨⟨s⟩⟩).run P w = .ok (.slice (some ⟨w.heap.size, 0, none⟩) s.length (grownCap w s.length 0 e)) (w.drew.alloc (.cells ⟨(s.map fun b => Value.int .u8 (b.toNat : Int)) ++ List.replicate (grownCap w s.length 0 e - s.length) (.int .u8 0)⟩ e (grownCap w s.length 0 e, grownCap w s.length 0 e + 1))) := by
  have hs1 : (⟨⟨s⟩⟩ : ByteArray).size = s.length := rfl
  have hg := grown_cap (w := w) (need := s.length) (old := 0) (e := e)
  unfold Conv.stringToBytes
  simp only [Sem.run_bind, run_choose, Question.forced, Bool.false_eq_true, if_false, Result.andThen_ok, newRow, run_newObj, markStringish, run_shape, hs1]
  have hc : (Question.appendCap s.length 0 e).cut (w.tape w.drawn (.appendCap s.length 0 e)) = grownCap w s.length 0 e := rfl
  rw [hc]
  have ha : (Array.map (fun b : UInt8 => Value.int IntKind.u8 (b.toNat : Int)) (⟨⟨s⟩⟩ : ByteArray).data ++ Array.replicate (grownCap w s.length 0 e - s.length) (Value.int .u8 0)) = ⟨(s.map fun b => Value.int .u8 (b.toNat : Int)) ++ List.replicate (grownCap w s.length 0 e - s.length) (.int .u8 0)⟩ := by
    apply Array.ext'
    simp
  rw [ha]
  generalize hC : (⟨(s.map fun b => Value.int .u8 (b.toNat : Int)) ++ List.replicate (grownCap w s.length 0 e - s.length) (.int .u8 0)⟩ : Array Value) = C
  have hCs : C.size = grownCap w s.length 0 e := by rw [← hC]; simp; omega
  have hsh : World.shape? { w.drew with heap := w.heap.push (.cells C e) } w.heap.size = some (e, C.size) := by simp [World.shape?]
  have hfr := freeze_new w.drew C e C.size
  simp only [World.drew] at hsh hfr ⊢
  simp only [hsh, run_freeze, Sem.run_bind, Result.andThen_ok, Sem.run_pure]
  rw [hCs] at hfr ⊢
  rw [← hfr]
  rfl
theorem aConv_ok {P : Program} {tt : TypeId → Option TI} (ht : TTok P tt) {ρ : Rho} {H H' : AHeap} {w : World} (h : HR ρ H w) {src dst : TypeId} {x z : AVal} {u : Value} (hx : VR ρ x u) (ha : aConv tt H src dst x = some (z, H')) (hf : Free ρ H.next H'.next) : Gives P (convert src dst u) ρ H w z H' := by
  unfold aConv at ha
  split at ha
  · rename_i i j hi hj
    have e1 := ht.run_und hi w
    have e2 := ht.run_und hj w
    split at ha
    · rename_i hd1 hd2
      rw [hd1] at e1
      rw [hd2] at e2
      cases hx
      injection ha with ha
      injection ha with h1 h2
      subst h1 h2
      refine .pure h ?_ (.int _ _)
      simp [convert, e1, e2, Conv.intToInt]
    · rename_i hd1 hd2
      rw [hd1] at e1
      rw [hd2] at e2
      cases hx
      injection ha with ha
      injection ha with h1 h2
      subst h1 h2
      refine .pure h ?_ (.str _)
      simp [convert, e1, e2]
    · rename_i e s hd1 hd2
      rw [hd1] at e1
      rw [hd2] at e2
      cases hx
      split at ha
      · rename_i m hm
        have e3 := ht.run_und hm w
        split at ha
        · rename_i hmu
          rw [hmu] at e3
          split at ha
          · rename_i hl
            obtain ⟨H2, k1, k2⟩ := Option.map_eq_some_iff.1 ha
            injection k2 with k2 k3
            subst k2 k3
            have hg := grown_cap (w := w) (need := s.length) (old := 0) (e := e)
            have hd0 : HR ρ H w.drew := h.of_heap rfl
            have hsl : (s.map fun b => Value.int .u8 (b.toNat : Int)).length = s.length := by simp
            obtain ⟨q1, q2⟩ := newA_ok hd0 k1 hf e (C := ⟨(s.map fun b => Value.int .u8 (b.toNat : Int)) ++ List.replicate (grownCap w s.length 0 e - s.length) (.int .u8 0)⟩) (fr := (grownCap w s.length 0 e, grownCap w s.length 0 e + 1)) (by simp; omega) (more := List.replicate (grownCap w s.length 0 e - s.length) (.int .u8 0)) (by simp only [List.length_map]; rw [List.take_left' hsl]) (by simp only [List.length_map]; rw [List.take_left' hsl]; exact str_cells_vr s)
            refine ⟨.slice (some ⟨w.heap.size, 0, none⟩) s.length (grownCap w s.length 0 e), _, _, ?_, ?_, q1, (Ext.same (w := w) (w' := w.drew) rfl rfl rfl rfl).trans q2 h.ok (fun id ver h1 h2 => by omega)⟩
            · simp [convert, e1, e2, e3, run_str_bytes]
            · exact .slc _ _ _ _ _ _ _ _ _ (Rho.add_self _ _ _ _) (Nat.le_refl _) (by simp) ⟨hg, grown_max (by omega)⟩ (by simp; omega) (by simp)
          · cases ha
        · cases ha
      · cases ha
    · rename_i e0 e id ver off len cap sz ex hd1 hd2
      rw [hd1] at e1
      rw [hd2] at e2
      cases hx with
      | slc _ _ _ _ _ _ _ L c hL g1 g2 g3 g4 g5 =>
      split at ha
      · rename_i m hm
        have e3 := ht.run_und hm w
        split at ha
        · rename_i hmu
          rw [hmu] at e3
          split at ha
          · rename_i hc
            obtain ⟨rfl, hs⟩ := hc
            rw [hi] at hj; injection hj with hj; subst hj
            rw [hd1] at hd2; injection hd2 with hd2; subst hd2
            injection ha with ha
            injection ha with h1 h2
            subst h1 h2
            obtain ⟨r1, r2⟩ := h.freeze hL hs
            obtain ⟨r0, hr0⟩ := Option.isSome_iff_exists.1 hs
            obtain ⟨a2, a3, C, t, fr, a4, a5, a6, a7, a8⟩ := h.row id ver L r0 hL hr0
            refine ⟨_, _, ρ, ?_, .slc _ _ _ _ _ _ _ L c hL g1 g2 g3 g4 g5, r1, r2⟩
            have hsh : w.shape? L.b = some (t, L.n) := by unfold World.shape?; rw [a4]; simp only [a5]
            simp [convert, e1, e2, e3, markStringish, hsh]
          · cases ha
        · cases ha
      · cases ha
    · rename_i e id ver sz hd1 hd2
      rw [hd1] at e1
      rw [hd2] at e2
      cases hx with
      | emp _ _ _ L o c hL g3 g4 =>
      split at ha
      · rename_i m hm
        have e3 := ht.run_und hm w
        split at ha
        · rename_i hmu
          rw [hmu] at e3
          injection ha with ha
          injection ha with h1 h2
          subst h1 h2
          have := run_bytesToString (P := P) w ⟨L.b, o, none⟩ 0 c [] (by simp [loadCells, loadCellsFrom])
          refine .pure h (v := .string ⟨⟨[]⟩⟩) ?_ (.str [])
          simp [convert, e1, e2, e3, this]
          rfl
        · cases ha
      · cases ha
    · rename_i e hd1 hd2
      rw [hd1] at e1
      rw [hd2] at e2
      cases hx
      split at ha
      · rename_i m hm
        have e3 := ht.run_und hm w
        split at ha
        · rename_i hmu
          rw [hmu] at e3
          injection ha with ha
          injection ha with h1 h2
          subst h1 h2
          refine .pure h ?_ (.str [])
          simp [convert, e1, e2, e3, Conv.bytesToString]
          rfl
        · cases ha
      · cases ha
    · rename_i e id ver off len cap sz ex hd1 hd2
      rw [hd1] at e1
      rw [hd2] at e2
      cases hx with
      | slc _ _ _ _ _ _ _ L c hL g1 g2 g3 g4 g5 =>
      split at ha
      · rename_i m hm
        have e3 := ht.run_und hm w
        split at ha
        · rename_i hmu
          rw [hmu] at e3
          split at ha
          · rename_i hsz
            subst hsz
            split at ha
            · rename_i xs hr
              obtain ⟨l, k1, k2⟩ := Option.map_eq_some_iff.1 ha
              injection k2 with k2 k3
              subst k2 k3
              obtain ⟨vs, q1, q2, q3, q4, q5⟩ := readA_ok (P := P) h hL (by omega) hr
              obtain ⟨ns, r1, r2⟩ := bytesOf_ok q1 k1
              subst r1 r2
              have := run_bytesToString (P := P) w ⟨L.b, off, none⟩ len c ns q5
              refine .pure h (v := .string ⟨⟨ns.map fun n => UInt8.ofNat n.toNat⟩⟩) ?_ (.str _)
              have hfp := foldl_push ns []
              rw [List.nil_append] at hfp
              rw [show ByteArray.empty = ⟨⟨[]⟩⟩ from rfl, hfp] at this
              simp [convert, e1, e2, e3, this]
            · cases ha
          · cases ha
        · cases ha
      · cases ha
    · cases ha
  · cases ha
end
section
def aFill (place : Nat → Option (Nat × Nat)) (cells : List AVal) : List (Nat × AVal) → Option (List AVal)
  | [] => some cells
  | (i, x) :: rest => match place i with
    | none => none
    | some (off, size) => if x.cells.length = size ∧ off + size ≤ cells.length then aFill place (setAll cells off x.cells) rest else none
def setAllV : List Value → Nat → List Value → List Value
  | cs, _, [] => cs
  | cs, off, x :: xs => setAllV (cs.set off x) (off + 1) xs
theorem VRs.set {ρ : Rho} : ∀ {xs : List AVal} {vs : List Value}, VRs ρ xs vs → ∀ (i : Nat) {x : AVal} {v : Value}, VR ρ x v → VRs ρ (xs.set i x) (vs.set i v)
  | _, _, .nil, i, x, v, h => by simp; exact .nil
  | _, _, .cons y u ys us hy hys, 0, x, v, h => .cons _ _ _ _ h hys
  | _, _, .cons y u ys us hy hys, i + 1, x, v, h => .cons _ _ _ _ hy (hys.set i h)
theorem VRs.setAll {ρ : Rho} : ∀ {xs : List AVal} {vs : List Value}, VRs ρ xs vs → ∀ {cs : List AVal} {us : List Value}, VRs ρ cs us → ∀ off, VRs ρ (setAll cs off xs) (setAllV us off vs)
  | _, _, .nil, cs, us, h, off => h
  | _, _, .cons x v xs vs hx hs, cs, us, h, off => hs.setAll (h.set off hx) (off + 1)
theorem fold_set (off : Nat) : ∀ (vs : List Value) (k : Nat) (C : Array Value), (vs.zipIdx k).foldl (fun (cs : Array Value) (p : Value × Nat) => cs.setIfInBounds (off + p.2) p.1) C = ⟨setAllV C.toList (off + k) vs⟩
  | [], k, C => rfl
  | v :: vs, k, C => by
    rw [List.zipIdx_cons, List.foldl_cons, fold_set off vs (k + 1)]
    simp only [Array.toList_setIfInBounds]
    rw [setAllV, Nat.add_assoc]
inductive PartsVR (ρ : Rho) : List (Nat × AVal) → List (Nat × Value) → Prop where
  | nil : PartsVR ρ [] []
  | cons (i : Nat) (x : AVal) (v : Value) (xs : List (Nat × AVal)) (vs : List (Nat × Value)) (h : VR ρ x v) (hs : PartsVR ρ xs vs) : PartsVR ρ ((i, x) :: xs) ((i, v) :: vs)
theorem aFill_ok {ρ : Rho} {place place' : Nat → Option (Nat × Nat)} (hp : ∀ i p, place i = some p → place' i = some p) : ∀ {xs : List (Nat × AVal)} {vs : List (Nat × Value)}, PartsVR ρ xs vs → ∀ {cs : List AVal} {us : List Value} {out : List AVal}, VRs ρ cs us → aFill place cs xs = some out → ∃ os, Instr.fill place' ⟨us⟩ vs = some ⟨os⟩ ∧ VRs ρ out os
  | _, _, .nil, cs, us, out, h, ha => by simp [aFill] at ha; subst ha; exact ⟨us, rfl, h⟩
  | _, _, .cons i x v xs vs hx hs, cs, us, out, h, ha => by
    unfold aFill at ha
    split at ha
    · cases ha
    · rename_i off size hpl
      split at ha
      · rename_i hc
        have hl := hx.cells.length
        rw [Array.length_toList (xs := v.cells)] at hl
        have hul := h.length
        obtain ⟨os, k1, k2⟩ := aFill_ok hp hs (hx.cells.setAll h off) ha
        refine ⟨os, ?_, k2⟩
        unfold Instr.fill
        rw [hp i _ hpl]
        simp only
        have e1 : ¬ (v.cells.size ≠ size) := by omega
        have e2 : ¬ (off + v.cells.size > us.length) := by omega
        have e3 : (v.cells.size ≠ size || decide (off + v.cells.size > (⟨us⟩ : Array Value).size)) = false := by
          have : (⟨us⟩ : Array Value).size = us.length := rfl
          simp [this]; omega
        rw [show (decide (v.cells.size ≠ size) || decide (off + v.cells.size > (⟨us⟩ : Array Value).size)) = false from by simpa using e3]
        simp only [Bool.false_eq_true, if_false]
        rw [← Array.foldl_toList, Array.toList_zipIdx]
        have hfs := fold_set off v.cells.toList 0 ⟨us⟩
        rw [Nat.add_zero] at hfs
        rw [hfs]
        exact k1
      · cases ha
def placesA (tt : TypeId → Option TI) : List Field → Option (List (Nat × Nat))
  | [] => some []
  | f :: fs => match tt f.type, placesA tt fs with
    | some i, some l => some ((f.offset, i.size) :: l)
    | _, _ => none
theorem placesA_ok {P : Program} {tt : TypeId → Option TI} (ht : TTok P tt) (w : World) : ∀ {fs : List Field} {l : List (Nat × Nat)}, placesA tt fs = some l → (fs.mapM (m := Sem) fun f => Functor.map (Prod.mk f.offset) (sizeOf f.type)).run P w = .ok l w
  | [], l, h => by simp [placesA] at h; subst h; simp
  | f :: fs, l, h => by
    unfold placesA at h
    split at h
    · rename_i i l' h1 h2
      injection h with h
      subst h
      have e1 := ht.run_size h1 w
      have e2 := placesA_ok ht w h2
      simp only [List.mapM_cons, Sem.run_bind, Sem.run_map, e1, Result.andThen_ok, e2, Sem.run_pure]
    · cases h
def aBuild (tt : TypeId → Option TI) (t : TypeId) (parts : List (Nat × AVal)) : Option AVal :=
  match tt t with
  | some i => match aconst i.zero with
    | some z => match i.und with
      | .struct fields => match placesA tt fields.toList with
        | some l => (aFill (fun k => l[k]?) z.cells parts).map .agg
        | none => none
      | .array _ e => match tt e with
        | some j => (aFill (fun k => some (k * j.size, j.size)) z.cells parts).map .agg
        | none => none
      | _ => none
    | none => none
  | none => none
theorem aBuild_ok {P : Program} {tt : TypeId → Option TI} (ht : TTok P tt) {ρ : Rho} {H : AHeap} {w : World} (h : HR ρ H w) {t : TypeId} {parts : List (Nat × AVal)} {pv : Array (Nat × Value)} {x : AVal} (hp : PartsVR ρ parts pv.toList) (ha : aBuild tt t parts = some x) : Gives P (Instr.build t pv) ρ H w x H := by
  unfold aBuild at ha
  split at ha
  · rename_i i hi
    have e1 := ht.run_und hi w
    have e2 := ht.run_zero hi w
    split at ha
    · rename_i z hz
      have hzc := (aconst_vr (ρ := ρ) hz).cells
      split at ha
      · rename_i fields hu
        rw [hu] at e1
        split at ha
        · rename_i l hl
          obtain ⟨out, k1, k2⟩ := Option.map_eq_some_iff.1 ha
          subst k2
          obtain ⟨os, q1, q2⟩ := aFill_ok (place' := fun k => (⟨l⟩ : Array (Nat × Nat))[k]?) (fun i p h => by simpa using h) hp hzc k1
          have e3 := placesA_ok (P := P) ht w hl
          have e4 : (fields.mapM (m := Sem) fun f => Functor.map (Prod.mk f.offset) (sizeOf f.type)).run P w = .ok l.toArray w := by
            obtain ⟨fl⟩ := fields
            have hm : (fl.toArray.mapM (m := Sem) fun f => Functor.map (Prod.mk f.offset) (sizeOf f.type)) = Functor.map List.toArray (fl.mapM fun f => Functor.map (Prod.mk f.offset) (sizeOf f.type)) := List.mapM_toArray
            rw [show (⟨fl⟩ : Array Field) = fl.toArray from rfl, hm, Sem.run_map, e3]
            rfl
          refine .pure h ?_ (.agg _ _ q2)
          have : (⟨i.zero.cells.toList⟩ : Array Value) = i.zero.cells := rfl
          rw [this] at q1
          simp [Instr.build, e1, e2, e4]
          simp at q1
          simp [q1]
        · cases ha
      · rename_i n e hu
        rw [hu] at e1
        split at ha
        · rename_i j hj
          have e3 := ht.run_size hj w
          obtain ⟨out, k1, k2⟩ := Option.map_eq_some_iff.1 ha
          subst k2
          obtain ⟨os, q1, q2⟩ := aFill_ok (place' := fun k => some (k * j.size, j.size)) (fun i p h => h) hp hzc k1
          refine .pure h ?_ (.agg _ _ q2)
          have : (⟨i.zero.cells.toList⟩ : Array Value) = i.zero.cells := rfl
          rw [this] at q1
          simp [Instr.build, e1, e2, e3, q1]
        · cases ha
      · cases ha
    · cases ha
  · cases ha
end
section
def aBuildSlice (tt : TypeId → Option TI) (H : AHeap) (t : TypeId) (len : Nat) (parts : List (Nat × AVal)) : Option (AVal × AHeap) :=
  match tt t with
  | some i => match i.und with
    | .slice e => match tt e with
      | some j => if len = 0 then (match parts with
        | [] => (newA H e []).map fun H' => (.slc H.next 0 0 0 0 j.size true, H')
        | _ :: _ => none) else match aconst j.zero with
        | some z => if 0 < len * j.size ∧ len * j.size ≤ 1048576 ∧ z.cells.length = j.size then
            (match aFill (fun k => some (k * j.size, j.size)) (repA z.cells len) parts with
            | some out => (newA H e out).map fun H' => (.slc H.next 0 0 len len j.size true, H')
            | none => none) else none
        | none => none
      | none => none
    | _ => none
  | none => none
theorem aFill_length {place : Nat → Option (Nat × Nat)} : ∀ {xs : List (Nat × AVal)} {cs out : List AVal}, aFill place cs xs = some out → out.length = cs.length
  | [], cs, out, h => by simp [aFill] at h; subst h; rfl
  | (i, x) :: xs, cs, out, h => by
    unfold aFill at h
    split at h
    · cases h
    · split at h
      · rw [aFill_length h, setAll_length]
      · cases h
theorem aBuildSlice_ok {P : Program} {tt : TypeId → Option TI} (ht : TTok P tt) {ρ : Rho} {H H' : AHeap} {w : World} (h : HR ρ H w) {t : TypeId} {len : Nat} {parts : List (Nat × AVal)} {pv : Array (Nat × Value)} {x : AVal} (hp : PartsVR ρ parts pv.toList) (ha : aBuildSlice tt H t len parts = some (x, H')) (hf : Free ρ H.next H'.next) : Gives P (Instr.buildSlice t len pv) ρ H w x H' := by
  unfold aBuildSlice at ha
  split at ha
  · rename_i i hi
    have e1 := ht.run_und hi w
    split at ha
    · rename_i e hu
      rw [hu] at e1
      split at ha
      · rename_i j hj
        have e2 := ht.run_size hj w
        have e3 := ht.run_zero hj w
        split at ha
        · rename_i hz0
          subst hz0
          split at ha
          · obtain ⟨H2, k1, k2⟩ := Option.map_eq_some_iff.1 ha
            injection k2 with k2 k3
            subst k2 k3
            obtain ⟨r1, r2⟩ := newA_ok h k1 hf e (C := #[]) (fr := (0, 0)) (by simp) (more := []) (by simp) (by simp; exact .nil)
            refine ⟨.slice (some ⟨w.heap.size, 0, none⟩) 0 0, _, _, ?_, .slc _ _ _ _ _ _ _ _ _ (Rho.add_self _ _ _ _) (Nat.le_refl _) (by simp) ⟨Nat.le_refl _, by omega⟩ (by simp) (fun _ => rfl), r1, r2⟩
            have hpv : pv = #[] := by
              have : pv.toList = [] := by
                generalize pv.toList = q at hp
                cases hp
                rfl
              exact Array.ext' this
            subst hpv
            simp [Instr.buildSlice, e1, e2, Instr.fill, newRow]
            congr 2
            exact Array.ext' (by simp)
          · cases ha
        split at ha
        · rename_i z hz
          split at ha
          · rename_i hc
            obtain ⟨c1, c2, c3⟩ := hc
            have hlj : len ≤ len * j.size := Nat.le_mul_of_pos_right _ (by rcases Nat.eq_zero_or_pos j.size with h0 | h0; (rw [h0] at c1; simp at c1); exact h0)
            split at ha
            · rename_i out ho
              obtain ⟨H2, k1, k2⟩ := Option.map_eq_some_iff.1 ha
              injection k2 with k2 k3
              subst k2 k3
              have hzc := zero_cells (ρ := ρ) (aconst_vr hz) len
              obtain ⟨os, q1, q2⟩ := aFill_ok (place' := fun k => some (k * j.size, j.size)) (fun i p h => h) hp hzc ho
              have hzz : j.zero.cells.size = j.size := by
                have := (aconst_vr (ρ := ρ) hz).cells.length
                rw [Array.length_toList (xs := j.zero.cells)] at this
                omega
              have hol := q2.length
              have hol2 := aFill_length ho
              rw [repA_length, c3] at hol2
              obtain ⟨r1, r2⟩ := newA_ok h k1 hf e (C := ⟨os⟩) (fr := (0, 0)) (by simp) (more := []) (by simp only; rw [List.take_of_length_le (by omega)]; simp) (by simp only; rw [List.take_of_length_le (by omega)]; exact q2)
              refine ⟨.slice (some ⟨w.heap.size, 0, none⟩) len len, _, _, ?_, .slc _ _ _ _ _ _ _ _ _ (Rho.add_self _ _ _ _) (Nat.le_refl _) (by simp only; omega) ⟨Nat.le_refl _, by omega⟩ (by simp; omega) (fun _ => rfl), r1, r2⟩
              have hm : (Array.range (len * j.size)).map (fun k => j.zero.cells[k % j.zero.cells.size]!) = (⟨(Builtin.zeroCells j.zero.cells len).toList⟩ : Array Value) := by
                rw [← hzz]; rfl
              have n1 : ¬ (16777216 < len * j.size) := by omega
              have n2 : ¬ (len * j.size = 0) := by omega
              have n3 : ¬ (len = 0) := fun e => by rw [e] at c1; omega
              have n4 : ¬ (j.size = 0) := fun e => by rw [e] at c1; omega
              simp only [Instr.buildSlice, Sem.run_bind, e1, Result.andThen_ok, e2]
              rw [if_neg (by omega)]
              simp only [Sem.run_bind, Sem.run_ite, if_neg n2, e3, Result.andThen_ok, Sem.run_pure, Sem.run_map]
              rw [hm, q1]
              rfl
            · cases ha
          · cases ha
        · cases ha
      · cases ha
    · cases ha
  · cases ha
def aMin2 : AVal → AVal → Option AVal
  | .int k x, .int k' y => some (.int k (if y < x then y else x))
  | _, _ => none
def aMax2 : AVal → AVal → Option AVal
  | .int k x, .int k' y => some (.int k (if y > x then y else x))
  | _, _ => none
def foldA (f : AVal → AVal → Option AVal) : AVal → List AVal → Option AVal
  | x, [] => some x
  | x, y :: ys => match f x y with
    | some z => foldA f z ys
    | none => none
theorem foldA_ok {P : Program} {ρ : Rho} {w : World} {f : AVal → AVal → Option AVal} {g : Value → Value → Sem Value} (hfg : ∀ x y z u v, VR ρ x u → VR ρ y v → f x y = some z → ∃ r, (g u v).run P w = .ok r w ∧ VR ρ z r) :
    ∀ {ys : List AVal} {vs : List Value}, VRs ρ ys vs → ∀ {x z : AVal} {u : Value}, VR ρ x u → foldA f x ys = some z → ∃ r, (vs.foldlM g u).run P w = .ok r w ∧ VR ρ z r
  | _, _, .nil, x, z, u, hx, h => by simp [foldA] at h; subst h; exact ⟨u, rfl, hx⟩
  | _, _, .cons y v ys vs hy hys, x, z, u, hx, h => by
    unfold foldA at h
    split at h
    · rename_i z' h1
      obtain ⟨r, k1, k2⟩ := hfg _ _ _ _ _ hx hy h1
      obtain ⟨r2, k3, k4⟩ := foldA_ok hfg hys k2 h
      exact ⟨r2, by rw [List.foldlM_cons, Sem.run_bind, k1, Result.andThen_ok]; exact k3, k4⟩
    · cases h
theorem aMin_ok {P : Program} {ρ : Rho} {H : AHeap} {w : World} (h : HR ρ H w) {ts : Array TypeId} {ty : TypeId} {x z : AVal} {ys : List AVal} {vs : List Value} (hv : VRs ρ (x :: ys) vs) (ha : foldA aMin2 x ys = some z) : Gives P (Builtin.min_ ts ty ⟨vs⟩) ρ H w z H := by
  cases hv with
  | cons _ u _ us hx hys =>
  obtain ⟨r, k1, k2⟩ := foldA_ok (P := P) (w := w) (f := aMin2) (g := Builtin.min2) (fun x y z u v hx hy h => by
    cases hx with
    | int k a =>
      cases hy with
      | int k' b =>
        simp only [aMin2] at h
        injection h with h
        subst h
        exact ⟨_, rfl, .int _ _⟩
      | _ => simp [aMin2] at h
    | _ => simp [aMin2] at h) hys hx ha
  exact .pure h (by simpa [Builtin.min_] using k1) k2
theorem aMax_ok {P : Program} {ρ : Rho} {H : AHeap} {w : World} (h : HR ρ H w) {ts : Array TypeId} {ty : TypeId} {x z : AVal} {ys : List AVal} {vs : List Value} (hv : VRs ρ (x :: ys) vs) (ha : foldA aMax2 x ys = some z) : Gives P (Builtin.max_ ts ty ⟨vs⟩) ρ H w z H := by
  cases hv with
  | cons _ u _ us hx hys =>
  obtain ⟨r, k1, k2⟩ := foldA_ok (P := P) (w := w) (f := aMax2) (g := Builtin.max2) (fun x y z u v hx hy h => by
    cases hx with
    | int k a =>
      cases hy with
      | int k' b =>
        simp only [aMax2] at h
        injection h with h
        subst h
        exact ⟨_, rfl, .int _ _⟩
      | _ => simp [aMax2] at h
    | _ => simp [aMax2] at h) hys hx ha
  exact .pure h (by simpa [Builtin.max_] using k1) k2
def aClear (tt : TypeId → Option TI) (H : AHeap) (t : TypeId) (x : AVal) : Option (AVal × AHeap) :=
  match tt t with
  | some i => match i.und with
    | .slice e => match x with
      | .nils => some (.tup [], H)
      | .slc id ver off len cap sz _ => if len = 0 then some (.tup [], H) else (match tt e with
        | some j => match aconst j.zero with
          | some z => if z.cells.length = sz ∧ j.size = sz then (writeA H id ver off (repA z.cells len)).map fun H' => (.tup [], H') else none
          | none => none
        | none => none)
      | _ => none
    | _ => none
  | none => none
theorem aClear_ok {P : Program} {tt : TypeId → Option TI} (ht : TTok P tt) {ρ : Rho} {H H' : AHeap} {w : World} (h : HR ρ H w) {t ty : TypeId} {x y : AVal} {v : Value} (hv : VR ρ x v) (ha : aClear tt H t x = some (y, H')) : Gives P (Builtin.clear_ #[t] ty #[v]) ρ H w y H' := by
  unfold aClear at ha
  split at ha
  · rename_i i hi
    have e1 := ht.run_und hi w
    split at ha
    · rename_i e hu
      rw [hu] at e1
      split at ha
      · cases hv with
        | nils =>
        injection ha with ha
        injection ha with h1 h2
        subst h1 h2
        exact .pure h (by simp [Builtin.clear_, e1]) (.tup [] [] .nil)
      · rename_i id ver off len cap sz ex
        cases hv with
        | slc _ _ _ _ _ _ _ L c hL g1 g2 g3 g4 g5 =>
        split at ha
        · rename_i hl
          subst hl
          injection ha with ha
          injection ha with h1 h2
          subst h1 h2
          exact .pure h (by simp [Builtin.clear_, e1]) (.tup [] [] .nil)
        · rename_i hl
          split at ha
          · rename_i j hj
            split at ha
            · rename_i z hz
              split at ha
              · rename_i hc
                obtain ⟨H2, k1, k2⟩ := Option.map_eq_some_iff.1 ha
                injection k2 with k2 k3
                subst k2 k3
                have e3 := ht.run_zero hj w
                have hzc := zero_cells (ρ := ρ) (aconst_vr hz) len
                obtain ⟨w', q1, q2, q3⟩ := writeA_ok (P := P) h hL hzc k1
                refine ⟨.tuple #[], w', ρ, ?_, .tup [] [] .nil, q2, q3⟩
                obtain ⟨len, rfl⟩ := Nat.exists_eq_succ_of_ne_zero hl
                simp [Builtin.clear_, e1, e3, q1]
              · cases ha
            · cases ha
          · cases ha
      · cases ha
    · cases ha
  · cases ha
def partsA (ev : Operand → Option AVal) : List (Nat × Operand) → Option (List (Nat × AVal))
  | [] => some []
  | (i, x) :: ps => match ev x, partsA ev ps with
    | some v, some l => some ((i, v) :: l)
    | _, _ => none
def argsA (ev : Operand → Option AVal) : List Operand → Option (List AVal)
  | [] => some []
  | x :: xs => match ev x, argsA ev xs with
    | some v, some l => some (v :: l)
    | _, _ => none
def optA (ev : Operand → Option AVal) : Option Operand → Option (Option AVal)
  | none => some none
  | some x => (ev x).map some
theorem partsA_ok {ρ : Rho} {ev : Operand → Option AVal} {g : Operand → Value} (hev : ∀ x v, ev x = some v → VR ρ v (g x)) : ∀ {ps : List (Nat × Operand)} {l : List (Nat × AVal)}, partsA ev ps = some l → PartsVR ρ l (ps.map fun p => (p.1, g p.2))
  | [], l, h => by simp [partsA] at h; subst h; exact .nil
  | (i, x) :: ps, l, h => by
    unfold partsA at h
    split at h
    · rename_i v l' h1 h2
      injection h with h
      subst h
      exact .cons _ _ _ _ _ (hev _ _ h1) (partsA_ok hev h2)
    · cases h
theorem argsA_ok {ρ : Rho} {ev : Operand → Option AVal} {g : Operand → Value} (hev : ∀ x v, ev x = some v → VR ρ v (g x)) : ∀ {xs : List Operand} {l : List AVal}, argsA ev xs = some l → VRs ρ l (xs.map g)
  | [], l, h => by simp [argsA] at h; subst h; exact .nil
  | x :: xs, l, h => by
    unfold argsA at h
    split at h
    · rename_i v l' h1 h2
      injection h with h
      subst h
      exact .cons _ _ _ _ (hev _ _ h1) (argsA_ok hev h2)
    · cases h
theorem optA_ok {ρ : Rho} {ev : Operand → Option AVal} {g : Operand → Value} (hev : ∀ x v, ev x = some v → VR ρ v (g x)) {x : Option Operand} {y : Option AVal} (h : optA ev x = some y) : OptVR ρ y (x.map g) := by
  cases x with
  | none => simp [optA] at h; subst h; exact ⟨by simp, fun _ => rfl⟩
  | some x =>
    simp only [optA] at h
    obtain ⟨v, k1, k2⟩ := Option.map_eq_some_iff.1 h
    subst k2
    exact ⟨fun y hy => by injection hy with hy; subst hy; exact ⟨_, rfl, hev _ _ k1⟩, by simp⟩
def aBuiltin (tt : TypeId → Option TI) (H : AHeap) (b : Builtin) (ts : List TypeId) (xs : List AVal) : Option (AVal × AHeap) :=
  match b, ts, xs with
  | .len, [t], [x] => (aLen tt t x).map fun y => (y, H)
  | .cap, [t], [x] => (aCap tt t x).map fun y => (y, H)
  | .append, [t, xt], [s, x] => match x with
    | .int _ _ => aAppend0 tt H t xt s x
    | _ => aAppend tt H t xt s x
  | .copy, [t, _], [s, x] => aCopy tt H t s x
  | .min, _, x :: ys => (foldA aMin2 x ys).map fun y => (y, H)
  | .max, _, x :: ys => (foldA aMax2 x ys).map fun y => (y, H)
  | .clear, [t], [x] => aClear tt H t x
  | _, _, _ => none
def aOp (tt : TypeId → Option TI) (ev : Operand → Option AVal) (H : AHeap) : Op → Option (AVal × AHeap)
  | .move x | .assign x => (ev x).map fun v => (v, H)
  | .pick c a b => match ev c with
    | some (.bool t) => (if t then ev a else ev b).map fun v => (v, H)
    | _ => none
  | .alloc T => aAlloc tt H T
  | .box T x => match ev x with
    | some v => aBox H T v
    | none => none
  | .build t ps => match partsA ev ps.toList with
    | some l => (aBuild tt t l).map fun v => (v, H)
    | none => none
  | .buildSlice t n ps => match partsA ev ps.toList with
    | some l => aBuildSlice tt H t n l
    | none => none
  | .load T a => match ev a with
    | some p => (aLoad tt H T p).map fun v => (v, H)
    | none => none
  | .store T a x => match ev a, ev x with
    | some p, some v => (aStore tt H T p v).map fun H' => (.tup [], H')
    | _, _ => none
  | .nilCheck x => match ev x with
    | some (.ptr id ver off lim) => some (.ptr id ver off lim, H)
    | _ => none
  | .binOp op T x y _ => match ev x, ev y with
    | some u, some v => (aBin tt op T x y u v).map fun z => (z, H)
    | _, _ => none
  | .unOp op _ x => match ev x with
    | some u => (aUn op u).map fun z => (z, H)
    | none => none
  | .convert s d x => match ev x with
    | some u => aConv tt H s d u
    | none => none
  | .makeFunc (.func f) first caps => if first.toList.isEmpty then (argsA ev caps.toList).map fun l => (.func f l, H) else none
  | .makeSlice t l c => match ev l, ev c with
    | some u, some v => aMake tt H t u v
    | _, _ => none
  | .slice t x lo hi mx => match ev x, optA ev lo, optA ev hi, optA ev mx with
    | some u, some l, some h, some m => (aSlice tt t u l h m).map fun z => (z, H)
    | _, _, _, _ => none
  | .fieldAddr s x f => match ev x with
    | some u => (aFieldAt tt s f u).map fun z => (z, H)
    | none => none
  | .field s x f => match ev x with
    | some u => (aField tt s f u).map fun z => (z, H)
    | none => none
  | .indexAddr t x i => match ev x, ev i with
    | some u, some v => (aIndexAt tt t u v).map fun z => (z, H)
    | _, _ => none
  | .index t x i => match ev x, ev i with
    | some u, some v => (aIndex tt t u v).map fun z => (z, H)
    | _, _ => none
  | .extract x i => match ev x with
    | some (.tup l) => (l[i]?).map fun z => (z, H)
    | _ => none
  | .call { callee := .builtin b, args, argTypes } => match argsA ev args.toList with
    | some xs => aBuiltin tt H b argTypes.toList xs
    | none => none
  | _ => none
def OpGives (P : Program) (s : Sem Next) (ρ : Rho) (H : AHeap) (w : World) (x : AVal) (H' : AHeap) : Prop :=
  ∃ v w' ρ', (s.run P w = .ok (.value v) w' ∨ (s.run P w = .ok .skip w' ∧ v = undef)) ∧ VR ρ' x v ∧ HR ρ' H' w' ∧ Ext ρ H w ρ' H' w'
theorem op_of {P : Program} {s : Sem Value} {ρ : Rho} {H : AHeap} {w : World} {x : AVal} {H' : AHeap} (h : Gives P s ρ H w x H') : OpGives P (do pure (Next.value (← s))) ρ H w x H' := by
  obtain ⟨v, w', ρ', k1, k2, k3, k4⟩ := h
  exact ⟨v, w', ρ', .inl (by simp [k1]), k2, k3, k4⟩
theorem aBuiltin_ok {P : Program} {tt : TypeId → Option TI} (ht : TTok P tt) (hz : ZOk tt) {ρ : Rho} {H H' : AHeap} {w : World} (h : HR ρ H w) {b : Builtin} {ts : List TypeId} {xs : List AVal} {vs : List Value} {z : AVal} {ty : TypeId} {cs : Array Bool} (hx : VRs ρ xs vs) (ha : aBuiltin tt H b ts xs = some (z, H')) (hf : Free ρ H.next H'.next) :
    OpGives P (builtin b ⟨ts⟩ ty cs ⟨vs⟩) ρ H w z H' := by
  unfold aBuiltin at ha
  split at ha
  · rename_i t x
    obtain ⟨y, k1, k2⟩ := Option.map_eq_some_iff.1 ha
    injection k2 with k2 k3
    subst k2 k3
    cases hx with
    | cons _ v _ us hx hs =>
    cases hs
    exact op_of (aLen_ok ht h hx k1)
  · rename_i t x
    obtain ⟨y, k1, k2⟩ := Option.map_eq_some_iff.1 ha
    injection k2 with k2 k3
    subst k2 k3
    cases hx with
    | cons _ v _ us hx hs =>
    cases hs
    exact op_of (aCap_ok ht h hx k1)
  · rename_i t xt s x
    cases hx with
    | cons _ v _ us hx hs =>
    cases hs with
    | cons _ u _ us hy hs =>
    cases hs
    split at ha
    · exact op_of (aAppend0_ok ht h hx hy ha hf)
    · exact op_of (aAppend_ok ht hz h hx hy ha hf)
  · rename_i t xt s x
    cases hx with
    | cons _ v _ us hx hs =>
    cases hs with
    | cons _ u _ us hy hs =>
    cases hs
    exact op_of (aCopy_ok ht h hx hy ha)
  · obtain ⟨y, k1, k2⟩ := Option.map_eq_some_iff.1 ha
    injection k2 with k2 k3
    subst k2 k3
    exact op_of (aMin_ok h hx k1)
  · obtain ⟨y, k1, k2⟩ := Option.map_eq_some_iff.1 ha
    injection k2 with k2 k3
    subst k2 k3
    exact op_of (aMax_ok h hx k1)
  · rename_i t x
    cases hx with
    | cons _ v _ us hx hs =>
    cases hs
    exact op_of (aClear_ok ht h hx ha)
  · cases ha
set_option maxHeartbeats 2000000 in
theorem aOp_ok {P : Program} {tt : TypeId → Option TI} (ht : TTok P tt) (hz : ZOk tt) (hfl : FOk P tt) {ρ : Rho} {H H' : AHeap} {w : World} (h : HR ρ H w) {ev : Operand → Option AVal} {a : Act} (hev : ∀ x v, ev x = some v → VR ρ v (a.eval x)) {o : Oper} {z : AVal} (ha : aOp tt ev H o.op = some (z, H')) (hf : Free ρ H.next H'.next) :
    OpGives P (execOp a.eval o) ρ H w z H' := by
  unfold execOp
  generalize o.op = op at ha ⊢
  generalize o.type = oty
  unfold aOp at ha
  split at ha
  · obtain ⟨y, k1, k2⟩ := Option.map_eq_some_iff.1 ha
    injection k2 with k2 k3
    subst k2 k3
    exact ⟨_, w, ρ, .inl rfl, hev _ _ k1, h, Ext.refl _ _ _⟩
  · obtain ⟨y, k1, k2⟩ := Option.map_eq_some_iff.1 ha
    injection k2 with k2 k3
    subst k2 k3
    exact ⟨_, w, ρ, .inl rfl, hev _ _ k1, h, Ext.refl _ _ _⟩
  · rename_i c x y
    split at ha
    · rename_i t hc
      obtain ⟨y, k1, k2⟩ := Option.map_eq_some_iff.1 ha
      injection k2 with k2 k3
      subst k2 k3
      have hcv := hev _ _ hc
      have hce : ∃ v, a.eval c = v ∧ VR ρ (.bool t) v := ⟨_, rfl, hcv⟩
      obtain ⟨v, e1, e2⟩ := hce
      cases e2
      cases t
      · exact ⟨_, w, ρ, .inl (by simp [e1, asBool]), hev _ _ k1, h, Ext.refl _ _ _⟩
      · exact ⟨_, w, ρ, .inl (by simp [e1, asBool]), hev _ _ k1, h, Ext.refl _ _ _⟩
    · cases ha
  · exact op_of (aAlloc_ok ht h ha hf)
  · split at ha
    · rename_i v hv
      exact op_of (aBox_ok h (hev _ _ hv) ha hf)
    · cases ha
  · split at ha
    · rename_i l hl
      obtain ⟨y, k1, k2⟩ := Option.map_eq_some_iff.1 ha
      injection k2 with k2 k3
      subst k2 k3
      refine op_of (aBuild_ok ht h ?_ k1)
      have := partsA_ok hev hl
      simpa using this
    · cases ha
  · split at ha
    · rename_i l hl
      refine op_of (aBuildSlice_ok ht h ?_ ha hf)
      have := partsA_ok hev hl
      simpa using this
    · cases ha
  · split at ha
    · rename_i p hp
      obtain ⟨y, k1, k2⟩ := Option.map_eq_some_iff.1 ha
      injection k2 with k2 k3
      subst k2 k3
      exact op_of (aLoad_ok ht h (hev _ _ hp) k1)
    · cases ha
  · split at ha
    · rename_i p v hp hv
      obtain ⟨y, k1, k2⟩ := Option.map_eq_some_iff.1 ha
      injection k2 with k2 k3
      subst k2 k3
      obtain ⟨w', q1, q2, q3⟩ := aStore_ok (P := P) ht h (hev _ _ hp) (hev _ _ hv) k1
      exact ⟨undef, w', ρ, .inr ⟨by simp [q1], rfl⟩, .tup [] [] .nil, q2, q3⟩
    · cases ha
  · rename_i x
    split at ha
    · rename_i id ver off lim hx
      injection ha with ha
      injection ha with h1 h2
      subst h1 h2
      have hxv := hev _ _ hx
      have hce : ∃ v, a.eval x = v ∧ VR ρ (.ptr id ver off lim) v := ⟨_, rfl, hxv⟩
      obtain ⟨v, e1, e2⟩ := hce
      cases e2 with
      | ptr _ _ _ _ L hL hl =>
      exact ⟨_, w, ρ, .inl (by simp only [e1]; rfl), .ptr _ _ _ _ L hL hl, h, Ext.refl _ _ _⟩
    · cases ha
  · split at ha
    · rename_i u v hu hv
      obtain ⟨y, k1, k2⟩ := Option.map_eq_some_iff.1 ha
      injection k2 with k2 k3
      subst k2 k3
      exact op_of (aBin_ok ht hfl h (hev _ _ hu) (hev _ _ hv) k1)
    · cases ha
  · split at ha
    · rename_i u hu
      obtain ⟨y, k1, k2⟩ := Option.map_eq_some_iff.1 ha
      injection k2 with k2 k3
      subst k2 k3
      exact op_of (aUn_ok h (hev _ _ hu) k1)
    · cases ha
  · split at ha
    · rename_i u hu
      exact op_of (aConv_ok ht h (hev _ _ hu) ha hf)
    · cases ha
  · rename_i f first caps
    split at ha
    · rename_i he
      obtain ⟨l, k1, k2⟩ := Option.map_eq_some_iff.1 ha
      injection k2 with k2 k3
      subst k2 k3
      have hc := argsA_ok hev k1
      obtain ⟨fl⟩ := first
      obtain ⟨cl⟩ := caps
      simp only [List.isEmpty_iff] at he
      subst he
      exact op_of (.pure h (v := .func (.func f) #[] ⟨cl.map a.eval⟩) (by simp [Instr.makeFunc]) (.func _ _ _ hc))
    · cases ha
  · split at ha
    · rename_i u v hu hv
      exact op_of (aMake_ok ht h (hev _ _ hu) (hev _ _ hv) ha hf)
    · cases ha
  · split at ha
    · rename_i u l hh m hu hl hhi hm
      obtain ⟨y, k1, k2⟩ := Option.map_eq_some_iff.1 ha
      injection k2 with k2 k3
      subst k2 k3
      exact op_of (aSlice_ok ht h (hev _ _ hu) (optA_ok hev hl) (optA_ok hev hhi) (optA_ok hev hm) k1)
    · cases ha
  · split at ha
    · rename_i u hu
      obtain ⟨y, k1, k2⟩ := Option.map_eq_some_iff.1 ha
      injection k2 with k2 k3
      subst k2 k3
      exact op_of (aFieldAt_ok ht h (hev _ _ hu) k1)
    · cases ha
  · split at ha
    · rename_i u hu
      obtain ⟨y, k1, k2⟩ := Option.map_eq_some_iff.1 ha
      injection k2 with k2 k3
      subst k2 k3
      exact op_of (aField_ok ht h (hev _ _ hu) k1)
    · cases ha
  · split at ha
    · rename_i u v hu hv
      obtain ⟨y, k1, k2⟩ := Option.map_eq_some_iff.1 ha
      injection k2 with k2 k3
      subst k2 k3
      exact op_of (aIndexAt_ok ht h (hev _ _ hu) (hev _ _ hv) k1)
    · cases ha
  · split at ha
    · rename_i u v hu hv
      obtain ⟨y, k1, k2⟩ := Option.map_eq_some_iff.1 ha
      injection k2 with k2 k3
      subst k2 k3
      exact op_of (aIndex_ok ht h (hev _ _ hu) (hev _ _ hv) k1)
    · cases ha
  · rename_i x i
    split at ha
    · rename_i l hx
      obtain ⟨y, k1, k2⟩ := Option.map_eq_some_iff.1 ha
      injection k2 with k2 k3
      subst k2 k3
      have hxv := hev _ _ hx
      have hce : ∃ v, a.eval x = v ∧ VR ρ (.tup l) v := ⟨_, rfl, hxv⟩
      obtain ⟨v, e1, e2⟩ := hce
      cases e2 with
      | tup _ vs hvs =>
      obtain ⟨u, q1, q2⟩ := hvs.get k1
      exact op_of (.pure h (v := u) (by simp [Instr.extract, e1, q1]) q2)
    · cases ha
  · rename_i b args ts
    split at ha
    · rename_i xs hxs
      have hc := argsA_ok hev hxs
      have e : args.map a.eval = (⟨args.toList.map a.eval⟩ : Array Value) := by apply Array.ext'; simp
      refine (show OpGives P (builtin b ts oty _ (args.map a.eval)) ρ H w z H' from ?_)
      rw [e]
      exact aBuiltin_ok ht hz h hc ha hf
    · cases ha
  · cases ha
end
section
structure AEnv where
  tt : TypeId → Option TI
  ft : FuncId → Option Func
  pm : FuncId → Nat → List Nat
  plan : FuncId → Nat → List Nat
structure EnvOk (P : Program) (E : AEnv) : Prop where
  tt : TTok P E.tt
  zero : ZOk E.tt
  flat : FOk P E.tt
  ft : ∀ f fn, E.ft f = some fn → P.funcs[f]? = some fn ∧ (fn.name == "runtime.NumGoroutine") = false
def aEv (T : Tr AVal) : Operand → Option AVal
  | .tmp t => T.get t
  | .const v => aconst v
  | .func f => some (.func f [])
  | .global _ => none
structure FrR (ρ : Rho) (T : Tr AVal) (a : Act) (N : Nat) : Prop where
  defers : a.defers = []
  size : a.tmps.size = N
  get : ∀ t v, T.get t = some v → VR ρ v (a.tmps.getD t undef)
theorem FrR.mono {ρ ρ' : Rho} {T : Tr AVal} {a : Act} {N : Nat} (h : FrR ρ T a N) (hρ : ρ.le ρ') : FrR ρ' T a N := ⟨h.defers, h.size, fun t v hv => (h.get t v hv).mono hρ⟩
theorem FrR.ev {ρ : Rho} {T : Tr AVal} {a : Act} {N : Nat} (h : FrR ρ T a N) (x : Operand) (v : AVal) (hx : aEv T x = some v) : VR ρ v (a.eval x) := by
  cases x with
  | tmp t => exact h.get t v hx
  | const c => exact aconst_vr hx
  | func f => simp only [aEv] at hx; injection hx with hx; subst hx; exact .func _ _ _ .nil
  | global g => simp [aEv] at hx
def aPut (N : Nat) (T : Tr AVal) (dst : Option Tmp) (v : AVal) : Option (Tr AVal) :=
  match dst with
  | none => some T
  | some d => if d < N ∧ N < 1099511627776 then some (Tr.set 40 T d v) else none
theorem aPut_ok {ρ : Rho} {T T' : Tr AVal} {a : Act} {N : Nat} (h : FrR ρ T a N) {dst : Option Tmp} {v : AVal} {u : Value} (hv : VR ρ v u) (hp : aPut N T dst v = some T') : FrR ρ T' (a.put dst u) N := by
  unfold aPut at hp
  split at hp
  · injection hp with hp
    subst hp
    exact h
  · rename_i d
    split at hp
    · rename_i hc
      injection hp with hp
      subst hp
      refine ⟨h.defers, by simp [Act.put, h.size], fun t x hx => ?_⟩
      rw [Tr.get_set 40 T d v (Nat.lt_trans hc.1 hc.2)] at hx
      simp only [Act.put]
      by_cases e : t = d
      · subst e
        rw [if_pos rfl] at hx
        injection hx with hx
        subst hx
        have hs := h.size
        rw [show (a.tmps.setIfInBounds t u).getD t undef = u from by simp [Array.getD, hs, hc.1]]
        exact hv
      · rw [if_neg e] at hx
        have := h.get t x hx
        rw [show (a.tmps.setIfInBounds d u).getD t undef = a.tmps.getD t undef from by
          simp only [Array.getD_eq_getD_getElem?]
          rw [Array.getElem?_setIfInBounds_ne (fun h => e h.symm)]]
        exact this
    · cases hp
def aWanted (ops : Array Oper) (T : Tr AVal) (o : Oper) : Option Bool :=
  match o.guard with
  | none => some true
  | some (j, want) => match (ops[j]?).bind (·.dst) with
    | some t => match T.get t with
      | some (.bool b) => some (b == want)
      | _ => none
    | none => none
theorem aWanted_ok {ρ : Rho} {T : Tr AVal} {a : Act} {N : Nat} (h : FrR ρ T a N) {ops : Array Oper} {o : Oper} {b : Bool} (hw : aWanted ops T o = some b) : Region.wanted o (yielded ops a.tmps) = b := by
  unfold aWanted at hw
  unfold Region.wanted
  split at hw
  · rename_i hg
    injection hw with hw
    simp [hg, hw]
  · rename_i j want hg
    split at hw
    · rename_i t ht
      split at hw
      · rename_i c hc
        injection hw with hw
        have := h.get t _ hc
        have he : ∃ v, a.tmps.getD t undef = v ∧ VR ρ (.bool c) v := ⟨_, rfl, this⟩
        obtain ⟨v, e1, e2⟩ := he
        cases e2
        have hs : a.tmps[t]? = some (.bool c) := by
          rw [Array.getD_eq_getD_getElem?] at e1
          cases hq : a.tmps[t]? with
          | none => rw [hq] at e1; simp [undef] at e1
          | some u => rw [hq] at e1; simp at e1; rw [e1]
        simp only [hg]
        unfold yielded
        simp only [ht, Option.bind_some, hs]
        rw [← hw]
        cases c <;> cases want <;> rfl
      · cases hw
    · cases hw
structure NxOk (H H' : AHeap) : Prop where
  le : H.next ≤ H'.next
  ok : H.Ok → H'.Ok ∧ (∀ id, (H.get id).isSome = true → (H'.get id).isSome = true) ∧ ∀ id, (H'.get id).isSome = true → (H.get id).isSome = true ∨ H.next ≤ id
theorem NxOk.refl (H : AHeap) : NxOk H H := ⟨Nat.le_refl _, fun h => ⟨h, fun _ h => h, fun _ h => .inl h⟩⟩
theorem NxOk.trans {H H' H'' : AHeap} (h : NxOk H H') (k : NxOk H' H'') : NxOk H H'' := ⟨Nat.le_trans h.le k.le, fun o => ⟨(k.ok (h.ok o).1).1, fun id hi => (k.ok (h.ok o).1).2.1 id ((h.ok o).2.1 id hi), fun id hi => by
    rcases (k.ok (h.ok o).1).2.2 id hi with h1 | h1
    · exact (h.ok o).2.2 id h1
    · exact .inr (Nat.le_trans h.le h1)⟩⟩
theorem AHeap.keep_put {H : AHeap} (o : H.Ok) {id : Nat} {r0 : ARow} (h0 : H.get id = some r0) (r : ARow) : (H.put id r).Ok ∧ (∀ j, (H.get j).isSome = true → ((H.put id r).get j).isSome = true) ∧ ∀ j, ((H.put id r).get j).isSome = true → (H.get j).isSome = true ∨ H.next ≤ j := by
  refine ⟨o.put h0 r, fun j hj => ?_, fun j hj => ?_⟩
  · rw [AHeap.get_put o h0]
    by_cases e : j = id
    · rw [if_pos e]; rfl
    · rw [if_neg e]; exact hj
  · rw [AHeap.get_put o h0] at hj
    by_cases e : j = id
    · subst e; left; rw [h0]; rfl
    · rw [if_neg e] at hj; exact .inl hj
theorem AHeap.keep_new {H : AHeap} (o : H.Ok) (hn : H.next < 1099511627776) (r : ARow) : (H.new r).Ok ∧ (∀ j, (H.get j).isSome = true → ((H.new r).get j).isSome = true) ∧ ∀ j, ((H.new r).get j).isSome = true → (H.get j).isSome = true ∨ H.next ≤ j := by
  refine ⟨o.new hn r, fun j hj => ?_, fun j hj => ?_⟩
  · rw [AHeap.get_new hn]
    by_cases e : j = H.next
    · rw [if_pos e]; rfl
    · rw [if_neg e]; exact hj
  · rw [AHeap.get_new hn] at hj
    by_cases e : j = H.next
    · exact .inr (by omega)
    · rw [if_neg e] at hj; exact .inl hj
abbrev CallF := FuncId → List AVal → AHeap → Option (AVal × AHeap)
def CallPost (ρ : Rho) (H : AHeap) (w : World) (r : AVal) (H' : AHeap) (e : Ending) (w' : World) : Prop := ∃ ρ' v, e = .returned v ∧ VR ρ' r v ∧ HR ρ' H' w' ∧ Ext ρ H w ρ' H' w'
structure CallOk (P : Program) (callF : CallF) : Prop where
  enters : ∀ f args H r H', callF f args H = some (r, H') → ∃ fn, P.funcs[f]? = some fn ∧ (fn.name == "runtime.NumGoroutine") = false ∧ fn.body.isSome = true
  next : ∀ f args H r H', callF f args H = some (r, H') → NxOk H H'
  run : ∀ f args H r H', callF f args H = some (r, H') → ∀ (ρ : Rho) (w : World) (vs : List Value), HR ρ H w → VRs ρ args vs → Free ρ H.next H'.next → Calls P f ⟨vs⟩ w (CallPost ρ H w r H')
def aStep (E : AEnv) (callF : CallF) (N : Nat) (ops : Array Oper) (o : Oper) (T : Tr AVal) (H : AHeap) : Option (Tr AVal × AHeap) :=
  match aWanted ops T o with
  | some false => (aPut N T o.dst (.tup [])).map fun T' => (T', H)
  | some true => match o.op with
    | .call { callee := .value g, args, argTypes := _ } => match aEv T g with
      | some (.func f caps) => match argsA (aEv T) args.toList with
        | some xs => match callF f (xs ++ caps) H with
          | some (r, H') => (aPut N T o.dst r).map fun T' => (T', H')
          | none => none
        | none => none
      | _ => none
    | op => match aOp E.tt (aEv T) H op with
      | some (r, H') => (aPut N T o.dst r).map fun T' => (T', H')
      | none => none
  | none => none
theorem undef_vr (ρ : Rho) : VR ρ (.tup []) undef := .tup [] [] .nil
theorem run_call {P : Program} {w : World} {ρ' : Operand → Value} {o : Oper} {g : Operand} {args : Array Operand} {ts : Array TypeId} (ho : o.op = .call { callee := .value g, args, argTypes := ts }) {f : FuncId} {caps : List Value} (hg : ρ' g = .func (.func f) #[] ⟨caps⟩) {fn : Func} (hf : P.funcs[f]? = some fn) (hn : (fn.name == "runtime.NumGoroutine") = false) (hb : fn.body.isSome = true) :
    (execOp ρ' o).run P w = .ok (.enter f ((args.map ρ') ++ ⟨caps⟩)) w := by
  unfold execOp
  rw [ho]
  have hb' : ¬ fn.body = none := by intro h; rw [h] at hb; cases hb
  have hn' : ¬ fn.name = "runtime.NumGoroutine" := by intro h; rw [h] at hn; simp at hn
  simp [resolve, Deferred.ofValue, hg, invoke, callFunc, hf, hn', hb']
structure StepPost (ρ : Rho) (H : AHeap) (w : World) (T' : Tr AVal) (H' : AHeap) (N : Nat) (a' : Act) (w' : World) (ρ' : Rho) : Prop where
  fr : FrR ρ' T' a' N
  hr : HR ρ' H' w'
  ext : Ext ρ H w ρ' H' w'
theorem aOp_wp {P : Program} {E : AEnv} (hE : EnvOk P E) {N : Nat} {o : Oper} {T T' : Tr AVal} {H H' : AHeap} {r : AVal} {ρ : Rho} {a : Act} {w : World} (hfr : FrR ρ T a N) (hr : HR ρ H w) (ha : aOp E.tt (aEv T) H o.op = some (r, H')) (hp : aPut N T o.dst r = some T') (hf : Free ρ H.next H'.next)
    {K : Act → World → Prop} {Q : Exit → Act → World → Prop} (hK : ∀ a' w' ρ', StepPost ρ H w T' H' N a' w' ρ' → K a' w') : o.wp P a w K Q := by
  obtain ⟨v, w', ρ', k1, k2, k3, k4⟩ := aOp_ok hE.tt hE.zero hE.flat hr hfr.ev ha hf
  unfold Oper.wp
  have hfr' := aPut_ok (hfr.mono k4.le) k2 hp
  rcases k1 with k1 | ⟨k1, k5⟩
  · rw [k1, Oper.upon_value]
    exact hK _ _ _ ⟨hfr', k3, k4⟩
  · rw [k1, Oper.upon_skip]
    subst k5
    exact hK _ _ _ ⟨hfr', k3, k4⟩
theorem aCall_wp {P : Program} {callF : CallF} (hC : CallOk P callF) {N : Nat} {o : Oper} {T T' : Tr AVal} {H H' : AHeap} {r : AVal} {ρ : Rho} {a : Act} {w : World} (hfr : FrR ρ T a N) (hr : HR ρ H w) {g : Operand} {args : Array Operand} {ts : Array TypeId} (ho : o.op = .call { callee := .value g, args, argTypes := ts })
    {f : FuncId} {caps xs : List AVal} (hg : aEv T g = some (.func f caps)) (hx : argsA (aEv T) args.toList = some xs) (hcall : callF f (xs ++ caps) H = some (r, H')) (hp : aPut N T o.dst r = some T') (hf : Free ρ H.next H'.next)
    {K : Act → World → Prop} {Q : Exit → Act → World → Prop} (hK : ∀ a' w' ρ', StepPost ρ H w T' H' N a' w' ρ' → K a' w') : o.wp P a w K Q := by
  obtain ⟨fn, e1, e2, e3⟩ := hC.enters _ _ _ _ _ hcall
  have hgv := hfr.ev _ _ hg
  have hce : ∃ v, a.eval g = v ∧ VR ρ (.func f caps) v := ⟨_, rfl, hgv⟩
  obtain ⟨v, v1, v2⟩ := hce
  cases v2 with
  | func _ _ cs hcs =>
  have hxs := argsA_ok hfr.ev hx
  have hrun := run_call (P := P) (w := w) ho v1 e1 e2 e3
  unfold Oper.wp
  rw [hrun, Oper.upon_enter]
  have hargs : (args.map a.eval ++ ⟨cs⟩ : Array Value) = ⟨args.toList.map a.eval ++ cs⟩ := by apply Array.ext'; simp
  rw [hargs]
  refine (hC.run _ _ _ _ _ hcall ρ w _ hr (hxs.append hcs) hf).mono ?_
  rintro e w' ⟨ρ', v, rfl, q1, q2, q3⟩
  exact hK _ _ _ ⟨aPut_ok (hfr.mono q3.le) q1 hp, q2, q3⟩
theorem aStep_ok {P : Program} {E : AEnv} (hE : EnvOk P E) {callF : CallF} (hC : CallOk P callF) {N : Nat} {ops : Array Oper} {o : Oper} {T T' : Tr AVal} {H H' : AHeap} {ρ : Rho} {a : Act} {w : World} (hfr : FrR ρ T a N) (hr : HR ρ H w) (ha : aStep E callF N ops o T H = some (T', H')) (hf : Free ρ H.next H'.next)
    {K : Act → World → Prop} {Q : Exit → Act → World → Prop} (hK : ∀ a' w' ρ', StepPost ρ H w T' H' N a' w' ρ' → K a' w') :
    if Region.wanted o (yielded ops a.tmps) then o.wp P a w K Q ∨ (o.asks P a w ∧ LetsOut Q) else K (a.put o.dst undef) w := by
  unfold aStep at ha
  split at ha
  · rename_i hw
    rw [aWanted_ok hfr hw, if_neg (by simp)]
    obtain ⟨T2, k1, k2⟩ := Option.map_eq_some_iff.1 ha
    injection k2 with k2 k3
    subst k2 k3
    exact hK _ _ ρ ⟨aPut_ok hfr (undef_vr ρ) k1, hr, Ext.refl _ _ _⟩
  · rename_i hw
    rw [aWanted_ok hfr hw, if_pos rfl]
    left
    split at ha
    · rename_i g args ts ho
      split at ha
      · rename_i f caps hg
        split at ha
        · rename_i xs hx
          split at ha
          · rename_i r H2 hcall
            obtain ⟨T2, k1, k2⟩ := Option.map_eq_some_iff.1 ha
            injection k2 with k2 k3
            subst k2 k3
            exact aCall_wp hC hfr hr ho hg hx hcall k1 hf hK
          · cases ha
        · cases ha
      · cases ha
    · split at ha
      · rename_i r H2 hop
        obtain ⟨T2, k1, k2⟩ := Option.map_eq_some_iff.1 ha
        injection k2 with k2 k3
        subst k2 k3
        exact aOp_wp hE hfr hr hop k1 hf hK
      · cases ha
  · cases ha
end
section
section
variable {tt : TypeId → Option TI} {H H' : AHeap} {z : AVal}
theorem newA_next {ty : TypeId} {xs : List AVal} (h : newA H ty xs = some H') : NxOk H H' := by
  unfold newA at h; split at h
  · rename_i hc
    injection h with h; subst h
    exact ⟨Nat.le_succ _, fun o => AHeap.keep_new o hc.1 _⟩
  · cases h
theorem writeA_next {id ver off : Nat} {xs : List AVal} (h : writeA H id ver off xs = some H') : NxOk H H' := by
  unfold writeA at h
  split at h
  · rename_i hg
    split at h
    · injection h with h; subst h; exact ⟨Nat.le_refl _, fun o => AHeap.keep_put o hg _⟩
    · cases h
  · cases h
theorem growA_next {id ver n : Nat} {xs : List AVal} (h : growA H id ver n xs = some H') : NxOk H H' := by
  unfold growA at h
  split at h
  · rename_i hg
    split at h
    · injection h with h; subst h; exact ⟨Nat.le_refl _, fun o => AHeap.keep_put o hg _⟩
    · cases h
  · cases h
theorem map_next {α : Type} {o : Option AHeap} {f : AHeap → AVal × AHeap} (hf : ∀ K, (f K).2 = K) (ho : ∀ K, o = some K → NxOk H K) (h : o.map f = some (z, H')) : NxOk H H' := by
  obtain ⟨K, k1, k2⟩ := Option.map_eq_some_iff.1 h
  have := hf K
  rw [k2] at this
  simp only at this
  rw [this]
  exact ho K k1
theorem same_next {o : Option AVal} (h : o.map (fun v => (v, H)) = some (z, H')) : NxOk H H' := by
  obtain ⟨K, k1, k2⟩ := Option.map_eq_some_iff.1 h
  injection k2 with k2 k3
  subst k3
  exact NxOk.refl _
theorem aNew_next {T : TypeId} {xs : List AVal} (h : aNew H T xs = some (z, H')) : NxOk H H' :=
  map_next (α := Unit) (fun _ => rfl) (fun K hK => newA_next hK) h
theorem aAppend_next {t xt : TypeId} {s x : AVal} (h : aAppend tt H t xt s x = some (z, H')) : NxOk H H' := by
  unfold aAppend at h
  repeat' split at h
  all_goals first
    | (cases h; done)
    | (injection h with h; injection h with h1 h2; subst h2; exact NxOk.refl _)
    | exact map_next (α := Unit) (fun _ => rfl) (fun K hK => newA_next hK) h
    | exact map_next (α := Unit) (fun _ => rfl) (fun K hK => writeA_next hK) h
    | exact map_next (α := Unit) (fun _ => rfl) (fun K hK => growA_next hK) h
theorem aAppend0_next {t xt : TypeId} {s x : AVal} (h : aAppend0 tt H t xt s x = some (z, H')) : NxOk H H' := by
  unfold aAppend0 at h
  repeat' split at h
  all_goals first
    | (cases h; done)
    | exact map_next (α := Unit) (fun _ => rfl) (fun K hK => newA_next hK) h
theorem aCopy_next {t : TypeId} {s x : AVal} (h : aCopy tt H t s x = some (z, H')) : NxOk H H' := by
  unfold aCopy at h
  repeat' split at h
  all_goals first
    | (cases h; done)
    | (rename_i hw; injection h with h; injection h with h1 h2; subst h2; exact writeA_next hw)
    | (injection h with h; injection h with h1 h2; subst h2; exact NxOk.refl _)
theorem aMake_next {t : TypeId} {s x : AVal} (h : aMake tt H t s x = some (z, H')) : NxOk H H' := by
  unfold aMake at h
  repeat' split at h
  all_goals first
    | (cases h; done)
    | exact map_next (α := Unit) (fun _ => rfl) (fun K hK => newA_next hK) h
theorem aClear_next {t : TypeId} {x : AVal} (h : aClear tt H t x = some (z, H')) : NxOk H H' := by
  unfold aClear at h
  repeat' split at h
  all_goals first
    | (cases h; done)
    | (injection h with h; injection h with h1 h2; subst h2; exact NxOk.refl _)
    | exact map_next (α := Unit) (fun _ => rfl) (fun K hK => writeA_next hK) h
theorem aConv_next {s d : TypeId} {x : AVal} (h : aConv tt H s d x = some (z, H')) : NxOk H H' := by
  unfold aConv at h
  repeat' split at h
  all_goals first
    | (cases h; done)
    | (injection h with h; injection h with h1 h2; subst h2; exact NxOk.refl _)
    | exact map_next (α := Unit) (fun _ => rfl) (fun K hK => newA_next hK) h
    | (obtain ⟨l, k1, k2⟩ := Option.map_eq_some_iff.1 h; injection k2 with k2 k3; subst k3; exact NxOk.refl _)
theorem aBuildSlice_next {t : TypeId} {n : Nat} {l : List (Nat × AVal)} (h : aBuildSlice tt H t n l = some (z, H')) : NxOk H H' := by
  unfold aBuildSlice at h
  repeat' split at h
  all_goals first
    | (cases h; done)
    | exact map_next (α := Unit) (fun _ => rfl) (fun K hK => newA_next hK) h
theorem aAlloc_next {T : TypeId} (h : aAlloc tt H T = some (z, H')) : NxOk H H' := by
  unfold aAlloc at h
  repeat' split at h
  all_goals first
    | (cases h; done)
    | exact aNew_next h
theorem aBuiltin_next {b : Builtin} {ts : List TypeId} {xs : List AVal} (h : aBuiltin tt H b ts xs = some (z, H')) : NxOk H H' := by
  unfold aBuiltin at h
  repeat' split at h
  all_goals first
    | (cases h; done)
    | exact same_next h
    | exact aAppend0_next h
    | exact aAppend_next h
    | exact aCopy_next h
    | exact aClear_next h
theorem aStore_next {T : TypeId} {p x : AVal} (h : aStore tt H T p x = some H') : NxOk H H' := by
  unfold aStore at h
  repeat' split at h
  all_goals first
    | (cases h; done)
    | exact writeA_next h
theorem aOp_next {ev : Operand → Option AVal} {op : Op} (h : aOp tt ev H op = some (z, H')) : NxOk H H' := by
  unfold aOp at h
  repeat' split at h
  all_goals first
    | (cases h; done)
    | exact same_next h
    | (injection h with h; injection h with h1 h2; subst h2; exact NxOk.refl _)
    | exact aAlloc_next h
    | exact aNew_next h
    | exact aBuildSlice_next h
    | exact aConv_next h
    | exact aMake_next h
    | exact aBuiltin_next h
    | exact map_next (α := Unit) (fun _ => rfl) (fun K hK => aStore_next hK) h
    | (obtain ⟨l, k1, k2⟩ := Option.map_eq_some_iff.1 h; injection k2 with k2 k3; subst k3; exact NxOk.refl _)
end
theorem aStep_next {P : Program} {E : AEnv} {callF : CallF} (hC : CallOk P callF) {N : Nat} {ops : Array Oper} {o : Oper} {T T' : Tr AVal} {H H' : AHeap} (ha : aStep E callF N ops o T H = some (T', H')) : NxOk H H' := by
  unfold aStep at ha
  repeat' split at ha
  all_goals first
    | (cases ha; done)
    | (obtain ⟨l, k1, k2⟩ := Option.map_eq_some_iff.1 ha; injection k2 with k2 k3; subst k3; first | exact NxOk.refl _ | (rename_i hc; exact hC.next _ _ _ _ _ hc) | (rename_i hc; exact aOp_next hc))
def aSeq (E : AEnv) (callF : CallF) (N : Nat) (ops : Array Oper) : List Nat → Tr AVal → AHeap → Option (Tr AVal × AHeap)
  | [], T, H => some (T, H)
  | i :: is, T, H => match ops[i]? with
    | none => none
    | some o => match aStep E callF N ops o T H with
      | some (T1, H1) => aSeq E callF N ops is T1 H1
      | none => none
theorem aSeq_next {P : Program} {E : AEnv} {callF : CallF} (hC : CallOk P callF) {N : Nat} {ops : Array Oper} : ∀ {is : List Nat} {T T' : Tr AVal} {H H' : AHeap}, aSeq E callF N ops is T H = some (T', H') → NxOk H H'
  | [], T, T', H, H', h => by simp [aSeq] at h; obtain ⟨_, rfl⟩ := h; exact NxOk.refl _
  | i :: is, T, T', H, H', h => by
    unfold aSeq at h
    split at h
    · cases h
    · split at h
      · rename_i h1
        exact NxOk.trans (aStep_next hC h1) (aSeq_next hC h)
      · cases h
theorem aSeq_ok {P : Program} {E : AEnv} (hE : EnvOk P E) {callF : CallF} (hC : CallOk P callF) {N : Nat} {ops : Array Oper} {Q : Exit → Act → World → Prop} : ∀ {is : List Nat} {T T' : Tr AVal} {H H' : AHeap} {ρ : Rho} {a : Act} {w : World}, FrR ρ T a N → HR ρ H w → aSeq E callF N ops is T H = some (T', H') → Free ρ H.next H'.next →
    (∀ a' w' ρ', StepPost ρ H w T' H' N a' w' ρ' → Q .normal a' w') → wpOps P ops Q is a w
  | [], T, T', H, H', ρ, a, w, hfr, hr, h, hf, hQ => by
    simp only [aSeq] at h
    injection h with h
    injection h with h1 h2
    subst h1 h2
    exact hQ _ _ ρ ⟨hfr, hr, Ext.refl _ _ _⟩
  | i :: is, T, T', H, H', ρ, a, w, hfr, hr, h, hf, hQ => by
    unfold aSeq at h
    split at h
    · cases h
    · rename_i o ho
      split at h
      · rename_i T1 H1 h1
        unfold wpOps
        simp only [ho]
        have n1 := aStep_next hC h1
        have n2 := aSeq_next hC h
        have key := aStep_ok (Q := Q) (K := wpOps P ops Q is) hE hC hfr hr h1 (hf.mono (Nat.le_refl _) n2.le) (fun a' w' ρ' hp => aSeq_ok hE hC hp.fr hp.hr h (hp.ext.free hr.ok hf) (fun a2 w2 ρ2 hp2 => hQ _ _ _ ⟨hp2.fr, hp2.hr, hp.ext.trans hp2.ext hr.ok (hf.mono (Nat.le_refl _) n2.le)⟩))
        exact key
      · cases h
end
section
def alikes (f : AVal → AVal → Bool) : List AVal → List AVal → Bool
  | [], [] => true
  | x :: xs, y :: ys => f x y && alikes f xs ys
  | _, _ => false
def alike : Nat → AVal → AVal → Bool
  | 0, _, _ => false
  | n + 1, x, y => match x, y with
    | .bool a, .bool b => decide (a = b)
    | .int k a, .int k' b => decide (k = k') && decide (a = b)
    | .str a, .str b => decide (a = b)
    | .nilp, .nilp | .nils, .nils | .nilf, .nilf | .nili, .nili => true
    | .ptr a b c d, .ptr a' b' c' d' => decide (a = a') && decide (b = b') && decide (c = c') && decide (d = d')
    | .slc a b c d e f g, .slc a' b' c' d' e' f' g' => decide (a = a') && decide (b = b') && decide (c = c') && decide (d = d') && decide (e = e') && decide (f = f') && decide (g = g')
    | .func f l, .func f' l' => decide (f = f') && alikes (alike n) l l'
    | .agg l, .agg l' => alikes (alike n) l l'
    | .tup l, .tup l' => alikes (alike n) l l'
    | _, _ => false
theorem alikes_eq {f : AVal → AVal → Bool} (hf : ∀ x y, f x y = true → x = y) : ∀ (xs ys : List AVal), alikes f xs ys = true → xs = ys
  | [], [], _ => rfl
  | x :: xs, y :: ys, h => by
    simp only [alikes, Bool.and_eq_true] at h
    rw [hf _ _ h.1, alikes_eq hf xs ys h.2]
  | [], _ :: _, h => by simp [alikes] at h
  | _ :: _, [], h => by simp [alikes] at h
theorem alike_eq : ∀ (n : Nat) (x y : AVal), alike n x y = true → x = y
  | 0, x, y, h => by simp [alike] at h
  | n + 1, x, y, h => by
    unfold alike at h
    split at h
    all_goals first
      | rfl
      | (cases h; done)
      | (simp only [Bool.and_eq_true, decide_eq_true_eq] at h; obtain ⟨rfl, h⟩ := h; rw [alikes_eq (alike_eq n) _ _ h])
      | (rw [alikes_eq (alike_eq n) _ _ h])
      | (simp only [Bool.and_eq_true, decide_eq_true_eq] at h; simp [h])
def kindOf (tt : TypeId → Option TI) : Op → Nat
  | .alloc _ | .box _ _ | .buildSlice _ _ _ | .makeSlice _ _ _ => 1
  | .convert s d _ => match tt d, tt s with
    | some j, some i => match j.und, i.und with
      | .slice _, .slice _ => 4
      | .slice _, _ => 1
      | .string, .slice _ => 4
      | _, _ => 0
    | _, _ => 3
  | .load _ _ => 4
  | .move _ | .assign _ | .pick _ _ _ | .build _ _ | .nilCheck _ | .binOp _ _ _ _ _ | .unOp _ _ _ | .makeFunc _ _ _ | .slice _ _ _ _ _ | .fieldAddr _ _ _ | .field _ _ _ | .indexAddr _ _ _ | .index _ _ _ | .extract _ _ => 0
  | .call { callee := .builtin b, .. } => match b with
    | .len | .cap | .min | .max => 0
    | _ => 2
  | .call { callee := .value _, .. } | .store _ _ _ => 2
  | _ => 3
section
variable {tt : TypeId → Option TI} {ev : Operand → Option AVal} {H H' : AHeap} {op : Op} {z : AVal}
theorem map_same {o : Option AVal} (h : o.map (fun v => (v, H)) = some (z, H')) : H' = H ∧ ∀ G : AHeap, o.map (fun v => (v, G)) = some (z, G) := by
  obtain ⟨K, k1, k2⟩ := Option.map_eq_some_iff.1 h
  injection k2 with k2 k3
  subst k2 k3
  exact ⟨rfl, fun G => by rw [k1]; rfl⟩
theorem kind0 (hk : kindOf tt op = 0) (h : aOp tt ev H op = some (z, H')) : H' = H ∧ ∀ G, aOp tt ev G op = some (z, G) := by
  unfold aOp at h
  split at h
  all_goals first
    | (simp [kindOf] at hk; done)
    | skip
  all_goals first
    | (obtain ⟨h1, h2⟩ := map_same h; exact ⟨h1, fun G => h2 G⟩)
    | skip
  case h_3 c a b =>
    split at h
    · rename_i t hc
      obtain ⟨h1, h2⟩ := map_same h
      exact ⟨h1, fun G => by simp only [aOp, hc]; exact h2 G⟩
    · cases h
  case h_6 =>
    split at h
    · rename_i l hl
      obtain ⟨h1, h2⟩ := map_same h
      exact ⟨h1, fun G => by simp only [aOp, hl]; exact h2 G⟩
    · cases h
  case h_10 =>
    split at h
    · rename_i hx
      injection h with h
      injection h with h1 h2
      subst h1 h2
      exact ⟨rfl, fun G => by simp only [aOp, hx]⟩
    · cases h
  case h_11 =>
    split at h
    · rename_i u v hu hv
      obtain ⟨h1, h2⟩ := map_same h
      exact ⟨h1, fun G => by simp only [aOp, hu, hv]; exact h2 G⟩
    · cases h
  case h_12 =>
    split at h
    · rename_i u hu
      obtain ⟨h1, h2⟩ := map_same h
      exact ⟨h1, fun G => by simp only [aOp, hu]; exact h2 G⟩
    · cases h
  case h_13 s d x =>
    split at h
    · rename_i u hu
      simp only [kindOf] at hk
      split at hk
      · rename_i j i hj hi
        unfold aConv at h
        simp only [hi, hj] at h
        split at hk
        · cases hk
        · cases hk
        · cases hk
        · rename_i n0 n1 n2
          split at h
          · injection h with h
            injection h with h1 h2
            subst h1 h2
            rename_i e1 e2
            exact ⟨rfl, fun G => by simp only [aOp, hu, aConv, hi, hj, e1, e2]⟩
          · injection h with h
            injection h with h1 h2
            subst h1 h2
            rename_i e1 e2
            exact ⟨rfl, fun G => by simp only [aOp, hu, aConv, hi, hj, e1, e2]⟩
          · rename_i e1 e2; first | exact absurd e2 (n1 _) | exact absurd e1 (n0 _ _ e2) | exact absurd e1 (n1 _ _ e2) | exact absurd e2 (n0 _)
          · rename_i e1 e2; first | exact absurd e2 (n1 _) | exact absurd e1 (n0 _ _ e2) | exact absurd e1 (n1 _ _ e2) | exact absurd e2 (n0 _)
          · rename_i e1 e2; first | exact absurd e1 (n2 _ e2) | exact absurd e1 (n1 _ e2)
          · rename_i e1 e2; first | exact absurd e1 (n2 _ e2) | exact absurd e1 (n1 _ e2)
          · rename_i e1 e2; first | exact absurd e1 (n2 _ e2) | exact absurd e1 (n1 _ e2)
          · cases h
      · cases hk
    · cases h
  case h_14 f first caps =>
    split at h
    · rename_i he
      obtain ⟨l, k1, k2⟩ := Option.map_eq_some_iff.1 h
      injection k2 with k2 k3
      subst k2 k3
      exact ⟨rfl, fun G => by simp only [aOp, if_pos he, k1]; rfl⟩
    · cases h
  case h_16 =>
    split at h
    · rename_i u l hh m hu hl hhi hm
      obtain ⟨h1, h2⟩ := map_same h
      exact ⟨h1, fun G => by simp only [aOp, hu, hl, hhi, hm]; exact h2 G⟩
    · cases h
  case h_17 =>
    split at h
    · rename_i u hu
      obtain ⟨h1, h2⟩ := map_same h
      exact ⟨h1, fun G => by simp only [aOp, hu]; exact h2 G⟩
    · cases h
  case h_18 =>
    split at h
    · rename_i u hu
      obtain ⟨h1, h2⟩ := map_same h
      exact ⟨h1, fun G => by simp only [aOp, hu]; exact h2 G⟩
    · cases h
  case h_19 =>
    split at h
    · rename_i u v hu hv
      obtain ⟨h1, h2⟩ := map_same h
      exact ⟨h1, fun G => by simp only [aOp, hu, hv]; exact h2 G⟩
    · cases h
  case h_20 =>
    split at h
    · rename_i u v hu hv
      obtain ⟨h1, h2⟩ := map_same h
      exact ⟨h1, fun G => by simp only [aOp, hu, hv]; exact h2 G⟩
    · cases h
  case h_21 =>
    split at h
    · rename_i l hx
      obtain ⟨h1, h2⟩ := map_same h
      exact ⟨h1, fun G => by simp only [aOp, hx]; exact h2 G⟩
    · cases h
  case h_22 b args ts =>
    split at h
    · rename_i xs hxs
      unfold aBuiltin at h
      split at h
      · obtain ⟨h1, h2⟩ := map_same h
        exact ⟨h1, fun G => by simp only [aOp, hxs, aBuiltin, *]; try exact h2 G⟩
      · obtain ⟨h1, h2⟩ := map_same h
        exact ⟨h1, fun G => by simp only [aOp, hxs, aBuiltin, *]; try exact h2 G⟩
      · simp [kindOf] at hk
      · simp [kindOf] at hk
      · obtain ⟨h1, h2⟩ := map_same h
        exact ⟨h1, fun G => by simp only [aOp, hxs, aBuiltin]; try exact h2 G⟩
      · obtain ⟨h1, h2⟩ := map_same h
        exact ⟨h1, fun G => by simp only [aOp, hxs, aBuiltin]; try exact h2 G⟩
      · simp [kindOf] at hk
      · cases h
    · cases h
  all_goals cases h
theorem newA_at {G : AHeap} {ty : TypeId} {xs : List AVal} (hG : G.next = H.next) (h : newA H ty xs = some H') : ∃ r, H' = H.new r ∧ newA G ty xs = some (G.new r) := by
  unfold newA at h
  split at h
  · rename_i hc
    injection h with h
    exact ⟨_, h.symm, by unfold newA; rw [hG, if_pos hc]⟩
  · cases h
theorem map_new {G : AHeap} (hG : G.next = H.next) {ty : TypeId} {xs : List AVal} {f : AHeap → AVal} (hf : ∀ r r', f (H.new r) = f (G.new r')) (h : (newA H ty xs).map (fun K => (f K, K)) = some (z, H')) : ∃ r, H' = H.new r ∧ (newA G ty xs).map (fun K => (f K, K)) = some (z, G.new r) := by
  obtain ⟨K, k1, k2⟩ := Option.map_eq_some_iff.1 h
  injection k2 with k2 k3
  subst k3
  obtain ⟨r, r1, r2⟩ := newA_at hG k1
  refine ⟨r, r1, ?_⟩
  rw [r2, Option.map_some, ← k2, r1, hf r r]
theorem kind1 (hk : kindOf tt op = 1) (h : aOp tt ev H op = some (z, H')) (G : AHeap) (hG : G.next = H.next) : ∃ r, H' = H.new r ∧ aOp tt ev G op = some (z, G.new r) := by
  unfold aOp at h
  split at h
  all_goals first
    | (simp [kindOf] at hk; done)
    | skip
  case h_4 T =>
    unfold aAlloc at h
    split at h
    · rename_i i hi
      split at h
      · rename_i zz hz
        unfold aNew at h
        obtain ⟨r, r1, r2⟩ := map_new (f := fun _ => .ptr H.next 0 0 zz.cells.length) hG (fun _ _ => rfl) h
        exact ⟨r, r1, by simp only [aOp, aAlloc, hi, hz, aNew, hG]; exact r2⟩
      · cases h
    · cases h
  case h_5 T x =>
    split at h
    · rename_i v hv
      unfold aBox aNew at h
      obtain ⟨r, r1, r2⟩ := map_new (f := fun _ => .ptr H.next 0 0 v.cells.length) hG (fun _ _ => rfl) h
      exact ⟨r, r1, by simp only [aOp, hv, aBox, aNew, hG]; exact r2⟩
    · cases h
  case h_7 t n ps =>
    split at h
    · rename_i l hl
      unfold aBuildSlice at h
      split at h
      · rename_i i hi
        split at h
        · rename_i e he
          split at h
          · rename_i j hj
            split at h
            · rename_i hn0
              split at h
              · obtain ⟨r, r1, r2⟩ := map_new (f := fun _ => .slc H.next 0 0 0 0 j.size true) hG (fun _ _ => rfl) h
                exact ⟨r, r1, by simp only [aOp, hl, aBuildSlice, hi, he, hj, if_pos hn0, hG]; exact r2⟩
              · cases h
            rename_i hn0
            split at h
            · rename_i zz hz
              split at h
              · rename_i hc
                split at h
                · rename_i out ho
                  obtain ⟨r, r1, r2⟩ := map_new (f := fun _ => .slc H.next 0 0 n n j.size true) hG (fun _ _ => rfl) h
                  exact ⟨r, r1, by simp only [aOp, hl, aBuildSlice, hi, he, hj, if_neg hn0, hz, if_pos hc, ho, hG]; exact r2⟩
                · cases h
              · cases h
            · cases h
          · cases h
        · cases h
      · cases h
    · cases h
  case h_13 s d x =>
    split at h
    · rename_i u hu
      simp only [kindOf] at hk
      split at hk
      · rename_i j i hj hi
        unfold aConv at h
        simp only [hi, hj] at h
        split at hk
        · cases hk
        · rename_i e he hno
          split at h
          · rename_i e1 e2; rw [he] at e2; cases e2
          · rename_i e1 e2; rw [he] at e2; cases e2
          · rename_i e' s' e1 e2
            split at h
            · rename_i m hm
              split at h
              · rename_i hmu
                split at h
                · rename_i hl
                  obtain ⟨r, r1, r2⟩ := map_new (f := fun _ => .slc H.next 0 0 s'.length s'.length 1 false) hG (fun _ _ => rfl) h
                  exact ⟨r, r1, by simp only [aOp, hu, aConv, hi, hj, e1, e2, hm, hmu, if_pos hl, hG]; exact r2⟩
                · cases h
              · cases h
            · cases h
          · rename_i e1 e2; exact absurd e1 (hno _)
          · rename_i e1 e2; rw [he] at e2; cases e2
          · rename_i e1 e2; rw [he] at e2; cases e2
          · rename_i e1 e2; rw [he] at e2; cases e2
          · cases h
        · cases hk
        · cases hk
      · cases hk
    · cases h
  case h_15 t l c =>
    split at h
    · rename_i u v hu hv
      unfold aMake at h
      split at h
      · rename_i i kl l' kc c' hi
        split at h
        · rename_i e he
          split at h
          · rename_i j hj
            split at h
            · rename_i zz hz
              split at h
              · rename_i hc
                obtain ⟨r, r1, r2⟩ := map_new (f := fun _ => .slc H.next 0 0 l'.toNat c'.toNat j.size true) hG (fun _ _ => rfl) h
                exact ⟨r, r1, by simp only [aOp, hu, hv, aMake, hi, he, hj, hz, if_pos hc, hG]; exact r2⟩
              · cases h
            · cases h
          · cases h
        · cases h
      · cases h
    · cases h
  case h_22 b args ts =>
    simp only [kindOf] at hk
    split at hk <;> cases hk
  all_goals cases h
theorem kind4 (hk : kindOf tt op = 4) (h : aOp tt ev H op = some (z, H')) : H' = H := by
  unfold aOp at h
  split at h
  all_goals first
    | (simp [kindOf] at hk; done)
    | skip
  case h_8 =>
    split at h
    · exact (map_same h).1
    · cases h
  case h_13 s d x =>
    split at h
    · rename_i u hu
      simp only [kindOf] at hk
      split at hk
      · rename_i j i hj hi
        unfold aConv at h
        simp only [hi, hj] at h
        split at hk
        · rename_i e he1 he2
          repeat' split at h
          all_goals first
            | (cases h; done)
            | (injection h with h; injection h with h1 h2; exact h2.symm)
            | (obtain ⟨l, k1, k2⟩ := Option.map_eq_some_iff.1 h; injection k2 with k2 k3; exact k3.symm)
            | (rename_i e1 e2; exfalso; simp_all)
            | (exfalso; simp_all)
        · cases hk
        · rename_i e he1 he2
          repeat' split at h
          all_goals first
            | (cases h; done)
            | (injection h with h; injection h with h1 h2; exact h2.symm)
            | (obtain ⟨l, k1, k2⟩ := Option.map_eq_some_iff.1 h; injection k2 with k2 k3; exact k3.symm)
            | (exfalso; simp_all)
        · cases hk
      · cases hk
    · cases h
  case h_22 b args ts =>
    simp only [kindOf] at hk
    split at hk <;> cases hk
  all_goals cases h
end
end
section
structure RPlan where
  pm : List Nat
  plan : List Nat
def maskF (pm : List Nat) (s : Nat) (e : Edge) : Nat := if Region.binds .any e then s ||| 2 ^ e.on ||| pm.getD e.on 0 else s
def maskOf (pm : List Nat) (o : Oper) : Nat := o.after.toList.foldl (maskF pm) 0
theorem maskOf_bit (pm : List Nat) (j : Nat) : ∀ (es : List Edge) (s : Nat), (es.foldl (maskF pm) s).testBit j = true → s.testBit j = true ∨ ∃ e ∈ es, Region.binds .any e = true ∧ (j = e.on ∨ (pm.getD e.on 0).testBit j = true)
  | [], s, h => .inl h
  | e :: es, s, h => by
    rw [List.foldl_cons] at h
    rcases maskOf_bit pm j es _ h with h1 | ⟨e', h1, h2⟩
    · unfold maskF at h1
      split at h1
      · rename_i hb
        simp only [Nat.testBit_or, Bool.or_eq_true, Nat.testBit_two_pow, decide_eq_true_eq] at h1
        rcases h1 with (h1 | h1) | h1
        · exact .inl h1
        · exact .inr ⟨e, by simp, hb, .inl h1.symm⟩
        · exact .inr ⟨e, by simp, hb, .inr h1⟩
      · exact .inl h1
    · exact .inr ⟨e', List.mem_cons_of_mem _ h1, h2⟩
def chainK (tt : TypeId → Option TI) (ops : Array Oper) (i : Nat) : Bool :=
  match ops[i]? with
  | some o => kindOf tt o.op == 2
  | none => false
def goPlan (tt : TypeId → Option TI) (ops : Array Oper) (pm : List Nat) : List Nat → List Nat → Bool
  | [], _ => true
  | i :: is, done => decide (i < ops.size) && !(done.contains i) && ((List.range ops.size).all fun j => !((pm.getD i 0).testBit j) || done.contains j) && (!(chainK tt ops i) || done.all fun j => (pm.getD i 0).testBit j) && goPlan tt ops pm is (i :: done)
def goodR (tt : TypeId → Option TI) (ops : Array Oper) (p : RPlan) : Bool :=
  ((List.range ops.size).all fun i => match ops[i]? with
    | none => false
    | some o => (o.after.toList.all fun e => !(Region.binds .any e) || decide (e.on < i)) && decide (p.pm.getD i 0 = maskOf p.pm o) && decide (p.pm.getD i 0 < 2 ^ ops.size)) &&
  goPlan tt ops p.pm p.plan [] && ((List.range ops.size).all fun i => p.plan.contains i) &&
  ((List.range ops.size).all fun i => (List.range ops.size).all fun j => match ops[i]?, ops[j]? with
    | some o, some o' => decide (i = j) || (match o.dst with
      | none => true
      | some t => decide (o'.dst ≠ some t) && (!((o'.looksAt ops).contains t) || (p.pm.getD j 0).testBit i || (p.pm.getD i 0).testBit j))
    | _, _ => false)
structure GoodR (tt : TypeId → Option TI) (ops : Array Oper) (p : RPlan) : Prop where
  op : ∀ i, i < ops.size → ∃ o, ops[i]? = some o
  edge : ∀ i o e, ops[i]? = some o → e ∈ o.after → Region.binds .any e = true → e.on < i
  mask : ∀ i o j, ops[i]? = some o → (p.pm.getD i 0).testBit j = true → ∃ e ∈ o.after, Region.binds .any e = true ∧ (j = e.on ∨ (p.pm.getD e.on 0).testBit j = true)
  split : ∀ pre i post, p.plan = pre ++ i :: post → i < ops.size ∧ i ∉ pre ∧ (∀ j, (p.pm.getD i 0).testBit j = true → j ∈ pre) ∧ (chainK tt ops i = true → ∀ j ∈ pre, (p.pm.getD i 0).testBit j = true)
  all : ∀ i, i < ops.size → i ∈ p.plan
  dst : ∀ i j o o' t, ops[i]? = some o → ops[j]? = some o' → i ≠ j → o.dst = some t → o'.dst ≠ some t ∧ (t ∈ o'.looksAt ops → (p.pm.getD j 0).testBit i = true ∨ (p.pm.getD i 0).testBit j = true)
theorem goPlan_split {tt : TypeId → Option TI} {ops : Array Oper} {pm : List Nat} (hpm : ∀ i, i < ops.size → pm.getD i 0 < 2 ^ ops.size) : ∀ (is done : List Nat), goPlan tt ops pm is done = true → ∀ pre i post, is = pre ++ i :: post → i < ops.size ∧ i ∉ done ∧ i ∉ pre ∧ (∀ j, (pm.getD i 0).testBit j = true → j ∈ done ∨ j ∈ pre) ∧ (chainK tt ops i = true → ∀ j, j ∈ done ∨ j ∈ pre → (pm.getD i 0).testBit j = true)
  | [], done, h, pre, i, post, e => by cases pre <;> cases e
  | x :: is, done, h, pre, i, post, e => by
    simp only [goPlan, Bool.and_eq_true, decide_eq_true_eq, Bool.not_eq_true', Bool.or_eq_true, List.all_eq_true] at h
    obtain ⟨⟨⟨⟨h1, h2⟩, h3⟩, h4⟩, h5⟩ := h
    cases pre with
    | nil =>
      injection e with e1 e2
      subst e1 e2
      refine ⟨h1, by simpa using h2, by simp, fun j hj => .inl ?_, fun hc j hj => ?_⟩
      · have hjl : j < ops.size := by
          rcases Nat.lt_or_ge j ops.size with h | h
          · exact h
          · have := Nat.testBit_lt_two_pow (Nat.lt_of_lt_of_le (hpm x h1) (Nat.pow_le_pow_right (by decide) h))
            rw [this] at hj; cases hj
        have := h3 j (List.mem_range.2 hjl)
        rcases this with h | h
        · rw [hj] at h; cases h
        · simpa using h
      · rcases h4 with h | h
        · rw [hc] at h; cases h
        · rcases hj with hj | hj
          · exact h j hj
          · cases hj
    | cons y pre =>
      injection e with e1 e2
      subst e1
      obtain ⟨k1, k2, k3, k4, k5⟩ := goPlan_split hpm is (x :: done) h5 pre i post e2
      refine ⟨k1, fun h => k2 (List.mem_cons_of_mem _ h), fun h => ?_, fun j hj => ?_, fun hc j hj => ?_⟩
      · rcases List.mem_cons.1 h with h | h
        · exact k2 (by rw [h]; exact List.mem_cons_self ..)
        · exact k3 h
      · rcases k4 j hj with h | h
        · rcases List.mem_cons.1 h with h | h
          · exact .inr (by rw [h]; exact List.mem_cons_self ..)
          · exact .inl h
        · exact .inr (List.mem_cons_of_mem _ h)
      · refine k5 hc j ?_
        rcases hj with h | h
        · exact .inl (List.mem_cons_of_mem _ h)
        · rcases List.mem_cons.1 h with h | h
          · exact .inl (by rw [h]; exact List.mem_cons_self ..)
          · exact .inr h
theorem goodR_ok {tt : TypeId → Option TI} {ops : Array Oper} {p : RPlan} (h : goodR tt ops p = true) : GoodR tt ops p := by
  simp only [goodR, Bool.and_eq_true, List.all_eq_true, List.mem_range] at h
  obtain ⟨⟨⟨h1, h2⟩, h3⟩, h4⟩ := h
  have hop : ∀ i, i < ops.size → ∃ o, ops[i]? = some o := fun i hi => ⟨ops[i], Array.getElem?_eq_getElem hi⟩
  have lt : ∀ {i o}, ops[i]? = some o → i < ops.size := fun h => (Array.getElem?_eq_some_iff.1 h).1
  have hpm : ∀ i, i < ops.size → p.pm.getD i 0 < 2 ^ ops.size := fun i hi => by
    obtain ⟨o, ho⟩ := hop i hi
    have := h1 i hi
    simp only [ho, Bool.and_eq_true, decide_eq_true_eq] at this
    exact this.2
  refine ⟨hop, fun i o e ho he hb => ?_, fun i o j ho hj => ?_, fun pre i post e => ?_, fun i hi => by simpa using h3 i hi, fun i j o o' t ho ho' hij hd => ?_⟩
  · have := h1 i (lt ho)
    simp only [ho, Bool.and_eq_true, decide_eq_true_eq, List.all_eq_true, Bool.or_eq_true, Bool.not_eq_true'] at this
    rcases this.1.1 e (by simpa using he) with h | h
    · rw [hb] at h; cases h
    · exact h
  · have := h1 i (lt ho)
    simp only [ho, Bool.and_eq_true, decide_eq_true_eq] at this
    rw [this.1.2] at hj
    rcases maskOf_bit p.pm j _ _ hj with h | ⟨e, h5, h6⟩
    · simp at h
    · exact ⟨e, by simpa using h5, h6⟩
  · obtain ⟨k1, k2, k3, k4, k5⟩ := goPlan_split hpm p.plan [] h2 pre i post e
    exact ⟨k1, k3, fun j hj => (k4 j hj).resolve_left (by simp), fun hc j hj => k5 hc j (.inr hj)⟩
  · have := h4 i (lt ho) j (lt ho')
    simp only [ho, ho', hd, Bool.or_eq_true, Bool.and_eq_true, decide_eq_true_eq, Bool.not_eq_true'] at this
    rcases this with h | ⟨h5, h6⟩
    · exact absurd h hij
    · refine ⟨h5, fun hm => ?_⟩
      rcases h6 with (h6 | h6) | h6
      · rw [List.contains_eq_mem, decide_eq_false_iff_not] at h6; exact absurd hm h6
      · exact .inl h6
      · exact .inr h6
theorem GoodR.closed {tt : TypeId → Option TI} {ops : Array Oper} {p : RPlan} (g : GoodR tt ops p) {S : Nat → Prop} (hS : ∀ i o e, ops[i]? = some o → S i → e ∈ o.after → Region.binds .any e = true → S e.on) : ∀ (n i : Nat), i ≤ n → i < ops.size → S i → ∀ j, (p.pm.getD i 0).testBit j = true → S j
  | 0, i, hi, hl, hs, j, hj => by
    obtain ⟨o, ho⟩ := g.op i hl
    obtain ⟨e, h1, h2, h3⟩ := g.mask i o j ho hj
    have := g.edge i o e ho h1 h2
    omega
  | n + 1, i, hi, hl, hs, j, hj => by
    obtain ⟨o, ho⟩ := g.op i hl
    obtain ⟨e, h1, h2, h3⟩ := g.mask i o j ho hj
    have hlt := g.edge i o e ho h1 h2
    have hse := hS i o e ho hs h1 h2
    rcases h3 with rfl | h3
    · exact hse
    · exact g.closed hS n e.on (by omega) (by omega) hse j h3
def aevM (l : List Tmp) (T : Tr AVal) : Operand → Option AVal
  | .tmp t => if l.contains t then T.get t else none
  | x => aEv T x
def aDo (E : AEnv) (callF : CallF) (ops : Array Oper) (o : Oper) (T : Tr AVal) (H : AHeap) : Option (Bool × AVal × AHeap) :=
  match aWanted ops T o with
  | some false => some (false, .tup [], H)
  | some true => match o.op with
    | .call { callee := .value g, args, argTypes := _ } => match aevM (o.looksAt ops) T g with
      | some (.func f caps) => match argsA (aevM (o.looksAt ops) T) args.toList with
        | some xs => (callF f (xs ++ caps) H).map fun r => (true, r.1, r.2)
        | none => none
      | _ => none
    | op => (aOp E.tt (aevM (o.looksAt ops) T) H op).map fun r => (true, r.1, r.2)
  | none => none
def addRow (id : Nat) (r : ARow) (G : AHeap) : AHeap := ⟨max G.next (id + 1), Tr.set 40 G.rows id r⟩
def chkOld (tt : TypeId → Option TI) (ev : Operand → Option AVal) (op : Op) (r : AVal) (m : Nat) : List (Nat × AHeap) → Bool
  | [] => true
  | (c, G) :: rest => if m.testBit c then true else (match aOp tt ev G op with
    | some (r', _) => alike 6 r' r && chkOld tt ev op r m rest
    | none => false)
structure DRes where
  T : Tr AVal
  H : AHeap
  news : List (Nat × AHeap)
  olds : List (Nat × AHeap)
  rs : List (Nat × Nat × Nat)
def DRes.with (d : DRes) (r : Nat × Nat × Nat) : DRes := { d with rs := r :: d.rs }
def aDrawGo (E : AEnv) (callF : CallF) (N : Nat) (ops : Array Oper) (pm : List Nat) : List Nat → Tr AVal → AHeap → List (Nat × AHeap) → Option DRes
  | [], T, H, olds => some ⟨T, H, [], olds, []⟩
  | i :: is, T, H, olds => match ops[i]? with
    | none => none
    | some o => match aDo E callF ops o T H with
      | none => none
      | some (want, r, H') => match aPut N T o.dst r with
        | none => none
        | some T' =>
          if want then (match kindOf E.tt o.op with
            | 2 => match aDrawGo E callF N ops pm is T' H' ((i, H) :: olds) with
              | some d => match d.olds with
                | (_, G) :: olds' => some ⟨d.T, d.H, (i, G) :: d.news, olds', (i, H.next, H'.next) :: d.rs⟩
                | [] => none
              | none => none
            | 1 => match H'.get H.next with
              | some row => (aDrawGo E callF N ops pm is T' H' (olds.map fun p => (p.1, addRow H.next row p.2))).map (·.with (i, H.next, H'.next))
              | none => none
            | 4 => if chkOld E.tt (aevM (o.looksAt ops) T) o.op r (pm.getD i 0) olds then (aDrawGo E callF N ops pm is T' H olds).map (·.with (i, H.next, H.next)) else none
            | 0 => (aDrawGo E callF N ops pm is T' H olds).map (·.with (i, H.next, H.next))
            | _ => none)
          else (aDrawGo E callF N ops pm is T' H olds).map (·.with (i, H.next, H.next))
def aDraw (E : AEnv) (callF : CallF) (N : Nat) (ops : Array Oper) (p : RPlan) (T : Tr AVal) (H : AHeap) : Option (Tr AVal × AHeap) :=
  (aDrawGo E callF N ops p.pm p.plan T H []).map fun d => (d.T, d.H)
end
section
def SubG (G G' : AHeap) : Prop := ∀ id r, G.get id = some r → G'.get id = some r
structure Grw (G G' : AHeap) (b : Nat) : Prop where
  sub : SubG G G'
  old : ∀ id, id < b → G'.get id = G.get id
  ok : G'.Ok
structure OldOk (b : Nat) (G : AHeap) : Prop where
  ok : G.Ok
  lt : ∀ id r, G.get id = some r → id < b
theorem OldOk.none_ {b : Nat} {G : AHeap} (h : OldOk b G) {id : Nat} (hi : b ≤ id) : G.get id = none := by
  cases hg : G.get id with
  | none => rfl
  | some r => have := h.lt _ _ hg; omega
theorem OldOk.mono {b b' : Nat} {G : AHeap} (h : OldOk b G) (hb : b ≤ b') : OldOk b' G := ⟨h.ok, fun id r hr => Nat.lt_of_lt_of_le (h.lt id r hr) hb⟩
theorem OldOk.grw {b : Nat} {G : AHeap} (h : OldOk b G) (c : Nat) : Grw G G c := ⟨fun _ _ h => h, fun _ _ => rfl, h.ok⟩
theorem Grw.mono {b b' : Nat} {G G' : AHeap} (h : Grw G G' b') (hb : b ≤ b') : Grw G G' b := ⟨h.sub, fun id hi => h.old id (Nat.lt_of_lt_of_le hi hb), h.ok⟩
theorem addRow_get {id : Nat} (hid : id < 1099511627776) (r : ARow) (G : AHeap) (j : Nat) : (addRow id r G).get j = if j = id then some r else G.get j := Tr.get_set 40 G.rows id r hid j
theorem addRow_ok {id : Nat} (hid : id < 1099511627776) {r : ARow} {G : AHeap} (h : OldOk id G) : OldOk (id + 1) (addRow id r G) := by
  have hn := h.ok.next
  refine ⟨⟨by show max G.next (id + 1) ≤ _; omega, fun j r' hj => ?_⟩, fun j r' hj => ?_⟩ <;>
  · rw [addRow_get hid] at hj
    by_cases e : j = id
    · subst e; first | omega | (show j < max G.next (j + 1); omega)
    · rw [if_neg e] at hj
      have h1 := h.lt j r' hj
      have h2 := h.ok.lt j r' hj
      first | omega | (show j < max G.next (id + 1); omega)
inductive Olds (b : Nat) : List (Nat × AHeap) → List (Nat × AHeap) → Prop where
  | nil : Olds b [] []
  | cons (c : Nat) (G G' : AHeap) (l l' : List (Nat × AHeap)) (h : Grw G G' b) (hs : Olds b l l') : Olds b ((c, G) :: l) ((c, G') :: l')
theorem Olds.refl {b : Nat} (c : Nat) : ∀ {l : List (Nat × AHeap)}, (∀ p ∈ l, OldOk b p.2) → Olds c l l
  | [], _ => .nil
  | (a, G) :: l, h => .cons _ _ _ _ _ ((h (a, G) (by simp)).grw c) (Olds.refl c (fun p hp => h p (by simp [hp])))
theorem Olds.mono {b b' : Nat} (hb : b ≤ b') : ∀ {l l' : List (Nat × AHeap)}, Olds b' l l' → Olds b l l'
  | _, _, .nil => .nil
  | _, _, .cons c G G' l l' h hs => .cons c G G' l l' (h.mono hb) (hs.mono hb)
theorem Olds.get {b : Nat} : ∀ {l l' : List (Nat × AHeap)}, Olds b l l' → ∀ {X : List (Nat × AHeap)} {c : Nat} {G' : AHeap} {Y : List (Nat × AHeap)}, l' = X ++ (c, G') :: Y → ∃ X0 G Y0, l = X0 ++ (c, G) :: Y0 ∧ Grw G G' b ∧ X0.map (·.1) = X.map (·.1)
  | _, _, .nil, X, c, G', Y, e => by cases X <;> cases e
  | _, _, .cons c0 G0 G0' l l' h hs, [], c, G', Y, e => by
    injection e with e1 e2
    injection e1 with e1 e3
    subst e1 e3
    exact ⟨[], G0, l, rfl, h, rfl⟩
  | _, _, .cons c0 G0 G0' l l' h hs, x :: X, c, G', Y, e => by
    injection e with e1 e2
    subst e1
    obtain ⟨X0, G, Y0, k1, k2, k3⟩ := hs.get e2
    exact ⟨(c0, G0) :: X0, G, Y0, by rw [k1]; rfl, k2, by simp [k3]⟩
theorem Olds.fst {b : Nat} : ∀ {l l' : List (Nat × AHeap)}, Olds b l l' → l'.map (·.1) = l.map (·.1)
  | _, _, .nil => rfl
  | _, _, .cons c G G' l l' h hs => by simp [hs.fst]
theorem Olds.mem {b : Nat} {l l' : List (Nat × AHeap)} (h : Olds b l l') {q : Nat × AHeap} (hq : q ∈ l') : ∃ p ∈ l, p.1 = q.1 ∧ Grw p.2 q.2 b := by
  obtain ⟨X, Y, e⟩ := List.append_of_mem hq
  obtain ⟨X0, G, Y0, k1, k2, k3⟩ := h.get (c := q.1) (G' := q.2) e
  exact ⟨(q.1, G), by rw [k1]; simp, rfl, k2⟩
theorem Olds.add {b id : Nat} (hid : id < 1099511627776) {r : ARow} (hb : b ≤ id) : ∀ {l l' : List (Nat × AHeap)}, (∀ p ∈ l, OldOk id p.2) → Olds (id + 1) (l.map fun p => (p.1, addRow id r p.2)) l' → Olds b l l'
  | [], _, _, .nil => .nil
  | (c, G) :: l, _, h, .cons _ _ G' _ l' hg hs => by
    have hG := h (c, G) (by simp)
    refine .cons _ _ _ _ _ ⟨fun j r' hj => hg.sub j r' ?_, fun j hj => ?_, hg.ok⟩ (Olds.add hid hb (fun p hp => h p (by simp [hp])) hs)
    · have := hG.lt j r' hj
      simp only at hj ⊢
      rw [addRow_get hid, if_neg (by omega)]; exact hj
    · rw [hg.old j (by omega)]
      simp only
      rw [addRow_get hid, if_neg (by omega)]
def Rw (H0 : AHeap) (G : AHeap) : Prop := ∀ id, (G.get id).isSome = true → (H0.get id).isSome = true ∨ H0.next ≤ id
def cur (L : List (Nat × AHeap)) (Hf : AHeap) : AHeap :=
  match L with
  | [] => Hf
  | p :: _ => p.2
structure OpFact (E : AEnv) (callF : CallF) (N : Nat) (ops : Array Oper) (pm : List Nat) (T0 Tf : Tr AVal) (Hf : AHeap) (L : List (Nat × AHeap)) (pre : List Nat) (i : Nat) (post : List Nat) (s e : Nat) (o : Oper) (Ti : Tr AVal) (Hi : AHeap) (want : Bool) (r : AVal) (H' : AHeap) : Prop where
  op : ops[i]? = some o
  does : aDo E callF ops o Ti Hi = some (want, r, H')
  ok : Hi.Ok
  start : s = Hi.next
  le : s ≤ e
  dst : ∀ d, o.dst = some d → d < N ∧ N < 1099511627776 ∧ Tf.get d = some r
  e1 : ∀ t, (∀ j ∈ i :: post, ∀ oj, ops[j]? = some oj → oj.dst ≠ some t) → Tf.get t = Ti.get t
  e2 : ∀ t, (∀ j ∈ pre, ∀ oj, ops[j]? = some oj → oj.dst ≠ some t) → Ti.get t = T0.get t
  kind : ((want = false ∨ (want = true ∧ kindOf E.tt o.op = 0)) ∧ ∀ q ∈ L, q.1 ≠ i) ∨
    (want = true ∧ kindOf E.tt o.op = 4 ∧ ∃ A B, L = A ++ B ∧ (∀ p ∈ B, p.1 ∈ post ∧ chainK E.tt ops p.1 = true) ∧ ∀ A1 A2, A = A1 ++ A2 → (∀ p ∈ A2, (pm.getD i 0).testBit p.1 = false) → ∃ Hx : AHeap, Hx.Ok ∧ SubG Hx (cur (A2 ++ B) Hf) ∧ aOp E.tt (aevM (o.looksAt ops) Ti) Hx o.op = some (r, Hx)) ∨
    (want = true ∧ kindOf E.tt o.op = 1 ∧ e = Hi.next + 1 ∧ ∃ row A B, L = A ++ B ∧ (∀ p ∈ B, p.1 ∈ post ∧ chainK E.tt ops p.1 = true) ∧ H' = Hi.new row ∧ ∀ A1 A2, A = A1 ++ A2 → (cur (A2 ++ B) Hf).get Hi.next = some row) ∨
    (want = true ∧ kindOf E.tt o.op = 2 ∧ e = H'.next ∧ ∃ A G B, L = A ++ (i, G) :: B ∧ (∀ p ∈ A, p.1 ∈ pre) ∧ (∀ p ∈ B, p.1 ≠ i) ∧ SubG Hi G ∧ SubG H' (cur B Hf) ∧ (∀ id, H'.get id = none → (cur B Hf).get id = G.get id) ∧ ∀ id, id < H'.next → H'.get id = none → G.get id = none)
end
end Go.Proofs.YtpokkciheejeiaaGreatDoor
