/- Contracts of filter.Select and of the reference's. -/
import Derived.Test.YtjkaklfhcefkcaaSel
import Derived.Test.YtjkaklfhcefkcaaRMeans
namespace Go.Proofs.Ytjkaklfhcefkcaa
set_option linter.unusedVariables false
open Go.RowKit Go.ChangeShapes

theorem reads_ev1 {w : World} {g : Nat} {e : Evt} (h : Blk w g 33 (evA e)) : Reads w (g + 1) 7 (some ⟨g, 0, none⟩) 1 (evCells [e]) := by
  refine ⟨by rw [evCells_length]; rfl, fun _ => ⟨_, rfl, Nat.lt_succ_self _, fun j u hu => ?_⟩⟩
  rw [add_plain, Nat.zero_add, h.cell j, ← hu]
  rw [evCells_cons, evCells_nil, List.append_nil]
  simp
def selE (t : FT) (evs : List Evt) : List Evt := evs.filter (fun e => meansF t e)
theorem selE_snoc (t : FT) (evs : List Evt) (k : Nat) (e : Evt) (h : evs[k]? = some e) : selE t (evs.take (k + 1)) = selE t (evs.take k) ++ (if meansF t e = true then [e] else []) := by
  unfold selE
  rw [take_snoc_of evs k e h, List.filter_append]
  congr 1
  cases hm : meansF t e <;> simp [hm]
theorem selE_len (t : FT) (evs : List Evt) (k : Nat) : (selE t (evs.take k)).length ≤ k := by
  unfold selE
  have h1 := List.length_filter_le (fun e => meansF t e) (evs.take k)
  have h2 := List.length_take_le k evs
  omega
def selT (t : FT) (evs : List Evt) : List Evt := if rightT t = true then selE t evs else []
def SelOk (t : FT) (evs : List Evt) (W : World) (e : Ending) (w' : World) : Prop := ∃ v, e = .returned v ∧ w'.ownsRow W.heap.size 33 7 v (selT t evs).length (evCells (selT t evs)) ∧ Below W.heap.size W w'

set_option maxHeartbeats 4000000 in
theorem Select_c {w : World} {B : Nat} {cs : List Value} {t : FT} (h : FTr w B cs t) (W : World) (hB : Below B w W) (hBW : B ≤ W.heap.size) (Al : Option Addr) (nl cl B2 : Nat) (evs : List Evt) (hr : Reads W B2 7 Al nl (evCells evs)) (hB2 : B2 ≤ W.heap.size) (hnl : nl ≤ 100000) : Calls Try.prog 16 #[.agg cs.toArray, .slice Al nl cl] W (SelOk t evs W) := by
  have HT := Lib.hid h
  have HB := Lib.hid hB
  have HR := Lib.hid (hr.more hB2)
  have HL := Lib.hid hr.ev_len
  clear hB hr
  cases h with
  | mk op a b name A n c vs ks hop ha hb hnm hn hv hnc hcm hr hk =>
    clear hop ha hb hn hv hr hk hnm hnc hcm
    generalize FT.mk op a b name ks = t at HT ⊢
    unfold SelOk
    obtain ⟨i0, hi0, hz0, hz1, hz2⟩ := info_parts Try.infoEv
    have HK1 := Lib.hid (show Kept W (W.alloc (.cells #[.int .i64 op, .int .i64 a, .int .i64 b, .string name, .slice A n c] 24)) [(W.heap.size, 24, #[.int .i64 op, .int .i64 a, .int .i64 b, .string name, .slice A n c])] from ((Kept.start W).alloc_at 24 #[.int .i64 op, .int .i64 a, .int .i64 b, .string name, .slice A n c] (W.heap.size) (by simp)))
    go_enter Try.func16, Try.ntmps16
    go_wp2_with fail
    with_reducible refine (Right_c HT.out _ (HB.out.trans (HK1.out.bel.mono hBW)) (Nat.le_trans hBW HK1.out.size)).mono ?_
    rintro e w1 ⟨rfl, hb1⟩
    have HK2 := Lib.hid (show Kept W w1 [(W.heap.size, 24, #[.int .i64 op, .int .i64 a, .int .i64 b, .string name, .slice A n c])] from HK1.out.next hb1)
    clear HK1
    clear hb1
    cases hrt : rightT t
    · have HE := Lib.hid (show selT t evs = [] from by unfold selT; rw [hrt]; rfl)
      clear hrt
      go_wp2
      go_ret
      exact ⟨_, rfl, by rw [HE.out]; exact ⟨rfl, .inl ⟨rfl, rfl⟩⟩, HK2.out.bel⟩
    have HE := Lib.hid (show selT t evs = selE t evs from by unfold selT; rw [hrt]; rfl)
    obtain ⟨hev, _, hct⟩ := right_facts t hrt
    have HEV := Lib.hid hev
    clear hrt hev
    have c_f_0 : w1.cell? ⟨W.heap.size, 0, none⟩ = some (.int .i64 op) := HK2.out.cell 0 rfl 0
    have c_f_1 : w1.cell? ⟨W.heap.size, 1, none⟩ = some (.int .i64 a) := HK2.out.cell 0 rfl 1
    have c_f_2 : w1.cell? ⟨W.heap.size, 2, none⟩ = some (.int .i64 b) := HK2.out.cell 0 rfl 2
    have c_f_3 : w1.cell? ⟨W.heap.size, 3, none⟩ = some (.string name) := HK2.out.cell 0 rfl 3
    have c_f_4 : w1.cell? ⟨W.heap.size, 4, none⟩ = some (.slice A n c) := HK2.out.cell 0 rfl 4
    go_wp2_with fail
    with_reducible refine (grow_c HT.out HEV.out (by omega) _ (HB.out.trans (HK2.out.bel.mono hBW)) (Nat.le_trans hBW HK2.out.size)).mono ?_
    rintro e w2 ⟨x, rfl, hx, hb2⟩
    obtain ⟨ty, u, rfl⟩ := hx.iface
    have HX := Lib.hid hx
    clear hx
    clear c_f_0 c_f_1 c_f_2 c_f_3 c_f_4
    have HK3 := Lib.hid (show Kept W w2 [(W.heap.size, 24, #[.int .i64 op, .int .i64 a, .int .i64 b, .string name, .slice A n c])] from HK2.out.next hb2)
    clear HK2
    clear hb2
    have HK0 := Lib.hid (Kept.start w2)
    have hz2w := HK3.out.size
    go_wp2
    go_loopw [6, 16] (fun v i wr => ∃ (k : Nat), k ≤ nl ∧ i = .int .i64 k ∧ Hid (wr.ownsRow w2.heap.size 33 7 v (selE t (evs.take k)).length (evCells (selE t (evs.take k)))) ∧ Hid (Kept w2 wr [])) (fun _ i _ => nl - (intOf i).toNat)
    case atStart => exact ⟨0, Nat.zero_le _, rfl, Lib.hid ⟨rfl, .inl ⟨rfl, rfl⟩⟩, HK0⟩
    case round =>
      clear HK0
      obtain ⟨k, hk, rfl, HO, HKw⟩ := hrel
      have hzr := HKw.out.size
      have hsl := selE_len t evs k
      by_cases hlt : k < nl
      · obtain ⟨ad, e, rfl, hb, he, d0, d1, d2, d3, d4, d5, d6⟩ := ev_in (HR.out.below (HK3.out.bel.trans (HKw.out.bel.mono hz2w))) hlt
        have HT2 := Lib.hid (selE_snoc t evs k e he)
        clear he
        have i1 : (0 : Int) ≤ (k : Int) := by omega
        have i2 : (k : Int) < (nl : Int) := by omega
        generalize selE t (evs.take k) = sel at HO HT2 hsl ⊢
        obtain ⟨A2, c2, rfl, _, _, _⟩ := own_evs HO.out
        have HK51 := Lib.hid (show Kept w2 (wr.alloc (.cells #[.int .i64 e.q, .int .i64 e.a, .int .i64 e.k, .string e.cm, .int .i64 e.x, .int .i64 e.y, .int .i64 e.z] 33)) [(wr.heap.size, 33, #[.int .i64 e.q, .int .i64 e.a, .int .i64 e.k, .string e.cm, .int .i64 e.x, .int .i64 e.y, .int .i64 e.z])] from HKw.out.alloc 33 #[.int .i64 e.q, .int .i64 e.a, .int .i64 e.k, .string e.cm, .int .i64 e.x, .int .i64 e.y, .int .i64 e.z])
        clear HKw
        go_wp2_with fail
        clear d0 d1 d2 d3 d4 d5 d6
        with_reducible refine (means_c HX.out e _ (fun b' hb' => HK51.out.bel.block b' hb'.2) (fun b' hb' => Nat.lt_of_lt_of_le hb'.2 HK51.out.size)).mono ?_
        rintro e' w3 ⟨rfl, hb3⟩
        have HO3 := Lib.hid (own_below (HO.out.alloc (.cells #[.int .i64 e.q, .int .i64 e.a, .int .i64 e.k, .string e.cm, .int .i64 e.x, .int .i64 e.y, .int .i64 e.z] 33)) hb3 (Nat.le_refl _))
        have hge := own_ge HO.out
        clear HO
        have HK52 := Lib.hid (show Kept w2 w3 [(wr.heap.size, 33, #[.int .i64 e.q, .int .i64 e.a, .int .i64 e.k, .string e.cm, .int .i64 e.x, .int .i64 e.y, .int .i64 e.z])] from HK51.out.next hb3)
        clear HK51
        clear hb3
        generalize wr.heap.size = ge at HK52 hge ⊢
        cases hm : meansF t e
        · have HO4 := Lib.hid (show w3.ownsRow w2.heap.size 33 7 _ (selE t (evs.take (k + 1))).length (evCells (selE t (evs.take (k + 1)))) from by rw [HT2.out, hm]; simp only [Bool.false_eq_true, if_false, List.append_nil]; exact HO3.out)
          clear hm HT2 HO3
          go_wp2
          exact ⟨⟨k + 1, by omega, rfl, HO4, Lib.hid HK52.out.drop1⟩, by simp [intOf]; omega⟩
        have c_e_0 : w3.cell? ⟨ge, 0, none⟩ = some (.int .i64 e.q) := HK52.out.cell 0 rfl 0
        have c_e_1 : w3.cell? ⟨ge, 1, none⟩ = some (.int .i64 e.a) := HK52.out.cell 0 rfl 1
        have c_e_2 : w3.cell? ⟨ge, 2, none⟩ = some (.int .i64 e.k) := HK52.out.cell 0 rfl 2
        have c_e_3 : w3.cell? ⟨ge, 3, none⟩ = some (.string e.cm) := HK52.out.cell 0 rfl 3
        have c_e_4 : w3.cell? ⟨ge, 4, none⟩ = some (.int .i64 e.x) := HK52.out.cell 0 rfl 4
        have c_e_5 : w3.cell? ⟨ge, 5, none⟩ = some (.int .i64 e.y) := HK52.out.cell 0 rfl 5
        have c_e_6 : w3.cell? ⟨ge, 6, none⟩ = some (.int .i64 e.z) := HK52.out.cell 0 rfl 6
        have hzz := HK52.out.size
        have hge0 := HK52.out.lt 0 rfl
        have HRx := Lib.hid (reads_ev1 (Blk.new w3 33 (evA e)))
        go_wp2_with (at_builtin; go_must (refine wpList_append_any _ rfl _ _ 25 rfl w2.heap.size 33 i0 _ 7 64 Try.underlying25 hi0 hz0 hz1 hz2 rfl (by omega) _ sel.length (evCells sel) rfl (HO3.out.alloc _) (w3.heap.size + 1) (some ⟨w3.heap.size, 0, none⟩) 1 1 (evCells [e]) rfl HRx.out (evCells_one _) (by unfold maxLen; omega) (by omega) (by simp; omega) ?_); intro v4 w4 hown4 hg4 _)
        have HK4 := Lib.hid (((HK52.out.drop1).alloc_off (.cells #[.int .i64 e.q, .int .i64 e.a, .int .i64 e.k, .string e.cm, .int .i64 e.x, .int .i64 e.y, .int .i64 e.z] 33)).own hg4 (fun g' e' => ⟨(hge g' e').1, by simp⟩))
        have HO4 := Lib.hid (show w4.ownsRow w2.heap.size 33 7 v4 (selE t (evs.take (k + 1))).length (evCells (selE t (evs.take (k + 1)))) from by rw [HT2.out, hm, if_pos rfl, List.length_append, evCells_append]; exact hown4)
        exact ⟨⟨k + 1, by omega, rfl, HO4, HK4⟩, by simp [intOf]; omega⟩
      · obtain rfl : nl = k := by omega
        rw [List.take_of_length_le (by rw [HL.out]; exact Nat.le_refl _)] at HO
        clear hsl
        go_wp2
        go_ret
        exact ⟨_, rfl, by rw [HE.out]; exact ownsRow_base HO.out hz2w, HK3.out.bel.trans (HKw.out.bel.mono hz2w)⟩

set_option maxHeartbeats 4000000 in
theorem rSelect_c {w : World} {B : Nat} {cs : List Value} {t : FT} (h : FTr w B cs t) (W : World) (hB : Below B w W) (hBW : B ≤ W.heap.size) (Al : Option Addr) (nl cl B2 : Nat) (evs : List Evt) (hr : Reads W B2 7 Al nl (evCells evs)) (hB2 : B2 ≤ W.heap.size) (hnl : nl ≤ 100000) : Calls Try.prog 17 #[.agg cs.toArray, .slice Al nl cl] W (SelOk t evs W) := by
  have HT := Lib.hid h
  have HB := Lib.hid hB
  have HR := Lib.hid (hr.more hB2)
  have HL := Lib.hid hr.ev_len
  clear hB hr
  cases h with
  | mk op a b name A n c vs ks hop ha hb hnm hn hv hnc hcm hr hk =>
    clear hop ha hb hn hv hr hk hnm hnc hcm
    generalize FT.mk op a b name ks = t at HT ⊢
    unfold SelOk
    obtain ⟨i0, hi0, hz0, hz1, hz2⟩ := info_parts Try.infoEv
    have HK1 := Lib.hid (show Kept W (W.alloc (.cells #[.int .i64 op, .int .i64 a, .int .i64 b, .string name, .slice A n c] 24)) [(W.heap.size, 24, #[.int .i64 op, .int .i64 a, .int .i64 b, .string name, .slice A n c])] from ((Kept.start W).alloc_at 24 #[.int .i64 op, .int .i64 a, .int .i64 b, .string name, .slice A n c] (W.heap.size) (by simp)))
    have HRS := Lib.hid (right_same t)
    cases hrt : rightT t
    · have HE := Lib.hid (show selT t evs = [] from by unfold selT; rw [hrt]; rfl)
      rw [hrt] at HRS
      clear hrt
      go_enter Try.func17, Try.ntmps17
      go_wp2
      go_loopw [5, 6] (fun v i wr => v = .slice none 0 0 ∧ i = .int .i64 0 ∧ Hid (Kept W wr [(W.heap.size, 24, #[.int .i64 op, .int .i64 a, .int .i64 b, .string name, .slice A n c])])) (fun _ i _ => nl - (intOf i).toNat)
      case atStart => exact ⟨rfl, rfl, HK1⟩
      case round =>
        clear HK1
        obtain ⟨rfl, rfl, HK⟩ := hrel
        by_cases hlt : 0 < nl
        · have dl : decide ((0 : Int) < (nl : Int)) = true := by simp; omega
          have c_f_0 : wr.cell? ⟨W.heap.size, 0, none⟩ = some (.int .i64 op) := HK.out.cell 0 rfl 0
          have c_f_1 : wr.cell? ⟨W.heap.size, 1, none⟩ = some (.int .i64 a) := HK.out.cell 0 rfl 1
          have c_f_2 : wr.cell? ⟨W.heap.size, 2, none⟩ = some (.int .i64 b) := HK.out.cell 0 rfl 2
          have c_f_3 : wr.cell? ⟨W.heap.size, 3, none⟩ = some (.string name) := HK.out.cell 0 rfl 3
          have c_f_4 : wr.cell? ⟨W.heap.size, 4, none⟩ = some (.slice A n c) := HK.out.cell 0 rfl 4
          go_wp2_with fail
          with_reducible refine (rRight_c HT.out _ (HB.out.trans (HK.out.bel.mono hBW)) (Nat.le_trans hBW HK.out.size)).mono ?_
          rw [← HRS.out]
          rintro e w1 ⟨rfl, hb1⟩
          clear c_f_0 c_f_1 c_f_2 c_f_3 c_f_4
          have HK2 := Lib.hid (show Kept W w1 [(W.heap.size, 24, #[.int .i64 op, .int .i64 a, .int .i64 b, .string name, .slice A n c])] from HK.out.next hb1)
          clear HK
          clear hb1
          go_wp2
          go_ret
          exact ⟨_, rfl, by rw [HE.out]; exact ⟨rfl, .inl ⟨rfl, rfl⟩⟩, HK2.out.bel⟩
        · have dl : decide ((0 : Int) < (nl : Int)) = false := by simp; omega
          go_wp2
          go_ret
          exact ⟨_, rfl, by rw [HE.out]; exact ⟨rfl, .inl ⟨rfl, rfl⟩⟩, HK.out.bel⟩
    · have HE := Lib.hid (show selT t evs = selE t evs from by unfold selT; rw [hrt]; rfl)
      obtain ⟨hev, _, hct⟩ := right_facts t hrt
      have HEV := Lib.hid hev
      rw [hrt] at HRS
      clear hrt hev
      go_enter Try.func17, Try.ntmps17
      go_wp2
      go_loopw [5, 6] (fun v i wr => ∃ (k : Nat), k ≤ nl ∧ i = .int .i64 k ∧ Hid (wr.ownsRow (W.heap.size + 1) 33 7 v (selE t (evs.take k)).length (evCells (selE t (evs.take k)))) ∧ Hid (Kept W wr [(W.heap.size, 24, #[.int .i64 op, .int .i64 a, .int .i64 b, .string name, .slice A n c])])) (fun _ i _ => nl - (intOf i).toNat)
      case atStart => exact ⟨0, Nat.zero_le _, rfl, Lib.hid ⟨rfl, .inl ⟨rfl, rfl⟩⟩, HK1⟩
      case round =>
        clear HK1
        obtain ⟨k, hk, rfl, HO, HK⟩ := hrel
        have hzr := HK.out.lt 0 rfl
        have hsl := selE_len t evs k
        by_cases hlt : k < nl
        · obtain ⟨ad, e, rfl, hb, he, d0, d1, d2, d3, d4, d5, d6⟩ := ev_in HR.out hlt
          have bl : (ad.add (k * 7)).block < W.heap.size := by rw [block_of_add]; exact hb
          have HT2 := Lib.hid (selE_snoc t evs k e he)
          clear he
          have i1 : (0 : Int) ≤ (k : Int) := by omega
          have i2 : (k : Int) < (nl : Int) := by omega
          have dl : decide ((k : Int) < (nl : Int)) = true := by simp; omega
          generalize selE t (evs.take k) = sel at HO HT2 hsl ⊢
          obtain ⟨A2, c2, rfl, _, _, _⟩ := own_evs HO.out
          have hge := own_ge HO.out
          have c_f_0 : wr.cell? ⟨W.heap.size, 0, none⟩ = some (.int .i64 op) := HK.out.cell 0 rfl 0
          have c_f_1 : wr.cell? ⟨W.heap.size, 1, none⟩ = some (.int .i64 a) := HK.out.cell 0 rfl 1
          have c_f_2 : wr.cell? ⟨W.heap.size, 2, none⟩ = some (.int .i64 b) := HK.out.cell 0 rfl 2
          have c_f_3 : wr.cell? ⟨W.heap.size, 3, none⟩ = some (.string name) := HK.out.cell 0 rfl 3
          have c_f_4 : wr.cell? ⟨W.heap.size, 4, none⟩ = some (.slice A n c) := HK.out.cell 0 rfl 4
          go_wp2_with fail
          with_reducible refine (rRight_c HT.out _ (HB.out.trans (HK.out.bel.mono hBW)) (Nat.le_trans hBW HK.out.size)).mono ?_
          rw [← HRS.out]
          rintro e' w1 ⟨rfl, hb1⟩
          have HO1 := Lib.hid (own_below HO.out hb1 (Nat.le_refl _))
          clear HO
          clear c_f_0 c_f_1 c_f_2 c_f_3 c_f_4
          have HK2 := Lib.hid (show Kept W w1 [(W.heap.size, 24, #[.int .i64 op, .int .i64 a, .int .i64 b, .string name, .slice A n c])] from HK.out.next hb1)
          clear HK
          clear hb1
          go_wp2_with fail
          have HO1d := Lib.hid (own_below HO1.out ((Below.refl w1.heap.size w1).drew) (Nat.le_refl _))
          refine wp_region_noPanic ?_
          refine wp_region_held_drew (S := fun W' => Kept W W' [(W.heap.size, 24, #[.int .i64 op, .int .i64 a, .int .i64 b, .string name, .slice A n c])]) (by kernel_rfl) HK2.out.drew (fun hHeld => ?_)
          generalize w1.drew = wd at HO1d hHeld ⊢
          refine takeH 0 (v := ?v0u16) rfl (by kernel_rfl) (by kernel_rfl) (by kernel_rfl) rfl (fun _ _ _ h => h) (Or.inl ⟨by rfl, ?y0u16⟩) hHeld ?r0u16
          case y0u16 => (intro W hSW; (try dsimp only at hSW); have q0 := hSW.cell 0 rfl 0; have q1 := hSW.cell 0 rfl 1; have q2 := hSW.cell 0 rfl 2; have q3 := hSW.cell 0 rfl 3; have q4 := hSW.cell 0 rfl 4; simp only [List.getElem?_toArray, List.getElem?_cons_zero, List.getElem?_cons_succ] at q0 q1 q2 q3 q4; go_simp; try with_reducible rfl)
          simp only [Act.put, List.setIfInBounds_toArray, List.set_cons_zero, List.set_cons_succ]
          refine takeH 1 (v := ?v1u17) rfl (by kernel_rfl) (by kernel_rfl) (by kernel_rfl) rfl (fun _ _ _ h => h) (Or.inl ⟨by rfl, ?y1u17⟩) hHeld ?r1u17
          case y1u17 => (intro W hSW; (try dsimp only at hSW); go_simp; try with_reducible rfl)
          simp only [Act.put, List.setIfInBounds_toArray, List.set_cons_zero, List.set_cons_succ]
          refine takeH 2 (v := ?v2u18) rfl (by kernel_rfl) (by kernel_rfl) (by kernel_rfl) rfl (fun _ _ _ h => h) (Or.inl ⟨by rfl, ?y2u18⟩) hHeld ?r2u18
          case y2u18 => (intro W hSW; (try dsimp only at hSW); go_simp; try with_reducible rfl)
          simp only [Act.put, List.setIfInBounds_toArray, List.set_cons_zero, List.set_cons_succ]
          refine takeH 3 (v := ?v3u19) rfl (by kernel_rfl) (by kernel_rfl) (by kernel_rfl) rfl (fun _ _ _ h => h) (Or.inl ⟨by rfl, ?y3u19⟩) hHeld ?r3u19
          case y3u19 => (intro W hSW; (try dsimp only at hSW); go_simp; try with_reducible rfl)
          simp only [Act.put, List.setIfInBounds_toArray, List.set_cons_zero, List.set_cons_succ]
          refine takeH 4 (v := ?v4u20) rfl (by kernel_rfl) (by kernel_rfl) (by kernel_rfl) rfl (fun _ _ _ h => h) (Or.inl ⟨by rfl, ?y4u20⟩) hHeld ?r4u20
          case y4u20 => (intro W hSW; (try dsimp only at hSW); have q0 := (hSW.bel.cell (p := (ad.add (k * 7))) bl).trans d0; have q1 := (hSW.bel.cell (p := ⟨(ad.add (k * 7)).block, (ad.add (k * 7)).off + 1, none⟩) bl).trans d1; have q2 := (hSW.bel.cell (p := ⟨(ad.add (k * 7)).block, (ad.add (k * 7)).off + 2, none⟩) bl).trans d2; have q3 := (hSW.bel.cell (p := ⟨(ad.add (k * 7)).block, (ad.add (k * 7)).off + 3, none⟩) bl).trans d3; have q4 := (hSW.bel.cell (p := ⟨(ad.add (k * 7)).block, (ad.add (k * 7)).off + 4, none⟩) bl).trans d4; have q5 := (hSW.bel.cell (p := ⟨(ad.add (k * 7)).block, (ad.add (k * 7)).off + 5, none⟩) bl).trans d5; have q6 := (hSW.bel.cell (p := ⟨(ad.add (k * 7)).block, (ad.add (k * 7)).off + 6, none⟩) bl).trans d6; go_simp; try with_reducible rfl)
          simp only [Act.put, List.setIfInBounds_toArray, List.set_cons_zero, List.set_cons_succ]
          refine wpAnyH_ready (rs := [5]) (by kernel_rfl) (by simp) ?_
          refine AllReadyH.cons rfl (fun K hK => ?_) AllReadyH.nil
          go_simp
          with_reducible refine (rMeans_c HT.out e HEV.out _ (HB.out.trans (hHeld.bel.mono hBW)) (Nat.le_trans hBW hHeld.size)).mono ?_
          rintro e' w3 ⟨rfl, hb3⟩
          have HO3 := Lib.hid (own_below HO1d.out hb3 (Nat.le_refl _))
          have hkn := hHeld.next hb3
          clear hb3
          refine hK.out _ _ hkn (fun hHeld => ?_)
          clear hK K
          try simp only [Act.put, List.setIfInBounds_toArray, List.set_cons_zero, List.set_cons_succ]
          refine wpAnyH_done (by kernel_rfl) ?_ _
          refine NoPanic.normal ?_
          have HK3 := Lib.hid hHeld
          clear hHeld HO1 HO1d HK2
          cases hm : meansF t e
          · have HO4 := Lib.hid (show w3.ownsRow (W.heap.size + 1) 33 7 _ (selE t (evs.take (k + 1))).length (evCells (selE t (evs.take (k + 1)))) from by rw [HT2.out, hm]; simp only [Bool.false_eq_true, if_false, List.append_nil]; exact HO3.out)
            clear hm HT2 HO3 d0 d1 d2 d3 d4 d5 d6
            go_wp2
            exact ⟨⟨k + 1, by omega, rfl, HO4, HK3⟩, by simp [intOf]; omega⟩
          have q0 := (HK3.out.bel.cell (p := (ad.add (k * 7))) bl).trans d0
          have q1 := (HK3.out.bel.cell (p := ⟨(ad.add (k * 7)).block, (ad.add (k * 7)).off + 1, none⟩) bl).trans d1
          have q2 := (HK3.out.bel.cell (p := ⟨(ad.add (k * 7)).block, (ad.add (k * 7)).off + 2, none⟩) bl).trans d2
          have q3 := (HK3.out.bel.cell (p := ⟨(ad.add (k * 7)).block, (ad.add (k * 7)).off + 3, none⟩) bl).trans d3
          have q4 := (HK3.out.bel.cell (p := ⟨(ad.add (k * 7)).block, (ad.add (k * 7)).off + 4, none⟩) bl).trans d4
          have q5 := (HK3.out.bel.cell (p := ⟨(ad.add (k * 7)).block, (ad.add (k * 7)).off + 5, none⟩) bl).trans d5
          have q6 := (HK3.out.bel.cell (p := ⟨(ad.add (k * 7)).block, (ad.add (k * 7)).off + 6, none⟩) bl).trans d6
          clear d0 d1 d2 d3 d4 d5 d6
          have hzz := HK3.out.lt 0 rfl
          have HRx := Lib.hid (reads_ev1 (Blk.new w3 33 (evA e)))
          go_wp2_with (at_builtin; go_must (refine wpList_append_any _ rfl _ _ 25 rfl (W.heap.size + 1) 33 i0 _ 7 64 Try.underlying25 hi0 hz0 hz1 hz2 rfl (by omega) _ sel.length (evCells sel) rfl (HO3.out.alloc _) (w3.heap.size + 1) (some ⟨w3.heap.size, 0, none⟩) 1 1 (evCells [e]) rfl HRx.out (evCells_one _) (by unfold maxLen; omega) (by omega) (by simp; omega) ?_); intro v4 w4 hown4 hg4 _)
          have HK4 := Lib.hid ((HK3.out.alloc_off (.cells #[.int .i64 e.q, .int .i64 e.a, .int .i64 e.k, .string e.cm, .int .i64 e.x, .int .i64 e.y, .int .i64 e.z] 33)).own hg4 (fun g' e' => ⟨by have := hge g' e'; omega, by have := hge g' e'; intro y hy; simp at hy; subst hy; simp; omega⟩))
          have HO4 := Lib.hid (show w4.ownsRow (W.heap.size + 1) 33 7 v4 (selE t (evs.take (k + 1))).length (evCells (selE t (evs.take (k + 1)))) from by rw [HT2.out, hm, if_pos rfl, List.length_append, evCells_append]; exact hown4)
          exact ⟨⟨k + 1, by omega, rfl, HO4, HK4⟩, by simp [intOf]; omega⟩
        · obtain rfl : nl = k := by omega
          rw [List.take_of_length_le (by rw [HL.out]; exact Nat.le_refl _)] at HO
          clear hsl
          have dl : decide ((nl : Int) < (nl : Int)) = false := by simp
          go_wp2
          go_ret
          exact ⟨_, rfl, by rw [HE.out]; exact ownsRow_base HO.out (by omega), HK.out.bel⟩
end Go.Proofs.Ytjkaklfhcefkcaa
