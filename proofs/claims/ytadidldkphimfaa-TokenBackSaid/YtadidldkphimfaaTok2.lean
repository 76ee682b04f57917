/- The contract of token.Make. -/
import Derived.Test.YtadidldkphimfaaTok1
import Derived.Test.YtadidldkphimfaaFBytes
import Derived.Test.YtadidldkphimfaaTree7
namespace Go.Proofs.Ytadidldkphimfaa
set_option linter.unusedVariables false
open Go.RowKit Go.ChangeShapes

theorem step8_tab' (i : Nat) (h : i < 256) : step8 i < 4294967296 := step8_lt (by omega)
theorem tab_range' {w : World} {g : Nat} {t : Nat → Nat} (h : Blk w g 44 (tabArr t)) : w.rangeAt g 0 (tabArr t).toList := fun j v hv => by
  rw [Nat.zero_add, h.cell j]
  simpa using hv
theorem Kept.setRow {w0 W : World} {L : List Ent} {g : Nat} {t : TypeId} {cs : Array Value} (h : Kept w0 W L) (i : Nat) (hi : L[i]? = some (g, t, cs)) (cs' : Array Value) : Kept w0 (W.setRow g cs') (L.set i (g, t, cs')) :=
  h.turn i hi cs' (below_setRow h.bel (h.ge i hi) cs') ((h.blk i hi).setRow cs') (fun x _ hne hb => hb.setRow_far hne cs')
def makeB (t : FT) (seq : Int) : Bool := rightT t && decide (0 ≤ seq ∧ seq ≤ 4294967296)
def makeR (t : FT) (seq : Int) : ByteArray × Int := if makeB t seq = true then (⟨(tokB (bytesT t) seq.toNat).toArray⟩, 0) else (⟨#[]⟩, 1)
def MakeOk (W : World) (r : ByteArray × Int) (e : Ending) (w' : World) : Prop := e = .returned (.tuple #[.string r.1, .int .i64 r.2]) ∧ Below W.heap.size W w'
theorem MakeOk.of {W : World} {r r' : ByteArray × Int} {e : Ending} {w' : World} (h : r = r') (hk : MakeOk W r' e w') : MakeOk W r e w' := h ▸ hk
theorem makeR_bad {t : FT} {seq : Int} (h : makeB t seq = false) : makeR t seq = (⟨#[]⟩, 1) := by unfold makeR; rw [h]; rfl
theorem builder_new (w : World) : IsB w.heap.size w.heap.size [] (w.alloc (.cells #[.pointer none, .slice none 0 0] 50)) :=
  .inl ⟨Nat.le_refl _, _, heap_alloc_new w _, ⟨rfl, .inl ⟨rfl, rfl⟩⟩, by simp [Value.ownBlock]⟩
theorem libBytes (l : List UInt8) : Lib.byteCells l = byteCells l := rfl

set_option maxRecDepth 100000 in
set_option maxHeartbeats 8000000 in
theorem Make_c {w : World} {B : Nat} {cs : List Value} {t : FT} (h : FTr w B cs t) (seq : Int) (W : World) (hB : Below B w W) (hBW : B ≤ W.heap.size) :
    Calls Try.prog 8 #[.agg cs.toArray, .int .i64 seq] W (MakeOk W (makeR t seq)) := by
  have HT := Lib.hid h
  have HB := Lib.hid hB
  clear hB
  cases h with
  | mk op a b name A n c vs ks hop ha hb hnm hn hv hnc hcm hr hk =>
    clear hop ha hb hn hv hr hk hnm hnc hcm
    generalize FT.mk op a b name ks = t at HT ⊢
    have HK1 := Lib.hid (show Kept W (W.alloc (.cells #[.int .i64 op, .int .i64 a, .int .i64 b, .string name, .slice A n c] 24)) [(W.heap.size, 24, #[.int .i64 op, .int .i64 a, .int .i64 b, .string name, .slice A n c])] from ((Kept.start W).alloc_at 24 #[.int .i64 op, .int .i64 a, .int .i64 b, .string name, .slice A n c] (W.heap.size) (by simp)))
    go_enter Try.func8, Try.ntmps8
    go_wp2_with fail
    with_reducible refine (Right_c HT.out _ (HB.out.trans (HK1.out.bel.mono hBW)) (Nat.le_trans hBW HK1.out.size)).mono ?_
    rintro e w1 ⟨rfl, hb1⟩
    have HK2 := Lib.hid (show Kept W w1 [(W.heap.size, 24, #[.int .i64 op, .int .i64 a, .int .i64 b, .string name, .slice A n c])] from HK1.out.next hb1)
    clear HK1
    clear hb1
    cases hrt : rightT t
    · have HE := Lib.hid (makeR_bad (t := t) (seq := seq) (by unfold makeB; rw [hrt]; rfl))
      clear hrt
      go_wp2
      go_ret2
      exact MakeOk.of HE.out ⟨rfl, HK2.out.bel⟩
    by_cases h0 : seq < 0
    · have HE := Lib.hid (makeR_bad (t := t) (seq := seq) (by unfold makeB; rw [decide_eq_false (by omega), Bool.and_false]))
      have d0 : decide (seq < 0) = true := by simpa using h0
      clear hrt
      go_wp2
      go_ret2
      exact MakeOk.of HE.out ⟨rfl, HK2.out.bel⟩
    by_cases h1 : 4294967296 < seq
    · have HE := Lib.hid (makeR_bad (t := t) (seq := seq) (by unfold makeB; rw [decide_eq_false (by omega), Bool.and_false]))
      have d0 : decide (seq < 0) = false := by simpa using h0
      have d1 : decide (4294967296 < seq) = true := by simpa using h1
      clear hrt
      go_wp2
      go_ret2
      exact MakeOk.of HE.out ⟨rfl, HK2.out.bel⟩
    obtain ⟨q, rfl⟩ : ∃ q : Nat, seq = (q : Int) := ⟨seq.toNat, by omega⟩
    have HE := Lib.hid (show makeR t (q : Int) = (⟨(tokB (bytesT t) q).toArray⟩, 0) from by unfold makeR makeB; rw [hrt, decide_eq_true (by omega)]; simp)
    have hq5 := uencB_len5 q (by omega)
    have hbl := bytesT_len t
    have d0 : decide ((q : Int) < 0) = false := by simp
    have d1 : decide (4294967296 < (q : Int)) = false := by simp; omega
    clear hrt h0
    go_wp2_with fail
    with_reducible refine (PutUint_c none 0 0 0 [] q (by omega) _ Reads.none_ (Nat.zero_le _) (by omega)).mono ?_
    rintro e w2 ⟨v2, rfl, hown2, hb2⟩
    rw [Nat.zero_add, List.nil_append] at hown2
    obtain ⟨A2, c2, rfl, -, -, -, hr2⟩ := own_reads hown2
    have HR2 := Lib.hid hr2
    clear hown2 hr2
    have HK3 := Lib.hid (show Kept W w2 [(W.heap.size, 24, #[.int .i64 op, .int .i64 a, .int .i64 b, .string name, .slice A n c])] from HK2.out.next hb2)
    clear HK2
    clear hb2
    go_wp2_with fail
    with_reducible refine (Table_c _).mono ?_
    rintro e w3 ⟨rfl, hb3⟩
    have HR3 := Lib.hid ((HR2.out.below hb3).more hb3.size)
    clear HR2
    have HK4 := Lib.hid (show Kept W w3 [(W.heap.size, 24, #[.int .i64 op, .int .i64 a, .int .i64 b, .string name, .slice A n c])] from HK3.out.next hb3)
    clear HK3
    clear hb3
    have HKz := Lib.hid (HK4.out.alloc_at 44 Try.zeroCells44 w3.heap.size rfl)
    have HN := Lib.hid (show Blk (w3.alloc (.cells Try.zeroCells44 44)) w3.heap.size 44 (tabArr fun _ => 0) from by rw [← tabArr_zero]; exact Blk.new w3 _ _)
    have HKt := Lib.hid (show Kept W ((w3.alloc (.cells Try.zeroCells44 44)).setRow w3.heap.size (tabArr step8)) [(w3.heap.size, 44, tabArr step8), (W.heap.size, 24, #[.int .i64 op, .int .i64 a, .int .i64 b, .string name, .slice A n c])] from HKz.out.setRow 0 rfl (tabArr step8))
    have HR4 := Lib.hid ((HR3.out.alloc (Nat.le_refl _) (.cells Try.zeroCells44 44)).below (w' := (w3.alloc (.cells Try.zeroCells44 44)).setRow w3.heap.size (tabArr step8)) (below_setRow (Below.refl _ _) (Nat.le_refl _) _))
    clear HKz HR3
    have hu := Try.underlying44
    have hi2 : (Try.prog.info? 44).map (·.size) = some (tabArr step8).toList.length := by rw [Array.length_toList]; exact tabArr_info step8
    have zr := zrunTab
    have zn := zneTab
    go_wp2_with (refine wpList_store_row rfl 44 _ _ rfl w3.heap.size (tabArr step8) rfl rfl 44 (tabArr (fun _ => 0)) HN.out (tabArr_info _) (by rw [tabArr_size, tabArr_size]) (tabArr_one _) ?_; clear HN; generalize (w3.alloc (.cells Try.zeroCells44 44)).setRow w3.heap.size (tabArr step8) = w4 at HKt HR4 ⊢)
    clear HK4
    clear zr zn
    refine wp_region_noPanic ?_
    refine wp_region_held_drew (S := fun W' => Kept W W' [(w3.heap.size, 44, (tabArr step8)), (W.heap.size, 24, #[.int .i64 op, .int .i64 a, .int .i64 b, .string name, .slice A n c])]) (by kernel_rfl) HKt.out.drew (fun hHeld => ?_)
    have HRd := Lib.hid HR4.out.drew
    clear HR4 HKt
    generalize w4.drew = wd at hHeld HRd ⊢
    refine takeH 0 (v := .agg ((tabArr step8).toList).toArray) rfl (by kernel_rfl) (by kernel_rfl) (by kernel_rfl) rfl (fun _ _ _ h => h) (yieldsIf_load_mid (by rfl) _ _ rfl _ _ rfl ((tabArr step8).toList) _ ?hS0u16 hu rfl hi2) hHeld ?r0u16
    case hS0u16 => (intro W hSW; (try dsimp only at hSW); exact tab_range' (hSW.blk 0 rfl))
    simp only [Act.put, Array.toArray_toList, List.setIfInBounds_toArray, List.set_cons_zero, List.set_cons_succ]
    refine takeH 1 (v := .agg ((tabArr step8).toList).toArray) rfl (by kernel_rfl) (by kernel_rfl) (by kernel_rfl) rfl (fun _ _ _ h => h) (yieldsIf_load_mid (by rfl) _ _ rfl _ _ rfl ((tabArr step8).toList) _ ?hS1u17 hu rfl hi2) hHeld ?r1u17
    case hS1u17 => (intro W hSW; (try dsimp only at hSW); exact tab_range' (hSW.blk 0 rfl))
    simp only [Act.put, Array.toArray_toList, List.setIfInBounds_toArray, List.set_cons_zero, List.set_cons_succ]
    refine takeH 2 (v := ?v2u18) rfl (by kernel_rfl) (by kernel_rfl) (by kernel_rfl) rfl (fun _ _ _ h => h) (Or.inl ⟨by rfl, ?y2u18⟩) hHeld ?r2u18
    case y2u18 => (intro W hSW; (try dsimp only at hSW); have q0 := hSW.cell 1 rfl 0; have q1 := hSW.cell 1 rfl 1; have q2 := hSW.cell 1 rfl 2; have q3 := hSW.cell 1 rfl 3; have q4 := hSW.cell 1 rfl 4; simp only [List.getElem?_toArray, List.getElem?_cons_zero, List.getElem?_cons_succ] at q0 q1 q2 q3 q4; go_simp; try with_reducible rfl)
    simp only [Act.put, List.setIfInBounds_toArray, List.set_cons_zero, List.set_cons_succ]
    refine takeH 5 (v := ?v5u19) rfl (by kernel_rfl) (by kernel_rfl) (by kernel_rfl) rfl (fun _ _ _ h => h) (Or.inl ⟨by rfl, ?y5u19⟩) hHeld ?r5u19
    case y5u19 => (intro W hSW; (try dsimp only at hSW); go_simp; try with_reducible rfl)
    simp only [Act.put, List.setIfInBounds_toArray, List.set_cons_zero, List.set_cons_succ]
    refine wpAnyH_ready (rs := [3]) (by kernel_rfl) (by simp) ?_
    refine AllReadyH.cons rfl (fun K hK => ?_) AllReadyH.nil
    go_simp
    with_reducible refine (Bytes_c HT.out _ (HB.out.trans (hHeld.bel.mono hBW)) (Nat.le_trans hBW hHeld.size)).mono ?_
    rintro e w5 ⟨v5, rfl, hown5, hbn⟩
    obtain ⟨A5, c5, rfl, -, -, -, hr5⟩ := own_reads hown5
    have HR5 := Lib.hid hr5
    have HRe := Lib.hid ((HRd.out.below (hbn.mono (by have := hHeld.lt 0 rfl; omega))).more (B' := w5.heap.size) (by have := hHeld.lt 0 rfl; have := hbn.size; omega))
    clear HRd
    have hkn := hHeld.next hbn
    clear hbn hown5 hr5
    refine hK.out _ _ hkn (fun hHeld => ?_)
    clear hK K
    try simp only [Act.put, List.setIfInBounds_toArray, List.set_cons_zero, List.set_cons_succ]
    have hs1 := sumT_lt step8 step8_tab' 0 (by decide) (natB (bytesT t)) (natB_lt _)
    refine wpAnyH_ready (rs := [4]) (by kernel_rfl) (by simp) ?_
    refine AllReadyH.cons rfl (fun K hK => ?_) AllReadyH.nil
    go_simp
    refine (Sum_c step8 step8_tab' 0 (by decide) A5 _ c5 _ (bytesT t) _ HR5.out (Nat.le_refl _) (by omega)).mono ?_
    rintro e w6 ⟨rfl, hbn⟩
    have HRf := Lib.hid ((HRe.out.below hbn).more hbn.size)
    clear HRe HR5
    have hkn := hHeld.next hbn
    clear hbn
    refine hK.out _ _ hkn (fun hHeld => ?_)
    clear hK K
    try simp only [Act.put, List.setIfInBounds_toArray, List.set_cons_zero, List.set_cons_succ]
    refine wpAnyH_ready (rs := [6]) (by kernel_rfl) (by simp) ?_
    refine AllReadyH.cons rfl (fun K hK => ?_) AllReadyH.nil
    go_simp
    with_reducible refine (Sum_c step8 step8_tab' _ hs1 A2 _ c2 _ (uencB q) _ HRf.out (Nat.le_refl _) (by omega)).mono ?_
    skip
    rintro e w7 ⟨rfl, hbn⟩
    have HRg := Lib.hid ((HRf.out.below hbn).more hbn.size)
    clear HRf
    have hkn := hHeld.next hbn
    clear hbn
    refine hK.out _ _ hkn (fun hHeld => ?_)
    clear hK K
    try simp only [Act.put, List.setIfInBounds_toArray, List.set_cons_zero, List.set_cons_succ]
    refine takeH 7 (v := ?v7u20) rfl (by kernel_rfl) (by kernel_rfl) (by kernel_rfl) rfl (fun _ _ _ h => h) (Or.inl ⟨by rfl, ?y7u20⟩) hHeld ?r7u20
    case y7u20 => (intro W hSW; (try dsimp only at hSW); go_simp; try with_reducible rfl)
    simp only [Act.put, List.setIfInBounds_toArray, List.set_cons_zero, List.set_cons_succ]
    refine wpAnyH_done (by kernel_rfl) ?_ _
    refine NoPanic.normal ?_
    have HKw := Lib.hid hHeld
    clear hHeld
    have hsum : sumT step8 (sumT step8 0 (natB (bytesT t))) (natB (uencB q)) = plainN (natB (bytesT t ++ uencB q)) := by rw [natB_append, ← sumT_append, sumT_tab]
    rw [hsum]
    have HS := Lib.hid (show plainN (natB (bytesT t ++ uencB q)) < 4294967296 from plainN_lt _)
    clear hsum hs1
    have HTK := Lib.hid (show tokB (bytesT t) q = hexB (uencB q ++ le4B (plainN (natB (bytesT t ++ uencB q)))) from rfl)
    generalize plainN (natB (bytesT t ++ uencB q)) = s at HS HTK ⊢
    have HBa := Lib.hid (builder_new w7)
    have HBb := Lib.hid (show Below w7.heap.size w7 (w7.alloc (.cells #[.pointer none, .slice none 0 0] 50)) from (Below.refl _ _).alloc (Nat.le_refl _) _)
    have HLn := Lib.hid HRg.out.lenB
    go_wp2
    generalize w7.alloc (.cells #[.pointer none, .slice none 0 0] 50) = w8 at HBa HBb ⊢
    generalize hg : w7.heap.size = g at HBa HBb HRg ⊢
    skip
    go_loopw [36] (fun iv wr => ∃ k : Nat, k ≤ (uencB q).length ∧ iv = .int .i64 k ∧ Hid (IsB g g (byteCells (hexB ((uencB q).take k))) wr) ∧ Hid (Below g w7 wr)) (fun iv _ => (uencB q).length - (intOf iv).toNat)
    case atStart => exact ⟨0, Nat.zero_le _, rfl, HBa, HBb⟩
    case round =>
      obtain ⟨k, hk, rfl, HI, HBW⟩ := hrel
      clear HBa HBb
      have hgs : g ≤ wr.heap.size := by rw [← hg]; exact HBW.out.size
      by_cases hlt : k < (uencB q).length
      · obtain ⟨ad, x, rfl, hb, hx, hc⟩ := (HRg.out.below HBW.out).byte_at hlt
        have hx2 : (uencB q).take (k + 1) = (uencB q).take k ++ [x] := by rw [List.take_add_one, hx]; rfl
        have HX := Lib.hid hx2
        have hl2 : (byteCells (hexB ((uencB q).take k))).length + 2 ≤ 140737488355328 := by rw [byteCells_length, hexB_length, List.length_take]; omega
        have i1 : (0 : Int) ≤ (k : Int) := by omega
        have i2 : (k : Int) < ((uencB q).length : Int) := by omega
        clear hx hx2
        go_wp2_with fail
        refine (tput_c g g _ x _ HI.out hl2 hgs).mono ?_
        rintro e w9 ⟨rfl, hi9, hb9⟩
        rw [← byteCells_append, show hexB ((uencB q).take k) ++ hexOf x = hexB ((uencB q).take (k + 1)) from by rw [HX.out, hexB_append]; simp [hexB]] at hi9
        have HI9 := Lib.hid (show IsB g g _ w9 from .inr hi9)
        have HB9 := Lib.hid (HBW.out.trans hb9)
        clear hi9 hb9 hc hb
        go_wp2
        exact ⟨⟨k + 1, by omega, by go_num, HI9, HB9⟩, by simp [intOf]; omega⟩
      · have hkk : k = (uencB q).length := by omega
        have HI2 := Lib.hid (show IsB g g (byteCells (hexB (uencB q ++ (le4B s).take 0))) wr from by have e := HI.out; rw [hkk, List.take_length] at e; rw [List.take_zero, List.append_nil]; exact e)
        have dk : decide ((k : Int) < ((uencB q).length : Int)) = false := by simp; omega
        clear HI hkk
        go_wp2
        go_loopw [8, 43] (fun sv iv wr => ∃ j : Nat, j ≤ 4 ∧ iv = .int .i64 j ∧ sv = .int .u32 ((s / 256 ^ j : Nat) : Int) ∧ Hid (IsB g g (byteCells (hexB (uencB q ++ (le4B s).take j))) wr) ∧ Hid (Below g w7 wr)) (fun _ iv _ => 4 - (intOf iv).toNat)
        case atStart => exact ⟨0, by omega, rfl, by simp, HI2, HBW⟩
        case round =>
          clear HI2 HBW
          obtain ⟨j, hj, rfl, rfl, HI, HBW⟩ := hrel
          have hgs : g ≤ wr.heap.size := by rw [← hg]; exact HBW.out.size
          have hsj : s / 256 ^ j < 4294967296 := Nat.lt_of_le_of_lt (Nat.div_le_self _ _) HS.out
          by_cases hlt : j < 4
          · have hsn := le4B_snoc s j hlt
            have hs2 : s / 256 ^ (j + 1) = s / 256 ^ j / 256 := by rw [Nat.pow_succ, Nat.div_div_eq_div_mul]
            have HX := Lib.hid hsn
            have HX2 := Lib.hid hs2
            clear hsn hs2
            generalize s / 256 ^ j = sj at hsj HX HX2 ⊢
            have hxb : ((UInt8.ofNat (sj % 256)).toNat : Int) = (sj : Int) % 256 := by rw [byte_ofNat _ (by omega)]; omega
            generalize UInt8.ofNat (sj % 256) = x at HX hxb
            have hl2 : (byteCells (hexB (uencB q ++ (le4B s).take j))).length + 2 ≤ 140737488355328 := by rw [byteCells_length, hexB_length, List.length_append, List.length_take]; omega
            go_wp2_with fail
            rw [← hxb]
            refine (tput_c g g _ x _ HI.out hl2 hgs).mono ?_
            rintro e w9 ⟨rfl, hi9, hb9⟩
            rw [← byteCells_append, show hexB (uencB q ++ (le4B s).take j) ++ hexOf x = hexB (uencB q ++ (le4B s).take (j + 1)) from by rw [HX.out, ← List.append_assoc, hexB_append (uencB q ++ _) [x]]; simp [hexB]] at hi9
            have HI9 := Lib.hid (show IsB g g _ w9 from .inr hi9)
            have HB9 := Lib.hid (HBW.out.trans hb9)
            clear hi9 hb9
            go_wp2
            exact ⟨⟨j + 1, by omega, by go_num, by rw [HX2.out]; simp, HI9, HB9⟩, by simp [intOf]; omega⟩
          · have hjj : j = 4 := by omega
            subst hjj
            have HI3 := Lib.hid (show IsB g g (Lib.byteCells (tokB (bytesT t) q)) wr from by have e := HI.out; rw [List.take_of_length_le (by rw [le4B_length]; exact Nat.le_refl _), ← HTK.out] at e; exact e)
            clear HI
            go_wp2_with fail
            refine (Try.Builder_String_any g g _ _ HI3.out hgs).mono ?_
            rintro e w9 ⟨rfl, hb9⟩
            have HBf := Lib.hid (HKw.out.bel.trans ((HBW.out.trans hb9).mono (by have := HKw.out.size; omega)))
            go_wp2
            go_ret2
            exact MakeOk.of HE.out ⟨rfl, HBf.out⟩
end Go.Proofs.Ytadidldkphimfaa
