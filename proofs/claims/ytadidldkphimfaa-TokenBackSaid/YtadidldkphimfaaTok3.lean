/- The contract of the reference's Make. -/
import Derived.Test.YtadidldkphimfaaTok2
namespace Go.Proofs.Ytadidldkphimfaa
set_option linter.unusedVariables false
open Go.RowKit Go.ChangeShapes

theorem hexOf_reads (w : World) (x : UInt8) : Reads (w.alloc (.cells #[.int .u8 ((hexN (x.toNat / 16) : Nat) : Int), .int .u8 ((hexN (x.toNat % 16) : Nat) : Int)] 5)) (w.heap.size + 1) 1 (some ⟨w.heap.size, 0, none⟩) 2 (byteCells (hexOf x)) :=
  Reads.of_blk (Blk.new w 5 _) 2 _ (by rw [byteCells_length]; rfl) (by rw [hexOf_cells])

set_option maxRecDepth 100000 in
set_option maxHeartbeats 8000000 in
theorem rMake_c {w : World} {B : Nat} {cs : List Value} {t : FT} (h : FTr w B cs t) (hrt : rightT t = true) (q : Nat) (hq : q ≤ 4294967296) (W : World) (hB : Below B w W) (hBW : B ≤ W.heap.size) :
    Calls Try.prog 9 #[.agg cs.toArray, .int .i64 (q : Int)] W fun e w' => e = .returned (.string ⟨(tokB (bytesT t) q).toArray⟩) ∧ Below W.heap.size W w' := by
  have HT := Lib.hid h
  have HB := Lib.hid hB
  clear hB
  cases h with
  | mk op a b name A n c vs ks hop ha hb hnm hn hv hnc hcm hr hk =>
    clear hop ha hb hn hv hr hk hnm hnc hcm
    generalize FT.mk op a b name ks = t at HT hrt ⊢
    have HK1 := Lib.hid (show Kept W (W.alloc (.cells #[.int .i64 op, .int .i64 a, .int .i64 b, .string name, .slice A n c] 24)) [(W.heap.size, 24, #[.int .i64 op, .int .i64 a, .int .i64 b, .string name, .slice A n c])] from ((Kept.start W).alloc_at 24 #[.int .i64 op, .int .i64 a, .int .i64 b, .string name, .slice A n c] (W.heap.size) (by simp)))
    obtain ⟨hev, -, hcnt⟩ := right_facts t hrt
    have hbt : bytesT t = encF t := by unfold bytesT; rw [if_pos hrt]
    have hbl := bytesT_len t
    rw [hbt] at hbl ⊢
    clear hrt hbt
    have HEV := Lib.hid hev
    clear hev
    have hq5 := uencB_len5 q hq
    obtain ⟨i0, hi0, hz0, hz1, hz2⟩ := info_parts Try.infoU8
    go_enter Try.func9, Try.ntmps9
    go_wp2_with fail
    with_reducible refine (rPutUint_c none 0 0 0 [] q (by omega) _ Reads.none_ (Nat.zero_le _) (by omega)).mono ?_
    rintro e w2 ⟨v2, rfl, hown2, hb2⟩
    rw [Nat.zero_add, List.nil_append] at hown2
    obtain ⟨A2, c2, rfl, -, -, -, hr2⟩ := own_reads hown2
    have HR2 := Lib.hid hr2
    clear hown2 hr2
    have HK2 := Lib.hid (show Kept W w2 [(W.heap.size, 24, #[.int .i64 op, .int .i64 a, .int .i64 b, .string name, .slice A n c])] from HK1.out.next hb2)
    clear HK1
    clear hb2
    have c_f_0 : w2.cell? ⟨W.heap.size, 0, none⟩ = some (.int .i64 op) := HK2.out.cell 0 rfl 0
    have c_f_1 : w2.cell? ⟨W.heap.size, 1, none⟩ = some (.int .i64 a) := HK2.out.cell 0 rfl 1
    have c_f_2 : w2.cell? ⟨W.heap.size, 2, none⟩ = some (.int .i64 b) := HK2.out.cell 0 rfl 2
    have c_f_3 : w2.cell? ⟨W.heap.size, 3, none⟩ = some (.string name) := HK2.out.cell 0 rfl 3
    have c_f_4 : w2.cell? ⟨W.heap.size, 4, none⟩ = some (.slice A n c) := HK2.out.cell 0 rfl 4
    go_wp2_with fail
    with_reducible refine (rBytes_c HT.out HEV.out (by omega) _ (HB.out.trans (HK2.out.bel.mono hBW)) (Nat.le_trans hBW HK2.out.size)).mono ?_
    rintro e w3 ⟨v3, rfl, hown3, hb3⟩
    rw [Nat.zero_add, List.nil_append] at hown3
    have HO3 := Lib.hid hown3
    have HR3 := Lib.hid (HR2.out.below hb3)
    clear HR2 hown3
    have hs23 := hb3.size
    have hw2 := HK2.out.lt 0 rfl
    clear c_f_0 c_f_1 c_f_2 c_f_3 c_f_4
    have HK3 := Lib.hid (show Kept W w3 [(W.heap.size, 24, #[.int .i64 op, .int .i64 a, .int .i64 b, .string name, .slice A n c])] from HK2.out.next hb3)
    clear HK2
    clear hb3
    go_wp2_with (at_builtin; go_must (refine wpList_append_any _ rfl _ _ 37 rfl w2.heap.size 5 i0 _ 1 1 Try.underlying37 hi0 hz0 hz1 hz2 rfl (by omega) _ (encF t).length (byteCells (encF t)) rfl HO3.out w2.heap.size A2 _ c2 _ rfl HR3.out (byteCells_one _) (by unfold maxLen; omega) (by omega) hs23 ?_); intro v4 w4 hown4 hg4 hat4; clear hat4; rw [← byteCells_append] at hown4; obtain ⟨A4, c4, rfl, -, -, -, hr4⟩ := own_reads hown4; have HR4 := Lib.hid hr4; have hlen4 := HR4.out.lenB; have HN4 := Lib.hid (HR3.out.grown hg4 hs23 (fun g e => (own_ge HO3.out g e).1)); have HKA := Lib.hid (HK3.out.own hg4 (fun g e => by have := own_ge HO3.out g e; exact ⟨by omega, fun x hx => by simp at hx; subst hx; simp; omega⟩)))
    clear HO3 HR3 HK3
    refine (rPlain_c A4 _ c4 _ (encF t ++ uencB q) _ HR4.out (by omega)).mono ?_
    rintro e w' ⟨rfl, rfl⟩
    have HS := Lib.hid (show plainN (natB (encF t ++ uencB q)) < 4294967296 from plainN_lt _)
    have HTK := Lib.hid (show tokB (encF t) q = hexB (uencB q ++ le4B (plainN (natB (encF t ++ uencB q)))) from rfl)
    generalize plainN (natB (encF t ++ uencB q)) = s at HS HTK ⊢
    clear HR4
    have hs24 : w2.heap.size ≤ w4.heap.size := Nat.le_trans hs23 hg4.size
    clear hg4 hlen4
    go_wp2_with fail
    with_reducible refine (rTail_c A2 _ c2 _ (uencB q) s HS.out _ HN4.out hs24 (by omega)).mono ?_
    rintro e w5 ⟨v5, rfl, hown5, hb5⟩
    obtain ⟨A5, c5, rfl, -, -, -, hr5⟩ := own_reads hown5
    have HR5 := Lib.hid hr5
    clear hown5 hr5 HN4
    have HK4 := Lib.hid (show Kept W w5 [(W.heap.size, 24, #[.int .i64 op, .int .i64 a, .int .i64 b, .string name, .slice A n c])] from HKA.out.next hb5)
    clear HKA
    clear hb5
    have HP := Lib.hid (show (uencB q ++ le4B s).length = (uencB q).length + 4 from by rw [List.length_append, le4B_length])
    generalize hPP : uencB q ++ le4B s = P at HR5 HP HTK ⊢
    clear hPP
    generalize hmm : (uencB q).length + 4 = m at HR5 HP ⊢
    have hm9 : m ≤ 9 := by omega
    clear hmm
    go_wp2
    go_loopw [8, 9] (fun ov iv wr => ∃ k : Nat, k ≤ m ∧ iv = .int .i64 k ∧ ov = .string ⟨(hexB (P.take k)).toArray⟩ ∧ Hid (Below W.heap.size W wr) ∧ Hid (Below w5.heap.size w5 wr)) (fun _ iv _ => m - (intOf iv).toNat)
    case atStart => exact ⟨0, Nat.zero_le _, rfl, by simp [hexB], Lib.hid HK4.out.bel, Lib.hid (Below.refl _ _)⟩
    case round =>
      clear HK4
      obtain ⟨k, hk, rfl, rfl, HBW, HB5⟩ := hrel
      by_cases hlt : k < m
      · obtain ⟨ad, x, rfl, hb, hx, hc⟩ := (HR5.out.below HB5.out).byte_at hlt
        have hx2 : P.take (k + 1) = P.take k ++ [x] := by rw [List.take_add_one, hx]; rfl
        have HX := Lib.hid hx2
        have i1 : (0 : Int) ≤ (k : Int) := by omega
        have i2 : (k : Int) < (m : Int) := by omega
        clear hx hx2
        obtain ⟨hx1, hx2⟩ := half_lt x
        have hbw : (ad.add k).block < wr.heap.size := World.block_lt_of_cell? wr _ hc
        have hwq : IntKind.u8.wrap ((x.toNat : Int) / 16) = (x.toNat : Int) / 16 := IntWalk.u8_in _ (by have := x.toNat_lt; omega)
        have htq : (x.toNat : Int).tmod 16 = (x.toNat : Int) % 16 := Int.tmod_eq_emod_of_nonneg (by omega)
        have hxd : ((x.toNat / 16 : Nat) : Int) = (x.toNat : Int) / 16 := by omega
        have hxm : ((x.toNat % 16 : Nat) : Int) = (x.toNat : Int) % 16 := by omega
        go_wp2_with fail
        refine wp_region_noPanic ?_
        refine wp_region_held_drew (S := fun W' => Below wr.heap.size wr W') (by kernel_rfl) (Below.refl _ _).drew (fun hHeld => ?_)
        refine takeH 0 (v := ?v0u16) rfl (by kernel_rfl) (by kernel_rfl) (by kernel_rfl) rfl (fun _ _ _ h => h) (Or.inl ⟨by rfl, ?y0u16⟩) hHeld ?r0u16
        case y0u16 => (intro W hSW; (try dsimp only at hSW); go_simp; try with_reducible rfl)
        simp only [Act.put, List.setIfInBounds_toArray, List.set_cons_zero, List.set_cons_succ]
        refine takeH 1 (v := ?v1u17) rfl (by kernel_rfl) (by kernel_rfl) (by kernel_rfl) rfl (fun _ _ _ h => h) (Or.inl ⟨by rfl, ?y1u17⟩) hHeld ?r1u17
        case y1u17 => (intro W hSW; (try dsimp only at hSW); go_simp; try with_reducible rfl)
        simp only [Act.put, List.setIfInBounds_toArray, List.set_cons_zero, List.set_cons_succ]
        refine takeH 2 (v := ?v2u18) rfl (by kernel_rfl) (by kernel_rfl) (by kernel_rfl) rfl (fun _ _ _ h => h) (Or.inl ⟨by rfl, ?y2u18⟩) hHeld ?r2u18
        case y2u18 => (intro W hSW; (try dsimp only at hSW); go_simp; try with_reducible rfl)
        simp only [Act.put, List.setIfInBounds_toArray, List.set_cons_zero, List.set_cons_succ]
        refine takeH 3 (v := ?v3u19) rfl (by kernel_rfl) (by kernel_rfl) (by kernel_rfl) rfl (fun _ _ _ h => h) (Or.inl ⟨by rfl, ?y3u19⟩) hHeld ?r3u19
        case y3u19 => (intro W hSW; (try dsimp only at hSW); go_simp; try with_reducible rfl)
        simp only [Act.put, List.setIfInBounds_toArray, List.set_cons_zero, List.set_cons_succ]
        refine takeH 4 (v := ?v4u20) rfl (by kernel_rfl) (by kernel_rfl) (by kernel_rfl) rfl (fun _ _ _ h => h) (Or.inl ⟨by rfl, ?y4u20⟩) hHeld ?r4u20
        case y4u20 => (intro W hSW; (try dsimp only at hSW); have q0 := (hSW.cell hbw).trans hc; go_simp; try with_reducible rfl)
        simp only [Act.put, List.setIfInBounds_toArray, List.set_cons_zero, List.set_cons_succ]
        refine takeH 5 (v := .int .u8 ((x.toNat / 16 : Nat) : Int)) rfl (by kernel_rfl) (by kernel_rfl) (by kernel_rfl) rfl (fun _ _ _ h => h) (Or.inl ⟨by rfl, ?y5u21⟩) hHeld ?r5u21
        case y5u21 => (intro W hSW; (try dsimp only at hSW); go_simp)
        simp only [Act.put, List.setIfInBounds_toArray, List.set_cons_zero, List.set_cons_succ]
        refine takeH 7 (v := ?v7u22) rfl (by kernel_rfl) (by kernel_rfl) (by kernel_rfl) rfl (fun _ _ _ h => h) (Or.inl ⟨by rfl, ?y7u22⟩) hHeld ?r7u22
        case y7u22 => (intro W hSW; (try dsimp only at hSW); go_simp; try with_reducible rfl)
        simp only [Act.put, List.setIfInBounds_toArray, List.set_cons_zero, List.set_cons_succ]
        refine takeH 8 (v := ?v8u23) rfl (by kernel_rfl) (by kernel_rfl) (by kernel_rfl) rfl (fun _ _ _ h => h) (Or.inl ⟨by rfl, ?y8u23⟩) hHeld ?r8u23
        case y8u23 => (intro W hSW; (try dsimp only at hSW); go_simp; try with_reducible rfl)
        simp only [Act.put, List.setIfInBounds_toArray, List.set_cons_zero, List.set_cons_succ]
        refine takeH 9 (v := ?v9u24) rfl (by kernel_rfl) (by kernel_rfl) (by kernel_rfl) rfl (fun _ _ _ h => h) (Or.inl ⟨by rfl, ?y9u24⟩) hHeld ?r9u24
        case y9u24 => (intro W hSW; (try dsimp only at hSW); go_simp; try with_reducible rfl)
        simp only [Act.put, List.setIfInBounds_toArray, List.set_cons_zero, List.set_cons_succ]
        refine takeH 10 (v := ?v10u25) rfl (by kernel_rfl) (by kernel_rfl) (by kernel_rfl) rfl (fun _ _ _ h => h) (Or.inl ⟨by rfl, ?y10u25⟩) hHeld ?r10u25
        case y10u25 => (intro W hSW; (try dsimp only at hSW); have q0 := (hSW.cell hbw).trans hc; go_simp; try with_reducible rfl)
        simp only [Act.put, List.setIfInBounds_toArray, List.set_cons_zero, List.set_cons_succ]
        refine takeH 11 (v := .int .u8 ((x.toNat % 16 : Nat) : Int)) rfl (by kernel_rfl) (by kernel_rfl) (by kernel_rfl) rfl (fun _ _ _ h => h) (Or.inl ⟨by rfl, ?y11u26⟩) hHeld ?r11u26
        case y11u26 => (intro W hSW; (try dsimp only at hSW); go_simp)
        simp only [Act.put, List.setIfInBounds_toArray, List.set_cons_zero, List.set_cons_succ]
        refine wpAnyH_ready (rs := [6]) (by kernel_rfl) (by simp) ?_
        refine AllReadyH.cons rfl (fun K hK => ?_) AllReadyH.nil
        go_simp
        refine (digit_c _ hx1 _).mono ?_
        rintro e w' ⟨rfl, rfl⟩
        refine hK.out _ _ hHeld (fun hHeld => ?_)
        clear hK K
        try simp only [Act.put, List.setIfInBounds_toArray, List.set_cons_zero, List.set_cons_succ]
        refine wpAnyH_ready (rs := [12]) (by kernel_rfl) (by simp) ?_
        refine AllReadyH.cons rfl (fun K hK => ?_) AllReadyH.nil
        go_simp
        refine (digit_c _ hx2 _).mono ?_
        rintro e w' ⟨rfl, rfl⟩
        refine hK.out _ _ hHeld (fun hHeld => ?_)
        clear hK K
        try simp only [Act.put, List.setIfInBounds_toArray, List.set_cons_zero, List.set_cons_succ]
        have hHz := hHeld.size
        generalize wr.drew = wz at hHeld hHz ⊢
        have hconv := conv_reads (hexOf_reads wz x) 2
        refine wpAnyH_ready (rs := [13]) (by kernel_rfl) (by simp) ?_
        refine AllReadyH.cons rfl (fun K hK => ?_) AllReadyH.nil
        go_simp
        refine hK.out _ _ (hHeld.alloc hHz _) (fun hHeld => ?_)
        clear hK K
        try simp only [Act.put, List.setIfInBounds_toArray, List.set_cons_zero, List.set_cons_succ]
        refine wpAnyH_ready (rs := [14]) (by kernel_rfl) (by simp) ?_
        refine AllReadyH.cons rfl (fun K hK => ?_) AllReadyH.nil
        go_simp
        refine hK.out _ _ hHeld (fun hHeld => ?_)
        clear hK K
        try simp only [Act.put, List.setIfInBounds_toArray, List.set_cons_zero, List.set_cons_succ]
        refine takeH 15 (v := .string (⟨(hexB (P.take k)).toArray⟩ ++ ⟨(hexOf x).toArray⟩)) rfl (by kernel_rfl) (by kernel_rfl) (by kernel_rfl) rfl (fun _ _ _ h => h) (Or.inl ⟨by rfl, ?y15u27⟩) hHeld ?r15u27
        case y15u27 => (intro W hSW; (try dsimp only at hSW); go_simp; have h1 : (hexB (P.take k)).length ≤ 100 := (by rw [hexB_length, List.length_take]; omega); have h2 : (hexOf x).length = 2 := rfl; omega)
        simp only [Act.put, List.setIfInBounds_toArray, List.set_cons_zero, List.set_cons_succ]
        refine takeH 16 (v := ?v16u28) rfl (by kernel_rfl) (by kernel_rfl) (by kernel_rfl) rfl (fun _ _ _ h => h) (Or.inl ⟨by rfl, ?y16u28⟩) hHeld ?r16u28
        case y16u28 => (intro W hSW; (try dsimp only at hSW); go_simp; try with_reducible rfl)
        simp only [Act.put, List.setIfInBounds_toArray, List.set_cons_zero, List.set_cons_succ]
        refine wpAnyH_done (by kernel_rfl) ?_ _
        refine NoPanic.normal ?_
        have HBn := Lib.hid (HBW.out.trans (hHeld.mono HBW.out.size))
        have HB6 := Lib.hid (HB5.out.trans (hHeld.mono HB5.out.size))
        have HSt := Lib.hid (show ((⟨(hexB (P.take k)).toArray⟩ ++ ⟨(hexOf x).toArray⟩ : ByteArray)) = ⟨(hexB (P.take (k + 1))).toArray⟩ from by rw [HX.out, hexB_append, show hexB [x] = hexOf x from by simp [hexB]]; apply ByteArray.ext; simp)
        rw [HSt.out]
        clear hHeld hconv
        go_wp2
        exact ⟨⟨k + 1, by omega, by go_num, rfl, HBn, HB6⟩, by simp [intOf]; omega⟩
      · have hkm : k = m := by omega
        have HE := Lib.hid (show (⟨(hexB (P.take k)).toArray⟩ : ByteArray) = ⟨(tokB (encF t) q).toArray⟩ from by rw [HTK.out, List.take_of_length_le (by rw [HP.out]; omega)])
        clear hkm
        go_wp2
        go_ret
        exact ⟨congrArg (fun s => Ending.returned (.string s)) HE.out, HBW.out⟩
end Go.Proofs.Ytadidldkphimfaa
