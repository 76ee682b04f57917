/- Contracts of window.Beat and of the reference's. -/
import Derived.Test.YtmkjfpmailihjaaWin12
import Derived.StillTailTactics
namespace Go.Proofs.Ytmkjfpmailihjaa
set_option linter.unusedVariables false
open Go.RowKit Go.ChangeShapes

theorem Try.infoI64 : (Try.prog.info? 2).map (fun i => (i.zero, i.size, i.bytes)) = some (some (.int .i64 0), 1, 8) := by kernel_rfl
/-- what went wrong, from the oldest cell on. -/
def badK (cs : List (Int × Int)) (sl : Int) (k : Nat) : List Int := (List.range k).map (fun (i : Nat) => (cs.getD ((sl + 1 + (i : Int)) % cs.length).toNat (0, 0)).2)
theorem badK_succ (cs : List (Int × Int)) (sl : Int) (k : Nat) : badK cs sl (k + 1) = badK cs sl k ++ [(cs.getD ((sl + 1 + (k : Int)) % cs.length).toNat (0, 0)).2] := by simp [badK, List.range_succ]
theorem badK_length (cs : List (Int × Int)) (sl : Int) (k : Nat) : (badK cs sl k).length = k := by simp [badK]
def beatW (wd sl : Int) (cs : List (Int × Int)) : Int × Int := if rightW wd sl cs = true then beatF (badK cs sl cs.length) else (0, 0)
def BeatOk (W : World) (r : Int × Int) (e : Ending) (w' : World) : Prop := e = .returned (.tuple #[.int .i64 r.1, .int .i64 r.2]) ∧ Below W.heap.size W w'
theorem BeatOk.of {W : World} {r r' : Int × Int} {e : Ending} {w' : World} (h : r = r') (hk : BeatOk W r' e w') : BeatOk W r e w' := h ▸ hk

set_option maxRecDepth 100000 in
set_option maxHeartbeats 4000000 in
theorem wBeat_c (wd sl : Int) (A : Option Addr) (n c B : Nat) (cs : List (Int × Int)) (W : World) (hr : Reads W B 2 A n (cellCells cs)) (hB : B ≤ W.heap.size) (hn : n ≤ 9223372036854775807) : Calls Try.prog 16 #[.agg (winA wd sl A n c)] W (BeatOk W (beatW wd sl cs)) := by
  have HR := Lib.hid (hr.more hB)
  have HL := Lib.hid hr.cell_len
  clear hr
  have HK1 := Lib.hid (show Kept W (W.alloc (.cells #[.int .i64 wd, .int .i64 sl, .slice A n c] 24)) [(W.heap.size, 24, #[.int .i64 wd, .int .i64 sl, .slice A n c])] from ((Kept.start W).alloc_at 24 #[.int .i64 wd, .int .i64 sl, .slice A n c] (W.heap.size) (by simp)))
  obtain ⟨i0, hi0, hz0, hz1, hz2⟩ := info_parts Try.infoI64
  go_enter Try.func16, Try.ntmps16
  go_wp2_with fail
  with_reducible refine (wRight_c wd sl A n c W.heap.size cs _ (HR.out.below HK1.out.bel) HK1.out.size hn).mono ?_
  rintro e w1 ⟨rfl, hb1⟩
  have HK2 := Lib.hid (show Kept W w1 [(W.heap.size, 24, #[.int .i64 wd, .int .i64 sl, .slice A n c])] from HK1.out.next hb1)
  clear HK1
  clear hb1
  cases hrt : rightW wd sl cs
  · have HE := Lib.hid (show beatW wd sl cs = (0, 0) from by unfold beatW; rw [hrt]; rfl)
    clear hrt
    go_wp2
    go_ret2
    exact BeatOk.of HE.out ⟨rfl, HK2.out.bel⟩
  · have HE := Lib.hid (show beatW wd sl cs = beatF (badK cs sl n) from by unfold beatW; rw [hrt, HL.out]; rfl)
    obtain ⟨⟨-, -, r3, r4, r5, r6⟩, -⟩ := rightW_iff.1 hrt
    rw [HL.out] at r5 r6
    clear hrt
    have c_f_0 : w1.cell? ⟨W.heap.size, 0, none⟩ = some (.int .i64 wd) := HK2.out.cell 0 rfl 0
    have c_f_1 : w1.cell? ⟨W.heap.size, 1, none⟩ = some (.int .i64 sl) := HK2.out.cell 0 rfl 1
    have c_f_2 : w1.cell? ⟨W.heap.size, 2, none⟩ = some (.slice A n c) := HK2.out.cell 0 rfl 2
    go_wp2_with (at_make; go_must (refine wpList_make_own _ rfl _ _ 47 rfl w1.heap.size 2 i0 _ 1 Try.underlying47 hi0 hz0 hz1 _ _ _ n rfl rfl (by omega) (by rw [hz2]; omega) (by unfold maxLen; omega) (Nat.le_refl _) ?_); intro w2 hown2 hg2; have HKm := Lib.hid (HK2.out.own hg2 (fun g h => by cases h)); clear c_f_0 c_f_1 c_f_2; have c_f_2 := HKm.out.cell 0 rfl 2; simp only [List.getElem?_toArray, List.getElem?_cons_zero, List.getElem?_cons_succ] at c_f_2)
    have HO := Lib.hid (show w2.ownsRow (W.heap.size + 1) 2 1 (.slice (some ⟨w1.heap.size, 0, none⟩) 0 n) 0 ((badK cs sl 0).map (Value.int .i64)) from ownsRow_base hown2 (HK2.out.lt 0 rfl))
    clear hown2 hg2 c_f_2
    clear HK2
    go_loopw [5, 16] (fun v i wr => ∃ k : Nat, k ≤ n ∧ i = .int .i64 (k : Int) ∧ Hid (wr.ownsRow (W.heap.size + 1) 2 1 v k ((badK cs sl k).map (Value.int .i64))) ∧ Hid (Kept W wr [(W.heap.size, 24, #[.int .i64 wd, .int .i64 sl, .slice A n c])])) (fun _ i _ => n - (intOf i).toNat)
    case atStart => exact ⟨0, Nat.zero_le _, rfl, HO, HKm⟩
    case round =>
      obtain ⟨k, hk, rfl, HP, HK⟩ := hrel
      clear HO HKm
      by_cases hlt : k < n
      · have i1 : (0 : Int) ≤ (sl + 1 + (k : Int)) % (n : Int) := Int.emod_nonneg _ (by omega)
        have i2 : (sl + 1 + (k : Int)) % (n : Int) < (n : Int) := Int.emod_lt_of_pos _ (by omega)
        have hin : ((sl + 1 + (k : Int)) % (n : Int)).toNat < n := by omega
        obtain ⟨ad, e, rfl, hb, he, d0, d1⟩ := cell_in HR.out hin
        have HB := Lib.hid (show badK cs sl (k + 1) = badK cs sl k ++ [e.2] from by rw [badK_succ, HL.out, getD_of_get he])
        have bl : (ad.add (((sl + 1 + (k : Int)) % (n : Int)).toNat * 2)).block < W.heap.size := World.block_lt_of_cell? W _ d0
        clear he d0
        have hwr : IntKind.i64.wrap (sl + 1 + (k : Int)) = (sl + 1 + (k : Int)) := by rw [show (sl + 1 + (k : Int)) = (sl + 1 + (k : Int)) from by omega]; exact IntWalk.i64_in _ (by omega)
        have hn0 : ¬ n = 0 := by omega
        have htm : (sl + 1 + (k : Int)).tmod (n : Int) = (sl + 1 + (k : Int)) % (n : Int) := Int.tmod_eq_emod_of_nonneg (by omega)
        have hwr0 : IntKind.i64.wrap (sl + 1) = sl + 1 := IntWalk.i64_in _ (by omega)
        generalize (sl + 1 + (k : Int)) % (n : Int) = ix at i1 i2 hin htm d1 bl ⊢
        go_wp2_with fail
        refine wp_region_noPanic ?_
        refine wp_region_held_drew (S := fun W' => Kept W W' [(W.heap.size, 24, #[.int .i64 wd, .int .i64 sl, .slice (some ad) n c])]) (by kernel_rfl) HK.out.drew (fun hHeld => ?_)
        have HOd := Lib.hid (own_below HP.out (B := wr.heap.size) ((Below.refl _ wr).drew) (Nat.le_refl _))
        refine takeH 0 (v := ?v0u16) rfl (by kernel_rfl) (by kernel_rfl) (by kernel_rfl) rfl (fun _ _ _ h => h) (Or.inl ⟨by rfl, ?y0u16⟩) hHeld ?r0u16
        case y0u16 => (intro W hSW; (try dsimp only at hSW); go_simp; try with_reducible rfl)
        simp only [Act.put, List.setIfInBounds_toArray, List.set_cons_zero, List.set_cons_succ]
        refine takeH 1 (v := ?v1u17) rfl (by kernel_rfl) (by kernel_rfl) (by kernel_rfl) rfl (fun _ _ _ h => h) (Or.inl ⟨by rfl, ?y1u17⟩) hHeld ?r1u17
        case y1u17 => (intro W hSW; (try dsimp only at hSW); go_simp; try with_reducible rfl)
        simp only [Act.put, List.setIfInBounds_toArray, List.set_cons_zero, List.set_cons_succ]
        refine takeH 2 (v := ?v2u18) rfl (by kernel_rfl) (by kernel_rfl) (by kernel_rfl) rfl (fun _ _ _ h => h) (Or.inl ⟨by rfl, ?y2u18⟩) hHeld ?r2u18
        case y2u18 => (intro W hSW; (try dsimp only at hSW); have q0 := hSW.cell 0 rfl 2; simp only [List.getElem?_toArray, List.getElem?_cons_zero, List.getElem?_cons_succ] at q0; go_simp; try with_reducible rfl)
        simp only [Act.put, List.setIfInBounds_toArray, List.set_cons_zero, List.set_cons_succ]
        refine takeH 3 (v := ?v3u19) rfl (by kernel_rfl) (by kernel_rfl) (by kernel_rfl) rfl (fun _ _ _ h => h) (Or.inl ⟨by rfl, ?y3u19⟩) hHeld ?r3u19
        case y3u19 => (intro W hSW; (try dsimp only at hSW); go_simp; try with_reducible rfl)
        simp only [Act.put, List.setIfInBounds_toArray, List.set_cons_zero, List.set_cons_succ]
        refine takeH 4 (v := ?v4u20) rfl (by kernel_rfl) (by kernel_rfl) (by kernel_rfl) rfl (fun _ _ _ h => h) (Or.inl ⟨by rfl, ?y4u20⟩) hHeld ?r4u20
        case y4u20 => (intro W hSW; (try dsimp only at hSW); have q0 := hSW.cell 0 rfl 1; simp only [List.getElem?_toArray, List.getElem?_cons_zero, List.getElem?_cons_succ] at q0; go_simp; try with_reducible rfl)
        simp only [Act.put, List.setIfInBounds_toArray, List.set_cons_zero, List.set_cons_succ]
        refine takeH 5 (v := ?v5u21) rfl (by kernel_rfl) (by kernel_rfl) (by kernel_rfl) rfl (fun _ _ _ h => h) (Or.inl ⟨by rfl, ?y5u21⟩) hHeld ?r5u21
        case y5u21 => (intro W hSW; (try dsimp only at hSW); go_simp; try with_reducible rfl)
        simp only [Act.put, List.setIfInBounds_toArray, List.set_cons_zero, List.set_cons_succ]
        refine takeH 6 (v := ?v6u22) rfl (by kernel_rfl) (by kernel_rfl) (by kernel_rfl) rfl (fun _ _ _ h => h) (Or.inl ⟨by rfl, ?y6u22⟩) hHeld ?r6u22
        case y6u22 => (intro W hSW; (try dsimp only at hSW); go_simp; try with_reducible rfl)
        simp only [Act.put, List.setIfInBounds_toArray, List.set_cons_zero, List.set_cons_succ]
        refine takeH 7 (v := ?v7u23) rfl (by kernel_rfl) (by kernel_rfl) (by kernel_rfl) rfl (fun _ _ _ h => h) (Or.inl ⟨by rfl, ?y7u23⟩) hHeld ?r7u23
        case y7u23 => (intro W hSW; (try dsimp only at hSW); go_simp; try with_reducible rfl)
        simp only [Act.put, List.setIfInBounds_toArray, List.set_cons_zero, List.set_cons_succ]
        refine takeH 8 (v := ?v8u24) rfl (by kernel_rfl) (by kernel_rfl) (by kernel_rfl) rfl (fun _ _ _ h => h) (Or.inl ⟨by rfl, ?y8u24⟩) hHeld ?r8u24
        case y8u24 => (intro W hSW; (try dsimp only at hSW); go_simp; try with_reducible rfl)
        simp only [Act.put, List.setIfInBounds_toArray, List.set_cons_zero, List.set_cons_succ]
        refine takeH 9 (v := ?v9u25) rfl (by kernel_rfl) (by kernel_rfl) (by kernel_rfl) rfl (fun _ _ _ h => h) (Or.inl ⟨by rfl, ?y9u25⟩) hHeld ?r9u25
        case y9u25 => (intro W hSW; (try dsimp only at hSW); go_simp; try with_reducible rfl)
        simp only [Act.put, List.setIfInBounds_toArray, List.set_cons_zero, List.set_cons_succ]
        refine takeH 10 (v := ?v10u26) rfl (by kernel_rfl) (by kernel_rfl) (by kernel_rfl) rfl (fun _ _ _ h => h) (Or.inl ⟨by rfl, ?y10u26⟩) hHeld ?r10u26
        case y10u26 => (intro W hSW; (try dsimp only at hSW); go_simp; try with_reducible rfl)
        simp only [Act.put, List.setIfInBounds_toArray, List.set_cons_zero, List.set_cons_succ]
        refine takeH 11 (v := ?v11u27) rfl (by kernel_rfl) (by kernel_rfl) (by kernel_rfl) rfl (fun _ _ _ h => h) (Or.inl ⟨by rfl, ?y11u27⟩) hHeld ?r11u27
        case y11u27 => (intro W hSW; (try dsimp only at hSW); go_simp; try with_reducible rfl)
        simp only [Act.put, List.setIfInBounds_toArray, List.set_cons_zero, List.set_cons_succ]
        refine takeH 12 (v := ?v12u28) rfl (by kernel_rfl) (by kernel_rfl) (by kernel_rfl) rfl (fun _ _ _ h => h) (Or.inl ⟨by rfl, ?y12u28⟩) hHeld ?r12u28
        case y12u28 => (intro W hSW; (try dsimp only at hSW); have q0 := (hSW.bel.cell (p := ⟨(ad.add (ix.toNat * 2)).block, (ad.add (ix.toNat * 2)).off + 1, none⟩) (by simpa using bl)).trans d1; go_simp; try with_reducible rfl)
        simp only [Act.put, List.setIfInBounds_toArray, List.set_cons_zero, List.set_cons_succ]
        have HKd := Lib.hid hHeld
        have hgd := hHeld.lt 0 rfl
        generalize wr.drew = wz at HKd HOd hgd hHeld ⊢
        refine wpAnyH_ready (rs := [13]) (by kernel_rfl) (by simp) ?_
        refine AllReadyH.cons rfl (fun K hK => ?_) AllReadyH.nil
        go_simp
        refine hK.out _ _ (hHeld.alloc_off _) (fun hHeld => ?_)
        clear hK K
        try simp only [Act.put, List.setIfInBounds_toArray, List.set_cons_zero, List.set_cons_succ]
        refine wpAnyH_ready (rs := [14]) (by kernel_rfl) (by simp) ?_
        refine AllReadyH.cons rfl (fun K hK => ?_) AllReadyH.nil
        refine step_append_any _ rfl _ _ 47 rfl (W.heap.size + 1) 2 i0 _ 1 8 Try.underlying47 hi0 hz0 hz1 hz2 rfl (by omega) _ k ((badK cs sl k).map (Value.int .i64)) rfl (HOd.out.alloc _) (wz.heap.size + 1) (some ⟨wz.heap.size, 0, none⟩) 1 1 [.int .i64 e.2] rfl (Reads.of_blk (Blk.new wz 2 #[.int .i64 e.2]) 1 _ rfl rfl) (by intro u hu; simp at hu; subst hu; rfl) (by unfold maxLen; omega) (by omega) (by simp; omega) ?_
        intro v' w3 hown3 hg3 _
        have HK3 := Lib.hid (hHeld.own hg3 (fun g h => by have := own_ge HOd.out g h; exact ⟨by omega, fun x hx => by simp at hx; subst hx; simp; omega⟩))
        refine hK.out _ _ HK3.out (fun hHeld => ?_)
        clear hK K
        simp only [Act.put, List.setIfInBounds_toArray]
        refine takeH 15 (v := ?v15u29) rfl (by kernel_rfl) (by kernel_rfl) (by kernel_rfl) rfl (fun _ _ _ h => h) (Or.inl ⟨by rfl, ?y15u29⟩) hHeld ?r15u29
        case y15u29 => (intro W hSW; (try dsimp only at hSW); go_simp; try with_reducible rfl)
        simp only [Act.put]
        refine wpAnyH_done (by kernel_rfl) ?_ _
        refine NoPanic.normal ?_
        have HN := Lib.hid (show w3.ownsRow (W.heap.size + 1) 2 1 v' (k + 1) ((badK cs sl (k + 1)).map (Value.int .i64)) from by rw [HB.out, List.map_append]; exact hown3)
        clear hown3 hg3 HOd hHeld HK HKd
        go_wp2
        exact ⟨⟨k + 1, by omega, by go_num, HN, HK3⟩, by simp [intOf]; omega⟩
      · obtain rfl : n = k := by omega
        obtain ⟨A2, c2, rfl, _, _, _, hr2⟩ := own_reads HP.out
        have HR2 := Lib.hid hr2
        clear hr2
        go_wp2_with fail
        refine (Beat_c A2 n c2 _ _ _ HR2.out (Nat.le_refl _)).mono ?_
        rintro e w' ⟨rfl, hb3⟩
        have HKz := Lib.hid (HK.out.next hb3)
        clear hb3
        go_wp2
        go_ret2
        exact BeatOk.of HE.out ⟨rfl, HKz.out.bel⟩

set_option maxRecDepth 100000 in
set_option maxHeartbeats 4000000 in
theorem rwBeat_c (wd sl : Int) (A : Option Addr) (n c B : Nat) (cs : List (Int × Int)) (W : World) (hr : Reads W B 2 A n (cellCells cs)) (hB : B ≤ W.heap.size) (hn : n ≤ 9223372036854775807) : Calls Try.prog 17 #[.agg (winA wd sl A n c)] W (BeatOk W (beatW wd sl cs)) := by
  have HR := Lib.hid (hr.more hB)
  have HL := Lib.hid hr.cell_len
  clear hr
  have HK1 := Lib.hid (show Kept W (W.alloc (.cells #[.int .i64 wd, .int .i64 sl, .slice A n c] 24)) [(W.heap.size, 24, #[.int .i64 wd, .int .i64 sl, .slice A n c])] from ((Kept.start W).alloc_at 24 #[.int .i64 wd, .int .i64 sl, .slice A n c] (W.heap.size) (by simp)))
  obtain ⟨i0, hi0, hz0, hz1, hz2⟩ := info_parts Try.infoI64
  go_enter Try.func17, Try.ntmps17
  go_wp2_with fail
  with_reducible refine (rwRight_c wd sl A n c W.heap.size cs _ (HR.out.below HK1.out.bel) HK1.out.size hn).mono ?_
  rintro e w1 ⟨rfl, hb1⟩
  have HK2 := Lib.hid (show Kept W w1 [(W.heap.size, 24, #[.int .i64 wd, .int .i64 sl, .slice A n c])] from HK1.out.next hb1)
  clear HK1
  clear hb1
  cases hrt : rightW wd sl cs
  · have HE := Lib.hid (show beatW wd sl cs = (0, 0) from by unfold beatW; rw [hrt]; rfl)
    clear hrt
    go_wp2
    go_ret2
    exact BeatOk.of HE.out ⟨rfl, HK2.out.bel⟩
  · have HE := Lib.hid (show beatW wd sl cs = beatF (badK cs sl n) from by unfold beatW; rw [hrt, HL.out]; rfl)
    obtain ⟨⟨-, -, r3, r4, r5, r6⟩, -⟩ := rightW_iff.1 hrt
    rw [HL.out] at r5 r6
    clear hrt
    have c_f_0 : w1.cell? ⟨W.heap.size, 0, none⟩ = some (.int .i64 wd) := HK2.out.cell 0 rfl 0
    have c_f_1 : w1.cell? ⟨W.heap.size, 1, none⟩ = some (.int .i64 sl) := HK2.out.cell 0 rfl 1
    have c_f_2 : w1.cell? ⟨W.heap.size, 2, none⟩ = some (.slice A n c) := HK2.out.cell 0 rfl 2
    go_wp2
    clear c_f_0 c_f_1 c_f_2
    have HO := Lib.hid (show w1.ownsRow (W.heap.size + 1) 2 1 (.slice none 0 0) 0 ((badK cs sl 0).map (Value.int .i64)) from ⟨rfl, .inl ⟨rfl, rfl⟩⟩)
    go_loopw [5, 6] (fun v i wr => ∃ k : Nat, k ≤ n ∧ i = .int .i64 ((k : Int) + 1) ∧ Hid (wr.ownsRow (W.heap.size + 1) 2 1 v k ((badK cs sl k).map (Value.int .i64))) ∧ Hid (Kept W wr [(W.heap.size, 24, #[.int .i64 wd, .int .i64 sl, .slice A n c])])) (fun _ i _ => n + 1 - (intOf i).toNat)
    case atStart => exact ⟨0, Nat.zero_le _, rfl, HO, HK2⟩
    case round =>
      obtain ⟨k, hk, rfl, HP, HK⟩ := hrel
      clear HO HK2
      by_cases hlt : k < n
      · have i1 : (0 : Int) ≤ (sl + 1 + (k : Int)) % (n : Int) := Int.emod_nonneg _ (by omega)
        have i2 : (sl + 1 + (k : Int)) % (n : Int) < (n : Int) := Int.emod_lt_of_pos _ (by omega)
        have hin : ((sl + 1 + (k : Int)) % (n : Int)).toNat < n := by omega
        obtain ⟨ad, e, rfl, hb, he, d0, d1⟩ := cell_in HR.out hin
        have HB := Lib.hid (show badK cs sl (k + 1) = badK cs sl k ++ [e.2] from by rw [badK_succ, HL.out, getD_of_get he])
        have bl : (ad.add (((sl + 1 + (k : Int)) % (n : Int)).toNat * 2)).block < W.heap.size := World.block_lt_of_cell? W _ d0
        clear he d0
        have hwr : IntKind.i64.wrap (sl + ((k : Int) + 1)) = (sl + 1 + (k : Int)) := by rw [show (sl + ((k : Int) + 1)) = (sl + 1 + (k : Int)) from by omega]; exact IntWalk.i64_in _ (by omega)
        have hn0 : ¬ n = 0 := by omega
        have htm : (sl + 1 + (k : Int)).tmod (n : Int) = (sl + 1 + (k : Int)) % (n : Int) := Int.tmod_eq_emod_of_nonneg (by omega)
        generalize (sl + 1 + (k : Int)) % (n : Int) = ix at i1 i2 hin htm d1 bl ⊢
        have dl : decide ((k : Int) + 1 ≤ (n : Int)) = true := by simp; omega
        go_wp2_with fail
        refine wp_region_noPanic ?_
        refine wp_region_held_drew (S := fun W' => Kept W W' [(W.heap.size, 24, #[.int .i64 wd, .int .i64 sl, .slice (some ad) n c])]) (by kernel_rfl) HK.out.drew (fun hHeld => ?_)
        have HOd := Lib.hid (own_below HP.out (B := wr.heap.size) ((Below.refl _ wr).drew) (Nat.le_refl _))
        refine takeH 0 (v := ?v0u30) rfl (by kernel_rfl) (by kernel_rfl) (by kernel_rfl) rfl (fun _ _ _ h => h) (Or.inl ⟨by rfl, ?y0u30⟩) hHeld ?r0u30
        case y0u30 => (intro W hSW; (try dsimp only at hSW); go_simp; try with_reducible rfl)
        simp only [Act.put, List.setIfInBounds_toArray, List.set_cons_zero, List.set_cons_succ]
        refine takeH 1 (v := ?v1u31) rfl (by kernel_rfl) (by kernel_rfl) (by kernel_rfl) rfl (fun _ _ _ h => h) (Or.inl ⟨by rfl, ?y1u31⟩) hHeld ?r1u31
        case y1u31 => (intro W hSW; (try dsimp only at hSW); go_simp; try with_reducible rfl)
        simp only [Act.put, List.setIfInBounds_toArray, List.set_cons_zero, List.set_cons_succ]
        refine takeH 2 (v := ?v2u32) rfl (by kernel_rfl) (by kernel_rfl) (by kernel_rfl) rfl (fun _ _ _ h => h) (Or.inl ⟨by rfl, ?y2u32⟩) hHeld ?r2u32
        case y2u32 => (intro W hSW; (try dsimp only at hSW); have q0 := hSW.cell 0 rfl 2; simp only [List.getElem?_toArray, List.getElem?_cons_zero, List.getElem?_cons_succ] at q0; go_simp; try with_reducible rfl)
        simp only [Act.put, List.setIfInBounds_toArray, List.set_cons_zero, List.set_cons_succ]
        refine takeH 3 (v := ?v3u33) rfl (by kernel_rfl) (by kernel_rfl) (by kernel_rfl) rfl (fun _ _ _ h => h) (Or.inl ⟨by rfl, ?y3u33⟩) hHeld ?r3u33
        case y3u33 => (intro W hSW; (try dsimp only at hSW); go_simp; try with_reducible rfl)
        simp only [Act.put, List.setIfInBounds_toArray, List.set_cons_zero, List.set_cons_succ]
        refine takeH 4 (v := ?v4u34) rfl (by kernel_rfl) (by kernel_rfl) (by kernel_rfl) rfl (fun _ _ _ h => h) (Or.inl ⟨by rfl, ?y4u34⟩) hHeld ?r4u34
        case y4u34 => (intro W hSW; (try dsimp only at hSW); have q0 := hSW.cell 0 rfl 1; simp only [List.getElem?_toArray, List.getElem?_cons_zero, List.getElem?_cons_succ] at q0; go_simp; try with_reducible rfl)
        simp only [Act.put, List.setIfInBounds_toArray, List.set_cons_zero, List.set_cons_succ]
        refine takeH 5 (v := ?v5u35) rfl (by kernel_rfl) (by kernel_rfl) (by kernel_rfl) rfl (fun _ _ _ h => h) (Or.inl ⟨by rfl, ?y5u35⟩) hHeld ?r5u35
        case y5u35 => (intro W hSW; (try dsimp only at hSW); go_simp; try with_reducible rfl)
        simp only [Act.put, List.setIfInBounds_toArray, List.set_cons_zero, List.set_cons_succ]
        refine takeH 6 (v := ?v6u36) rfl (by kernel_rfl) (by kernel_rfl) (by kernel_rfl) rfl (fun _ _ _ h => h) (Or.inl ⟨by rfl, ?y6u36⟩) hHeld ?r6u36
        case y6u36 => (intro W hSW; (try dsimp only at hSW); go_simp; try with_reducible rfl)
        simp only [Act.put, List.setIfInBounds_toArray, List.set_cons_zero, List.set_cons_succ]
        refine takeH 7 (v := ?v7u37) rfl (by kernel_rfl) (by kernel_rfl) (by kernel_rfl) rfl (fun _ _ _ h => h) (Or.inl ⟨by rfl, ?y7u37⟩) hHeld ?r7u37
        case y7u37 => (intro W hSW; (try dsimp only at hSW); go_simp; try with_reducible rfl)
        simp only [Act.put, List.setIfInBounds_toArray, List.set_cons_zero, List.set_cons_succ]
        refine takeH 8 (v := ?v8u38) rfl (by kernel_rfl) (by kernel_rfl) (by kernel_rfl) rfl (fun _ _ _ h => h) (Or.inl ⟨by rfl, ?y8u38⟩) hHeld ?r8u38
        case y8u38 => (intro W hSW; (try dsimp only at hSW); go_simp; try with_reducible rfl)
        simp only [Act.put, List.setIfInBounds_toArray, List.set_cons_zero, List.set_cons_succ]
        refine takeH 9 (v := ?v9u39) rfl (by kernel_rfl) (by kernel_rfl) (by kernel_rfl) rfl (fun _ _ _ h => h) (Or.inl ⟨by rfl, ?y9u39⟩) hHeld ?r9u39
        case y9u39 => (intro W hSW; (try dsimp only at hSW); go_simp; try with_reducible rfl)
        simp only [Act.put, List.setIfInBounds_toArray, List.set_cons_zero, List.set_cons_succ]
        refine takeH 10 (v := ?v10u40) rfl (by kernel_rfl) (by kernel_rfl) (by kernel_rfl) rfl (fun _ _ _ h => h) (Or.inl ⟨by rfl, ?y10u40⟩) hHeld ?r10u40
        case y10u40 => (intro W hSW; (try dsimp only at hSW); go_simp; try with_reducible rfl)
        simp only [Act.put, List.setIfInBounds_toArray, List.set_cons_zero, List.set_cons_succ]
        refine takeH 11 (v := ?v11u41) rfl (by kernel_rfl) (by kernel_rfl) (by kernel_rfl) rfl (fun _ _ _ h => h) (Or.inl ⟨by rfl, ?y11u41⟩) hHeld ?r11u41
        case y11u41 => (intro W hSW; (try dsimp only at hSW); have q0 := (hSW.bel.cell (p := ⟨(ad.add (ix.toNat * 2)).block, (ad.add (ix.toNat * 2)).off + 1, none⟩) (by simpa using bl)).trans d1; go_simp; try with_reducible rfl)
        simp only [Act.put, List.setIfInBounds_toArray, List.set_cons_zero, List.set_cons_succ]
        have HKd := Lib.hid hHeld
        have hgd := hHeld.lt 0 rfl
        generalize wr.drew = wz at HKd HOd hgd hHeld ⊢
        refine wpAnyH_ready (rs := [12]) (by kernel_rfl) (by simp) ?_
        refine AllReadyH.cons rfl (fun K hK => ?_) AllReadyH.nil
        go_simp
        refine hK.out _ _ (hHeld.alloc_off _) (fun hHeld => ?_)
        clear hK K
        try simp only [Act.put, List.setIfInBounds_toArray, List.set_cons_zero, List.set_cons_succ]
        refine wpAnyH_ready (rs := [13]) (by kernel_rfl) (by simp) ?_
        refine AllReadyH.cons rfl (fun K hK => ?_) AllReadyH.nil
        refine step_append_any _ rfl _ _ 47 rfl (W.heap.size + 1) 2 i0 _ 1 8 Try.underlying47 hi0 hz0 hz1 hz2 rfl (by omega) _ k ((badK cs sl k).map (Value.int .i64)) rfl (HOd.out.alloc _) (wz.heap.size + 1) (some ⟨wz.heap.size, 0, none⟩) 1 1 [.int .i64 e.2] rfl (Reads.of_blk (Blk.new wz 2 #[.int .i64 e.2]) 1 _ rfl rfl) (by intro u hu; simp at hu; subst hu; rfl) (by unfold maxLen; omega) (by omega) (by simp; omega) ?_
        intro v' w3 hown3 hg3 _
        have HK3 := Lib.hid (hHeld.own hg3 (fun g h => by have := own_ge HOd.out g h; exact ⟨by omega, fun x hx => by simp at hx; subst hx; simp; omega⟩))
        refine hK.out _ _ HK3.out (fun hHeld => ?_)
        clear hK K
        simp only [Act.put, List.setIfInBounds_toArray]
        refine takeH 14 (v := ?v14u42) rfl (by kernel_rfl) (by kernel_rfl) (by kernel_rfl) rfl (fun _ _ _ h => h) (Or.inl ⟨by rfl, ?y14u42⟩) hHeld ?r14u42
        case y14u42 => (intro W hSW; (try dsimp only at hSW); go_simp; try with_reducible rfl)
        simp only [Act.put]
        refine wpAnyH_done (by kernel_rfl) ?_ _
        refine NoPanic.normal ?_
        have HN := Lib.hid (show w3.ownsRow (W.heap.size + 1) 2 1 v' (k + 1) ((badK cs sl (k + 1)).map (Value.int .i64)) from by rw [HB.out, List.map_append]; exact hown3)
        clear hown3 hg3 HOd hHeld HK HKd
        go_wp2
        exact ⟨⟨k + 1, by omega, by go_num, HN, HK3⟩, by simp [intOf]; omega⟩
      · obtain rfl : n = k := by omega
        obtain ⟨A2, c2, rfl, _, _, _, hr2⟩ := own_reads HP.out
        have HR2 := Lib.hid hr2
        clear hr2
        have dl : decide ((n : Int) + 1 ≤ (n : Int)) = false := by simp; omega
        go_wp2_with fail
        refine (rBeat_c A2 n c2 _ _ _ HR2.out).mono ?_
        rintro e w' ⟨rfl, rfl⟩
        go_wp2
        go_ret2
        exact BeatOk.of HE.out ⟨rfl, HK.out.bel⟩
end Go.Proofs.Ytmkjfpmailihjaa
