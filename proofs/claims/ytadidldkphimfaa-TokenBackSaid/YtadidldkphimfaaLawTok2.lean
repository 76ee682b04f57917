/- The walk of TokenBack. -/
import Derived.Test.YtadidldkphimfaaTokH
namespace Go.Proofs.Ytadidldkphimfaa
set_option linter.unusedVariables false
open Go.RowKit Go.ChangeShapes

def digF (f : Nat → UInt8) (i : Nat) : UInt8 := UInt8.ofNat (hexN ((f i).toNat % 16))
theorem digF_int (f : Nat → UInt8) (i : Nat) : ((digF f i).toNat : Int) = ((hexN ((f i).toNat % 16) : Nat) : Int) := by
  unfold digF
  rw [hexN_toNat _ (by omega)]

set_option maxHeartbeats 16000000 in
set_option maxRecDepth 100000 in
theorem TokenBack_walk (cs : List Value) (t : FT) (seq other at_ : Int) (f : Nat → UInt8) (cut : Int) (more : ByteArray) (w : World) (h : FTr w w.heap.size cs t) (hat : (Lit.int .u8 at_).wf = true) (hcut : (Lit.int .u8 cut).wf = true) :
    Calls Try.prog 4 #[.agg cs.toArray, .int .i64 seq, .int .i64 other, .int .u8 at_, .agg #[.int .u8 ((f 0).toNat : Int), .int .u8 ((f 1).toNat : Int), .int .u8 ((f 2).toNat : Int)], .int .u8 cut, .string more] w fun e w' => e = .returned (.bool true) ∧ Below w.heap.size w w' := by
  have hb1 := bounds_u8 hat
  have hb2 := bounds_u8 hcut
  obtain ⟨an, rfl⟩ : ∃ n : Nat, at_ = (n : Int) := ⟨at_.toNat, by omega⟩
  obtain ⟨cn, rfl⟩ : ∃ n : Nat, cut = (n : Int) := ⟨cut.toNat, by omega⟩
  clear hat hcut
  have HT := Lib.hid h
  cases h with
  | mk op a b name A n c vs ks hop ha hb hnm hn hv hnc hcm hr hk =>
    clear hop ha hb hn hv hr hk hnm hnc hcm
    generalize FT.mk op a b name ks = t at HT
    have HK1 := Lib.hid (show Kept w ((w.alloc (.cells #[.int .i64 op, .int .i64 a, .int .i64 b, .string name, .slice A n c] 24)).alloc (.cells #[.int .u8 ((f 0).toNat : Int), .int .u8 ((f 1).toNat : Int), .int .u8 ((f 2).toNat : Int)] 36)) [(w.heap.size + 1, 36, #[.int .u8 ((f 0).toNat : Int), .int .u8 ((f 1).toNat : Int), .int .u8 ((f 2).toNat : Int)]), (w.heap.size, 24, #[.int .i64 op, .int .i64 a, .int .i64 b, .string name, .slice A n c])] from (((Kept.start w).alloc_at 24 #[.int .i64 op, .int .i64 a, .int .i64 b, .string name, .slice A n c] (w.heap.size) (by simp)).alloc_at 36 #[.int .u8 ((f 0).toNat : Int), .int .u8 ((f 1).toNat : Int), .int .u8 ((f 2).toNat : Int)] (w.heap.size + 1) (by simp)))
    go_enter Try.func4, Try.ntmps4
    go_wp2_with fail
    with_reducible refine (awake_c _).mono ?_
    rintro e w1 ⟨rfl, hb1⟩
    have HK2 := Lib.hid (show Kept w w1 [(w.heap.size + 1, 36, #[.int .u8 ((f 0).toNat : Int), .int .u8 ((f 1).toNat : Int), .int .u8 ((f 2).toNat : Int)]), (w.heap.size, 24, #[.int .i64 op, .int .i64 a, .int .i64 b, .string name, .slice A n c])] from HK1.out.next hb1)
    clear HK1
    clear hb1
    have c_f_0 : w1.cell? ⟨w.heap.size, 0, none⟩ = some (.int .i64 op) := HK2.out.cell 1 rfl 0
    have c_f_1 : w1.cell? ⟨w.heap.size, 1, none⟩ = some (.int .i64 a) := HK2.out.cell 1 rfl 1
    have c_f_2 : w1.cell? ⟨w.heap.size, 2, none⟩ = some (.int .i64 b) := HK2.out.cell 1 rfl 2
    have c_f_3 : w1.cell? ⟨w.heap.size, 3, none⟩ = some (.string name) := HK2.out.cell 1 rfl 3
    have c_f_4 : w1.cell? ⟨w.heap.size, 4, none⟩ = some (.slice A n c) := HK2.out.cell 1 rfl 4
    go_wp2_with fail
    with_reducible refine (Short_c HT.out _ HK2.out.bel HK2.out.size).mono ?_
    rintro e w2 ⟨rfl, hb2⟩
    clear c_f_0 c_f_1 c_f_2 c_f_3 c_f_4
    have HK3 := Lib.hid (show Kept w w2 [(w.heap.size + 1, 36, #[.int .u8 ((f 0).toNat : Int), .int .u8 ((f 1).toNat : Int), .int .u8 ((f 2).toNat : Int)]), (w.heap.size, 24, #[.int .i64 op, .int .i64 a, .int .i64 b, .string name, .slice A n c])] from HK2.out.next hb2)
    clear HK2
    clear hb2
    cases hsh : shortF t
    · go_wp2
      go_ret
      exact ⟨rfl, HK3.out.bel⟩
    clear hsh
    by_cases hlen : 100 < more.size
    · have d0 : decide ((100 : Int) < (more.size : Int)) = true := by simp; omega
      go_wp2
      go_ret
      exact ⟨rfl, HK3.out.bel⟩
    have d0 : decide ((100 : Int) < (more.size : Int)) = false := by simp; omega
    cases hmk : makeB t seq
    · skip
      have c_f_0 : w2.cell? ⟨w.heap.size, 0, none⟩ = some (.int .i64 op) := HK3.out.cell 1 rfl 0
      have c_f_1 : w2.cell? ⟨w.heap.size, 1, none⟩ = some (.int .i64 a) := HK3.out.cell 1 rfl 1
      have c_f_2 : w2.cell? ⟨w.heap.size, 2, none⟩ = some (.int .i64 b) := HK3.out.cell 1 rfl 2
      have c_f_3 : w2.cell? ⟨w.heap.size, 3, none⟩ = some (.string name) := HK3.out.cell 1 rfl 3
      have c_f_4 : w2.cell? ⟨w.heap.size, 4, none⟩ = some (.slice A n c) := HK3.out.cell 1 rfl 4
      go_wp2_with fail
      with_reducible refine (Make_bad HT.out seq hmk _ HK3.out.bel HK3.out.size).mono ?_
      rintro e w3 ⟨rfl, hb3⟩
      clear d0
      clear c_f_0 c_f_1 c_f_2 c_f_3 c_f_4
      have HK4 := Lib.hid (show Kept w w3 [(w.heap.size + 1, 36, #[.int .u8 ((f 0).toNat : Int), .int .u8 ((f 1).toNat : Int), .int .u8 ((f 2).toNat : Int)]), (w.heap.size, 24, #[.int .i64 op, .int .i64 a, .int .i64 b, .string name, .slice A n c])] from HK3.out.next hb3)
      clear HK3
      clear hb3
      go_wp2
      go_ret
      exact ⟨rfl, HK4.out.bel⟩
    obtain ⟨hrt, h0, h1⟩ : rightT t = true ∧ 0 ≤ seq ∧ seq ≤ 4294967296 := by unfold makeB at hmk; simpa using hmk
    obtain ⟨q, rfl⟩ : ∃ q : Nat, seq = (q : Int) := ⟨seq.toNat, by omega⟩
    have hq : q ≤ 4294967296 := by omega
    clear hmk h0 h1
    have c_f_0 : w2.cell? ⟨w.heap.size, 0, none⟩ = some (.int .i64 op) := HK3.out.cell 1 rfl 0
    have c_f_1 : w2.cell? ⟨w.heap.size, 1, none⟩ = some (.int .i64 a) := HK3.out.cell 1 rfl 1
    have c_f_2 : w2.cell? ⟨w.heap.size, 2, none⟩ = some (.int .i64 b) := HK3.out.cell 1 rfl 2
    have c_f_3 : w2.cell? ⟨w.heap.size, 3, none⟩ = some (.string name) := HK3.out.cell 1 rfl 3
    have c_f_4 : w2.cell? ⟨w.heap.size, 4, none⟩ = some (.slice A n c) := HK3.out.cell 1 rfl 4
    go_wp2_with fail
    with_reducible refine (Make_ok HT.out hrt q hq _ HK3.out.bel HK3.out.size).mono ?_
    rintro e w3 ⟨rfl, hb3⟩
    clear d0
    clear c_f_0 c_f_1 c_f_2 c_f_3 c_f_4
    have HK4 := Lib.hid (show Kept w w3 [(w.heap.size + 1, 36, #[.int .u8 ((f 0).toNat : Int), .int .u8 ((f 1).toNat : Int), .int .u8 ((f 2).toNat : Int)]), (w.heap.size, 24, #[.int .i64 op, .int .i64 a, .int .i64 b, .string name, .slice A n c])] from HK3.out.next hb3)
    clear HK3
    clear hb3
    have HTL := Lib.hid (tokB_length (bytesT t) q)
    have HL5 := Lib.hid (uencB_len5 q hq)
    have HLp := Lib.hid (uencB_pos q)
    obtain ⟨s, hs⟩ : ∃ s : ByteArray, (⟨(tokB (bytesT t) q).toArray⟩ : ByteArray) = s := ⟨_, rfl⟩
    rw [hs]
    have HSD := Lib.hid (show s.data.toList = tokB (bytesT t) q from by rw [← hs])
    have HSZ := Lib.hid (show s.size = (tokB (bytesT t) q).length from by rw [← hs]; simp [ByteArray.size])
    clear hs
    have hs0 : 10 ≤ s.size := by have := HTL.out; have := HLp.out; have := HSZ.out; omega
    have hs1 : s.size ≤ 18 := by have := HTL.out; have := HL5.out; have := HSZ.out; omega
    have d1 : decide ((s.size : Int) < 10) = false := by simp; omega
    have c_f_0 : w3.cell? ⟨w.heap.size, 0, none⟩ = some (.int .i64 op) := HK4.out.cell 1 rfl 0
    have c_f_1 : w3.cell? ⟨w.heap.size, 1, none⟩ = some (.int .i64 a) := HK4.out.cell 1 rfl 1
    have c_f_2 : w3.cell? ⟨w.heap.size, 2, none⟩ = some (.int .i64 b) := HK4.out.cell 1 rfl 2
    have c_f_3 : w3.cell? ⟨w.heap.size, 3, none⟩ = some (.string name) := HK4.out.cell 1 rfl 3
    have c_f_4 : w3.cell? ⟨w.heap.size, 4, none⟩ = some (.slice A n c) := HK4.out.cell 1 rfl 4
    go_wp2_with fail
    with_reducible refine (Read_s HT.out hrt s (by omega) q (by rw [HSD.out]; exact (readF_iff ..).2 ⟨hq, rfl⟩) _ HK4.out.bel HK4.out.size).mono ?_
    rintro e w4 ⟨rfl, hb4⟩
    clear d1
    clear c_f_0 c_f_1 c_f_2 c_f_3 c_f_4
    have HK5 := Lib.hid (show Kept w w4 [(w.heap.size + 1, 36, #[.int .u8 ((f 0).toNat : Int), .int .u8 ((f 1).toNat : Int), .int .u8 ((f 2).toNat : Int)]), (w.heap.size, 24, #[.int .i64 op, .int .i64 a, .int .i64 b, .string name, .slice A n c])] from HK4.out.next hb4)
    clear HK4
    clear hb4
    cases hmo : makeB t other
    · skip
      have c_f_0 : w4.cell? ⟨w.heap.size, 0, none⟩ = some (.int .i64 op) := HK5.out.cell 1 rfl 0
      have c_f_1 : w4.cell? ⟨w.heap.size, 1, none⟩ = some (.int .i64 a) := HK5.out.cell 1 rfl 1
      have c_f_2 : w4.cell? ⟨w.heap.size, 2, none⟩ = some (.int .i64 b) := HK5.out.cell 1 rfl 2
      have c_f_3 : w4.cell? ⟨w.heap.size, 3, none⟩ = some (.string name) := HK5.out.cell 1 rfl 3
      have c_f_4 : w4.cell? ⟨w.heap.size, 4, none⟩ = some (.slice A n c) := HK5.out.cell 1 rfl 4
      go_wp2_with fail
      with_reducible refine (Make_bad HT.out other hmo _ HK5.out.bel HK5.out.size).mono ?_
      rintro e w5 ⟨rfl, hb5⟩
      clear c_f_0 c_f_1 c_f_2 c_f_3 c_f_4
      have HK6 := Lib.hid (show Kept w w5 [(w.heap.size + 1, 36, #[.int .u8 ((f 0).toNat : Int), .int .u8 ((f 1).toNat : Int), .int .u8 ((f 2).toNat : Int)]), (w.heap.size, 24, #[.int .i64 op, .int .i64 a, .int .i64 b, .string name, .slice A n c])] from HK5.out.next hb5)
      clear HK5
      clear hb5
      clear HTL HL5 HLp
      obtain ⟨g, cap, wz, hcv, hgw, HSR0, hbz⟩ := conv_string s w5
      rw [HSD.out] at HSR0
      have HSR := Lib.hid HSR0
      have HBZ := Lib.hid hbz
      clear HSR0 hbz
      have hgf : w.heap.size < g := by have := HK6.out.lt 1 rfl; omega
      have hgb : w.heap.size + 1 < g := by have := HK6.out.lt 0 rfl; omega
      obtain ⟨k, hk⟩ : ∃ k, an % (s.size - 2) = k := ⟨_, rfl⟩
      have hkn : k + 3 ≤ s.size := by have := Nat.mod_lt an (show 0 < s.size - 2 by omega); omega
      have hkc : (an : Int) % ((s.size : Int) - 2) = (k : Int) := by rw [← hk, Int.natCast_emod, Int.natCast_sub (by omega)]; rfl
      have hnz : ¬ ((s.size : Int) - 2 = 0) := by omega
      clear hk
      go_wp2
      try simp only [hkc]
      clear hkc hcv hnz
      go_loopw [23] (fun i wr => ∃ q3 : Nat, q3 ≤ 3 ∧ i = .int .i64 q3 ∧ Hid (Below w5.heap.size w5 wr) ∧ Hid (SRow wr g (setH (tokB (bytesT t) q) k q3 (digF f)))) (fun i _ => 3 - (intOf i).toNat)
      case atStart => exact ⟨0, Nat.zero_le _, rfl, HBZ, by rw [setH_zero]; exact HSR⟩
      case round =>
        obtain ⟨j, hj, rfl, HBw, HSw⟩ := hrel
        clear HSR HBZ
        by_cases hlt : j < 3
        · have c2 : wr.cell? ⟨w.heap.size + 1, j, none⟩ = some (.int .u8 ((f j).toNat : Int)) := by
            rcases (by omega : j = 0 ∨ j = 1 ∨ j = 2) with rfl | rfl | rfl
            · exact (HK6.out.next HBw.out).cell 0 rfl 0
            · exact (HK6.out.next HBw.out).cell 0 rfl 1
            · exact (HK6.out.next HBw.out).cell 0 rfl 2
          have hjl : k + j < (setH (tokB (bytesT t) q) k j (digF f)).length := by rw [setH_length, ← HSZ.out]; omega
          have c1 := HSw.out.2.1 (k + j) _ (List.getElem?_eq_getElem hjl)
          have c3 := HSw.out.2.2 (k + j) hjl
          obtain ⟨v, hv⟩ : ∃ v : Nat, (f j).toNat % 16 = v := ⟨_, rfl⟩
          have hv16 : v < 16 := by omega
          have hvc : ((f j).toNat : Int) % 16 = (v : Int) := by omega
          have HST := Lib.hid (HSw.out.set (k + j) hjl (digF f j))
          rw [setH_step _ _ _ _ (by rw [← HSZ.out]; omega), digF_int, hv] at HST
          have HBT := Lib.hid (HBw.out.setCell (p := ⟨g, k + j, none⟩) hgw (.int .u8 ((hexN v : Nat) : Int)))
          have i1 : (0 : Int) ≤ (j : Int) := by omega
          have i2 : (j : Int) < 3 := by omega
          have i3 : (0 : Int) ≤ (k : Int) + (j : Int) := by omega
          have i4 : (k : Int) + (j : Int) < (s.size : Int) := by omega
          have i5 : IntKind.i64.wrap ((k : Int) + (j : Int)) = (k : Int) + (j : Int) := IntWalk.i64_in _ (by omega)
          have i6 : ((k : Int) + (j : Int)).toNat = k + j := by omega
          clear hv
          go_wp2
          go_roundw
          case rel => exact ⟨j + 1, by omega, by go_num, by simpa [hexLit_get] using HBT, by simpa [hexLit_get] using HST⟩
          case measure => simp [intOf]; omega
        · obtain rfl : j = 3 := by omega
          clear hlt hj
          have HK7 := Lib.hid (show Kept w wr [(w.heap.size + 1, 36, #[.int .u8 ((f 0).toNat : Int), .int .u8 ((f 1).toNat : Int), .int .u8 ((f 2).toNat : Int)]), (w.heap.size, 24, #[.int .i64 op, .int .i64 a, .int .i64 b, .string name, .slice A n c])] from HK6.out.next HBw.out)
          clear HK6
          obtain ⟨b3, hb3⟩ : ∃ b3, setH (tokB (bytesT t) q) k 3 (digF f) = b3 := ⟨_, rfl⟩
          have hbl : b3.length = s.size := by rw [← hb3, setH_length, HSZ.out]
          have HBU := Lib.hid (fun hne : b3 ≠ tokB (bytesT t) q => tok_burst (E := bytesT t) (b := b3) (k := k) hq (by rw [← hb3, setH_length]) (fun j hj => by rw [← hb3]; exact setH_out _ _ _ _ _ hj) hne)
          rw [hb3] at HSw
          clear hb3
          have hcv := conv_reads (HSw.out.reads hbl) cap
          have c_f_0 : wr.cell? ⟨w.heap.size, 0, none⟩ = some (.int .i64 op) := HK7.out.cell 1 rfl 0
          have c_f_1 : wr.cell? ⟨w.heap.size, 1, none⟩ = some (.int .i64 a) := HK7.out.cell 1 rfl 1
          have c_f_2 : wr.cell? ⟨w.heap.size, 2, none⟩ = some (.int .i64 b) := HK7.out.cell 1 rfl 2
          have c_f_3 : wr.cell? ⟨w.heap.size, 3, none⟩ = some (.string name) := HK7.out.cell 1 rfl 3
          have c_f_4 : wr.cell? ⟨w.heap.size, 4, none⟩ = some (.slice A n c) := HK7.out.cell 1 rfl 4
          by_cases heq : b3 = tokB (bytesT t) q
          · have hsb : (b3 == s.toList) = true := by rw [ba_toList, HSD.out, heq]; simp
            have HEQ := Lib.hid heq
            clear heq
            go_wp2_with fail
            with_reducible refine (Read_s HT.out hrt _ (by simp [ByteArray.size]; omega) q (by simp only []; rw [HEQ.out]; exact (readF_iff ..).2 ⟨hq, rfl⟩) _ HK7.out.bel HK7.out.size).mono ?_
            rintro e x1 ⟨rfl, hx1⟩
            have HSx := Lib.hid (HSw.out.below hx1 HSw.out.1)
            clear HSw hcv
            have hcv := conv_reads (HSx.out.reads hbl) cap
            clear c_f_0 c_f_1 c_f_2 c_f_3 c_f_4
            have HK8 := Lib.hid (show Kept w x1 [(w.heap.size + 1, 36, #[.int .u8 ((f 0).toNat : Int), .int .u8 ((f 1).toNat : Int), .int .u8 ((f 2).toNat : Int)]), (w.heap.size, 24, #[.int .i64 op, .int .i64 a, .int .i64 b, .string name, .slice A n c])] from HK7.out.next hx1)
            clear HK7
            clear hx1
            have hnz : ¬ ((s.size : Int) = 0) := by omega
            obtain ⟨kc, hkc0⟩ : ∃ kc, cn % s.size = kc := ⟨_, rfl⟩
            have hkl : kc < s.size := by rw [← hkc0]; exact Nat.mod_lt _ (by omega)
            have hkc : (cn : Int) % (s.size : Int) = (kc : Int) := by rw [← hkc0, Int.natCast_emod]
            clear hkc0
            have hse : ¬ (s = ByteArray.empty) := by rintro rfl; simp at hs0
            have hwk : (IntKind.i64.wrap (cn : Int)).tmod (s.size : Int) = (kc : Int) := by rw [IntWalk.i64_in _ (by omega), Int.tmod_eq_emod_of_nonneg (by omega), hkc]
            have k0 : (0 : Int) ≤ (kc : Int) := by omega
            have k1 : (kc : Int) ≤ (s.size : Int) := by omega
            go_wp2_with fail
            refine wp_region_noPanic ?_
            refine wp_region_held_drew (S := fun W' => Kept w W' [(w.heap.size + 1, 36, #[.int .u8 ((f 0).toNat : Int), .int .u8 ((f 1).toNat : Int), .int .u8 ((f 2).toNat : Int)]), (w.heap.size, 24, #[.int .i64 op, .int .i64 a, .int .i64 b, .string name, .slice A n c])]) (by kernel_rfl) HK8.out.drew (fun hHeld => ?_)
            refine takeH 0 (v := ?v0u16) rfl (by kernel_rfl) (by kernel_rfl) (by kernel_rfl) rfl (fun _ _ _ h => h) (Or.inl ⟨by rfl, ?y0u16⟩) hHeld ?r0u16
            case y0u16 => (intro W hSW; (try dsimp only at hSW); have q0 := hSW.cell 1 rfl 0; have q1 := hSW.cell 1 rfl 1; have q2 := hSW.cell 1 rfl 2; have q3 := hSW.cell 1 rfl 3; have q4 := hSW.cell 1 rfl 4; simp only [List.getElem?_toArray, List.getElem?_cons_zero, List.getElem?_cons_succ] at q0 q1 q2 q3 q4; go_simp; try with_reducible rfl)
            simp only [Act.put, List.setIfInBounds_toArray, List.set_cons_zero, List.set_cons_succ]
            refine takeH 1 (v := ?v1u17) rfl (by kernel_rfl) (by kernel_rfl) (by kernel_rfl) rfl (fun _ _ _ h => h) (Or.inl ⟨by rfl, ?y1u17⟩) hHeld ?r1u17
            case y1u17 => (intro W hSW; (try dsimp only at hSW); go_simp; try with_reducible rfl)
            simp only [Act.put, List.setIfInBounds_toArray, List.set_cons_zero, List.set_cons_succ]
            refine takeH 2 (v := ?v2u18) rfl (by kernel_rfl) (by kernel_rfl) (by kernel_rfl) rfl (fun _ _ _ h => h) (Or.inl ⟨by rfl, ?y2u18⟩) hHeld ?r2u18
            case y2u18 => (intro W hSW; (try dsimp only at hSW); go_simp; try with_reducible rfl)
            simp only [Act.put, List.setIfInBounds_toArray, List.set_cons_zero, List.set_cons_succ]
            refine takeH 3 (v := ?v3u19) rfl (by kernel_rfl) (by kernel_rfl) (by kernel_rfl) rfl (fun _ _ _ h => h) (Or.inl ⟨by rfl, ?y3u19⟩) hHeld ?r3u19
            case y3u19 => (intro W hSW; (try dsimp only at hSW); go_simp; try with_reducible rfl)
            simp only [Act.put, List.setIfInBounds_toArray, List.set_cons_zero, List.set_cons_succ]
            refine takeH 4 (v := ?v4u20) rfl (by kernel_rfl) (by kernel_rfl) (by kernel_rfl) rfl (fun _ _ _ h => h) (Or.inl ⟨by rfl, ?y4u20⟩) hHeld ?r4u20
            case y4u20 => (intro W hSW; (try dsimp only at hSW); go_simp; try with_reducible rfl)
            simp only [Act.put, List.setIfInBounds_toArray, List.set_cons_zero, List.set_cons_succ]
            refine takeH 5 (v := ?v5u21) rfl (by kernel_rfl) (by kernel_rfl) (by kernel_rfl) rfl (fun _ _ _ h => h) (Or.inl ⟨by rfl, ?y5u21⟩) hHeld ?r5u21
            case y5u21 => (intro W hSW; (try dsimp only at hSW); go_simp; try with_reducible rfl)
            simp only [Act.put, List.setIfInBounds_toArray, List.set_cons_zero, List.set_cons_succ]
            refine takeH 6 (v := ?v6u22) rfl (by kernel_rfl) (by kernel_rfl) (by kernel_rfl) rfl (fun _ _ _ h => h) (Or.inl ⟨by rfl, ?y6u22⟩) hHeld ?r6u22
            case y6u22 => (intro W hSW; (try dsimp only at hSW); go_simp; try with_reducible rfl)
            simp only [Act.put, List.setIfInBounds_toArray, List.set_cons_zero, List.set_cons_succ]
            refine takeH 7 (v := ?v7u23) rfl (by kernel_rfl) (by kernel_rfl) (by kernel_rfl) rfl (fun _ _ _ h => h) (Or.inl ⟨by rfl, ?y7u23⟩) hHeld ?r7u23
            case y7u23 => (intro W hSW; (try dsimp only at hSW); go_simp; try with_reducible rfl)
            simp only [Act.put, List.setIfInBounds_toArray, List.set_cons_zero, List.set_cons_succ]
            refine wpAnyH_ready (rs := [8]) (by kernel_rfl) (by simp) ?_
            refine AllReadyH.cons rfl (fun K hK => ?_) AllReadyH.nil
            go_simp
            with_reducible refine (Read_n HT.out hrt _ (by simp; omega) (by rw [data_extract, HSD.out]; exact tok_cut hq kc (by rw [← HSZ.out]; exact hkl)) _ hHeld.bel hHeld.size).mono ?_
            rintro e' wn ⟨rfl, hbn⟩
            have hkn := hHeld.next hbn
            clear hbn
            refine hK.out _ _ hkn (fun hHeld => ?_)
            clear hK K
            try simp only [Act.put, List.setIfInBounds_toArray, List.set_cons_zero, List.set_cons_succ]
            refine takeH 9 (v := ?v9u24) rfl (by kernel_rfl) (by kernel_rfl) (by kernel_rfl) rfl (fun _ _ _ h => h) (Or.inl ⟨by rfl, ?y9u24⟩) hHeld ?r9u24
            case y9u24 => (intro W hSW; (try dsimp only at hSW); go_simp; try with_reducible rfl)
            simp only [Act.put, List.setIfInBounds_toArray, List.set_cons_zero, List.set_cons_succ]
            refine takeH 10 (v := ?v10u25) rfl (by kernel_rfl) (by kernel_rfl) (by kernel_rfl) rfl (fun _ _ _ h => h) (Or.inl ⟨by rfl, ?y10u25⟩) hHeld ?r10u25
            case y10u25 => (intro W hSW; (try dsimp only at hSW); go_simp; try with_reducible rfl)
            simp only [Act.put, List.setIfInBounds_toArray, List.set_cons_zero, List.set_cons_succ]
            refine takeH 11 (v := ?v11u26) rfl (by kernel_rfl) (by kernel_rfl) (by kernel_rfl) rfl (fun _ _ _ h => h) (Or.inl ⟨by rfl, ?y11u26⟩) hHeld ?r11u26
            case y11u26 => (intro W hSW; (try dsimp only at hSW); go_simp; try with_reducible rfl)
            simp only [Act.put, List.setIfInBounds_toArray, List.set_cons_zero, List.set_cons_succ]
            refine takeH 12 (v := ?v12u27) rfl (by kernel_rfl) (by kernel_rfl) (by kernel_rfl) rfl (fun _ _ _ h => h) (Or.inl ⟨by rfl, ?y12u27⟩) hHeld ?r12u27
            case y12u27 => (intro W hSW; (try dsimp only at hSW); go_simp; try with_reducible rfl)
            simp only [Act.put, List.setIfInBounds_toArray, List.set_cons_zero, List.set_cons_succ]
            refine takeH 13 (v := ?v13u28) rfl (by kernel_rfl) (by kernel_rfl) (by kernel_rfl) rfl (fun _ _ _ h => h) (Or.inl ⟨by rfl, ?y13u28⟩) hHeld ?r13u28
            case y13u28 => (intro W hSW; (try dsimp only at hSW); go_simp; try with_reducible rfl)
            simp only [Act.put, List.setIfInBounds_toArray, List.set_cons_zero, List.set_cons_succ]
            refine wpAnyH_done (by kernel_rfl) ?_ _
            refine NoPanic.normal ?_
            have HKn := Lib.hid hHeld
            clear hHeld HK8
            have c_f_0 : wn.cell? ⟨w.heap.size, 0, none⟩ = some (.int .i64 op) := HKn.out.cell 1 rfl 0
            have c_f_1 : wn.cell? ⟨w.heap.size, 1, none⟩ = some (.int .i64 a) := HKn.out.cell 1 rfl 1
            have c_f_2 : wn.cell? ⟨w.heap.size, 2, none⟩ = some (.int .i64 b) := HKn.out.cell 1 rfl 2
            have c_f_3 : wn.cell? ⟨w.heap.size, 3, none⟩ = some (.string name) := HKn.out.cell 1 rfl 3
            have c_f_4 : wn.cell? ⟨w.heap.size, 4, none⟩ = some (.slice A n c) := HKn.out.cell 1 rfl 4
            have hsz : (s.size : Int) + (more.size : Int) ≤ 9223372036854775807 := by omega
            have hsz2 : s.size + more.size ≤ 9223372036854775807 := by omega
            by_cases hme : more = ⟨#[]⟩
            · subst hme
              have hz : s ++ (⟨#[]⟩ : ByteArray) = s := by apply ByteArray.ext; simp [ByteArray.data_append]
              go_wp2_with fail
              with_reducible refine (Read_s HT.out hrt s (by omega) q (by rw [HSD.out]; exact (readF_iff ..).2 ⟨hq, rfl⟩) _ HKn.out.bel HKn.out.size).mono ?_
              rintro e xa ⟨rfl, hxa⟩
              clear c_f_0 c_f_1 c_f_2 c_f_3 c_f_4
              have HK9 := Lib.hid (show Kept w xa [(w.heap.size + 1, 36, #[.int .u8 ((f 0).toNat : Int), .int .u8 ((f 1).toNat : Int), .int .u8 ((f 2).toNat : Int)]), (w.heap.size, 24, #[.int .i64 op, .int .i64 a, .int .i64 b, .string name, .slice A n c])] from HKn.out.next hxa)
              clear HKn
              clear hxa
              go_wp2
              go_ret
              exact ⟨rfl, HK9.out.bel⟩
            have hml : more.data.toList ≠ [] := fun h => hme (ByteArray.ext (Array.toList_inj.1 h))
            have hmb : (more.toList == []) = false := by rw [ba_toList, beq_eq_false_iff_ne]; exact hml
            go_wp2_with fail
            with_reducible refine (Read_n HT.out hrt _ (by simp; omega) (by rw [data_append, HSD.out]; exact tok_more hq _ hml) _ HKn.out.bel HKn.out.size).mono ?_
            rintro e xa ⟨rfl, hxa⟩
            clear c_f_0 c_f_1 c_f_2 c_f_3 c_f_4
            have HK9 := Lib.hid (show Kept w xa [(w.heap.size + 1, 36, #[.int .u8 ((f 0).toNat : Int), .int .u8 ((f 1).toNat : Int), .int .u8 ((f 2).toNat : Int)]), (w.heap.size, 24, #[.int .i64 op, .int .i64 a, .int .i64 b, .string name, .slice A n c])] from HKn.out.next hxa)
            clear HKn
            clear hxa
            go_wp2
            go_ret
            exact ⟨rfl, HK9.out.bel⟩
          have hsb : (b3 == s.toList) = false := by rw [ba_toList, HSD.out, beq_eq_false_iff_ne]; exact heq
          have HEQ := Lib.hid heq
          clear heq
          go_wp2_with fail
          with_reducible refine (Read_n HT.out hrt _ (by simp [ByteArray.size]; omega) (HBU.out HEQ.out) _ HK7.out.bel HK7.out.size).mono ?_
          rintro e x1 ⟨rfl, hx1⟩
          have HSx := Lib.hid (HSw.out.below hx1 HSw.out.1)
          clear HSw hcv
          have hcv := conv_reads (HSx.out.reads hbl) cap
          clear c_f_0 c_f_1 c_f_2 c_f_3 c_f_4
          have HK8 := Lib.hid (show Kept w x1 [(w.heap.size + 1, 36, #[.int .u8 ((f 0).toNat : Int), .int .u8 ((f 1).toNat : Int), .int .u8 ((f 2).toNat : Int)]), (w.heap.size, 24, #[.int .i64 op, .int .i64 a, .int .i64 b, .string name, .slice A n c])] from HK7.out.next hx1)
          clear HK7
          clear hx1
          have hnz : ¬ ((s.size : Int) = 0) := by omega
          obtain ⟨kc, hkc0⟩ : ∃ kc, cn % s.size = kc := ⟨_, rfl⟩
          have hkl : kc < s.size := by rw [← hkc0]; exact Nat.mod_lt _ (by omega)
          have hkc : (cn : Int) % (s.size : Int) = (kc : Int) := by rw [← hkc0, Int.natCast_emod]
          clear hkc0
          have hse : ¬ (s = ByteArray.empty) := by rintro rfl; simp at hs0
          have hwk : (IntKind.i64.wrap (cn : Int)).tmod (s.size : Int) = (kc : Int) := by rw [IntWalk.i64_in _ (by omega), Int.tmod_eq_emod_of_nonneg (by omega), hkc]
          have k0 : (0 : Int) ≤ (kc : Int) := by omega
          have k1 : (kc : Int) ≤ (s.size : Int) := by omega
          go_wp2_with fail
          refine wp_region_noPanic ?_
          refine wp_region_held_drew (S := fun W' => Kept w W' [(w.heap.size + 1, 36, #[.int .u8 ((f 0).toNat : Int), .int .u8 ((f 1).toNat : Int), .int .u8 ((f 2).toNat : Int)]), (w.heap.size, 24, #[.int .i64 op, .int .i64 a, .int .i64 b, .string name, .slice A n c])]) (by kernel_rfl) HK8.out.drew (fun hHeld => ?_)
          refine takeH 0 (v := ?v0u29) rfl (by kernel_rfl) (by kernel_rfl) (by kernel_rfl) rfl (fun _ _ _ h => h) (Or.inl ⟨by rfl, ?y0u29⟩) hHeld ?r0u29
          case y0u29 => (intro W hSW; (try dsimp only at hSW); have q0 := hSW.cell 1 rfl 0; have q1 := hSW.cell 1 rfl 1; have q2 := hSW.cell 1 rfl 2; have q3 := hSW.cell 1 rfl 3; have q4 := hSW.cell 1 rfl 4; simp only [List.getElem?_toArray, List.getElem?_cons_zero, List.getElem?_cons_succ] at q0 q1 q2 q3 q4; go_simp; try with_reducible rfl)
          simp only [Act.put, List.setIfInBounds_toArray, List.set_cons_zero, List.set_cons_succ]
          refine takeH 1 (v := ?v1u30) rfl (by kernel_rfl) (by kernel_rfl) (by kernel_rfl) rfl (fun _ _ _ h => h) (Or.inl ⟨by rfl, ?y1u30⟩) hHeld ?r1u30
          case y1u30 => (intro W hSW; (try dsimp only at hSW); go_simp; try with_reducible rfl)
          simp only [Act.put, List.setIfInBounds_toArray, List.set_cons_zero, List.set_cons_succ]
          refine takeH 2 (v := ?v2u31) rfl (by kernel_rfl) (by kernel_rfl) (by kernel_rfl) rfl (fun _ _ _ h => h) (Or.inl ⟨by rfl, ?y2u31⟩) hHeld ?r2u31
          case y2u31 => (intro W hSW; (try dsimp only at hSW); go_simp; try with_reducible rfl)
          simp only [Act.put, List.setIfInBounds_toArray, List.set_cons_zero, List.set_cons_succ]
          refine takeH 3 (v := ?v3u32) rfl (by kernel_rfl) (by kernel_rfl) (by kernel_rfl) rfl (fun _ _ _ h => h) (Or.inl ⟨by rfl, ?y3u32⟩) hHeld ?r3u32
          case y3u32 => (intro W hSW; (try dsimp only at hSW); go_simp; try with_reducible rfl)
          simp only [Act.put, List.setIfInBounds_toArray, List.set_cons_zero, List.set_cons_succ]
          refine takeH 4 (v := ?v4u33) rfl (by kernel_rfl) (by kernel_rfl) (by kernel_rfl) rfl (fun _ _ _ h => h) (Or.inl ⟨by rfl, ?y4u33⟩) hHeld ?r4u33
          case y4u33 => (intro W hSW; (try dsimp only at hSW); go_simp; try with_reducible rfl)
          simp only [Act.put, List.setIfInBounds_toArray, List.set_cons_zero, List.set_cons_succ]
          refine takeH 5 (v := ?v5u34) rfl (by kernel_rfl) (by kernel_rfl) (by kernel_rfl) rfl (fun _ _ _ h => h) (Or.inl ⟨by rfl, ?y5u34⟩) hHeld ?r5u34
          case y5u34 => (intro W hSW; (try dsimp only at hSW); go_simp; try with_reducible rfl)
          simp only [Act.put, List.setIfInBounds_toArray, List.set_cons_zero, List.set_cons_succ]
          refine takeH 6 (v := ?v6u35) rfl (by kernel_rfl) (by kernel_rfl) (by kernel_rfl) rfl (fun _ _ _ h => h) (Or.inl ⟨by rfl, ?y6u35⟩) hHeld ?r6u35
          case y6u35 => (intro W hSW; (try dsimp only at hSW); go_simp; try with_reducible rfl)
          simp only [Act.put, List.setIfInBounds_toArray, List.set_cons_zero, List.set_cons_succ]
          refine takeH 7 (v := ?v7u36) rfl (by kernel_rfl) (by kernel_rfl) (by kernel_rfl) rfl (fun _ _ _ h => h) (Or.inl ⟨by rfl, ?y7u36⟩) hHeld ?r7u36
          case y7u36 => (intro W hSW; (try dsimp only at hSW); go_simp; try with_reducible rfl)
          simp only [Act.put, List.setIfInBounds_toArray, List.set_cons_zero, List.set_cons_succ]
          refine wpAnyH_ready (rs := [8]) (by kernel_rfl) (by simp) ?_
          refine AllReadyH.cons rfl (fun K hK => ?_) AllReadyH.nil
          go_simp
          with_reducible refine (Read_n HT.out hrt _ (by simp; omega) (by rw [data_extract, HSD.out]; exact tok_cut hq kc (by rw [← HSZ.out]; exact hkl)) _ hHeld.bel hHeld.size).mono ?_
          rintro e' wn ⟨rfl, hbn⟩
          have hkn := hHeld.next hbn
          clear hbn
          refine hK.out _ _ hkn (fun hHeld => ?_)
          clear hK K
          try simp only [Act.put, List.setIfInBounds_toArray, List.set_cons_zero, List.set_cons_succ]
          refine takeH 9 (v := ?v9u37) rfl (by kernel_rfl) (by kernel_rfl) (by kernel_rfl) rfl (fun _ _ _ h => h) (Or.inl ⟨by rfl, ?y9u37⟩) hHeld ?r9u37
          case y9u37 => (intro W hSW; (try dsimp only at hSW); go_simp; try with_reducible rfl)
          simp only [Act.put, List.setIfInBounds_toArray, List.set_cons_zero, List.set_cons_succ]
          refine takeH 10 (v := ?v10u38) rfl (by kernel_rfl) (by kernel_rfl) (by kernel_rfl) rfl (fun _ _ _ h => h) (Or.inl ⟨by rfl, ?y10u38⟩) hHeld ?r10u38
          case y10u38 => (intro W hSW; (try dsimp only at hSW); go_simp; try with_reducible rfl)
          simp only [Act.put, List.setIfInBounds_toArray, List.set_cons_zero, List.set_cons_succ]
          refine takeH 11 (v := ?v11u39) rfl (by kernel_rfl) (by kernel_rfl) (by kernel_rfl) rfl (fun _ _ _ h => h) (Or.inl ⟨by rfl, ?y11u39⟩) hHeld ?r11u39
          case y11u39 => (intro W hSW; (try dsimp only at hSW); go_simp; try with_reducible rfl)
          simp only [Act.put, List.setIfInBounds_toArray, List.set_cons_zero, List.set_cons_succ]
          refine takeH 12 (v := ?v12u40) rfl (by kernel_rfl) (by kernel_rfl) (by kernel_rfl) rfl (fun _ _ _ h => h) (Or.inl ⟨by rfl, ?y12u40⟩) hHeld ?r12u40
          case y12u40 => (intro W hSW; (try dsimp only at hSW); go_simp; try with_reducible rfl)
          simp only [Act.put, List.setIfInBounds_toArray, List.set_cons_zero, List.set_cons_succ]
          refine takeH 13 (v := ?v13u41) rfl (by kernel_rfl) (by kernel_rfl) (by kernel_rfl) rfl (fun _ _ _ h => h) (Or.inl ⟨by rfl, ?y13u41⟩) hHeld ?r13u41
          case y13u41 => (intro W hSW; (try dsimp only at hSW); go_simp; try with_reducible rfl)
          simp only [Act.put, List.setIfInBounds_toArray, List.set_cons_zero, List.set_cons_succ]
          refine wpAnyH_done (by kernel_rfl) ?_ _
          refine NoPanic.normal ?_
          have HKn := Lib.hid hHeld
          clear hHeld HK8
          have c_f_0 : wn.cell? ⟨w.heap.size, 0, none⟩ = some (.int .i64 op) := HKn.out.cell 1 rfl 0
          have c_f_1 : wn.cell? ⟨w.heap.size, 1, none⟩ = some (.int .i64 a) := HKn.out.cell 1 rfl 1
          have c_f_2 : wn.cell? ⟨w.heap.size, 2, none⟩ = some (.int .i64 b) := HKn.out.cell 1 rfl 2
          have c_f_3 : wn.cell? ⟨w.heap.size, 3, none⟩ = some (.string name) := HKn.out.cell 1 rfl 3
          have c_f_4 : wn.cell? ⟨w.heap.size, 4, none⟩ = some (.slice A n c) := HKn.out.cell 1 rfl 4
          have hsz : (s.size : Int) + (more.size : Int) ≤ 9223372036854775807 := by omega
          have hsz2 : s.size + more.size ≤ 9223372036854775807 := by omega
          by_cases hme : more = ⟨#[]⟩
          · subst hme
            have hz : s ++ (⟨#[]⟩ : ByteArray) = s := by apply ByteArray.ext; simp [ByteArray.data_append]
            go_wp2_with fail
            with_reducible refine (Read_s HT.out hrt s (by omega) q (by rw [HSD.out]; exact (readF_iff ..).2 ⟨hq, rfl⟩) _ HKn.out.bel HKn.out.size).mono ?_
            rintro e xa ⟨rfl, hxa⟩
            clear c_f_0 c_f_1 c_f_2 c_f_3 c_f_4
            have HK9 := Lib.hid (show Kept w xa [(w.heap.size + 1, 36, #[.int .u8 ((f 0).toNat : Int), .int .u8 ((f 1).toNat : Int), .int .u8 ((f 2).toNat : Int)]), (w.heap.size, 24, #[.int .i64 op, .int .i64 a, .int .i64 b, .string name, .slice A n c])] from HKn.out.next hxa)
            clear HKn
            clear hxa
            go_wp2
            go_ret
            exact ⟨rfl, HK9.out.bel⟩
          have hml : more.data.toList ≠ [] := fun h => hme (ByteArray.ext (Array.toList_inj.1 h))
          have hmb : (more.toList == []) = false := by rw [ba_toList, beq_eq_false_iff_ne]; exact hml
          go_wp2_with fail
          with_reducible refine (Read_n HT.out hrt _ (by simp; omega) (by rw [data_append, HSD.out]; exact tok_more hq _ hml) _ HKn.out.bel HKn.out.size).mono ?_
          rintro e xa ⟨rfl, hxa⟩
          clear c_f_0 c_f_1 c_f_2 c_f_3 c_f_4
          have HK9 := Lib.hid (show Kept w xa [(w.heap.size + 1, 36, #[.int .u8 ((f 0).toNat : Int), .int .u8 ((f 1).toNat : Int), .int .u8 ((f 2).toNat : Int)]), (w.heap.size, 24, #[.int .i64 op, .int .i64 a, .int .i64 b, .string name, .slice A n c])] from HKn.out.next hxa)
          clear HKn
          clear hxa
          go_wp2
          go_ret
          exact ⟨rfl, HK9.out.bel⟩
    obtain ⟨h0, h1⟩ : 0 ≤ other ∧ other ≤ 4294967296 := by unfold makeB at hmo; simp at hmo; exact hmo.2
    obtain ⟨p, rfl⟩ : ∃ p : Nat, other = (p : Int) := ⟨other.toNat, by omega⟩
    have hp : p ≤ 4294967296 := by omega
    clear hmo h0 h1
    have c_f_0 : w4.cell? ⟨w.heap.size, 0, none⟩ = some (.int .i64 op) := HK5.out.cell 1 rfl 0
    have c_f_1 : w4.cell? ⟨w.heap.size, 1, none⟩ = some (.int .i64 a) := HK5.out.cell 1 rfl 1
    have c_f_2 : w4.cell? ⟨w.heap.size, 2, none⟩ = some (.int .i64 b) := HK5.out.cell 1 rfl 2
    have c_f_3 : w4.cell? ⟨w.heap.size, 3, none⟩ = some (.string name) := HK5.out.cell 1 rfl 3
    have c_f_4 : w4.cell? ⟨w.heap.size, 4, none⟩ = some (.slice A n c) := HK5.out.cell 1 rfl 4
    go_wp2_with fail
    with_reducible refine (Make_ok HT.out hrt p hp _ HK5.out.bel HK5.out.size).mono ?_
    rintro e w5 ⟨rfl, hb5⟩
    clear c_f_0 c_f_1 c_f_2 c_f_3 c_f_4
    have HK6 := Lib.hid (show Kept w w5 [(w.heap.size + 1, 36, #[.int .u8 ((f 0).toNat : Int), .int .u8 ((f 1).toNat : Int), .int .u8 ((f 2).toNat : Int)]), (w.heap.size, 24, #[.int .i64 op, .int .i64 a, .int .i64 b, .string name, .slice A n c])] from HK5.out.next hb5)
    clear HK5
    clear hb5
    by_cases hpq : p = q
    · subst hpq
      have hse : (s.toList == tokB (bytesT t) p) = true := by rw [ba_toList, HSD.out]; simp
      generalize htp : (⟨(tokB (bytesT t) p).toArray⟩ : ByteArray) = s2
      obtain rfl : s = s2 := by rw [← htp]; exact ((ba_eq _ _).2 HSD.out.symm).symm
      clear htp hse
      clear HTL HL5 HLp
      obtain ⟨g, cap, wz, hcv, hgw, HSR0, hbz⟩ := conv_string s w5
      rw [HSD.out] at HSR0
      have HSR := Lib.hid HSR0
      have HBZ := Lib.hid hbz
      clear HSR0 hbz
      have hgf : w.heap.size < g := by have := HK6.out.lt 1 rfl; omega
      have hgb : w.heap.size + 1 < g := by have := HK6.out.lt 0 rfl; omega
      obtain ⟨k, hk⟩ : ∃ k, an % (s.size - 2) = k := ⟨_, rfl⟩
      have hkn : k + 3 ≤ s.size := by have := Nat.mod_lt an (show 0 < s.size - 2 by omega); omega
      have hkc : (an : Int) % ((s.size : Int) - 2) = (k : Int) := by rw [← hk, Int.natCast_emod, Int.natCast_sub (by omega)]; rfl
      have hnz : ¬ ((s.size : Int) - 2 = 0) := by omega
      clear hk
      go_wp2
      try simp only [hkc]
      clear hkc hcv hnz
      go_loopw [23] (fun i wr => ∃ q3 : Nat, q3 ≤ 3 ∧ i = .int .i64 q3 ∧ Hid (Below w5.heap.size w5 wr) ∧ Hid (SRow wr g (setH (tokB (bytesT t) p) k q3 (digF f)))) (fun i _ => 3 - (intOf i).toNat)
      case atStart => exact ⟨0, Nat.zero_le _, rfl, HBZ, by rw [setH_zero]; exact HSR⟩
      case round =>
        obtain ⟨j, hj, rfl, HBw, HSw⟩ := hrel
        clear HSR HBZ
        by_cases hlt : j < 3
        · have c2 : wr.cell? ⟨w.heap.size + 1, j, none⟩ = some (.int .u8 ((f j).toNat : Int)) := by
            rcases (by omega : j = 0 ∨ j = 1 ∨ j = 2) with rfl | rfl | rfl
            · exact (HK6.out.next HBw.out).cell 0 rfl 0
            · exact (HK6.out.next HBw.out).cell 0 rfl 1
            · exact (HK6.out.next HBw.out).cell 0 rfl 2
          have hjl : k + j < (setH (tokB (bytesT t) p) k j (digF f)).length := by rw [setH_length, ← HSZ.out]; omega
          have c1 := HSw.out.2.1 (k + j) _ (List.getElem?_eq_getElem hjl)
          have c3 := HSw.out.2.2 (k + j) hjl
          obtain ⟨v, hv⟩ : ∃ v : Nat, (f j).toNat % 16 = v := ⟨_, rfl⟩
          have hv16 : v < 16 := by omega
          have hvc : ((f j).toNat : Int) % 16 = (v : Int) := by omega
          have HST := Lib.hid (HSw.out.set (k + j) hjl (digF f j))
          rw [setH_step _ _ _ _ (by rw [← HSZ.out]; omega), digF_int, hv] at HST
          have HBT := Lib.hid (HBw.out.setCell (p := ⟨g, k + j, none⟩) hgw (.int .u8 ((hexN v : Nat) : Int)))
          have i1 : (0 : Int) ≤ (j : Int) := by omega
          have i2 : (j : Int) < 3 := by omega
          have i3 : (0 : Int) ≤ (k : Int) + (j : Int) := by omega
          have i4 : (k : Int) + (j : Int) < (s.size : Int) := by omega
          have i5 : IntKind.i64.wrap ((k : Int) + (j : Int)) = (k : Int) + (j : Int) := IntWalk.i64_in _ (by omega)
          have i6 : ((k : Int) + (j : Int)).toNat = k + j := by omega
          clear hv
          go_wp2
          go_roundw
          case rel => exact ⟨j + 1, by omega, by go_num, by simpa [hexLit_get] using HBT, by simpa [hexLit_get] using HST⟩
          case measure => simp [intOf]; omega
        · obtain rfl : j = 3 := by omega
          clear hlt hj
          have HK7 := Lib.hid (show Kept w wr [(w.heap.size + 1, 36, #[.int .u8 ((f 0).toNat : Int), .int .u8 ((f 1).toNat : Int), .int .u8 ((f 2).toNat : Int)]), (w.heap.size, 24, #[.int .i64 op, .int .i64 a, .int .i64 b, .string name, .slice A n c])] from HK6.out.next HBw.out)
          clear HK6
          obtain ⟨b3, hb3⟩ : ∃ b3, setH (tokB (bytesT t) p) k 3 (digF f) = b3 := ⟨_, rfl⟩
          have hbl : b3.length = s.size := by rw [← hb3, setH_length, HSZ.out]
          have HBU := Lib.hid (fun hne : b3 ≠ tokB (bytesT t) p => tok_burst (E := bytesT t) (b := b3) (k := k) hp (by rw [← hb3, setH_length]) (fun j hj => by rw [← hb3]; exact setH_out _ _ _ _ _ hj) hne)
          rw [hb3] at HSw
          clear hb3
          have hcv := conv_reads (HSw.out.reads hbl) cap
          have c_f_0 : wr.cell? ⟨w.heap.size, 0, none⟩ = some (.int .i64 op) := HK7.out.cell 1 rfl 0
          have c_f_1 : wr.cell? ⟨w.heap.size, 1, none⟩ = some (.int .i64 a) := HK7.out.cell 1 rfl 1
          have c_f_2 : wr.cell? ⟨w.heap.size, 2, none⟩ = some (.int .i64 b) := HK7.out.cell 1 rfl 2
          have c_f_3 : wr.cell? ⟨w.heap.size, 3, none⟩ = some (.string name) := HK7.out.cell 1 rfl 3
          have c_f_4 : wr.cell? ⟨w.heap.size, 4, none⟩ = some (.slice A n c) := HK7.out.cell 1 rfl 4
          by_cases heq : b3 = tokB (bytesT t) p
          · have hsb : (b3 == s.toList) = true := by rw [ba_toList, HSD.out, heq]; simp
            have HEQ := Lib.hid heq
            clear heq
            go_wp2_with fail
            with_reducible refine (Read_s HT.out hrt _ (by simp [ByteArray.size]; omega) p (by simp only []; rw [HEQ.out]; exact (readF_iff ..).2 ⟨hp, rfl⟩) _ HK7.out.bel HK7.out.size).mono ?_
            rintro e x1 ⟨rfl, hx1⟩
            have HSx := Lib.hid (HSw.out.below hx1 HSw.out.1)
            clear HSw hcv
            have hcv := conv_reads (HSx.out.reads hbl) cap
            clear c_f_0 c_f_1 c_f_2 c_f_3 c_f_4
            have HK8 := Lib.hid (show Kept w x1 [(w.heap.size + 1, 36, #[.int .u8 ((f 0).toNat : Int), .int .u8 ((f 1).toNat : Int), .int .u8 ((f 2).toNat : Int)]), (w.heap.size, 24, #[.int .i64 op, .int .i64 a, .int .i64 b, .string name, .slice A n c])] from HK7.out.next hx1)
            clear HK7
            clear hx1
            have hnz : ¬ ((s.size : Int) = 0) := by omega
            obtain ⟨kc, hkc0⟩ : ∃ kc, cn % s.size = kc := ⟨_, rfl⟩
            have hkl : kc < s.size := by rw [← hkc0]; exact Nat.mod_lt _ (by omega)
            have hkc : (cn : Int) % (s.size : Int) = (kc : Int) := by rw [← hkc0, Int.natCast_emod]
            clear hkc0
            have hse : ¬ (s = ByteArray.empty) := by rintro rfl; simp at hs0
            have hwk : (IntKind.i64.wrap (cn : Int)).tmod (s.size : Int) = (kc : Int) := by rw [IntWalk.i64_in _ (by omega), Int.tmod_eq_emod_of_nonneg (by omega), hkc]
            have k0 : (0 : Int) ≤ (kc : Int) := by omega
            have k1 : (kc : Int) ≤ (s.size : Int) := by omega
            go_wp2_with fail
            refine wp_region_noPanic ?_
            refine wp_region_held_drew (S := fun W' => Kept w W' [(w.heap.size + 1, 36, #[.int .u8 ((f 0).toNat : Int), .int .u8 ((f 1).toNat : Int), .int .u8 ((f 2).toNat : Int)]), (w.heap.size, 24, #[.int .i64 op, .int .i64 a, .int .i64 b, .string name, .slice A n c])]) (by kernel_rfl) HK8.out.drew (fun hHeld => ?_)
            refine takeH 0 (v := ?v0u42) rfl (by kernel_rfl) (by kernel_rfl) (by kernel_rfl) rfl (fun _ _ _ h => h) (Or.inl ⟨by rfl, ?y0u42⟩) hHeld ?r0u42
            case y0u42 => (intro W hSW; (try dsimp only at hSW); have q0 := hSW.cell 1 rfl 0; have q1 := hSW.cell 1 rfl 1; have q2 := hSW.cell 1 rfl 2; have q3 := hSW.cell 1 rfl 3; have q4 := hSW.cell 1 rfl 4; simp only [List.getElem?_toArray, List.getElem?_cons_zero, List.getElem?_cons_succ] at q0 q1 q2 q3 q4; go_simp; try with_reducible rfl)
            simp only [Act.put, List.setIfInBounds_toArray, List.set_cons_zero, List.set_cons_succ]
            refine takeH 1 (v := ?v1u43) rfl (by kernel_rfl) (by kernel_rfl) (by kernel_rfl) rfl (fun _ _ _ h => h) (Or.inl ⟨by rfl, ?y1u43⟩) hHeld ?r1u43
            case y1u43 => (intro W hSW; (try dsimp only at hSW); go_simp; try with_reducible rfl)
            simp only [Act.put, List.setIfInBounds_toArray, List.set_cons_zero, List.set_cons_succ]
            refine takeH 2 (v := ?v2u44) rfl (by kernel_rfl) (by kernel_rfl) (by kernel_rfl) rfl (fun _ _ _ h => h) (Or.inl ⟨by rfl, ?y2u44⟩) hHeld ?r2u44
            case y2u44 => (intro W hSW; (try dsimp only at hSW); go_simp; try with_reducible rfl)
            simp only [Act.put, List.setIfInBounds_toArray, List.set_cons_zero, List.set_cons_succ]
            refine takeH 3 (v := ?v3u45) rfl (by kernel_rfl) (by kernel_rfl) (by kernel_rfl) rfl (fun _ _ _ h => h) (Or.inl ⟨by rfl, ?y3u45⟩) hHeld ?r3u45
            case y3u45 => (intro W hSW; (try dsimp only at hSW); go_simp; try with_reducible rfl)
            simp only [Act.put, List.setIfInBounds_toArray, List.set_cons_zero, List.set_cons_succ]
            refine takeH 4 (v := ?v4u46) rfl (by kernel_rfl) (by kernel_rfl) (by kernel_rfl) rfl (fun _ _ _ h => h) (Or.inl ⟨by rfl, ?y4u46⟩) hHeld ?r4u46
            case y4u46 => (intro W hSW; (try dsimp only at hSW); go_simp; try with_reducible rfl)
            simp only [Act.put, List.setIfInBounds_toArray, List.set_cons_zero, List.set_cons_succ]
            refine takeH 5 (v := ?v5u47) rfl (by kernel_rfl) (by kernel_rfl) (by kernel_rfl) rfl (fun _ _ _ h => h) (Or.inl ⟨by rfl, ?y5u47⟩) hHeld ?r5u47
            case y5u47 => (intro W hSW; (try dsimp only at hSW); go_simp; try with_reducible rfl)
            simp only [Act.put, List.setIfInBounds_toArray, List.set_cons_zero, List.set_cons_succ]
            refine takeH 6 (v := ?v6u48) rfl (by kernel_rfl) (by kernel_rfl) (by kernel_rfl) rfl (fun _ _ _ h => h) (Or.inl ⟨by rfl, ?y6u48⟩) hHeld ?r6u48
            case y6u48 => (intro W hSW; (try dsimp only at hSW); go_simp; try with_reducible rfl)
            simp only [Act.put, List.setIfInBounds_toArray, List.set_cons_zero, List.set_cons_succ]
            refine takeH 7 (v := ?v7u49) rfl (by kernel_rfl) (by kernel_rfl) (by kernel_rfl) rfl (fun _ _ _ h => h) (Or.inl ⟨by rfl, ?y7u49⟩) hHeld ?r7u49
            case y7u49 => (intro W hSW; (try dsimp only at hSW); go_simp; try with_reducible rfl)
            simp only [Act.put, List.setIfInBounds_toArray, List.set_cons_zero, List.set_cons_succ]
            refine wpAnyH_ready (rs := [8]) (by kernel_rfl) (by simp) ?_
            refine AllReadyH.cons rfl (fun K hK => ?_) AllReadyH.nil
            go_simp
            with_reducible refine (Read_n HT.out hrt _ (by simp; omega) (by rw [data_extract, HSD.out]; exact tok_cut hp kc (by rw [← HSZ.out]; exact hkl)) _ hHeld.bel hHeld.size).mono ?_
            rintro e' wn ⟨rfl, hbn⟩
            have hkn := hHeld.next hbn
            clear hbn
            refine hK.out _ _ hkn (fun hHeld => ?_)
            clear hK K
            try simp only [Act.put, List.setIfInBounds_toArray, List.set_cons_zero, List.set_cons_succ]
            refine takeH 9 (v := ?v9u50) rfl (by kernel_rfl) (by kernel_rfl) (by kernel_rfl) rfl (fun _ _ _ h => h) (Or.inl ⟨by rfl, ?y9u50⟩) hHeld ?r9u50
            case y9u50 => (intro W hSW; (try dsimp only at hSW); go_simp; try with_reducible rfl)
            simp only [Act.put, List.setIfInBounds_toArray, List.set_cons_zero, List.set_cons_succ]
            refine takeH 10 (v := ?v10u51) rfl (by kernel_rfl) (by kernel_rfl) (by kernel_rfl) rfl (fun _ _ _ h => h) (Or.inl ⟨by rfl, ?y10u51⟩) hHeld ?r10u51
            case y10u51 => (intro W hSW; (try dsimp only at hSW); go_simp; try with_reducible rfl)
            simp only [Act.put, List.setIfInBounds_toArray, List.set_cons_zero, List.set_cons_succ]
            refine takeH 11 (v := ?v11u52) rfl (by kernel_rfl) (by kernel_rfl) (by kernel_rfl) rfl (fun _ _ _ h => h) (Or.inl ⟨by rfl, ?y11u52⟩) hHeld ?r11u52
            case y11u52 => (intro W hSW; (try dsimp only at hSW); go_simp; try with_reducible rfl)
            simp only [Act.put, List.setIfInBounds_toArray, List.set_cons_zero, List.set_cons_succ]
            refine takeH 12 (v := ?v12u53) rfl (by kernel_rfl) (by kernel_rfl) (by kernel_rfl) rfl (fun _ _ _ h => h) (Or.inl ⟨by rfl, ?y12u53⟩) hHeld ?r12u53
            case y12u53 => (intro W hSW; (try dsimp only at hSW); go_simp; try with_reducible rfl)
            simp only [Act.put, List.setIfInBounds_toArray, List.set_cons_zero, List.set_cons_succ]
            refine takeH 13 (v := ?v13u54) rfl (by kernel_rfl) (by kernel_rfl) (by kernel_rfl) rfl (fun _ _ _ h => h) (Or.inl ⟨by rfl, ?y13u54⟩) hHeld ?r13u54
            case y13u54 => (intro W hSW; (try dsimp only at hSW); go_simp; try with_reducible rfl)
            simp only [Act.put, List.setIfInBounds_toArray, List.set_cons_zero, List.set_cons_succ]
            refine wpAnyH_done (by kernel_rfl) ?_ _
            refine NoPanic.normal ?_
            have HKn := Lib.hid hHeld
            clear hHeld HK8
            have c_f_0 : wn.cell? ⟨w.heap.size, 0, none⟩ = some (.int .i64 op) := HKn.out.cell 1 rfl 0
            have c_f_1 : wn.cell? ⟨w.heap.size, 1, none⟩ = some (.int .i64 a) := HKn.out.cell 1 rfl 1
            have c_f_2 : wn.cell? ⟨w.heap.size, 2, none⟩ = some (.int .i64 b) := HKn.out.cell 1 rfl 2
            have c_f_3 : wn.cell? ⟨w.heap.size, 3, none⟩ = some (.string name) := HKn.out.cell 1 rfl 3
            have c_f_4 : wn.cell? ⟨w.heap.size, 4, none⟩ = some (.slice A n c) := HKn.out.cell 1 rfl 4
            have hsz : (s.size : Int) + (more.size : Int) ≤ 9223372036854775807 := by omega
            have hsz2 : s.size + more.size ≤ 9223372036854775807 := by omega
            by_cases hme : more = ⟨#[]⟩
            · subst hme
              have hz : s ++ (⟨#[]⟩ : ByteArray) = s := by apply ByteArray.ext; simp [ByteArray.data_append]
              go_wp2_with fail
              with_reducible refine (Read_s HT.out hrt s (by omega) p (by rw [HSD.out]; exact (readF_iff ..).2 ⟨hp, rfl⟩) _ HKn.out.bel HKn.out.size).mono ?_
              rintro e xa ⟨rfl, hxa⟩
              clear c_f_0 c_f_1 c_f_2 c_f_3 c_f_4
              have HK9 := Lib.hid (show Kept w xa [(w.heap.size + 1, 36, #[.int .u8 ((f 0).toNat : Int), .int .u8 ((f 1).toNat : Int), .int .u8 ((f 2).toNat : Int)]), (w.heap.size, 24, #[.int .i64 op, .int .i64 a, .int .i64 b, .string name, .slice A n c])] from HKn.out.next hxa)
              clear HKn
              clear hxa
              go_wp2
              go_ret
              exact ⟨rfl, HK9.out.bel⟩
            have hml : more.data.toList ≠ [] := fun h => hme (ByteArray.ext (Array.toList_inj.1 h))
            have hmb : (more.toList == []) = false := by rw [ba_toList, beq_eq_false_iff_ne]; exact hml
            go_wp2_with fail
            with_reducible refine (Read_n HT.out hrt _ (by simp; omega) (by rw [data_append, HSD.out]; exact tok_more hp _ hml) _ HKn.out.bel HKn.out.size).mono ?_
            rintro e xa ⟨rfl, hxa⟩
            clear c_f_0 c_f_1 c_f_2 c_f_3 c_f_4
            have HK9 := Lib.hid (show Kept w xa [(w.heap.size + 1, 36, #[.int .u8 ((f 0).toNat : Int), .int .u8 ((f 1).toNat : Int), .int .u8 ((f 2).toNat : Int)]), (w.heap.size, 24, #[.int .i64 op, .int .i64 a, .int .i64 b, .string name, .slice A n c])] from HKn.out.next hxa)
            clear HKn
            clear hxa
            go_wp2
            go_ret
            exact ⟨rfl, HK9.out.bel⟩
          have hsb : (b3 == s.toList) = false := by rw [ba_toList, HSD.out, beq_eq_false_iff_ne]; exact heq
          have HEQ := Lib.hid heq
          clear heq
          go_wp2_with fail
          with_reducible refine (Read_n HT.out hrt _ (by simp [ByteArray.size]; omega) (HBU.out HEQ.out) _ HK7.out.bel HK7.out.size).mono ?_
          rintro e x1 ⟨rfl, hx1⟩
          have HSx := Lib.hid (HSw.out.below hx1 HSw.out.1)
          clear HSw hcv
          have hcv := conv_reads (HSx.out.reads hbl) cap
          clear c_f_0 c_f_1 c_f_2 c_f_3 c_f_4
          have HK8 := Lib.hid (show Kept w x1 [(w.heap.size + 1, 36, #[.int .u8 ((f 0).toNat : Int), .int .u8 ((f 1).toNat : Int), .int .u8 ((f 2).toNat : Int)]), (w.heap.size, 24, #[.int .i64 op, .int .i64 a, .int .i64 b, .string name, .slice A n c])] from HK7.out.next hx1)
          clear HK7
          clear hx1
          have hnz : ¬ ((s.size : Int) = 0) := by omega
          obtain ⟨kc, hkc0⟩ : ∃ kc, cn % s.size = kc := ⟨_, rfl⟩
          have hkl : kc < s.size := by rw [← hkc0]; exact Nat.mod_lt _ (by omega)
          have hkc : (cn : Int) % (s.size : Int) = (kc : Int) := by rw [← hkc0, Int.natCast_emod]
          clear hkc0
          have hse : ¬ (s = ByteArray.empty) := by rintro rfl; simp at hs0
          have hwk : (IntKind.i64.wrap (cn : Int)).tmod (s.size : Int) = (kc : Int) := by rw [IntWalk.i64_in _ (by omega), Int.tmod_eq_emod_of_nonneg (by omega), hkc]
          have k0 : (0 : Int) ≤ (kc : Int) := by omega
          have k1 : (kc : Int) ≤ (s.size : Int) := by omega
          go_wp2_with fail
          refine wp_region_noPanic ?_
          refine wp_region_held_drew (S := fun W' => Kept w W' [(w.heap.size + 1, 36, #[.int .u8 ((f 0).toNat : Int), .int .u8 ((f 1).toNat : Int), .int .u8 ((f 2).toNat : Int)]), (w.heap.size, 24, #[.int .i64 op, .int .i64 a, .int .i64 b, .string name, .slice A n c])]) (by kernel_rfl) HK8.out.drew (fun hHeld => ?_)
          refine takeH 0 (v := ?v0u55) rfl (by kernel_rfl) (by kernel_rfl) (by kernel_rfl) rfl (fun _ _ _ h => h) (Or.inl ⟨by rfl, ?y0u55⟩) hHeld ?r0u55
          case y0u55 => (intro W hSW; (try dsimp only at hSW); have q0 := hSW.cell 1 rfl 0; have q1 := hSW.cell 1 rfl 1; have q2 := hSW.cell 1 rfl 2; have q3 := hSW.cell 1 rfl 3; have q4 := hSW.cell 1 rfl 4; simp only [List.getElem?_toArray, List.getElem?_cons_zero, List.getElem?_cons_succ] at q0 q1 q2 q3 q4; go_simp; try with_reducible rfl)
          simp only [Act.put, List.setIfInBounds_toArray, List.set_cons_zero, List.set_cons_succ]
          refine takeH 1 (v := ?v1u56) rfl (by kernel_rfl) (by kernel_rfl) (by kernel_rfl) rfl (fun _ _ _ h => h) (Or.inl ⟨by rfl, ?y1u56⟩) hHeld ?r1u56
          case y1u56 => (intro W hSW; (try dsimp only at hSW); go_simp; try with_reducible rfl)
          simp only [Act.put, List.setIfInBounds_toArray, List.set_cons_zero, List.set_cons_succ]
          refine takeH 2 (v := ?v2u57) rfl (by kernel_rfl) (by kernel_rfl) (by kernel_rfl) rfl (fun _ _ _ h => h) (Or.inl ⟨by rfl, ?y2u57⟩) hHeld ?r2u57
          case y2u57 => (intro W hSW; (try dsimp only at hSW); go_simp; try with_reducible rfl)
          simp only [Act.put, List.setIfInBounds_toArray, List.set_cons_zero, List.set_cons_succ]
          refine takeH 3 (v := ?v3u58) rfl (by kernel_rfl) (by kernel_rfl) (by kernel_rfl) rfl (fun _ _ _ h => h) (Or.inl ⟨by rfl, ?y3u58⟩) hHeld ?r3u58
          case y3u58 => (intro W hSW; (try dsimp only at hSW); go_simp; try with_reducible rfl)
          simp only [Act.put, List.setIfInBounds_toArray, List.set_cons_zero, List.set_cons_succ]
          refine takeH 4 (v := ?v4u59) rfl (by kernel_rfl) (by kernel_rfl) (by kernel_rfl) rfl (fun _ _ _ h => h) (Or.inl ⟨by rfl, ?y4u59⟩) hHeld ?r4u59
          case y4u59 => (intro W hSW; (try dsimp only at hSW); go_simp; try with_reducible rfl)
          simp only [Act.put, List.setIfInBounds_toArray, List.set_cons_zero, List.set_cons_succ]
          refine takeH 5 (v := ?v5u60) rfl (by kernel_rfl) (by kernel_rfl) (by kernel_rfl) rfl (fun _ _ _ h => h) (Or.inl ⟨by rfl, ?y5u60⟩) hHeld ?r5u60
          case y5u60 => (intro W hSW; (try dsimp only at hSW); go_simp; try with_reducible rfl)
          simp only [Act.put, List.setIfInBounds_toArray, List.set_cons_zero, List.set_cons_succ]
          refine takeH 6 (v := ?v6u61) rfl (by kernel_rfl) (by kernel_rfl) (by kernel_rfl) rfl (fun _ _ _ h => h) (Or.inl ⟨by rfl, ?y6u61⟩) hHeld ?r6u61
          case y6u61 => (intro W hSW; (try dsimp only at hSW); go_simp; try with_reducible rfl)
          simp only [Act.put, List.setIfInBounds_toArray, List.set_cons_zero, List.set_cons_succ]
          refine takeH 7 (v := ?v7u62) rfl (by kernel_rfl) (by kernel_rfl) (by kernel_rfl) rfl (fun _ _ _ h => h) (Or.inl ⟨by rfl, ?y7u62⟩) hHeld ?r7u62
          case y7u62 => (intro W hSW; (try dsimp only at hSW); go_simp; try with_reducible rfl)
          simp only [Act.put, List.setIfInBounds_toArray, List.set_cons_zero, List.set_cons_succ]
          refine wpAnyH_ready (rs := [8]) (by kernel_rfl) (by simp) ?_
          refine AllReadyH.cons rfl (fun K hK => ?_) AllReadyH.nil
          go_simp
          with_reducible refine (Read_n HT.out hrt _ (by simp; omega) (by rw [data_extract, HSD.out]; exact tok_cut hp kc (by rw [← HSZ.out]; exact hkl)) _ hHeld.bel hHeld.size).mono ?_
          rintro e' wn ⟨rfl, hbn⟩
          have hkn := hHeld.next hbn
          clear hbn
          refine hK.out _ _ hkn (fun hHeld => ?_)
          clear hK K
          try simp only [Act.put, List.setIfInBounds_toArray, List.set_cons_zero, List.set_cons_succ]
          refine takeH 9 (v := ?v9u63) rfl (by kernel_rfl) (by kernel_rfl) (by kernel_rfl) rfl (fun _ _ _ h => h) (Or.inl ⟨by rfl, ?y9u63⟩) hHeld ?r9u63
          case y9u63 => (intro W hSW; (try dsimp only at hSW); go_simp; try with_reducible rfl)
          simp only [Act.put, List.setIfInBounds_toArray, List.set_cons_zero, List.set_cons_succ]
          refine takeH 10 (v := ?v10u64) rfl (by kernel_rfl) (by kernel_rfl) (by kernel_rfl) rfl (fun _ _ _ h => h) (Or.inl ⟨by rfl, ?y10u64⟩) hHeld ?r10u64
          case y10u64 => (intro W hSW; (try dsimp only at hSW); go_simp; try with_reducible rfl)
          simp only [Act.put, List.setIfInBounds_toArray, List.set_cons_zero, List.set_cons_succ]
          refine takeH 11 (v := ?v11u65) rfl (by kernel_rfl) (by kernel_rfl) (by kernel_rfl) rfl (fun _ _ _ h => h) (Or.inl ⟨by rfl, ?y11u65⟩) hHeld ?r11u65
          case y11u65 => (intro W hSW; (try dsimp only at hSW); go_simp; try with_reducible rfl)
          simp only [Act.put, List.setIfInBounds_toArray, List.set_cons_zero, List.set_cons_succ]
          refine takeH 12 (v := ?v12u66) rfl (by kernel_rfl) (by kernel_rfl) (by kernel_rfl) rfl (fun _ _ _ h => h) (Or.inl ⟨by rfl, ?y12u66⟩) hHeld ?r12u66
          case y12u66 => (intro W hSW; (try dsimp only at hSW); go_simp; try with_reducible rfl)
          simp only [Act.put, List.setIfInBounds_toArray, List.set_cons_zero, List.set_cons_succ]
          refine takeH 13 (v := ?v13u67) rfl (by kernel_rfl) (by kernel_rfl) (by kernel_rfl) rfl (fun _ _ _ h => h) (Or.inl ⟨by rfl, ?y13u67⟩) hHeld ?r13u67
          case y13u67 => (intro W hSW; (try dsimp only at hSW); go_simp; try with_reducible rfl)
          simp only [Act.put, List.setIfInBounds_toArray, List.set_cons_zero, List.set_cons_succ]
          refine wpAnyH_done (by kernel_rfl) ?_ _
          refine NoPanic.normal ?_
          have HKn := Lib.hid hHeld
          clear hHeld HK8
          have c_f_0 : wn.cell? ⟨w.heap.size, 0, none⟩ = some (.int .i64 op) := HKn.out.cell 1 rfl 0
          have c_f_1 : wn.cell? ⟨w.heap.size, 1, none⟩ = some (.int .i64 a) := HKn.out.cell 1 rfl 1
          have c_f_2 : wn.cell? ⟨w.heap.size, 2, none⟩ = some (.int .i64 b) := HKn.out.cell 1 rfl 2
          have c_f_3 : wn.cell? ⟨w.heap.size, 3, none⟩ = some (.string name) := HKn.out.cell 1 rfl 3
          have c_f_4 : wn.cell? ⟨w.heap.size, 4, none⟩ = some (.slice A n c) := HKn.out.cell 1 rfl 4
          have hsz : (s.size : Int) + (more.size : Int) ≤ 9223372036854775807 := by omega
          have hsz2 : s.size + more.size ≤ 9223372036854775807 := by omega
          by_cases hme : more = ⟨#[]⟩
          · subst hme
            have hz : s ++ (⟨#[]⟩ : ByteArray) = s := by apply ByteArray.ext; simp [ByteArray.data_append]
            go_wp2_with fail
            with_reducible refine (Read_s HT.out hrt s (by omega) p (by rw [HSD.out]; exact (readF_iff ..).2 ⟨hp, rfl⟩) _ HKn.out.bel HKn.out.size).mono ?_
            rintro e xa ⟨rfl, hxa⟩
            clear c_f_0 c_f_1 c_f_2 c_f_3 c_f_4
            have HK9 := Lib.hid (show Kept w xa [(w.heap.size + 1, 36, #[.int .u8 ((f 0).toNat : Int), .int .u8 ((f 1).toNat : Int), .int .u8 ((f 2).toNat : Int)]), (w.heap.size, 24, #[.int .i64 op, .int .i64 a, .int .i64 b, .string name, .slice A n c])] from HKn.out.next hxa)
            clear HKn
            clear hxa
            go_wp2
            go_ret
            exact ⟨rfl, HK9.out.bel⟩
          have hml : more.data.toList ≠ [] := fun h => hme (ByteArray.ext (Array.toList_inj.1 h))
          have hmb : (more.toList == []) = false := by rw [ba_toList, beq_eq_false_iff_ne]; exact hml
          go_wp2_with fail
          with_reducible refine (Read_n HT.out hrt _ (by simp; omega) (by rw [data_append, HSD.out]; exact tok_more hp _ hml) _ HKn.out.bel HKn.out.size).mono ?_
          rintro e xa ⟨rfl, hxa⟩
          clear c_f_0 c_f_1 c_f_2 c_f_3 c_f_4
          have HK9 := Lib.hid (show Kept w xa [(w.heap.size + 1, 36, #[.int .u8 ((f 0).toNat : Int), .int .u8 ((f 1).toNat : Int), .int .u8 ((f 2).toNat : Int)]), (w.heap.size, 24, #[.int .i64 op, .int .i64 a, .int .i64 b, .string name, .slice A n c])] from HKn.out.next hxa)
          clear HKn
          clear hxa
          go_wp2
          go_ret
          exact ⟨rfl, HK9.out.bel⟩
    have hsn : (s.toList == tokB (bytesT t) p) = false := by rw [ba_toList, HSD.out, beq_eq_false_iff_ne]; exact fun h => hpq (tokB_inj hq hp h).symm
    have hpi : ¬ ((q : Int) = (p : Int)) := by omega
    have hpi2 : ((q : Int) == (p : Int)) = false := by rw [beq_eq_false_iff_ne]; omega
    have hpi3 : decide ((q : Int) = (p : Int)) = false := by simp; omega
    clear HTL HL5 HLp
    obtain ⟨g, cap, wz, hcv, hgw, HSR0, hbz⟩ := conv_string s w5
    rw [HSD.out] at HSR0
    have HSR := Lib.hid HSR0
    have HBZ := Lib.hid hbz
    clear HSR0 hbz
    have hgf : w.heap.size < g := by have := HK6.out.lt 1 rfl; omega
    have hgb : w.heap.size + 1 < g := by have := HK6.out.lt 0 rfl; omega
    obtain ⟨k, hk⟩ : ∃ k, an % (s.size - 2) = k := ⟨_, rfl⟩
    have hkn : k + 3 ≤ s.size := by have := Nat.mod_lt an (show 0 < s.size - 2 by omega); omega
    have hkc : (an : Int) % ((s.size : Int) - 2) = (k : Int) := by rw [← hk, Int.natCast_emod, Int.natCast_sub (by omega)]; rfl
    have hnz : ¬ ((s.size : Int) - 2 = 0) := by omega
    clear hk
    go_wp2
    try simp only [hkc]
    clear hkc hcv hnz
    go_loopw [23] (fun i wr => ∃ q3 : Nat, q3 ≤ 3 ∧ i = .int .i64 q3 ∧ Hid (Below w5.heap.size w5 wr) ∧ Hid (SRow wr g (setH (tokB (bytesT t) q) k q3 (digF f)))) (fun i _ => 3 - (intOf i).toNat)
    case atStart => exact ⟨0, Nat.zero_le _, rfl, HBZ, by rw [setH_zero]; exact HSR⟩
    case round =>
      obtain ⟨j, hj, rfl, HBw, HSw⟩ := hrel
      clear HSR HBZ
      by_cases hlt : j < 3
      · have c2 : wr.cell? ⟨w.heap.size + 1, j, none⟩ = some (.int .u8 ((f j).toNat : Int)) := by
          rcases (by omega : j = 0 ∨ j = 1 ∨ j = 2) with rfl | rfl | rfl
          · exact (HK6.out.next HBw.out).cell 0 rfl 0
          · exact (HK6.out.next HBw.out).cell 0 rfl 1
          · exact (HK6.out.next HBw.out).cell 0 rfl 2
        have hjl : k + j < (setH (tokB (bytesT t) q) k j (digF f)).length := by rw [setH_length, ← HSZ.out]; omega
        have c1 := HSw.out.2.1 (k + j) _ (List.getElem?_eq_getElem hjl)
        have c3 := HSw.out.2.2 (k + j) hjl
        obtain ⟨v, hv⟩ : ∃ v : Nat, (f j).toNat % 16 = v := ⟨_, rfl⟩
        have hv16 : v < 16 := by omega
        have hvc : ((f j).toNat : Int) % 16 = (v : Int) := by omega
        have HST := Lib.hid (HSw.out.set (k + j) hjl (digF f j))
        rw [setH_step _ _ _ _ (by rw [← HSZ.out]; omega), digF_int, hv] at HST
        have HBT := Lib.hid (HBw.out.setCell (p := ⟨g, k + j, none⟩) hgw (.int .u8 ((hexN v : Nat) : Int)))
        have i1 : (0 : Int) ≤ (j : Int) := by omega
        have i2 : (j : Int) < 3 := by omega
        have i3 : (0 : Int) ≤ (k : Int) + (j : Int) := by omega
        have i4 : (k : Int) + (j : Int) < (s.size : Int) := by omega
        have i5 : IntKind.i64.wrap ((k : Int) + (j : Int)) = (k : Int) + (j : Int) := IntWalk.i64_in _ (by omega)
        have i6 : ((k : Int) + (j : Int)).toNat = k + j := by omega
        clear hv
        go_wp2
        go_roundw
        case rel => exact ⟨j + 1, by omega, by go_num, by simpa [hexLit_get] using HBT, by simpa [hexLit_get] using HST⟩
        case measure => simp [intOf]; omega
      · obtain rfl : j = 3 := by omega
        clear hlt hj
        have HK7 := Lib.hid (show Kept w wr [(w.heap.size + 1, 36, #[.int .u8 ((f 0).toNat : Int), .int .u8 ((f 1).toNat : Int), .int .u8 ((f 2).toNat : Int)]), (w.heap.size, 24, #[.int .i64 op, .int .i64 a, .int .i64 b, .string name, .slice A n c])] from HK6.out.next HBw.out)
        clear HK6
        obtain ⟨b3, hb3⟩ : ∃ b3, setH (tokB (bytesT t) q) k 3 (digF f) = b3 := ⟨_, rfl⟩
        have hbl : b3.length = s.size := by rw [← hb3, setH_length, HSZ.out]
        have HBU := Lib.hid (fun hne : b3 ≠ tokB (bytesT t) q => tok_burst (E := bytesT t) (b := b3) (k := k) hq (by rw [← hb3, setH_length]) (fun j hj => by rw [← hb3]; exact setH_out _ _ _ _ _ hj) hne)
        rw [hb3] at HSw
        clear hb3
        have hcv := conv_reads (HSw.out.reads hbl) cap
        have c_f_0 : wr.cell? ⟨w.heap.size, 0, none⟩ = some (.int .i64 op) := HK7.out.cell 1 rfl 0
        have c_f_1 : wr.cell? ⟨w.heap.size, 1, none⟩ = some (.int .i64 a) := HK7.out.cell 1 rfl 1
        have c_f_2 : wr.cell? ⟨w.heap.size, 2, none⟩ = some (.int .i64 b) := HK7.out.cell 1 rfl 2
        have c_f_3 : wr.cell? ⟨w.heap.size, 3, none⟩ = some (.string name) := HK7.out.cell 1 rfl 3
        have c_f_4 : wr.cell? ⟨w.heap.size, 4, none⟩ = some (.slice A n c) := HK7.out.cell 1 rfl 4
        by_cases heq : b3 = tokB (bytesT t) q
        · have hsb : (b3 == s.toList) = true := by rw [ba_toList, HSD.out, heq]; simp
          have HEQ := Lib.hid heq
          clear heq
          go_wp2_with fail
          with_reducible refine (Read_s HT.out hrt _ (by simp [ByteArray.size]; omega) q (by simp only []; rw [HEQ.out]; exact (readF_iff ..).2 ⟨hq, rfl⟩) _ HK7.out.bel HK7.out.size).mono ?_
          rintro e x1 ⟨rfl, hx1⟩
          have HSx := Lib.hid (HSw.out.below hx1 HSw.out.1)
          clear HSw hcv
          have hcv := conv_reads (HSx.out.reads hbl) cap
          clear c_f_0 c_f_1 c_f_2 c_f_3 c_f_4
          have HK8 := Lib.hid (show Kept w x1 [(w.heap.size + 1, 36, #[.int .u8 ((f 0).toNat : Int), .int .u8 ((f 1).toNat : Int), .int .u8 ((f 2).toNat : Int)]), (w.heap.size, 24, #[.int .i64 op, .int .i64 a, .int .i64 b, .string name, .slice A n c])] from HK7.out.next hx1)
          clear HK7
          clear hx1
          have hnz : ¬ ((s.size : Int) = 0) := by omega
          obtain ⟨kc, hkc0⟩ : ∃ kc, cn % s.size = kc := ⟨_, rfl⟩
          have hkl : kc < s.size := by rw [← hkc0]; exact Nat.mod_lt _ (by omega)
          have hkc : (cn : Int) % (s.size : Int) = (kc : Int) := by rw [← hkc0, Int.natCast_emod]
          clear hkc0
          have hse : ¬ (s = ByteArray.empty) := by rintro rfl; simp at hs0
          have hwk : (IntKind.i64.wrap (cn : Int)).tmod (s.size : Int) = (kc : Int) := by rw [IntWalk.i64_in _ (by omega), Int.tmod_eq_emod_of_nonneg (by omega), hkc]
          have k0 : (0 : Int) ≤ (kc : Int) := by omega
          have k1 : (kc : Int) ≤ (s.size : Int) := by omega
          go_wp2_with fail
          refine wp_region_noPanic ?_
          refine wp_region_held_drew (S := fun W' => Kept w W' [(w.heap.size + 1, 36, #[.int .u8 ((f 0).toNat : Int), .int .u8 ((f 1).toNat : Int), .int .u8 ((f 2).toNat : Int)]), (w.heap.size, 24, #[.int .i64 op, .int .i64 a, .int .i64 b, .string name, .slice A n c])]) (by kernel_rfl) HK8.out.drew (fun hHeld => ?_)
          refine takeH 0 (v := ?v0u68) rfl (by kernel_rfl) (by kernel_rfl) (by kernel_rfl) rfl (fun _ _ _ h => h) (Or.inl ⟨by rfl, ?y0u68⟩) hHeld ?r0u68
          case y0u68 => (intro W hSW; (try dsimp only at hSW); have q0 := hSW.cell 1 rfl 0; have q1 := hSW.cell 1 rfl 1; have q2 := hSW.cell 1 rfl 2; have q3 := hSW.cell 1 rfl 3; have q4 := hSW.cell 1 rfl 4; simp only [List.getElem?_toArray, List.getElem?_cons_zero, List.getElem?_cons_succ] at q0 q1 q2 q3 q4; go_simp; try with_reducible rfl)
          simp only [Act.put, List.setIfInBounds_toArray, List.set_cons_zero, List.set_cons_succ]
          refine takeH 1 (v := ?v1u69) rfl (by kernel_rfl) (by kernel_rfl) (by kernel_rfl) rfl (fun _ _ _ h => h) (Or.inl ⟨by rfl, ?y1u69⟩) hHeld ?r1u69
          case y1u69 => (intro W hSW; (try dsimp only at hSW); go_simp; try with_reducible rfl)
          simp only [Act.put, List.setIfInBounds_toArray, List.set_cons_zero, List.set_cons_succ]
          refine takeH 2 (v := ?v2u70) rfl (by kernel_rfl) (by kernel_rfl) (by kernel_rfl) rfl (fun _ _ _ h => h) (Or.inl ⟨by rfl, ?y2u70⟩) hHeld ?r2u70
          case y2u70 => (intro W hSW; (try dsimp only at hSW); go_simp; try with_reducible rfl)
          simp only [Act.put, List.setIfInBounds_toArray, List.set_cons_zero, List.set_cons_succ]
          refine takeH 3 (v := ?v3u71) rfl (by kernel_rfl) (by kernel_rfl) (by kernel_rfl) rfl (fun _ _ _ h => h) (Or.inl ⟨by rfl, ?y3u71⟩) hHeld ?r3u71
          case y3u71 => (intro W hSW; (try dsimp only at hSW); go_simp; try with_reducible rfl)
          simp only [Act.put, List.setIfInBounds_toArray, List.set_cons_zero, List.set_cons_succ]
          refine takeH 4 (v := ?v4u72) rfl (by kernel_rfl) (by kernel_rfl) (by kernel_rfl) rfl (fun _ _ _ h => h) (Or.inl ⟨by rfl, ?y4u72⟩) hHeld ?r4u72
          case y4u72 => (intro W hSW; (try dsimp only at hSW); go_simp; try with_reducible rfl)
          simp only [Act.put, List.setIfInBounds_toArray, List.set_cons_zero, List.set_cons_succ]
          refine takeH 5 (v := ?v5u73) rfl (by kernel_rfl) (by kernel_rfl) (by kernel_rfl) rfl (fun _ _ _ h => h) (Or.inl ⟨by rfl, ?y5u73⟩) hHeld ?r5u73
          case y5u73 => (intro W hSW; (try dsimp only at hSW); go_simp; try with_reducible rfl)
          simp only [Act.put, List.setIfInBounds_toArray, List.set_cons_zero, List.set_cons_succ]
          refine takeH 6 (v := ?v6u74) rfl (by kernel_rfl) (by kernel_rfl) (by kernel_rfl) rfl (fun _ _ _ h => h) (Or.inl ⟨by rfl, ?y6u74⟩) hHeld ?r6u74
          case y6u74 => (intro W hSW; (try dsimp only at hSW); go_simp; try with_reducible rfl)
          simp only [Act.put, List.setIfInBounds_toArray, List.set_cons_zero, List.set_cons_succ]
          refine takeH 7 (v := ?v7u75) rfl (by kernel_rfl) (by kernel_rfl) (by kernel_rfl) rfl (fun _ _ _ h => h) (Or.inl ⟨by rfl, ?y7u75⟩) hHeld ?r7u75
          case y7u75 => (intro W hSW; (try dsimp only at hSW); go_simp; try with_reducible rfl)
          simp only [Act.put, List.setIfInBounds_toArray, List.set_cons_zero, List.set_cons_succ]
          refine wpAnyH_ready (rs := [8]) (by kernel_rfl) (by simp) ?_
          refine AllReadyH.cons rfl (fun K hK => ?_) AllReadyH.nil
          go_simp
          with_reducible refine (Read_n HT.out hrt _ (by simp; omega) (by rw [data_extract, HSD.out]; exact tok_cut hq kc (by rw [← HSZ.out]; exact hkl)) _ hHeld.bel hHeld.size).mono ?_
          rintro e' wn ⟨rfl, hbn⟩
          have hkn := hHeld.next hbn
          clear hbn
          refine hK.out _ _ hkn (fun hHeld => ?_)
          clear hK K
          try simp only [Act.put, List.setIfInBounds_toArray, List.set_cons_zero, List.set_cons_succ]
          refine takeH 9 (v := ?v9u76) rfl (by kernel_rfl) (by kernel_rfl) (by kernel_rfl) rfl (fun _ _ _ h => h) (Or.inl ⟨by rfl, ?y9u76⟩) hHeld ?r9u76
          case y9u76 => (intro W hSW; (try dsimp only at hSW); go_simp; try with_reducible rfl)
          simp only [Act.put, List.setIfInBounds_toArray, List.set_cons_zero, List.set_cons_succ]
          refine takeH 10 (v := ?v10u77) rfl (by kernel_rfl) (by kernel_rfl) (by kernel_rfl) rfl (fun _ _ _ h => h) (Or.inl ⟨by rfl, ?y10u77⟩) hHeld ?r10u77
          case y10u77 => (intro W hSW; (try dsimp only at hSW); go_simp; try with_reducible rfl)
          simp only [Act.put, List.setIfInBounds_toArray, List.set_cons_zero, List.set_cons_succ]
          refine takeH 11 (v := ?v11u78) rfl (by kernel_rfl) (by kernel_rfl) (by kernel_rfl) rfl (fun _ _ _ h => h) (Or.inl ⟨by rfl, ?y11u78⟩) hHeld ?r11u78
          case y11u78 => (intro W hSW; (try dsimp only at hSW); go_simp; try with_reducible rfl)
          simp only [Act.put, List.setIfInBounds_toArray, List.set_cons_zero, List.set_cons_succ]
          refine takeH 12 (v := ?v12u79) rfl (by kernel_rfl) (by kernel_rfl) (by kernel_rfl) rfl (fun _ _ _ h => h) (Or.inl ⟨by rfl, ?y12u79⟩) hHeld ?r12u79
          case y12u79 => (intro W hSW; (try dsimp only at hSW); go_simp; try with_reducible rfl)
          simp only [Act.put, List.setIfInBounds_toArray, List.set_cons_zero, List.set_cons_succ]
          refine takeH 13 (v := ?v13u80) rfl (by kernel_rfl) (by kernel_rfl) (by kernel_rfl) rfl (fun _ _ _ h => h) (Or.inl ⟨by rfl, ?y13u80⟩) hHeld ?r13u80
          case y13u80 => (intro W hSW; (try dsimp only at hSW); go_simp; try with_reducible rfl)
          simp only [Act.put, List.setIfInBounds_toArray, List.set_cons_zero, List.set_cons_succ]
          refine wpAnyH_done (by kernel_rfl) ?_ _
          refine NoPanic.normal ?_
          have HKn := Lib.hid hHeld
          clear hHeld HK8
          have c_f_0 : wn.cell? ⟨w.heap.size, 0, none⟩ = some (.int .i64 op) := HKn.out.cell 1 rfl 0
          have c_f_1 : wn.cell? ⟨w.heap.size, 1, none⟩ = some (.int .i64 a) := HKn.out.cell 1 rfl 1
          have c_f_2 : wn.cell? ⟨w.heap.size, 2, none⟩ = some (.int .i64 b) := HKn.out.cell 1 rfl 2
          have c_f_3 : wn.cell? ⟨w.heap.size, 3, none⟩ = some (.string name) := HKn.out.cell 1 rfl 3
          have c_f_4 : wn.cell? ⟨w.heap.size, 4, none⟩ = some (.slice A n c) := HKn.out.cell 1 rfl 4
          have hsz : (s.size : Int) + (more.size : Int) ≤ 9223372036854775807 := by omega
          have hsz2 : s.size + more.size ≤ 9223372036854775807 := by omega
          by_cases hme : more = ⟨#[]⟩
          · subst hme
            have hz : s ++ (⟨#[]⟩ : ByteArray) = s := by apply ByteArray.ext; simp [ByteArray.data_append]
            go_wp2_with fail
            with_reducible refine (Read_s HT.out hrt s (by omega) q (by rw [HSD.out]; exact (readF_iff ..).2 ⟨hq, rfl⟩) _ HKn.out.bel HKn.out.size).mono ?_
            rintro e xa ⟨rfl, hxa⟩
            clear c_f_0 c_f_1 c_f_2 c_f_3 c_f_4
            have HK9 := Lib.hid (show Kept w xa [(w.heap.size + 1, 36, #[.int .u8 ((f 0).toNat : Int), .int .u8 ((f 1).toNat : Int), .int .u8 ((f 2).toNat : Int)]), (w.heap.size, 24, #[.int .i64 op, .int .i64 a, .int .i64 b, .string name, .slice A n c])] from HKn.out.next hxa)
            clear HKn
            clear hxa
            go_wp2
            go_ret
            exact ⟨rfl, HK9.out.bel⟩
          have hml : more.data.toList ≠ [] := fun h => hme (ByteArray.ext (Array.toList_inj.1 h))
          have hmb : (more.toList == []) = false := by rw [ba_toList, beq_eq_false_iff_ne]; exact hml
          go_wp2_with fail
          with_reducible refine (Read_n HT.out hrt _ (by simp; omega) (by rw [data_append, HSD.out]; exact tok_more hq _ hml) _ HKn.out.bel HKn.out.size).mono ?_
          rintro e xa ⟨rfl, hxa⟩
          clear c_f_0 c_f_1 c_f_2 c_f_3 c_f_4
          have HK9 := Lib.hid (show Kept w xa [(w.heap.size + 1, 36, #[.int .u8 ((f 0).toNat : Int), .int .u8 ((f 1).toNat : Int), .int .u8 ((f 2).toNat : Int)]), (w.heap.size, 24, #[.int .i64 op, .int .i64 a, .int .i64 b, .string name, .slice A n c])] from HKn.out.next hxa)
          clear HKn
          clear hxa
          go_wp2
          go_ret
          exact ⟨rfl, HK9.out.bel⟩
        have hsb : (b3 == s.toList) = false := by rw [ba_toList, HSD.out, beq_eq_false_iff_ne]; exact heq
        have HEQ := Lib.hid heq
        clear heq
        go_wp2_with fail
        with_reducible refine (Read_n HT.out hrt _ (by simp [ByteArray.size]; omega) (HBU.out HEQ.out) _ HK7.out.bel HK7.out.size).mono ?_
        rintro e x1 ⟨rfl, hx1⟩
        have HSx := Lib.hid (HSw.out.below hx1 HSw.out.1)
        clear HSw hcv
        have hcv := conv_reads (HSx.out.reads hbl) cap
        clear c_f_0 c_f_1 c_f_2 c_f_3 c_f_4
        have HK8 := Lib.hid (show Kept w x1 [(w.heap.size + 1, 36, #[.int .u8 ((f 0).toNat : Int), .int .u8 ((f 1).toNat : Int), .int .u8 ((f 2).toNat : Int)]), (w.heap.size, 24, #[.int .i64 op, .int .i64 a, .int .i64 b, .string name, .slice A n c])] from HK7.out.next hx1)
        clear HK7
        clear hx1
        have hnz : ¬ ((s.size : Int) = 0) := by omega
        obtain ⟨kc, hkc0⟩ : ∃ kc, cn % s.size = kc := ⟨_, rfl⟩
        have hkl : kc < s.size := by rw [← hkc0]; exact Nat.mod_lt _ (by omega)
        have hkc : (cn : Int) % (s.size : Int) = (kc : Int) := by rw [← hkc0, Int.natCast_emod]
        clear hkc0
        have hse : ¬ (s = ByteArray.empty) := by rintro rfl; simp at hs0
        have hwk : (IntKind.i64.wrap (cn : Int)).tmod (s.size : Int) = (kc : Int) := by rw [IntWalk.i64_in _ (by omega), Int.tmod_eq_emod_of_nonneg (by omega), hkc]
        have k0 : (0 : Int) ≤ (kc : Int) := by omega
        have k1 : (kc : Int) ≤ (s.size : Int) := by omega
        go_wp2_with fail
        refine wp_region_noPanic ?_
        refine wp_region_held_drew (S := fun W' => Kept w W' [(w.heap.size + 1, 36, #[.int .u8 ((f 0).toNat : Int), .int .u8 ((f 1).toNat : Int), .int .u8 ((f 2).toNat : Int)]), (w.heap.size, 24, #[.int .i64 op, .int .i64 a, .int .i64 b, .string name, .slice A n c])]) (by kernel_rfl) HK8.out.drew (fun hHeld => ?_)
        refine takeH 0 (v := ?v0u81) rfl (by kernel_rfl) (by kernel_rfl) (by kernel_rfl) rfl (fun _ _ _ h => h) (Or.inl ⟨by rfl, ?y0u81⟩) hHeld ?r0u81
        case y0u81 => (intro W hSW; (try dsimp only at hSW); have q0 := hSW.cell 1 rfl 0; have q1 := hSW.cell 1 rfl 1; have q2 := hSW.cell 1 rfl 2; have q3 := hSW.cell 1 rfl 3; have q4 := hSW.cell 1 rfl 4; simp only [List.getElem?_toArray, List.getElem?_cons_zero, List.getElem?_cons_succ] at q0 q1 q2 q3 q4; go_simp; try with_reducible rfl)
        simp only [Act.put, List.setIfInBounds_toArray, List.set_cons_zero, List.set_cons_succ]
        refine takeH 1 (v := ?v1u82) rfl (by kernel_rfl) (by kernel_rfl) (by kernel_rfl) rfl (fun _ _ _ h => h) (Or.inl ⟨by rfl, ?y1u82⟩) hHeld ?r1u82
        case y1u82 => (intro W hSW; (try dsimp only at hSW); go_simp; try with_reducible rfl)
        simp only [Act.put, List.setIfInBounds_toArray, List.set_cons_zero, List.set_cons_succ]
        refine takeH 2 (v := ?v2u83) rfl (by kernel_rfl) (by kernel_rfl) (by kernel_rfl) rfl (fun _ _ _ h => h) (Or.inl ⟨by rfl, ?y2u83⟩) hHeld ?r2u83
        case y2u83 => (intro W hSW; (try dsimp only at hSW); go_simp; try with_reducible rfl)
        simp only [Act.put, List.setIfInBounds_toArray, List.set_cons_zero, List.set_cons_succ]
        refine takeH 3 (v := ?v3u84) rfl (by kernel_rfl) (by kernel_rfl) (by kernel_rfl) rfl (fun _ _ _ h => h) (Or.inl ⟨by rfl, ?y3u84⟩) hHeld ?r3u84
        case y3u84 => (intro W hSW; (try dsimp only at hSW); go_simp; try with_reducible rfl)
        simp only [Act.put, List.setIfInBounds_toArray, List.set_cons_zero, List.set_cons_succ]
        refine takeH 4 (v := ?v4u85) rfl (by kernel_rfl) (by kernel_rfl) (by kernel_rfl) rfl (fun _ _ _ h => h) (Or.inl ⟨by rfl, ?y4u85⟩) hHeld ?r4u85
        case y4u85 => (intro W hSW; (try dsimp only at hSW); go_simp; try with_reducible rfl)
        simp only [Act.put, List.setIfInBounds_toArray, List.set_cons_zero, List.set_cons_succ]
        refine takeH 5 (v := ?v5u86) rfl (by kernel_rfl) (by kernel_rfl) (by kernel_rfl) rfl (fun _ _ _ h => h) (Or.inl ⟨by rfl, ?y5u86⟩) hHeld ?r5u86
        case y5u86 => (intro W hSW; (try dsimp only at hSW); go_simp; try with_reducible rfl)
        simp only [Act.put, List.setIfInBounds_toArray, List.set_cons_zero, List.set_cons_succ]
        refine takeH 6 (v := ?v6u87) rfl (by kernel_rfl) (by kernel_rfl) (by kernel_rfl) rfl (fun _ _ _ h => h) (Or.inl ⟨by rfl, ?y6u87⟩) hHeld ?r6u87
        case y6u87 => (intro W hSW; (try dsimp only at hSW); go_simp; try with_reducible rfl)
        simp only [Act.put, List.setIfInBounds_toArray, List.set_cons_zero, List.set_cons_succ]
        refine takeH 7 (v := ?v7u88) rfl (by kernel_rfl) (by kernel_rfl) (by kernel_rfl) rfl (fun _ _ _ h => h) (Or.inl ⟨by rfl, ?y7u88⟩) hHeld ?r7u88
        case y7u88 => (intro W hSW; (try dsimp only at hSW); go_simp; try with_reducible rfl)
        simp only [Act.put, List.setIfInBounds_toArray, List.set_cons_zero, List.set_cons_succ]
        refine wpAnyH_ready (rs := [8]) (by kernel_rfl) (by simp) ?_
        refine AllReadyH.cons rfl (fun K hK => ?_) AllReadyH.nil
        go_simp
        with_reducible refine (Read_n HT.out hrt _ (by simp; omega) (by rw [data_extract, HSD.out]; exact tok_cut hq kc (by rw [← HSZ.out]; exact hkl)) _ hHeld.bel hHeld.size).mono ?_
        rintro e' wn ⟨rfl, hbn⟩
        have hkn := hHeld.next hbn
        clear hbn
        refine hK.out _ _ hkn (fun hHeld => ?_)
        clear hK K
        try simp only [Act.put, List.setIfInBounds_toArray, List.set_cons_zero, List.set_cons_succ]
        refine takeH 9 (v := ?v9u89) rfl (by kernel_rfl) (by kernel_rfl) (by kernel_rfl) rfl (fun _ _ _ h => h) (Or.inl ⟨by rfl, ?y9u89⟩) hHeld ?r9u89
        case y9u89 => (intro W hSW; (try dsimp only at hSW); go_simp; try with_reducible rfl)
        simp only [Act.put, List.setIfInBounds_toArray, List.set_cons_zero, List.set_cons_succ]
        refine takeH 10 (v := ?v10u90) rfl (by kernel_rfl) (by kernel_rfl) (by kernel_rfl) rfl (fun _ _ _ h => h) (Or.inl ⟨by rfl, ?y10u90⟩) hHeld ?r10u90
        case y10u90 => (intro W hSW; (try dsimp only at hSW); go_simp; try with_reducible rfl)
        simp only [Act.put, List.setIfInBounds_toArray, List.set_cons_zero, List.set_cons_succ]
        refine takeH 11 (v := ?v11u91) rfl (by kernel_rfl) (by kernel_rfl) (by kernel_rfl) rfl (fun _ _ _ h => h) (Or.inl ⟨by rfl, ?y11u91⟩) hHeld ?r11u91
        case y11u91 => (intro W hSW; (try dsimp only at hSW); go_simp; try with_reducible rfl)
        simp only [Act.put, List.setIfInBounds_toArray, List.set_cons_zero, List.set_cons_succ]
        refine takeH 12 (v := ?v12u92) rfl (by kernel_rfl) (by kernel_rfl) (by kernel_rfl) rfl (fun _ _ _ h => h) (Or.inl ⟨by rfl, ?y12u92⟩) hHeld ?r12u92
        case y12u92 => (intro W hSW; (try dsimp only at hSW); go_simp; try with_reducible rfl)
        simp only [Act.put, List.setIfInBounds_toArray, List.set_cons_zero, List.set_cons_succ]
        refine takeH 13 (v := ?v13u93) rfl (by kernel_rfl) (by kernel_rfl) (by kernel_rfl) rfl (fun _ _ _ h => h) (Or.inl ⟨by rfl, ?y13u93⟩) hHeld ?r13u93
        case y13u93 => (intro W hSW; (try dsimp only at hSW); go_simp; try with_reducible rfl)
        simp only [Act.put, List.setIfInBounds_toArray, List.set_cons_zero, List.set_cons_succ]
        refine wpAnyH_done (by kernel_rfl) ?_ _
        refine NoPanic.normal ?_
        have HKn := Lib.hid hHeld
        clear hHeld HK8
        have c_f_0 : wn.cell? ⟨w.heap.size, 0, none⟩ = some (.int .i64 op) := HKn.out.cell 1 rfl 0
        have c_f_1 : wn.cell? ⟨w.heap.size, 1, none⟩ = some (.int .i64 a) := HKn.out.cell 1 rfl 1
        have c_f_2 : wn.cell? ⟨w.heap.size, 2, none⟩ = some (.int .i64 b) := HKn.out.cell 1 rfl 2
        have c_f_3 : wn.cell? ⟨w.heap.size, 3, none⟩ = some (.string name) := HKn.out.cell 1 rfl 3
        have c_f_4 : wn.cell? ⟨w.heap.size, 4, none⟩ = some (.slice A n c) := HKn.out.cell 1 rfl 4
        have hsz : (s.size : Int) + (more.size : Int) ≤ 9223372036854775807 := by omega
        have hsz2 : s.size + more.size ≤ 9223372036854775807 := by omega
        by_cases hme : more = ⟨#[]⟩
        · subst hme
          have hz : s ++ (⟨#[]⟩ : ByteArray) = s := by apply ByteArray.ext; simp [ByteArray.data_append]
          go_wp2_with fail
          with_reducible refine (Read_s HT.out hrt s (by omega) q (by rw [HSD.out]; exact (readF_iff ..).2 ⟨hq, rfl⟩) _ HKn.out.bel HKn.out.size).mono ?_
          rintro e xa ⟨rfl, hxa⟩
          clear c_f_0 c_f_1 c_f_2 c_f_3 c_f_4
          have HK9 := Lib.hid (show Kept w xa [(w.heap.size + 1, 36, #[.int .u8 ((f 0).toNat : Int), .int .u8 ((f 1).toNat : Int), .int .u8 ((f 2).toNat : Int)]), (w.heap.size, 24, #[.int .i64 op, .int .i64 a, .int .i64 b, .string name, .slice A n c])] from HKn.out.next hxa)
          clear HKn
          clear hxa
          go_wp2
          go_ret
          exact ⟨rfl, HK9.out.bel⟩
        have hml : more.data.toList ≠ [] := fun h => hme (ByteArray.ext (Array.toList_inj.1 h))
        have hmb : (more.toList == []) = false := by rw [ba_toList, beq_eq_false_iff_ne]; exact hml
        go_wp2_with fail
        with_reducible refine (Read_n HT.out hrt _ (by simp; omega) (by rw [data_append, HSD.out]; exact tok_more hq _ hml) _ HKn.out.bel HKn.out.size).mono ?_
        rintro e xa ⟨rfl, hxa⟩
        clear c_f_0 c_f_1 c_f_2 c_f_3 c_f_4
        have HK9 := Lib.hid (show Kept w xa [(w.heap.size + 1, 36, #[.int .u8 ((f 0).toNat : Int), .int .u8 ((f 1).toNat : Int), .int .u8 ((f 2).toNat : Int)]), (w.heap.size, 24, #[.int .i64 op, .int .i64 a, .int .i64 b, .string name, .slice A n c])] from HKn.out.next hxa)
        clear HKn
        clear hxa
        go_wp2
        go_ret
        exact ⟨rfl, HK9.out.bel⟩
end Go.Proofs.Ytadidldkphimfaa
