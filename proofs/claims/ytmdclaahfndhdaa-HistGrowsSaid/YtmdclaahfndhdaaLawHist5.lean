/- The walk of the law HistGrows. -/
import Derived.Test.YtmdclaahfndhdaaLawHist4
import Derived.Test.YtmdclaahfndhdaaHistG
import Derived.Deep.Cut
import Derived.Deep.DeepCutAuto
namespace Go.Proofs.Ytmdclaahfndhdaa
set_option linter.unusedVariables false
open Go.RowKit

set_option maxRecDepth 100000 in
set_option maxHeartbeats 8000000 in
theorem HistGrows_walk (A : Option Addr) (n c : Nat) (zs : List Int) (part : Int) (w : World) (hz : IntArg .i32 w A n c zs) :
    Calls Try.prog 13 #[.slice A n c, .int .i64 part] w fun e w' => e = .returned (.bool true) ∧ Below w.heap.size w w' := by
  obtain ⟨hr, hnc, hcm, hnil, hwf⟩ := hz
  unfold maxLen at hcm
  have hl : zs.length = n := by simpa using hr.1
  have HL := Lib.hid hl; clear hl
  have HWF := Lib.hid hwf; clear hwf
  by_cases h60 : n ≤ 60
  · have HZB := Lib.hid (show ∀ z ∈ zs, z ≤ 2147483647 from fun z hz => (bounds_i32 (HWF.out z hz)).2)
    go_enter Try.func13, Try.ntmps13
    go_wp2_with fail
    refine (Hist_awake _).mono ?_
    rintro e w1 ⟨rfl, hb1⟩
    have hz1 := hb1.size
    clear hnil hnc
    go_wp2
    go_loopw [6, 7, 8] (fun t m i wr => ∃ k : Nat, k ≤ n ∧ i = .int .i64 k ∧ t = .int .i64 (sumN (zs.take k)) ∧ m = .int .i64 (manyN (zs.take k)) ∧ Hid (Blk wr w1.heap.size 62 (cells10 (addAll (fun _ => 0) 0 (zs.take k)))) ∧ Below w.heap.size w wr) (fun _ _ i _ => n - (intOf i).toNat)
    case atStart => exact ⟨0, Nat.zero_le _, rfl, rfl, rfl, Blk.new w1 _ _, hb1.alloc hz1 _⟩
    case round =>
      obtain ⟨k, hk, rfl, rfl, rfl, HA, hbr⟩ := hrel
      by_cases hlt : k < n
      · have hrr := hr.below hbr
        obtain ⟨ad, u, rfl, hb, hx, hc⟩ := hrr.at_ hlt
        obtain ⟨x, hx', rfl⟩ : ∃ x, zs[k]? = some x ∧ Value.int .i32 x = u := by simpa using hx
        have hxb := bounds_i32 (HWF.out x (List.mem_of_getElem? hx'))
        have HX := Lib.hid (take_succ_i zs k x hx')
        have EX := Lib.hid (show addAll (fun _ => 0) 0 (zs.take (k + 1)) = (addF (addAll (fun _ => 0) 0 (zs.take k)).1 (addAll (fun _ => 0) 0 (zs.take k)).2 x, addS (addAll (fun _ => 0) 0 (zs.take k)).1 (addAll (fun _ => 0) 0 (zs.take k)).2 x) from by rw [HX.out, addAll_snoc])
        have ES := Lib.hid (show sumN (zs.take (k + 1)) = _ from (congrArg sumN HX.out).trans (sumN_snoc _ _))
        have EM := Lib.hid (show manyN (zs.take (k + 1)) = _ from (congrArg manyN HX.out).trans (manyN_snoc _ _))
        have hsb := sumN_bd (zs.take k) (fun z hz => HZB.out z (List.mem_of_mem_take hz))
        have hmb := manyN_bd (zs.take k)
        have hlk : (zs.take k).length ≤ 60 := by rw [List.length_take]; omega
        obtain ⟨fa, sa, hpa⟩ : ∃ fa sa, addAll (fun _ => 0) 0 (zs.take k) = (fa, sa) := ⟨_, _, rfl⟩
        rw [hpa] at HA EX
        have hi0 : (0 : Int) ≤ (k : Int) := by omega
        have hi1 : (k : Int) < (n : Int) := by omega
        have hwx : IntKind.i64.wrap x = x := IntWalk.i64_in _ (by omega)
        clear hx hx' hpa HX hrr
        obtain ⟨a0, a1, a2, a3, a4, a5, a6, a7, a8, a9⟩ := cells10_get _ HA.out
        simp only at a0 a1 a2 a3 a4 a5 a6 a7 a8 a9
        have hadb := hb
        go_wp2
        go_still_tail 6, (by kernel_rfl)
        change wpList _ _ _ _ _ wr.drew
        go_wp2_with fail
        refine (Add_h fa sa x _).mono ?_
        rintro e w2 ⟨rfl, hb2⟩
        have hb2' : Below wr.heap.size wr w2 := ((Below.refl wr.heap.size wr).drew).trans hb2
        have HA2 := Lib.hid (HA.out.belowTop hb2')
        have hbr2 := hbr.trans (hb2'.mono hbr.size)
        have hc2 : w2.cell? (ad.add k) = some (.int .i32 x) := (hb2'.cell (by rw [block_of_add]; have := hbr.size; omega)).trans hc
        clear a0 a1 a2 a3 a4 a5 a6 a7 a8 a9
        obtain ⟨a0, a1, a2, a3, a4, a5, a6, a7, a8, a9⟩ := cells10_get _ HA2.out
        simp only at a0 a1 a2 a3 a4 a5 a6 a7 a8 a9
        have az : ∀ i : Nat, w2.frozen? (⟨w1.heap.size, i, none⟩ : Addr) = false := fun i => HA2.out.frozen i
        clear hb2 hc HA
        have HA3 : Hid (Blk ((((((((((w2.setCell ⟨w1.heap.size, 0, none⟩ (.int .i64 (addF fa sa x 0))).setCell ⟨w1.heap.size, 1, none⟩ (.int .i64 (addF fa sa x 1))).setCell ⟨w1.heap.size, 2, none⟩ (.int .i64 (addF fa sa x 2))).setCell ⟨w1.heap.size, 3, none⟩ (.int .i64 (addF fa sa x 3))).setCell ⟨w1.heap.size, 4, none⟩ (.int .i64 (addF fa sa x 4))).setCell ⟨w1.heap.size, 5, none⟩ (.int .i64 (addF fa sa x 5))).setCell ⟨w1.heap.size, 6, none⟩ (.int .i64 (addF fa sa x 6))).setCell ⟨w1.heap.size, 7, none⟩ (.int .i64 (addF fa sa x 7))).setCell ⟨w1.heap.size, 8, none⟩ (.int .i64 (addF fa sa x 8))).setCell ⟨w1.heap.size, 9, none⟩ (.int .i64 (addS fa sa x))) w1.heap.size 62 (cells10 (addF fa sa x, addS fa sa x))) := store10 (addF fa sa x, addS fa sa x) HA2.out
        have hbr3 : Below w.heap.size w ((((((((((w2.setCell ⟨w1.heap.size, 0, none⟩ (.int .i64 (addF fa sa x 0))).setCell ⟨w1.heap.size, 1, none⟩ (.int .i64 (addF fa sa x 1))).setCell ⟨w1.heap.size, 2, none⟩ (.int .i64 (addF fa sa x 2))).setCell ⟨w1.heap.size, 3, none⟩ (.int .i64 (addF fa sa x 3))).setCell ⟨w1.heap.size, 4, none⟩ (.int .i64 (addF fa sa x 4))).setCell ⟨w1.heap.size, 5, none⟩ (.int .i64 (addF fa sa x 5))).setCell ⟨w1.heap.size, 6, none⟩ (.int .i64 (addF fa sa x 6))).setCell ⟨w1.heap.size, 7, none⟩ (.int .i64 (addF fa sa x 7))).setCell ⟨w1.heap.size, 8, none⟩ (.int .i64 (addF fa sa x 8))).setCell ⟨w1.heap.size, 9, none⟩ (.int .i64 (addS fa sa x))) := store10_below (addF fa sa x, addS fa sa x) hbr2 (by omega)
        have hc3 : ((((((((((w2.setCell ⟨w1.heap.size, 0, none⟩ (.int .i64 (addF fa sa x 0))).setCell ⟨w1.heap.size, 1, none⟩ (.int .i64 (addF fa sa x 1))).setCell ⟨w1.heap.size, 2, none⟩ (.int .i64 (addF fa sa x 2))).setCell ⟨w1.heap.size, 3, none⟩ (.int .i64 (addF fa sa x 3))).setCell ⟨w1.heap.size, 4, none⟩ (.int .i64 (addF fa sa x 4))).setCell ⟨w1.heap.size, 5, none⟩ (.int .i64 (addF fa sa x 5))).setCell ⟨w1.heap.size, 6, none⟩ (.int .i64 (addF fa sa x 6))).setCell ⟨w1.heap.size, 7, none⟩ (.int .i64 (addF fa sa x 7))).setCell ⟨w1.heap.size, 8, none⟩ (.int .i64 (addF fa sa x 8))).setCell ⟨w1.heap.size, 9, none⟩ (.int .i64 (addS fa sa x))).cell? (ad.add k) = some (.int .i32 x) := (Below.cell (store10_below (B := w.heap.size) (addF fa sa x, addS fa sa x) (Below.refl _ w2) (by omega)) (by rw [block_of_add]; exact hadb)).trans hc2
        rw [← EX.out] at HA3
        go_upto_region 11 with (fail)
        clear a0 a1 a2 a3 a4 a5 a6 a7 a8 a9 az HA2 hbr2 hbr hb2' hc2
        generalize ((((((((((w2.setCell ⟨w1.heap.size, 0, none⟩ (.int .i64 (addF fa sa x 0))).setCell ⟨w1.heap.size, 1, none⟩ (.int .i64 (addF fa sa x 1))).setCell ⟨w1.heap.size, 2, none⟩ (.int .i64 (addF fa sa x 2))).setCell ⟨w1.heap.size, 3, none⟩ (.int .i64 (addF fa sa x 3))).setCell ⟨w1.heap.size, 4, none⟩ (.int .i64 (addF fa sa x 4))).setCell ⟨w1.heap.size, 5, none⟩ (.int .i64 (addF fa sa x 5))).setCell ⟨w1.heap.size, 6, none⟩ (.int .i64 (addF fa sa x 6))).setCell ⟨w1.heap.size, 7, none⟩ (.int .i64 (addF fa sa x 7))).setCell ⟨w1.heap.size, 8, none⟩ (.int .i64 (addF fa sa x 8))).setCell ⟨w1.heap.size, 9, none⟩ (.int .i64 (addS fa sa x))) = w3 at HA3 hbr3 hc3 ⊢
        by_cases h0 : 0 ≤ x
        · have ES' := ES.out; have EM' := EM.out
          rw [if_pos h0] at ES' EM'
          have ES2 := Lib.hid ES'; have EM2 := Lib.hid EM'
          clear ES' EM' ES EM
          go_wp2
          go_roundw
          case rel => exact ⟨k + 1, by omega, by go_num, by rw [ES2.out], by rw [EM2.out], HA3, hbr3⟩
          case measure => simp [intOf]; omega
        · have ES' := ES.out; have EM' := EM.out
          rw [if_neg h0, Int.add_zero] at ES' EM'
          have ES2 := Lib.hid ES'; have EM2 := Lib.hid EM'
          clear ES' EM' ES EM
          go_wp2
          go_roundw
          case rel => exact ⟨k + 1, by omega, by go_num, by rw [ES2.out], by rw [EM2.out], HA3, hbr3⟩
          case measure => simp [intOf]; omega
      · have HT := Lib.hid (List.take_of_length_le (l := zs) (i := k) (by rw [HL.out]; omega))
        rw [HT.out] at HA ⊢
        obtain ⟨f, s, hp⟩ : ∃ f s, addAll (fun _ => 0) 0 zs = (f, s) := ⟨_, _, rfl⟩
        obtain ⟨hR, hS, h8, hbk⟩ := grown_facts zs (by rw [HL.out]; exact h60) HZB.out f s hp
        rw [hp] at HA
        have hMb := manyN_bd zs
        rw [HL.out] at hMb
        have HBK := Lib.hid hbk
        have H8 := Lib.hid h8
        have HS : (s != sumN zs) = false := by rw [hS]; simp
        have HM : (belowF f s 8 != manyN zs) = false := by rw [h8]; simp
        clear hbk h8 hS hp HT
        obtain ⟨a0, a1, a2, a3, a4, a5, a6, a7, a8, a9⟩ := cells10_get _ HA.out
        simp only at a0 a1 a2 a3 a4 a5 a6 a7 a8 a9
        go_wp2_with fail
        refine (Below_h f s _).mono ?_
        rintro e w4 ⟨rfl, hb4⟩
        have HA4 := Lib.hid (HA.out.belowTop hb4)
        have hbr4 := hbr.trans (hb4.mono hbr.size)
        clear a0 a1 a2 a3 a4 a5 a6 a7 a8 a9 HA hb4
        have HA5 := Lib.hid (HA4.out.alloc (.cells #[.int .i64 (belowF f s 0), .int .i64 (belowF f s 1), .int .i64 (belowF f s 2), .int .i64 (belowF f s 3), .int .i64 (belowF f s 4), .int .i64 (belowF f s 5), .int .i64 (belowF f s 6), .int .i64 (belowF f s 7), .int .i64 (belowF f s 8)] 60))
        obtain ⟨a0, a1, a2, a3, a4, a5, a6, a7, a8, a9⟩ := cells10_get _ HA5.out
        simp only at a0 a1 a2 a3 a4 a5 a6 a7 a8 a9
        go_wp2_with fail
        refine (Right_h f s _).mono ?_
        rintro e w5 ⟨rfl, hb5⟩
        rw [hR]
        have HA6 := Lib.hid (HA5.out.belowTop hb5)
        have HB6 : Hid (Blk w5 w4.heap.size 60 (lit9 (belowF f s))) := (Blk.new w4 60 (lit9 (belowF f s))).belowTop hb5
        have hbr6 := (hbr4.alloc hbr4.size (.cells #[.int .i64 (belowF f s 0), .int .i64 (belowF f s 1), .int .i64 (belowF f s 2), .int .i64 (belowF f s 3), .int .i64 (belowF f s 4), .int .i64 (belowF f s 5), .int .i64 (belowF f s 6), .int .i64 (belowF f s 7), .int .i64 (belowF f s 8)] 60)).trans (hb5.mono (by have := hbr4.size; simp; omega))
        clear a0 a1 a2 a3 a4 a5 a6 a7 a8 a9 HA4 HA5 hb5
        obtain ⟨a0, a1, a2, a3, a4, a5, a6, a7, a8, a9⟩ := cells10_get _ HA6.out
        simp only at a0 a1 a2 a3 a4 a5 a6 a7 a8 a9
        have hb8 : w5.cell? ⟨w4.heap.size, 8, none⟩ = some (.int .i64 (belowF f s 8)) := (HB6.out.cell 8).trans (lit9_get _ 8 (by omega))
        have hr6 := hr.below hbr6
        have hB8 := belowF_bd f s 8 (by omega)
        clear hr hbr hbr4
        go_wp2
        obtain ⟨wo, rfl⟩ : ∃ wo : World, wo = wr := ⟨_, rfl⟩
        go_loopw [10] (fun i wr => ∃ q m : Nat, q ≤ 8 ∧ i = .int .i64 q ∧ wr = w5.drewN m) (fun i _ => 8 - (intOf i).toNat)
        case atStart => exact ⟨0, 0, Nat.zero_le _, rfl, rfl⟩
        case round =>
          obtain ⟨q, m, hq, rfl, rfl⟩ := hrel
          by_cases hq8 : q < 8
          · have hbq := belowF_bd f s q (by omega)
            have hbq1 := belowF_bd f s (q + 1) (by omega)
            go_wp2
            go_loopw [11, 12] (fun t i wr => ∃ p m : Nat, p ≤ n ∧ i = .int .i64 p ∧ t = .int .i64 (cntB (zs.take p) (q + 1)) ∧ wr = w5.drewN m) (fun _ i _ => n - (intOf i).toNat)
            case atStart => exact ⟨0, m, Nat.zero_le _, rfl, rfl, rfl⟩
            case round =>
              obtain ⟨p, m2, hpn, rfl, rfl, rfl⟩ := hrel
              by_cases hlt2 : p < n
              · obtain ⟨ad, u, rfl, hb, hx, hc⟩ := hr6.at_ hlt2
                obtain ⟨x, hx', rfl⟩ : ∃ x, zs[p]? = some x ∧ Value.int .i32 x = u := by simpa using hx
                have hxb := bounds_i32 (HWF.out x (List.mem_of_getElem? hx'))
                have EC := Lib.hid (show cntB (zs.take (p + 1)) (q + 1) = _ from (congrArg (fun l => cntB l (q + 1)) (take_succ_i zs p x hx')).trans (cntB_snoc _ _ _))
                have hcb := cntB_bd (zs.take p) (q + 1)
                have hlp : (zs.take p).length ≤ 60 := by rw [List.length_take]; omega
                have hpb := place_bound x q hq8
                have hi0 : (0 : Int) ≤ (p : Int) := by omega
                have hi1 : (p : Int) < (n : Int) := by omega
                have hwx : IntKind.i64.wrap x = x := IntWalk.i64_in _ (by omega)
                clear hx hx' hr6
                by_cases h0 : 0 ≤ x
                · have hd0 : decide (0 ≤ x) = true := by simpa using h0
                  by_cases hB : x ≤ boundF q
                  · have EC' := EC.out
                    rw [if_pos ⟨h0, hpb.2 hB⟩] at EC'
                    have EC2 := Lib.hid EC'
                    have hdB : decide (x ≤ boundF q) = true := by simpa using hB
                    clear EC' EC hpb hB h0
                    go_wp2
                    go_quiet ((go_at_call 44; exact quiet_add_left (Bound_c _ _)))
                    go_wp2
                    go_roundw
                    case rel => exact ⟨p + 1, _, by omega, by go_num, by rw [EC2.out], rfl⟩
                    case measure => simp [intOf]; omega
                  · have EC' := EC.out
                    rw [if_neg (fun h => hB (hpb.1 h.2)), Int.add_zero] at EC'
                    have EC2 := Lib.hid EC'
                    have hdB : decide (x ≤ boundF q) = false := by simpa using hB
                    clear EC' EC hpb hB h0
                    go_wp2
                    go_quiet ((go_at_call 44; exact quiet_add_left (Bound_c _ _)))
                    go_wp2
                    go_roundw
                    case rel => exact ⟨p + 1, _, by omega, by go_num, by rw [EC2.out], rfl⟩
                    case measure => simp [intOf]; omega
                · have EC' := EC.out
                  rw [if_neg (fun h => h0 h.1), Int.add_zero] at EC'
                  have EC2 := Lib.hid EC'
                  have hd0 : decide (0 ≤ x) = false := by simpa using h0
                  clear EC' EC hpb h0
                  go_wp2
                  go_quiet (fail)
                  go_wp2
                  go_roundw
                  case rel => exact ⟨p + 1, _, by omega, by go_num, by rw [EC2.out], rfl⟩
                  case measure => simp [intOf]; omega
              · have HT := Lib.hid (List.take_of_length_le (l := zs) (i := p) (by rw [HL.out]; omega))
                rw [HT.out]
                have hq0 : w5.cell? ⟨w4.heap.size, q, none⟩ = some (.int .i64 (belowF f s q)) := (HB6.out.cell q).trans (lit9_get _ q (by omega))
                have hq1 : w5.cell? ⟨w4.heap.size, q + 1, none⟩ = some (.int .i64 (belowF f s (q + 1))) := (HB6.out.cell (q + 1)).trans (lit9_get _ (q + 1) (by omega))
                have hne : (belowF f s q != cntB zs (q + 1)) = false := by rw [HBK.out q (by omega)]; simp
                have hle : ¬ belowF f s (q + 1) < cntB zs (q + 1) := by
                  have h1 := HBK.out (q + 1) (by omega)
                  have h2 := cntB_succ zs (q + 1)
                  have h3 := cntP_bd zs (q + 1)
                  omega
                go_wp2
                go_roundw
                case rel => exact ⟨q + 1, _, by omega, by go_num, rfl⟩
                case measure => simp [intOf]; omega
          · obtain rfl : q = 8 := by omega
            have b0 : (w5.drewN m).cell? ⟨w1.heap.size, 0, none⟩ = some (.int .i64 (f 0)) := a0
            by_cases hnone : belowF f s 8 = 0 ∨ part < 0 ∨ 1000 < part
            · have HLF := Lib.hid (leastF_no hnone)
              rw [H8.out] at hnone
              go_wp2_with fail
              refine (Least_h f s part _).mono ?_
              rintro e w6 ⟨rfl, hb6⟩
              have hbr7 := (below_drewN hbr6 m).trans (hb6.mono (by have := hbr6.size; exact this))
              rw [HLF.out]
              clear hb6 b0
              by_cases hp0 : part < 0
              · clear hnone
                go_wp2
                go_ret
                exact ⟨rfl, hbr7⟩
              · by_cases hp1 : 1000 < part
                · clear hnone
                  go_wp2
                  go_ret
                  exact ⟨rfl, hbr7⟩
                · have hm0 : (manyN zs == 0) = true := by
                    rcases hnone with h | h | h
                    · rw [h]; rfl
                    · omega
                    · omega
                  clear hnone
                  go_wp2
                  go_ret
                  exact ⟨rfl, hbr7⟩
            · have HLF := Lib.hid (leastF_yes hnone)
              have hp0 : ¬ part < 0 := by omega
              have hp1 : ¬ 1000 < part := by omega
              have hm0 : (manyN zs == 0) = false := by rw [beq_eq_false_iff_ne, ← H8.out]; exact fun e => hnone (.inl e)
              have hP8 : part * belowF f s 8 ≤ 1000 * belowF f s 8 := Int.mul_le_mul_of_nonneg_right (by omega) hB8.1
              obtain ⟨r, e1, _, e3, e4, e5⟩ := firstK_spec (belowF f s) part 9 0 ⟨8, by omega, by omega, hP8⟩
              have HE1 := Lib.hid (HLF.out.trans e1)
              have hr9 : r ≤ 8 := by omega
              have hbr0 := belowF_bd f s r hr9
              obtain ⟨hq0, hq1⟩ := prod_bd (part := part) (b := manyN zs) (by omega) (by omega) hMb.1 (by omega)
              have e4' : part * manyN zs ≤ belowF f s r * 1000 := by unfold leastP at e4; rw [H8.out] at e4; omega
              have c0 : w5.cell? ⟨w4.heap.size, r, none⟩ = some (.int .i64 (belowF f s r)) := (HB6.out.cell r).trans (lit9_get _ r (by omega))
              clear e1 e4 hnone HLF hP8
              go_wp2_with fail
              refine (Least_h f s part _).mono ?_
              rintro e w6 ⟨rfl, hb6⟩
              have hbr7 := (below_drewN hbr6 m).trans (hb6.mono (by have := hbr6.size; exact this))
              rw [HE1.out]
              have hw45 : w4.heap.size < w5.heap.size := HB6.out.lt
              have c0' : w6.cell? ⟨w4.heap.size, r, none⟩ = some (.int .i64 (belowF f s r)) := (hb6.cell (p := ⟨w4.heap.size, r, none⟩) hw45).trans c0
              by_cases hr0 : r = 0
              · subst hr0
                clear e5 b0 hb6 c0
                go_wp2
                go_ret
                exact ⟨rfl, hbr7⟩
              · obtain ⟨r', rfl⟩ : ∃ r', r = r' + 1 := ⟨r - 1, by omega⟩
                have e6 := e5 r' (by omega) (by omega)
                have e6' : belowF f s r' * 1000 < part * manyN zs := by unfold leastP at e6; rw [H8.out] at e6; omega
                have hbr1 := belowF_bd f s r' (by omega)
                have c1 : w6.cell? ⟨w4.heap.size, r', none⟩ = some (.int .i64 (belowF f s r')) := (hb6.cell (p := ⟨w4.heap.size, r', none⟩) hw45).trans ((HB6.out.cell r').trans (lit9_get _ r' (by omega)))
                have hne0 : (((r' : Int) + 1) == 0) = false := by rw [beq_eq_false_iff_ne]; omega
                clear e5 e6 b0 hb6 c0 hr0
                go_wp2
                go_ret
                exact ⟨rfl, hbr7⟩
  · go_enter Try.func13, Try.ntmps13
    go_wp2_with fail
    refine (Hist_awake _).mono ?_
    rintro e w1 ⟨rfl, hb1⟩
    go_wp2
    go_ret
    exact ⟨rfl, hb1⟩
end Go.Proofs.Ytmdclaahfndhdaa
