/- The walk of CrcBurst. -/
import Derived.Test.YtmdclaahfndhdaaCrcB
import Derived.StillTailTactics
namespace Go.Proofs.Ytmdclaahfndhdaa
set_option linter.unusedVariables false
open Go.RowKit

theorem own_byte {w : World} {base g n cap k : Nat} {bs : List UInt8} {x : UInt8} (h : w.ownsRow base 5 1 (.slice (some ⟨g, 0, none⟩) n cap) n (byteCells bs)) (hk : k < n) (hx : bs[k]? = some x) : w.cell? ⟨g, k, none⟩ = some (.int .u8 (x.toNat : Int)) := by
  rw [h.cellAt k (by omega)]
  simp [byteCells, hx]

theorem CrcBurst_long (A : Option Addr) (n c : Nat) (at_ : Int) (f : Nat → UInt8) (w : World) (hn : 3000 < n) (hm : n ≤ 9223372036854775807) :
    Calls Try.prog 11 #[.slice A n c, .int .u16 at_, .agg #[.int .u8 ((f 0).toNat : Int), .int .u8 ((f 1).toNat : Int), .int .u8 ((f 2).toNat : Int), .int .u8 ((f 3).toNat : Int)]] w fun e w' => e = .returned (.bool true) ∧ Below w.heap.size w w' := by
  have hd : decide ((3000 : Int) < (n : Int)) = true := by simp; omega
  go_enter Try.func11, Try.ntmps11
  go_wp2_with fail
  refine (Crc_awake _).mono ?_
  rintro e w1 ⟨rfl, hb1⟩
  go_wp2
  go_ret
  exact ⟨rfl, ((Below.refl _ _).alloc (Nat.le_refl _) _).trans (hb1.mono (by simp))⟩

set_option maxRecDepth 100000 in
set_option maxHeartbeats 2000000 in
theorem CrcBurst_main (A : Option Addr) (n c : Nat) (bs : List UInt8) (at_ : Nat) (f : Nat → UInt8) (w : World) (hat : at_ < 65536) (hr : Reads w w.heap.size 1 A n (byteCells bs)) (hnc : n ≤ c) (hcm : c ≤ 9223372036854775807) (hn : n ≤ 3000) :
    Calls Try.prog 11 #[.slice A n c, .int .u16 at_, .agg #[.int .u8 ((f 0).toNat : Int), .int .u8 ((f 1).toNat : Int), .int .u8 ((f 2).toNat : Int), .int .u8 ((f 3).toNat : Int)]] w fun e w' => e = .returned (.bool true) ∧ Below w.heap.size w w' := by
  have HL := Lib.hid hr.lenB
  have HR := Lib.hid hr; clear hr
  have hd : decide ((3000 : Int) < (n : Int)) = false := by simp; omega
  have H0 := Lib.hid (Blk.new w 58 #[.int .u8 ((f 0).toNat : Int), .int .u8 ((f 1).toNat : Int), .int .u8 ((f 2).toNat : Int), .int .u8 ((f 3).toNat : Int)])
  go_enter Try.func11, Try.ntmps11
  go_wp2_with fail
  refine (Crc_awake _).mono ?_
  rintro e w1 ⟨rfl, hb1⟩
  have H1 := Lib.hid (H0.out.below hb1 H0.out.lt)
  have HB1 := Lib.hid (show Below w.heap.size w w1 from ((Below.refl _ _).alloc (Nat.le_refl _) _).trans (hb1.mono (by simp)))
  clear hb1 H0
  go_wp2_with fail
  refine (Table_c _).mono ?_
  rintro e w2 ⟨rfl, hb2⟩
  have H2 := Lib.hid (H1.out.below hb2 H1.out.lt)
  have HB2 := Lib.hid (HB1.out.trans (hb2.mono HB1.out.size))
  have T3 := Lib.hid (bset (u := step8) HB2.out)
  have H3 := Lib.hid ((H2.out.alloc (.cells Try.zeroCells44 44)).setRow_far (Nat.ne_of_lt H2.out.lt) (tabArr step8))
  clear hb2 H1
  go_wp2_with (first
    | (refine wpList_store_row rfl 44 _ _ rfl w2.heap.size (tabArr step8) rfl rfl 44 (tabArr (fun _ => 0)) (zeroBlk w2) (tabArr_info _) (by rw [tabArr_size, tabArr_size]) (tabArr_one _) ?_; generalize (w2.alloc (.cells Try.zeroCells44 44)).setRow w2.heap.size (tabArr step8) = w3 at T3 H3 ⊢)
    | (refine wpList_load_row rfl 44 _ rfl w2.heap.size rfl 44 (tabArr step8) (0, 0) _ T3.out.1 Try.underlying44 rfl (tabArr_info _) ?_))
  refine (Seal_c step8 step8_tab A n c w.heap.size bs _ (T3.out.reads HR.out) T3.out.size (by omega)).mono ?_
  rintro e w4 ⟨v, rfl, hown, hb4⟩
  have T4 := Lib.hid (T3.out.next hb4)
  have H4 := Lib.hid (H3.out.below hb4 H3.out.lt)
  have hgt := Lib.hid T3.out.1.lt
  have hgb := Lib.hid H3.out.lt
  rcases hown.2 with ⟨_, h0⟩ | ⟨g, cap, cur, rfl, hg, _, hn4, hcap, _⟩
  · omega
  have HO := Lib.hid hown
  clear hown hb4 T3 H3 H2 HB2 HB1
  unfold maxLen at hcap
  have hg1 : w2.heap.size < g := Nat.lt_of_lt_of_le hgt.out hg
  have hg2 : w.heap.size < g := Nat.lt_of_lt_of_le hgb.out hg
  clear hgt hgb hg
  obtain ⟨s, hs⟩ : ∃ s, sealB step8 bs = s := ⟨_, rfl⟩
  rw [hs] at HO
  have HS := Lib.hid hs
  have HSL := Lib.hid (show s.length = n + 4 from by rw [← hs, sealB_length, HL.out])
  clear hs
  obtain ⟨k, hk⟩ : ∃ k, at_ % (n + 1) = k := ⟨_, rfl⟩
  have hkn : k ≤ n := by have := Nat.mod_lt at_ (show 0 < n + 1 by omega); omega
  have hkc : (at_ : Int) % ((n : Int) + 1) = (k : Int) := by rw [← hk]; simp [Int.natCast_emod]
  have h43 : ((n + 4 : Nat) : Int) - 3 = (n : Int) + 1 := by omega
  have h43' : (n : Int) + 4 - 3 = (n : Int) + 1 := by omega
  clear hk
  go_wp2
  simp only [hkc]
  clear hkc h43 h43'
  go_loopw [10] (fun i wr => ∃ q : Nat, q ≤ 4 ∧ i = .int .i64 q ∧ Hid (wr.ownsRow w3.heap.size 5 1 (.slice (some ⟨g, 0, none⟩) (n + 4) cap) (n + 4) (byteCells (xorB s k q f))) ∧ Hid (Tb step8 w2.heap.size w wr) ∧ Hid (Blk wr w.heap.size 58 #[.int .u8 ((f 0).toNat : Int), .int .u8 ((f 1).toNat : Int), .int .u8 ((f 2).toNat : Int), .int .u8 ((f 3).toNat : Int)])) (fun i _ => 4 - (intOf i).toNat)
  case atStart => exact ⟨0, Nat.zero_le _, rfl, by rw [xorB_zero]; exact HO, T4, H4⟩
  case round =>
    obtain ⟨q, hq, rfl, HO', TT, HF⟩ := hrel
    clear HO T4 H4
    by_cases hlt : q < 4
    · obtain ⟨x, hx⟩ : ∃ x, s[k + q]? = some x := ⟨_, List.getElem?_eq_getElem (by rw [HSL.out]; omega)⟩
      have c1 : wr.cell? ⟨g, k + q, none⟩ = some (.int .u8 (x.toNat : Int)) := own_byte HO'.out (by omega) (xorB_at s k q f x hx)
      have c2 : wr.cell? ⟨w.heap.size, q, none⟩ = some (.int .u8 ((f q).toNat : Int)) := by
        rw [HF.out.cell q]
        rcases (by omega : q = 0 ∨ q = 1 ∨ q = 2 ∨ q = 3) with rfl | rfl | rfl | rfl <;> rfl
      have c3 : wr.frozen? ⟨g, k + q, none⟩ = false := HO'.out.frozenAt _
      have b1 : bits .xor .u8 (x.toNat : Int) ((f q).toNat : Int) = ((x ^^^ f q).toNat : Int) := by rw [u8_xor_nat _ _ x.toNat_lt (f q).toNat_lt, UInt8.toNat_xor]
      have i1 : (0 : Int) ≤ (q : Int) := by omega
      have i2 : (q : Int) < 4 := by omega
      have i3 : (0 : Int) ≤ (k : Int) + (q : Int) := by omega
      have i4 : (k : Int) + (q : Int) < (n : Int) + 4 := by omega
      have i5 : IntKind.i64.wrap ((k : Int) + (q : Int)) = (k : Int) + (q : Int) := IntWalk.i64_in _ (by omega)
      have i6 : ((k : Int) + (q : Int)).toNat = k + q := by omega
      have HX := Lib.hid hx; clear hx
      go_wp2
      go_still_tail 15, (by kernel_rfl)
      go_wp2
      go_roundw
      case rel =>
        refine ⟨q + 1, by omega, by go_num, ?_, ?_, ?_⟩
        · rw [← xorB_step s k q f x HX.out, UInt8.toNat_xor]
          exact (HO'.out.stored _ _).1.drew
        · exact ⟨(TT.out.1.far (by simp; omega) _).drew, (TT.out.2.1.setCell (by simp; omega) _).drew, TT.out.2.2⟩
        · exact (HF.out.far (by simp; omega) _).drew
      case measure => simp [intOf]; omega
    · obtain rfl : q = 4 := by omega
      have hbl := burst_law bs n k f HL.out (by omega)
      rw [HS.out] at hbl
      have HBL := Lib.hid hbl
      have hr5 := (Reads.of_own HO'.out)
      have HR5 := Lib.hid hr5
      clear hbl hr5
      go_wp2_with (refine wpList_load_row rfl 44 _ rfl w2.heap.size rfl 44 (tabArr step8) (0, 0) _ TT.out.1 Try.underlying44 rfl (tabArr_info _) ?_)
      by_cases hz : f 0 = 0 ∧ f 1 = 0 ∧ f 2 = 0 ∧ f 3 = 0
      · have hA := fun W => arr4_yes 9998 f W hz
        refine (Open_ok step8 step8_tab _ n cap wr.heap.size (xorB s k 4 f) _ HR5.out (Nat.le_refl _) hn4 (by omega) hcap (by rw [HBL.out]; simp [hz])).mono ?_
        rintro e w5 ⟨rfl, hb5⟩
        have T5 := Lib.hid (TT.out.next hb5)
        have HF5 := Lib.hid (HF.out.below hb5 HF.out.lt)
        have c0 : w5.cell? ⟨w.heap.size, 0, none⟩ = some (.int .u8 ((f 0).toNat : Int)) := HF5.out.cell 0
        have c1 : w5.cell? ⟨w.heap.size, 1, none⟩ = some (.int .u8 ((f 1).toNat : Int)) := HF5.out.cell 1
        have c2 : w5.cell? ⟨w.heap.size, 2, none⟩ = some (.int .u8 ((f 2).toNat : Int)) := HF5.out.cell 2
        have c3 : w5.cell? ⟨w.heap.size, 3, none⟩ = some (.int .u8 ((f 3).toNat : Int)) := HF5.out.cell 3
        have v1 := conv_reads ((HR5.out.below hb5).preB (k := n) (by omega)) n
        rw [xorB_none s k f hz, ← HS.out, sealB_take step8 bs n HL.out] at v1
        have v2 := conv_reads (T5.out.reads HR.out) c
        clear hz hb5
        go_wp2
        go_ret
        exact ⟨rfl, T5.out.2.1⟩
      · have hA := fun W => arr4_no 9998 f W hz
        refine (Open_bad step8 step8_tab _ n cap wr.heap.size (xorB s k 4 f) _ HR5.out (Nat.le_refl _) hn4 (by omega) hcap (by rw [HBL.out]; simpa using hz)).mono ?_
        rintro e w5 ⟨rfl, hb5⟩
        have T5 := Lib.hid (TT.out.next hb5)
        have HF5 := Lib.hid (HF.out.below hb5 HF.out.lt)
        have c0 : w5.cell? ⟨w.heap.size, 0, none⟩ = some (.int .u8 ((f 0).toNat : Int)) := HF5.out.cell 0
        have c1 : w5.cell? ⟨w.heap.size, 1, none⟩ = some (.int .u8 ((f 1).toNat : Int)) := HF5.out.cell 1
        have c2 : w5.cell? ⟨w.heap.size, 2, none⟩ = some (.int .u8 ((f 2).toNat : Int)) := HF5.out.cell 2
        have c3 : w5.cell? ⟨w.heap.size, 3, none⟩ = some (.int .u8 ((f 3).toNat : Int)) := HF5.out.cell 3
        clear hz hb5
        go_wp2
        go_ret
        exact ⟨rfl, T5.out.2.1⟩

theorem CrcBurst_walk (A : Option Addr) (n c : Nat) (zs : List Int) (at_ : Int) (f : Nat → UInt8) (w : World) (hz : IntArg .u8 w A n c zs) (hc : (Lit.int .u16 at_).wf = true) (_ : True) :
    Calls Try.prog 11 #[.slice A n c, .int .u16 at_, .agg #[.int .u8 ((f 0).toNat : Int), .int .u8 ((f 1).toNat : Int), .int .u8 ((f 2).toNat : Int), .int .u8 ((f 3).toNat : Int)]] w fun e w' => e = .returned (.bool true) ∧ Below w.heap.size w w' := by
  obtain ⟨bs, hr, hnc, hcm, _⟩ := bytesArg hz
  unfold maxLen at hcm
  by_cases hn : n ≤ 3000
  · have h3 := bounds_u16 hc
    obtain ⟨at_, rfl⟩ : ∃ m : Nat, at_ = (m : Int) := ⟨at_.toNat, by omega⟩
    exact CrcBurst_main A n c bs at_ f w (by omega) hr hnc hcm hn
  · exact CrcBurst_long A n c at_ f w (by omega) (by omega)

end Go.Proofs.Ytmdclaahfndhdaa
