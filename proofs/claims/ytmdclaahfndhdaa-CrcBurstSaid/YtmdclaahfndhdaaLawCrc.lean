/- The walk of awake of the laws of crc. -/
import Derived.Test.YtmdclaahfndhdaaCrc5
namespace Go.Proofs.Ytmdclaahfndhdaa
set_option linter.unusedVariables false
open Go.RowKit

theorem step8_tab (i : Nat) (h : i < 256) : step8 i < 4294967296 := step8_lt (by omega)
theorem Open_ok (t : Nat → Nat) (ht : ∀ i, i < 256 → t i < 4294967296) (A : Option Addr) (m c B : Nat) (bs : List UInt8) (w : World) (hr : Reads w B 1 A (m + 4) (byteCells bs)) (hB : B ≤ w.heap.size) (hmc : m + 4 ≤ c) (hn : m ≤ 900000) (hcm : c ≤ 9223372036854775807) (hbb : (sealB t (bs.take m) == bs) = true) :
    Calls Try.prog 40 #[.agg (tabArr t), .slice A (m + 4) c] w fun e w' => e = .returned (.tuple #[.slice A m m, .int .i64 0]) ∧ Below w.heap.size w w' := Open_yes t ht A m c B bs w hr hB hmc hn hcm true hbb
theorem Open_bad (t : Nat → Nat) (ht : ∀ i, i < 256 → t i < 4294967296) (A : Option Addr) (m c B : Nat) (bs : List UInt8) (w : World) (hr : Reads w B 1 A (m + 4) (byteCells bs)) (hB : B ≤ w.heap.size) (hmc : m + 4 ≤ c) (hn : m ≤ 900000) (hcm : c ≤ 9223372036854775807) (hbb : (sealB t (bs.take m) == bs) = false) :
    Calls Try.prog 40 #[.agg (tabArr t), .slice A (m + 4) c] w fun e w' => e = .returned (.tuple #[.slice none 0 0, .int .i64 12]) ∧ Below w.heap.size w w' := Open_yes t ht A m c B bs w hr hB hmc hn hcm false hbb
def nine : List UInt8 := [49, 50, 51, 52, 53, 54, 55, 56, 57]
theorem nine_reads (w : World) : Reads (w.alloc (.cells #[.int .u8 49, .int .u8 50, .int .u8 51, .int .u8 52, .int .u8 53, .int .u8 54, .int .u8 55, .int .u8 56, .int .u8 57] 5 (9, 10))) (w.heap.size + 1) 1 (some ⟨w.heap.size, 0, none⟩) 9 (byteCells nine) := by
  refine ⟨rfl, fun _ => ⟨_, rfl, by simp, fun j u hu => ?_⟩⟩
  have hc := cell_of_row _ w.heap.size j _ 5 (9, 10) (heap_alloc_new w (.cells #[.int .u8 49, .int .u8 50, .int .u8 51, .int .u8 52, .int .u8 53, .int .u8 54, .int .u8 55, .int .u8 56, .int .u8 57] 5 (9, 10)))
  rw [show (⟨w.heap.size, 0, none⟩ : Addr).add j = ⟨w.heap.size, j, none⟩ from by unfold Addr.add; split <;> simp_all, hc]
  simpa [byteCells, nine] using hu
theorem nine_sum : sumT step8 0 (natB nine) = 3421780262 := by decide +kernel
theorem nine_seal : sealB step8 nine = nine ++ [0x26, 0x39, 0xf4, 0xcb] := by decide +kernel

set_option maxRecDepth 100000 in
set_option maxHeartbeats 1000000 in
theorem Crc_awake (w : World) : Calls Try.prog 33 #[] w fun e w' => e = .returned (.bool true) ∧ Below w.heap.size w w' := by
  have kc := fun (w : World) (C : Array Value) (n c : Nat) => Lib.run_convert_bytes_const (P := Try.prog) w 45 5 C n c Try.underlying45 Try.underlying5
  go_enter Try.func33, Try.ntmps33
  go_wp2_with fail
  refine (Table_c _).mono ?_
  rintro e w1 ⟨rfl, hb1⟩
  have hw1 : w.heap.size ≤ w1.heap.size := by have := hb1.size; simpa using this
  have hb1' : Below w.heap.size w w1 := hb1
  have HN := Lib.hid (show Blk (w1.alloc (.cells Try.zeroCells44 44)) w1.heap.size 44 (tabArr fun _ => 0) from by rw [← tabArr_zero]; exact Blk.new w1 _ _)
  have HT := Lib.hid (HN.out.setRow (tabArr step8))
  have HB2 := Lib.hid (below_setRow (hb1'.alloc hw1 (.cells Try.zeroCells44 44)) hw1 (tabArr step8))
  have hz2 : ((w1.alloc (.cells Try.zeroCells44 44)).setRow w1.heap.size (tabArr step8)).heap.size = w1.heap.size + 1 := by simp
  have HZ := Lib.hid hz2; clear hz2
  go_wp2_with (first
    | (refine wpList_store_row rfl 44 _ _ rfl w1.heap.size (tabArr step8) rfl rfl 44 (tabArr (fun _ => 0)) HN.out (tabArr_info _) (by rw [tabArr_size, tabArr_size]) (tabArr_one _) ?_; clear HN; generalize (w1.alloc (.cells Try.zeroCells44 44)).setRow w1.heap.size (tabArr step8) = w2 at HT HB2 HZ ⊢)
    | (refine wpList_load_row rfl 44 _ rfl w1.heap.size rfl 44 (tabArr step8) (0, 0) _ HT.out Try.underlying44 rfl (tabArr_info _) ?_))
  have hn2 : w.heap.size ≤ w2.heap.size := HB2.out.size
  refine (Seal_c step8 step8_tab _ 9 9 (w2.heap.size + 1) nine _ (nine_reads w2) (by simp) (by omega)).mono ?_
  rintro e w3 ⟨v, rfl, hown, hb3⟩
  obtain ⟨A3, c3, rfl, hc1, hc2, hc3, hR3⟩ := own_reads hown
  have HT3 := Lib.hid (show Blk w3 w1.heap.size 44 (tabArr step8) from (hb3.block _ (by simp; have := HZ.out; omega)).trans ((Blk.alloc HT.out _)))
  have HB3 := Lib.hid ((HB2.out.alloc hn2 _).trans (hb3.mono (by simp; omega)))
  have HR3 := Lib.hid hR3
  have hm3 : c3 ≤ 9223372036854775807 := by unfold maxLen at hc2; omega
  clear hown hR3 hb3 HT HB2 hc2 hc3
  go_wp2_with (refine wpList_load_row rfl 44 _ rfl w1.heap.size rfl 44 (tabArr step8) (0, 0) _ HT3.out Try.underlying44 rfl (tabArr_info _) ?_)
  refine (Open_ok step8 step8_tab A3 9 c3 w3.heap.size (sealB step8 nine) _ HR3.out (Nat.le_refl _) hc1 (by omega) hm3 (by decide +kernel)).mono ?_
  rintro e w4 ⟨rfl, hb4⟩
  have HT4 := Lib.hid (show Blk w4 w1.heap.size 44 (tabArr step8) from (hb4.block _ (HT3.out.lt)).trans HT3.out)
  have HB4 := Lib.hid (HB3.out.trans (hb4.mono HB3.out.size))
  have hr4 := HR3.out.below hb4
  have hs34 := hb4.size
  obtain ⟨ad, x9, rfl, hab, hx9, hcell⟩ := hr4.byte_at (k := 9) (by omega)
  obtain rfl : x9 = 0x26 := by
    have h9 : (sealB step8 nine)[9]? = some 0x26 := by decide +kernel
    rw [h9] at hx9; injection hx9 with h; exact h.symm
  have hconv := fun W hW => conv_reads ((hr4.preB (k := 9) (by omega)).below (w' := W) hW) 9
  clear HT3 HB3 HR3 hb4 hr4
  go_wp2_with (refine wpList_load_row rfl 44 _ rfl w1.heap.size rfl 44 (tabArr step8) (0, 0) _ HT4.out Try.underlying44 rfl (tabArr_info _) ?_)
  refine (Sum_c step8 step8_tab 0 (by decide) _ 9 9 (w4.heap.size + 1) nine _ (nine_reads w4) (by simp) (by omega)).mono ?_
  rintro e w5 ⟨rfl, hb5⟩
  rw [nine_sum]
  have hb45 : Below w4.heap.size w4 w5 := ((Below.refl _ _).alloc (Nat.le_refl _) _).trans (hb5.mono (by simp))
  have hcell5 : w5.cell? ⟨ad.block, ad.off + 9, none⟩ = some (.int .u8 38) := (hb45.cell (p := ⟨ad.block, ad.off + 9, none⟩) (Nat.lt_of_lt_of_le hab hs34)).trans hcell
  have hcv := hconv w5 (hb45.mono hs34)
  rw [show (sealB step8 nine).take 9 = nine from by decide +kernel] at hcv
  have HBE := Lib.hid (HB4.out.trans (hb45.mono HB4.out.size))
  clear hconv hcell hb5 hb45 HB4 HT4 hx9 hab
  have hnine : nine.toArray = #[49, 50, 51, 52, 53, 54, 55, 56, 57] := rfl
  rw [hnine] at hcv
  go_wp2
  go_ret
  exact ⟨rfl, HBE.out⟩
end Go.Proofs.Ytmdclaahfndhdaa
