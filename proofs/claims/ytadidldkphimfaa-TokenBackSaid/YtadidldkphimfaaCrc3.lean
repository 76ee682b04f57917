/- Contracts of crc.Seal, of the reference's Tail and Seal, of bytes.Equal. -/
import Derived.Test.YtadidldkphimfaaCrc2
namespace Go.Proofs.Ytadidldkphimfaa
set_option linter.unusedVariables false
open Go.RowKit

def le4B (s : Nat) : List UInt8 := (le4 s).map UInt8.ofNat
def sealB (t : Nat → Nat) (bs : List UInt8) : List UInt8 := bs ++ le4B (sumT t 0 (natB bs))
theorem natB_le4B (s : Nat) : natB (le4B s) = le4 s := by
  unfold natB le4B
  rw [List.map_map]
  conv => rhs; rw [← List.map_id (le4 s)]
  refine List.map_congr_left (fun x hx => ?_)
  have := le4_lt s x hx
  simp [Function.comp]
  omega
theorem natB_sealB (t : Nat → Nat) (bs : List UInt8) : natB (sealB t bs) = sealT t (natB bs) := by
  unfold sealB sealT; rw [natB_append, natB_le4B]
theorem le4B_length (s : Nat) : (le4B s).length = 4 := by simp [le4B, le4]
theorem sealB_length (t : Nat → Nat) (bs : List UInt8) : (sealB t bs).length = bs.length + 4 := by unfold sealB; rw [List.length_append, le4B_length]
theorem le4B_snoc (s k : Nat) (hk : k < 4) : (le4B s).take (k + 1) = (le4B s).take k ++ [UInt8.ofNat (s / 256 ^ k % 256)] := by
  rcases (by omega : k = 0 ∨ k = 1 ∨ k = 2 ∨ k = 3) with rfl | rfl | rfl | rfl <;> simp [le4B, le4]
theorem byte_ofNat (m : Nat) (h : m < 256) : ((UInt8.ofNat m).toNat : Int) = (m : Int) := by simp; omega

set_option maxRecDepth 100000 in
theorem rTail_c (A : Option Addr) (n c B : Nat) (bs : List UInt8) (s : Nat) (hsl : s < 4294967296) (w : World) (hr : Reads w B 1 A n (byteCells bs)) (hB : B ≤ w.heap.size) (hn : n ≤ 900000) :
    Calls Try.prog 25 #[.slice A n c, .int .u32 s] w fun e w' => ∃ v, e = .returned v ∧ w'.ownsRow w.heap.size 5 1 v (n + 4) (byteCells (bs ++ le4B s)) ∧ Below w.heap.size w w' := by
  have HR := Lib.hid hr; clear hr
  obtain ⟨i0, hi0, hz0, hz1, hz2⟩ := info_parts Try.infoU8
  go_enter Try.func25, Try.ntmps25
  go_wp2_with (at_builtin; go_must (refine wpList_append_any _ rfl _ _ 37 rfl w.heap.size 5 i0 _ 1 1 Try.underlying37 hi0 hz0 hz1 hz2 rfl (by omega) _ 0 [] rfl (own_empty w 5 w.heap.size (Nat.le_refl _) 1) B A n c _ rfl (HR.out.alloc hB _) (byteCells_one bs) (by unfold maxLen; omega) (by omega) (by simp) ?_); intro v1 w1 hown1 hg1 hat1)
  have hb1 := below_own ((Below.refl w.heap.size w).alloc (Nat.le_refl _) _) hg1 (own_empty w 5 w.heap.size (Nat.le_refl _) 1) (Nat.le_refl _) (by simp)
  simp only [Nat.zero_add, List.nil_append] at hown1
  clear hg1 hat1
  go_loopw [1, 5, 6] (fun m v i wr => ∃ k : Nat, k ≤ 4 ∧ i = .int .i64 k ∧ m = .int .u32 ((s / 256 ^ k : Nat) : Int) ∧ wr.ownsRow w.heap.size 5 1 v (n + k) (byteCells (bs ++ (le4B s).take k)) ∧ Below w.heap.size w wr) (fun _ _ i _ => 4 - (intOf i).toNat)
  case atStart => exact ⟨0, Nat.zero_le _, rfl, by simp, by simpa using hown1, hb1⟩
  case round =>
    obtain ⟨k, hk, rfl, rfl, hown, hbr⟩ := hrel
    by_cases hlt : k < 4
    · obtain ⟨m, hm⟩ : ∃ m, s / 256 ^ k = m := ⟨_, rfl⟩
      have hml : m < 4294967296 := by rw [← hm]; exact Nat.lt_of_le_of_lt (Nat.div_le_self _ _) hsl
      have EL := Lib.hid (show byteCells (bs ++ (le4B s).take (k + 1)) = byteCells (bs ++ (le4B s).take k) ++ [.int .u8 ((m : Int) % 256)] from by
        rw [le4B_snoc s k hlt, ← List.append_assoc, byteCells_append]
        congr 1
        simp only [byteCells, List.map_cons, List.map_nil]
        rw [byte_ofNat _ (by omega), hm]
        rfl)
      have EM := Lib.hid (show ((s / 256 ^ (k + 1) : Nat) : Int) = (m : Int) / 256 from by
        rw [Nat.pow_succ, ← Nat.div_div_eq_div_mul, hm]; rfl)
      rw [hm]
      clear hm
      go_wp2_with (at_builtin; go_must (refine wpList_append_one wr rfl _ _ 37 rfl w.heap.size 5 i0 _ 1 Try.underlying37 hi0 hz0 hz1 hz2 rfl _ _ _ hown rfl _ rfl rfl (by unfold maxLen; omega) (by omega) hbr.size ?_); intro v' w3 hown3 hg3)
      go_roundw
      case rel => exact ⟨k + 1, hlt, by go_num, by rw [EM.out], by rw [EL.out]; exact hown3, below_own hbr hg3 hown (Nat.le_refl _) hbr.size⟩
      case measure => simp [intOf]; omega
    · obtain rfl : k = 4 := by omega
      go_wp2
      go_ret
      refine ⟨_, rfl, ?_, hbr⟩
      rw [List.take_of_length_le (by rw [le4B_length]; omega)] at hown
      exact hown

def sealP (bs : List UInt8) : List UInt8 := bs ++ le4B (plainN (natB bs))
theorem sealP_eq (bs : List UInt8) : sealP bs = sealB step8 bs := by unfold sealP sealB; rw [sumT_tab]
theorem plainN_lt (bs : List UInt8) : plainN (natB bs) < 4294967296 := xor_lt32 (regs_lt _ (natB_lt bs) _ (by decide)) (by decide)

end Go.Proofs.Ytadidldkphimfaa
