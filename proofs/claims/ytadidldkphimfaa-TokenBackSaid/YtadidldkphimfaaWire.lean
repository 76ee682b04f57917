/- Contracts of wire.PutUint, PutInt, PutText and of their references. -/
import Derived.Test.YtadidldkphimfaaBytes
import Derived.Test.YtadidldkphimfaaWireP
import Derived.Lib.AppendStr
namespace Go.Proofs.Ytadidldkphimfaa
set_option linter.unusedVariables false
open Go.RowKit

theorem byteOf (m : Nat) (h : m < 256) : ((UInt8.ofNat m).toNat : Int) = (m : Int) := by simp; omega
def uencB (n : Nat) : List UInt8 := (uenc n).map UInt8.ofNat
theorem natB_map (l : List Nat) (h : ∀ x ∈ l, x < 256) : natB (l.map UInt8.ofNat) = l := by
  unfold natB
  rw [List.map_map]
  conv => rhs; rw [← List.map_id l]
  refine List.map_congr_left (fun x hx => ?_)
  have := h x hx
  simp [Function.comp]
  omega
theorem natB_uencB (n : Nat) : natB (uencB n) = uenc n := natB_map _ (uenc_lt n)
theorem uencB_length (n : Nat) : (uencB n).length = (uenc n).length := by simp [uencB]
theorem uencB_len (n : Nat) (h : n < 18446744073709551616) : (uencB n).length ≤ 10 := by rw [uencB_length]; exact uenc_len10 n h
theorem uencB_small {n : Nat} (h : n < 128) : uencB n = [UInt8.ofNat n] := by unfold uencB; rw [uenc_small h]; rfl
theorem uencB_big {n : Nat} (h : 128 ≤ n) : uencB n = UInt8.ofNat (n % 128 + 128) :: uencB (n / 128) := by unfold uencB; rw [uenc_big h]; rfl
theorem or128 : ∀ x : Nat, x < 256 → x ||| 128 = x % 128 + 128 := by decide +kernel
theorem or128_u8 (m : Nat) : bits .or .u8 ((m : Int) % 256) 128 = ((m % 128 + 128 : Nat) : Int) := by
  rw [show (m : Int) % 256 = ((m % 256 : Nat) : Int) from by omega, show (128 : Int) = ((128 : Nat) : Int) from rfl, u8_or_nat _ _ (by omega) (by omega), or128 _ (by omega)]
  congr 1
  omega

set_option maxRecDepth 100000 in
theorem PutUint_c (A : Option Addr) (n c B : Nat) (bs : List UInt8) (k : Nat) (hk : k < 18446744073709551616) (w : World) (hr : Reads w B 1 A n (byteCells bs)) (hB : B ≤ w.heap.size) (hn : n ≤ 900000) :
    Calls Try.prog 16 #[.slice A n c, .int .u64 k] w fun e w' => ∃ v, e = .returned v ∧ w'.ownsRow w.heap.size 5 1 v (n + (uencB k).length) (byteCells (bs ++ uencB k)) ∧ Below w.heap.size w w' := by
  have HR := Lib.hid hr; clear hr
  have HKL := Lib.hid (uencB_len k hk)
  obtain ⟨i0, hi0, hz0, hz1, hz2⟩ := info_parts Try.infoU8
  go_enter Try.func16, Try.ntmps16
  go_wp2_with fail
  refine (CloneB_c A n c B bs _ HR.out hB (by omega)).mono ?_
  rintro e w2 ⟨v, rfl, hown, hb2⟩
  go_wp2_with fail
  go_loopw [5, 1] (fun v nn wr => ∃ (m i : Nat) (pre : List UInt8), nn = .int .u64 m ∧ Hid (pre.length = i) ∧ i ≤ 10 ∧ Hid (pre ++ uencB m = uencB k) ∧ m < 18446744073709551616 ∧ wr.ownsRow w.heap.size 5 1 v (n + i) (byteCells (bs ++ pre)) ∧ Below w.heap.size w wr) (fun _ nn _ => (intOf nn).toNat)
  case atStart => exact ⟨k, 0, [], rfl, rfl, by omega, rfl, hk, by simpa using hown, hb2⟩
  case round =>
    obtain ⟨m, i, pre, rfl, HI, hi, HP, hm, hown, hbr⟩ := hrel
    by_cases h : m < 128
    · have hd : decide ((128 : Int) ≤ (m : Int)) = false := by simp; omega
      have hmod : (m : Int) % 256 = (m : Int) := by omega
      go_wp2_with (at_builtin; go_must (refine wpList_append_one wr rfl _ _ 37 rfl w.heap.size 5 i0 _ 1 Try.underlying37 hi0 hz0 hz1 hz2 rfl _ _ _ hown rfl _ rfl rfl (by unfold maxLen; omega) (by omega) hbr.size ?_); intro v' w3 hown3 hg3)
      go_ret
      refine ⟨v', rfl, ?_, below_own hbr hg3 hown (Nat.le_refl _) hbr.size⟩
      rw [← HP.out, uencB_small h, List.length_append, HI.out, ← List.append_assoc, byteCells_append]
      rw [show byteCells [UInt8.ofNat m] = [.int .u8 (m : Int)] from by simp only [byteCells, List.map_cons, List.map_nil]; rw [byteOf _ (by omega)]]
      exact hown3
    · have hd : decide ((128 : Int) ≤ (m : Int)) = true := by simp; omega
      have hor := or128_u8 m
      have EL := Lib.hid (show byteCells (bs ++ (pre ++ [UInt8.ofNat (m % 128 + 128)])) = byteCells (bs ++ pre) ++ [.int .u8 ((m % 128 + 128 : Nat) : Int)] from by
        rw [← List.append_assoc, byteCells_append]
        congr 1
        simp only [byteCells, List.map_cons, List.map_nil]
        rw [byteOf _ (by omega)])
      have HP2 := Lib.hid (show (pre ++ [UInt8.ofNat (m % 128 + 128)]) ++ uencB (m / 128) = uencB k from by rw [← HP.out, uencB_big (n := m) (by omega)]; simp)
      have hi10 : i + 1 ≤ 10 := by
        have h1 := congrArg List.length HP.out
        have h2 := HKL.out
        have h3 := HI.out
        rw [uencB_big (by omega), List.length_append, List.length_cons] at h1
        omega
      go_wp2_with (at_builtin; go_must (refine wpList_append_one wr rfl _ _ 37 rfl w.heap.size 5 i0 _ 1 Try.underlying37 hi0 hz0 hz1 hz2 rfl _ _ _ hown rfl _ rfl rfl (by unfold maxLen; omega) (by omega) hbr.size ?_); intro v' w3 hown3 hg3)
      go_roundw
      case rel => exact ⟨m / 128, i + 1, _, by go_num, (show (pre ++ [UInt8.ofNat (m % 128 + 128)]).length = i + 1 from by rw [List.length_append, HI.out]; rfl), hi10, HP2, by omega, by rw [EL.out]; exact hown3, below_own hbr hg3 hown (Nat.le_refl _) hbr.size⟩
      case measure => simp [intOf]; omega

set_option maxRecDepth 100000 in
theorem rPutUint_c (A : Option Addr) (n c B : Nat) (bs : List UInt8) (k : Nat) (hk : k < 18446744073709551616) (w : World) (hr : Reads w B 1 A n (byteCells bs)) (hB : B ≤ w.heap.size) (hn : n ≤ 900000) :
    Calls Try.prog 22 #[.slice A n c, .int .u64 k] w fun e w' => ∃ v, e = .returned v ∧ w'.ownsRow w.heap.size 5 1 v (n + (uencB k).length) (byteCells (bs ++ uencB k)) ∧ Below w.heap.size w w' := by
  have HR := Lib.hid hr; clear hr
  have HKL := Lib.hid (uencB_len k hk)
  obtain ⟨i0, hi0, hz0, hz1, hz2⟩ := info_parts Try.infoU8
  go_enter Try.func22, Try.ntmps22
  go_wp2_with (at_builtin; go_must (refine wpList_append_any _ rfl _ _ 37 rfl w.heap.size 5 i0 _ 1 1 Try.underlying37 hi0 hz0 hz1 hz2 rfl (by omega) _ 0 [] rfl (own_empty w 5 w.heap.size (Nat.le_refl _) 1) B A n c _ rfl (HR.out.alloc hB _) (byteCells_one bs) (by unfold maxLen; omega) (by omega) (by simp) ?_); intro v1 w1 hown1 hg1 hat1)
  have hb1 := below_own ((Below.refl w.heap.size w).alloc (Nat.le_refl _) _) hg1 (own_empty w 5 w.heap.size (Nat.le_refl _) 1) (Nat.le_refl _) (by simp)
  simp only [Nat.zero_add, List.nil_append] at hown1
  clear hg1 hat1
  go_loopw [5, 1] (fun v nn wr => ∃ (m i : Nat) (pre : List UInt8), nn = .int .u64 m ∧ Hid (pre.length = i) ∧ i ≤ 10 ∧ Hid (pre ++ uencB m = uencB k) ∧ m < 18446744073709551616 ∧ wr.ownsRow w.heap.size 5 1 v (n + i) (byteCells (bs ++ pre)) ∧ Below w.heap.size w wr) (fun _ nn _ => (intOf nn).toNat)
  case atStart => exact ⟨k, 0, [], rfl, rfl, by omega, rfl, hk, by simpa using hown1, hb1⟩
  case round =>
    obtain ⟨m, i, pre, rfl, HI, hi, HP, hm, hown, hbr⟩ := hrel
    by_cases h : m < 128
    · have hd : ((m : Int) / 128 == 0) = true := by rw [beq_iff_eq]; omega
      have hmod : (m : Int) % 128 = (m : Int) := by omega
      have hmod2 : (m : Int) % 256 = (m : Int) := by omega
      go_wp2_with (at_builtin; go_must (refine wpList_append_one wr rfl _ _ 37 rfl w.heap.size 5 i0 _ 1 Try.underlying37 hi0 hz0 hz1 hz2 rfl _ _ _ hown rfl _ rfl rfl (by unfold maxLen; omega) (by omega) hbr.size ?_); intro v' w3 hown3 hg3)
      go_ret
      refine ⟨v', rfl, ?_, below_own hbr hg3 hown (Nat.le_refl _) hbr.size⟩
      rw [← HP.out, uencB_small h, List.length_append, HI.out, ← List.append_assoc, byteCells_append]
      rw [show byteCells [UInt8.ofNat m] = [.int .u8 (m : Int)] from by simp only [byteCells, List.map_cons, List.map_nil]; rw [byteOf _ (by omega)]]
      exact hown3
    · have hd : ((m : Int) / 128 == 0) = false := by rw [beq_eq_false_iff_ne]; omega
      have EL := Lib.hid (show byteCells (bs ++ (pre ++ [UInt8.ofNat (m % 128 + 128)])) = byteCells (bs ++ pre) ++ [.int .u8 ((m : Int) % 128 + 128)] from by
        rw [← List.append_assoc, byteCells_append]
        congr 1
        simp only [byteCells, List.map_cons, List.map_nil]
        rw [byteOf _ (by omega)]
        rfl)
      have HP2 := Lib.hid (show (pre ++ [UInt8.ofNat (m % 128 + 128)]) ++ uencB (m / 128) = uencB k from by rw [← HP.out, uencB_big (n := m) (by omega)]; simp)
      have hi10 : i + 1 ≤ 10 := by
        have h1 := congrArg List.length HP.out
        have h2 := HKL.out
        have h3 := HI.out
        rw [uencB_big (by omega), List.length_append, List.length_cons] at h1
        omega
      go_wp2_with (at_builtin; go_must (refine wpList_append_one wr rfl _ _ 37 rfl w.heap.size 5 i0 _ 1 Try.underlying37 hi0 hz0 hz1 hz2 rfl _ _ _ hown rfl _ rfl rfl (by unfold maxLen; omega) (by omega) hbr.size ?_); intro v' w3 hown3 hg3)
      go_roundw
      case rel => exact ⟨m / 128, i + 1, _, by go_num, (show (pre ++ [UInt8.ofNat (m % 128 + 128)]).length = i + 1 from by rw [List.length_append, HI.out]; rfl), hi10, HP2, by omega, by rw [EL.out]; exact hown3, below_own hbr hg3 hown (Nat.le_refl _) hbr.size⟩
      case measure => simp [intOf]; omega
end Go.Proofs.Ytadidldkphimfaa
