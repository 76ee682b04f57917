/- Contracts of wire.PutText and of its reference. -/
import Derived.Test.YtjkaklfhcefkcaaWire
namespace Go.Proofs.Ytjkaklfhcefkcaa
set_option linter.unusedVariables false
open Go.RowKit

def textB (l : List UInt8) : List UInt8 := uencB l.length ++ l
theorem strCells_bytes (l : List UInt8) : Lib.strCells ⟨l.toArray⟩ = byteCells l := by simp [Lib.strCells, byteCells]

theorem PutText_c (A : Option Addr) (n c B : Nat) (bs l : List UInt8) (w : World) (hr : Reads w B 1 A n (byteCells bs)) (hB : B ≤ w.heap.size) (hn : n ≤ 400000) (hl : l.length ≤ 400000) :
    Calls Try.prog 32 #[.slice A n c, .string ⟨l.toArray⟩] w fun e w' => ∃ v, e = .returned v ∧ w'.ownsRow w.heap.size 5 1 v (n + (textB l).length) (byteCells (bs ++ textB l)) ∧ Below w.heap.size w w' := by
  have HR := Lib.hid hr; clear hr
  have HKL := Lib.hid (uencB_len l.length (by omega))
  obtain ⟨i0, hi0, hz0, hz1, hz2⟩ := info_parts Try.infoU8
  go_enter Try.func32, Try.ntmps32
  go_wp2_with fail
  refine (PutUint_c A n c B bs l.length (by omega) _ HR.out hB (by omega)).mono ?_
  rintro e w1 ⟨v, rfl, hown, hb⟩
  have hkl := HKL.out
  have hs1 := hb.size
  go_wp2_with (at_builtin; go_must (refine Lib.wpList_append_own_string _ rfl _ _ 29 9 rfl w.heap.size 5 i0 Try.underlying29 Try.underlying9 hi0 hz0 hz1 hz2 _ _ _ rfl hown ⟨l.toArray⟩ rfl (by have : (ByteArray.mk l.toArray).size = l.length := rfl; unfold maxLen; omega) (by have : (ByteArray.mk l.toArray).size = l.length := rfl; omega) hs1 ?_); intro v' w3 hown3 hg3 _)
  go_ret
  refine ⟨v', rfl, ?_, below_own hb hg3 hown (Nat.le_refl _) hs1⟩
  unfold textB
  rw [strCells_bytes, ← byteCells_append, List.append_assoc, show (ByteArray.mk l.toArray).size = l.length from rfl, Nat.add_assoc] at hown3
  rw [List.length_append]
  exact hown3
set_option maxRecDepth 100000 in
theorem rPutText_c (A : Option Addr) (n c B : Nat) (bs l : List UInt8) (w : World) (hr : Reads w B 1 A n (byteCells bs)) (hB : B ≤ w.heap.size) (hn : n ≤ 400000) (hl : l.length ≤ 400000) :
    Calls Try.prog 26 #[.slice A n c, .string ⟨l.toArray⟩] w fun e w' => ∃ v, e = .returned v ∧ w'.ownsRow w.heap.size 5 1 v (n + (textB l).length) (byteCells (bs ++ textB l)) ∧ Below w.heap.size w w' := by
  have HR := Lib.hid hr; clear hr
  have HKL := Lib.hid (uencB_len l.length (by omega))
  obtain ⟨i0, hi0, hz0, hz1, hz2⟩ := info_parts Try.infoU8
  go_enter Try.func26, Try.ntmps26
  go_wp2_with fail
  refine (rPutUint_c A n c B bs l.length (by omega) _ HR.out hB (by omega)).mono ?_
  rintro e w1 ⟨v, rfl, hown, hb⟩
  obtain ⟨u, hu⟩ : ∃ u, (uencB l.length).length = u := ⟨_, rfl⟩
  have hu10 : u ≤ 10 := by rw [← hu]; exact HKL.out
  rw [hu] at hown
  have HU := Lib.hid hu; clear hu
  go_wp2
  go_loopw [5, 6] (fun v i wr => ∃ k : Nat, k ≤ l.length ∧ i = .int .i64 k ∧ wr.ownsRow w.heap.size 5 1 v (n + u + k) (byteCells ((bs ++ uencB l.length) ++ l.take k)) ∧ Below w.heap.size w wr) (fun _ i _ => l.length - (intOf i).toNat)
  case atStart => exact ⟨0, Nat.zero_le _, rfl, by simpa using hown, hb⟩
  case round =>
    obtain ⟨k, hk, rfl, hown, hbr⟩ := hrel
    by_cases hlt : k < l.length
    · have EL := Lib.hid (show byteCells ((bs ++ uencB l.length) ++ l.take (k + 1)) = byteCells ((bs ++ uencB l.length) ++ l.take k) ++ [.int .u8 ((l[k]).toNat : Int)] from by
        rw [List.take_succ_eq_append_getElem hlt, ← List.append_assoc, byteCells_append]; rfl)
      go_wp2_with (at_builtin; go_must (refine wpList_append_one wr rfl _ _ 29 rfl w.heap.size 5 i0 _ 1 Try.underlying29 hi0 hz0 hz1 hz2 rfl _ _ _ hown rfl _ rfl rfl (by unfold maxLen; omega) (by omega) hbr.size ?_); intro v' w3 hown3 hg3)
      go_roundw
      case rel => exact ⟨k + 1, by omega, by go_num, by rw [EL.out]; exact hown3, below_own hbr hg3 hown (Nat.le_refl _) hbr.size⟩
      case measure => simp [intOf]; omega
    · obtain rfl : k = l.length := by omega
      go_wp2
      go_ret
      refine ⟨_, rfl, ?_, hbr⟩
      unfold textB
      rw [List.take_length, List.append_assoc] at hown
      rw [List.length_append, HU.out]
      simpa [Nat.add_assoc] using hown
end Go.Proofs.Ytjkaklfhcefkcaa
