/- Contracts of wire.PutInt, PutText, right, stay, Left, Start and of their references. -/
import Derived.Test.YtadidldkphimfaaWire
namespace Go.Proofs.Ytadidldkphimfaa
set_option linter.unusedVariables false
open Go.RowKit

theorem xor_ones (a : Nat) (h : a < 18446744073709551616) : a ^^^ 18446744073709551615 = 18446744073709551615 - a := by
  have h1 := congrArg BitVec.toNat (BitVec.xor_allOnes (x := BitVec.ofNat 64 a))
  rw [BitVec.toNat_xor, BitVec.toNat_not, BitVec.toNat_ofNat, BitVec.toNat_allOnes] at h1
  rw [Nat.mod_eq_of_lt (by omega)] at h1
  simpa using h1
theorem xorInt_pos (k : Int) (h0 : 0 ≤ k) (h1 : k ≤ 9223372036854775807) : bits .xor .u64 (k * 2) (k / 9223372036854775808) = ((zig k : Nat) : Int) := by
  rw [show k * 2 = ((2 * k.toNat : Nat) : Int) from by omega, show k / 9223372036854775808 = ((0 : Nat) : Int) from by omega, u64_xor_nat _ _ (by omega) (by omega), Nat.xor_zero]
  unfold zig
  rw [if_pos h0]
theorem xorInt_neg (k : Int) (h0 : k < 0) (h1 : -9223372036854775808 ≤ k) : bits .xor .u64 (IntKind.u64.wrap (IntKind.u64.wrap k * 2)) (IntKind.u64.wrap (k / 9223372036854775808)) = ((zig k : Nat) : Int) := by
  have e1 : IntKind.u64.wrap k = k + 18446744073709551616 := by rw [IntKind.wrap_u64]; omega
  have e2 : IntKind.u64.wrap (IntKind.u64.wrap k * 2) = ((2 * k + 18446744073709551616).toNat : Int) := by rw [e1, IntKind.wrap_u64]; omega
  have e3 : IntKind.u64.wrap (k / 9223372036854775808) = ((18446744073709551615 : Nat) : Int) := by rw [IntKind.wrap_u64]; omega
  rw [e2, e3, u64_xor_nat _ _ (by omega) (by omega), xor_ones _ (by omega)]
  unfold zig
  rw [if_neg (by omega)]
  omega

def textB (l : List UInt8) : List UInt8 := uencB l.length ++ l
theorem strCells_bytes (l : List UInt8) : Lib.strCells ⟨l.toArray⟩ = byteCells l := by simp [Lib.strCells, byteCells]

theorem PutText_c (A : Option Addr) (n c B : Nat) (bs l : List UInt8) (w : World) (hr : Reads w B 1 A n (byteCells bs)) (hB : B ≤ w.heap.size) (hn : n ≤ 400000) (hl : l.length ≤ 400000) :
    Calls Try.prog 40 #[.slice A n c, .string ⟨l.toArray⟩] w fun e w' => ∃ v, e = .returned v ∧ w'.ownsRow w.heap.size 5 1 v (n + (textB l).length) (byteCells (bs ++ textB l)) ∧ Below w.heap.size w w' := by
  have HR := Lib.hid hr; clear hr
  have HKL := Lib.hid (uencB_len l.length (by omega))
  obtain ⟨i0, hi0, hz0, hz1, hz2⟩ := info_parts Try.infoU8
  go_enter Try.func40, Try.ntmps40
  go_wp2_with fail
  refine (PutUint_c A n c B bs l.length (by omega) _ HR.out hB (by omega)).mono ?_
  rintro e w1 ⟨v, rfl, hown, hb⟩
  have hkl := HKL.out
  have hs1 := hb.size
  go_wp2_with (at_builtin; go_must (refine Lib.wpList_append_own_string _ rfl _ _ 37 9 rfl w.heap.size 5 i0 Try.underlying37 Try.underlying9 hi0 hz0 hz1 hz2 _ _ _ rfl hown ⟨l.toArray⟩ rfl (by have : (ByteArray.mk l.toArray).size = l.length := rfl; unfold maxLen; omega) (by have : (ByteArray.mk l.toArray).size = l.length := rfl; omega) hs1 ?_); intro v' w3 hown3 hg3 _)
  go_ret
  refine ⟨v', rfl, ?_, below_own hb hg3 hown (Nat.le_refl _) hs1⟩
  unfold textB
  rw [strCells_bytes, ← byteCells_append, List.append_assoc, show (ByteArray.mk l.toArray).size = l.length from rfl, Nat.add_assoc] at hown3
  rw [List.length_append]
  exact hown3
set_option maxRecDepth 100000 in
theorem rPutText_c (A : Option Addr) (n c B : Nat) (bs l : List UInt8) (w : World) (hr : Reads w B 1 A n (byteCells bs)) (hB : B ≤ w.heap.size) (hn : n ≤ 400000) (hl : l.length ≤ 400000) :
    Calls Try.prog 35 #[.slice A n c, .string ⟨l.toArray⟩] w fun e w' => ∃ v, e = .returned v ∧ w'.ownsRow w.heap.size 5 1 v (n + (textB l).length) (byteCells (bs ++ textB l)) ∧ Below w.heap.size w w' := by
  have HR := Lib.hid hr; clear hr
  have HKL := Lib.hid (uencB_len l.length (by omega))
  obtain ⟨i0, hi0, hz0, hz1, hz2⟩ := info_parts Try.infoU8
  go_enter Try.func35, Try.ntmps35
  go_wp2_with fail
  refine (rPutUint_c A n c B bs l.length (by omega) _ HR.out hB (by omega)).mono ?_
  rintro e w1 ⟨v, rfl, hown, hb⟩
  obtain ⟨u, hu⟩ : ∃ u, (uencB l.length).length = u := ⟨_, rfl⟩
  have hu10 : u ≤ 10 := by rw [← hu]; exact HKL.out
  rw [hu] at hown
  have HU := Lib.hid hu; clear hu
  go_wp2
  go_loopw [5, 6] (fun v i wr => ∃ k : Nat, k ≤ l.length ∧ i = .int .i64 k ∧ wr.ownsRow w.heap.size 5 1 v (n + u + k) (byteCells ((bs ++ uencB l.length) ++ l.take k)) ∧ Below w.heap.size w wr) (fun _ i _ => l.length - (intOf i).toNat)
  case atStart => exact ⟨0, Nat.zero_le _, rfl, by simpa using hown, hb⟩
  case round =>
    obtain ⟨k, hk, rfl, hown, hbr⟩ := hrel
    by_cases hlt : k < l.length
    · have EL := Lib.hid (show byteCells ((bs ++ uencB l.length) ++ l.take (k + 1)) = byteCells ((bs ++ uencB l.length) ++ l.take k) ++ [.int .u8 ((l[k]).toNat : Int)] from by
        rw [List.take_succ_eq_append_getElem hlt, ← List.append_assoc, byteCells_append]; rfl)
      go_wp2_with (at_builtin; go_must (refine wpList_append_one wr rfl _ _ 37 rfl w.heap.size 5 i0 _ 1 Try.underlying37 hi0 hz0 hz1 hz2 rfl _ _ _ hown rfl _ rfl rfl (by unfold maxLen; omega) (by omega) hbr.size ?_); intro v' w3 hown3 hg3)
      go_roundw
      case rel => exact ⟨k + 1, by omega, by go_num, by rw [EL.out]; exact hown3, below_own hbr hg3 hown (Nat.le_refl _) hbr.size⟩
      case measure => simp [intOf]; omega
    · obtain rfl : k = l.length := by omega
      go_wp2
      go_ret
      refine ⟨_, rfl, ?_, hbr⟩
      unfold textB
      rw [List.take_length, List.append_assoc] at hown
      rw [List.length_append, HU.out]
      simpa [Nat.add_assoc] using hown

theorem right_yes (A : Option Addr) (n c : Nat) (at_ : Int) (w : World) (h0 : 0 ≤ at_) (h1 : at_ ≤ (n : Int)) : Calls Try.prog 43 #[.agg #[.slice A n c, .int .i64 at_, .int .i64 0]] w fun e w' => e = .returned (.bool true) ∧ Below w.heap.size w w' := by
  have d0 : decide ((0 : Int) ≤ at_) = true := by simpa using h0
  have d1 : decide (at_ ≤ (n : Int)) = true := by simpa using h1
  go_enter Try.func43, Try.ntmps43
  go_wp2
  go_ret
  exact ⟨rfl, ((Below.refl _ _).alloc (Nat.le_refl _) _)⟩
theorem right_no (A : Option Addr) (n c : Nat) (at_ err : Int) (w : World) (h : at_ < 0 ∨ (n : Int) < at_ ∨ err ≠ 0) : Calls Try.prog 43 #[.agg #[.slice A n c, .int .i64 at_, .int .i64 err]] w fun e w' => e = .returned (.bool false) ∧ Below w.heap.size w w' := by
  by_cases he : err = 0
  · subst he
    by_cases h0 : at_ < 0
    · have d0 : decide ((0 : Int) ≤ at_) = false := by simpa using h0
      clear h
      go_enter Try.func43, Try.ntmps43
      go_wp2
      go_ret
      exact ⟨rfl, ((Below.refl _ _).alloc (Nat.le_refl _) _)⟩
    · have d0 : decide ((0 : Int) ≤ at_) = true := by simp; omega
      have d1 : decide (at_ ≤ (n : Int)) = false := by simp; omega
      clear h
      go_enter Try.func43, Try.ntmps43
      go_wp2
      go_ret
      exact ⟨rfl, ((Below.refl _ _).alloc (Nat.le_refl _) _)⟩
  · have de : (err == 0) = false := by rw [beq_eq_false_iff_ne]; exact he
    clear h
    cases d0 : decide ((0 : Int) ≤ at_)
    all_goals cases d1 : decide (at_ ≤ (n : Int))
    all_goals
      go_enter Try.func43, Try.ntmps43
      go_wp2
      go_ret
      exact ⟨rfl, ((Below.refl _ _).alloc (Nat.le_refl _) _)⟩

theorem stay_ok (A : Option Addr) (n c : Nat) (at_ e2 : Int) (w : World) : Calls Try.prog 44 #[.agg #[.slice A n c, .int .i64 at_, .int .i64 0], .int .i64 e2] w fun e w' => e = .returned (.agg #[.slice A n c, .int .i64 at_, .int .i64 e2]) ∧ Below w.heap.size w w' := by
  go_enter Try.func44, Try.ntmps44
  go_wp2
  exact bodyPost_ret (v := .agg #[.slice A n c, .int .i64 at_, .int .i64 e2]) (by simp [results, Try.results44, go_sem]) rfl ⟨rfl, ((Below.refl _ _).alloc (Nat.le_refl _) _).alloc (by simp) _⟩
theorem stay_err (A : Option Addr) (n c : Nat) (at_ err e2 : Int) (w : World) (he : err ≠ 0) : Calls Try.prog 44 #[.agg #[.slice A n c, .int .i64 at_, .int .i64 err], .int .i64 e2] w fun e w' => e = .returned (.agg #[.slice A n c, .int .i64 at_, .int .i64 err]) ∧ Below w.heap.size w w' := by
  have de : (err == 0) = false := by rw [beq_eq_false_iff_ne]; exact he
  go_enter Try.func44, Try.ntmps44
  go_wp2
  exact bodyPost_ret (v := .agg #[.slice A n c, .int .i64 at_, .int .i64 err]) (by simp [results, Try.results44, go_sem]) rfl ⟨rfl, ((Below.refl _ _).alloc (Nat.le_refl _) _).alloc (by simp) _⟩

theorem Start_c (A : Option Addr) (n c : Nat) (w : World) (hnc : n ≤ c) : Calls Try.prog 38 #[.slice A n c] w fun e w' => e = .returned (.agg #[.slice A n n, .int .i64 0, .int .i64 0]) ∧ Below w.heap.size w w' := by
  go_enter Try.func38, Try.ntmps38
  go_wp2
  exact bodyPost_ret (v := .agg #[.slice A n n, .int .i64 0, .int .i64 0]) (by simp [results, Try.results38, go_sem]) rfl ⟨rfl, ((Below.refl _ _).alloc (Nat.le_refl _) _)⟩
end Go.Proofs.Ytadidldkphimfaa
