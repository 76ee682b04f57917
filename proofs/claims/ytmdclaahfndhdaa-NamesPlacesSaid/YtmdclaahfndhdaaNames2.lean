/- Contracts of the package names (Place, Right, At, Put) and of its reference. -/
import Derived.Test.YtmdclaahfndhdaaNames
import Derived.Test.YtmdclaahfndhdaaList
namespace Go.Proofs.Ytmdclaahfndhdaa
set_option linter.unusedVariables false
open Go.RowKit Go.Maps Go.WideMaps

theorem ret_b {a b : Bool} (h : a = b) : Ending.returned (.bool a) = .returned (.bool b) := by rw [h]
theorem ret_i {k : IntKind} {a b : Int} (h : a = b) : Ending.returned (.int k a) = .returned (.int k b) := by rw [h]

theorem Named_c (s : ByteArray) (w : World) (hs : s.size ≤ maxLen) : Calls Try.prog 56 #[.string s] w fun e w' => e = .returned (.bool (namedB s.data.toList)) ∧ w = w' := by
  unfold maxLen at hs
  have hl : s.data.toList.length = s.size := rfl
  have HL := Lib.hid hl; clear hl
  go_enter Try.func56, Try.ntmps56
  go_wp2
  all_goals
    go_ret
    refine ⟨ret_b ?_, rfl⟩
    unfold namedB
    rw [HL.out]
    first | (rw [Bool.eq_iff_iff]; simp; omega) | (simp; omega)

theorem rNamed_c (s : ByteArray) (w : World) (hs : s.size ≤ maxLen) : Calls Try.prog 58 #[.string s] w fun e w' => e = .returned (.bool (namedB s.data.toList)) ∧ w = w' := by
  unfold maxLen at hs
  have hl : s.data.toList.length = s.size := rfl
  have HL := Lib.hid hl; clear hl
  go_enter Try.func58, Try.ntmps58
  go_wp2
  all_goals
    go_ret
    refine ⟨ret_b ?_, rfl⟩
    unfold namedB
    rw [HL.out]
    first | (rw [Bool.eq_iff_iff]; simp; omega) | (simp; omega)

theorem Place_c (A : Option Addr) (n c B : Nat) (ss : List ByteArray) (s : ByteArray) (w : World) (hr : Reads w B 1 A n (ss.map Value.string)) (hB : B ≤ w.heap.size) (hn : n ≤ 1000000) (hsz : ∀ s ∈ ss, s.size ≤ maxLen) (hs : s.size ≤ maxLen) :
    Calls Try.prog 29 #[.slice A n c, .string s] w fun e w' => e = .returned (.int .i64 (placeOf (lists ss) s.data.toList)) ∧ Below w.heap.size w w' := by
  have HKey := Lib.hid (show keyOf Try.prog 9 (.string s) = some (.string s.data.toList) from keyOf_string_mk Try.underlying9 hs)
  have HP := fun W => Lib.hid (places_c A n c B ss W)
  go_enter Try.func29, Try.ntmps29
  go_wp2_with fail
  refine ((HP _).out hr hB hn hsz).mono ?_
  rintro e w1 ⟨rfl, hm, hb⟩
  obtain ⟨D, h1, h2, h3, _⟩ := hm
  have H3 := Lib.hid (h3 s.data.toList)
  have H1 := Lib.hid h1
  clear h1 h2 h3
  go_wp2_with (at_lookup; go_must (refine wpList_lookup_own_int _ rfl _ _ 75 rfl 9 3 .i64 skeyed Try.underlying75 Try.underlying3 (zeroInt _) w.heap.size _ D rfl H1.out _ _ rfl HKey.out ?_); intro cc hat hwc; have HC := Lib.hid hat; clear hat)
  go_ret
  refine ⟨ret_i ?_, hb⟩
  have := H3.out.symm.trans HC.out
  injection this with this
  injection this with _ this
  exact this.symm

theorem rPlace_c (A : Option Addr) (n c B : Nat) (ss : List ByteArray) (s : ByteArray) (w : World) (hr : Reads w B 1 A n (ss.map Value.string)) (hn : n ≤ 1000000) :
    Calls Try.prog 30 #[.slice A n c, .string s] w fun e w' => e = .returned (.int .i64 (placeOf (lists ss) s.data.toList)) ∧ w = w' := by
  have hl : ss.length = n := by simpa using hr.1
  have HL := Lib.hid hl; clear hl
  go_enter Try.func30, Try.ntmps30
  go_wp2
  go_loop [5] (fun i => ∃ k : Nat, k ≤ n ∧ i = .int .i64 k ∧ placeOf ((lists ss).take k) s.data.toList = 0) (fun i => n - (intOf i).toNat)
  case atStart => exact ⟨0, Nat.zero_le _, rfl, by simp [placeOf]⟩
  case round =>
    obtain ⟨k, hk, rfl, h0⟩ := hrel
    have H0 := Lib.hid h0; clear h0
    by_cases hlt : k < n
    · obtain ⟨ad, x, rfl, hb, hx, hc⟩ := hr.str_at hlt
      have hx2 := lists_get ss k x hx
      have HX := Lib.hid hx2; clear hx2 hx hr
      by_cases he : x.data.toList = s.data.toList
      · have hb : (x.toList == s.toList) = true := by rw [str_beq]; simpa using he
        have HE := Lib.hid he; clear he
        go_wp2
        go_ret
        refine ⟨ret_i ?_, rfl⟩
        rw [placeOf_of_take (lists ss) k s.data.toList H0.out (by rw [HX.out, HE.out])]
        rfl
      · have hb : (x.toList == s.toList) = false := by rw [str_beq]; simpa using he
        have HE := Lib.hid he; clear he
        go_wp2
        go_round
        case rel => exact ⟨k + 1, by omega, by go_num, by rw [List.take_add_one, HX.out]; exact (placeOf_snoc_miss _ _ _ HE.out).trans H0.out⟩
        case measure => simp [intOf]; omega
    · have HT := Lib.hid (List.take_of_length_le (l := lists ss) (i := k) (by rw [lists_length, HL.out]; omega))
      go_wp2
      go_ret
      exact ⟨ret_i (by have := H0.out; rw [HT.out] at this; rw [this]; rfl), rfl⟩
end Go.Proofs.Ytmdclaahfndhdaa
