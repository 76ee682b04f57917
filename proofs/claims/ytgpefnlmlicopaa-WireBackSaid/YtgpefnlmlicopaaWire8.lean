/- Contracts of Int, Take and of their references. -/
import Derived.Test.YtgpefnlmlicopaaWire7
import Derived.Laws.BitsLemmas
namespace Go.Proofs.Ytgpefnlmlicopaa
set_option linter.unusedVariables false
open Go.RowKit

theorem rUint_c (A : Option Addr) (n c : Nat) (at_ err : Int) (bs : List UInt8) (B : Nat) (w : World) (hr : Reads w B 1 A n (byteCells bs)) (hB : B ≤ w.heap.size) (hnc : n ≤ c) (hcm : c ≤ 9223372036854775807) (hn : n ≤ 10000) :
    Calls Try.prog 18 #[.agg #[.slice A n c, .int .i64 at_, .int .i64 err]] w fun e w' => e = .returned (.tuple #[.agg #[.slice A n c, .int .i64 (uRes bs at_ err).1, .int .i64 (uRes bs at_ err).2.1], .int .u64 ((uRes bs at_ err).2.2 : Int)]) ∧ Below w.heap.size w w' := by
  have hl := hr.lenB
  by_cases he : err = 0
  · subst he
    by_cases h0 : at_ < 0 ∨ (n : Int) < at_
    · rw [uRes_arg bs at_ (by omega)]
      exact rUint_arg0 A n c at_ w h0
    · obtain ⟨a, rfl⟩ : ∃ a : Nat, at_ = (a : Int) := ⟨at_.toNat, by omega⟩
      obtain ⟨m, rfl⟩ : ∃ m, n = a + m := ⟨n - a, by omega⟩
      obtain ⟨cm, rfl⟩ : ∃ cm, c = a + cm := ⟨c - a, by omega⟩
      exact rUint_right A a m cm bs B w hr hB (by omega) (by omega) hcm
  · rw [uRes_err bs at_ err he]
    exact rUint_err A n c at_ err w he

theorem uRes_lt (bs : List UInt8) (at_ err : Int) : (uRes bs at_ err).2.2 < 18446744073709551616 := by
  unfold uRes
  split
  · split
    · rename_i h
      have hb := uread_back (natB (bs.drop at_.toNat)) (natB_lt _) 0 (uread 0 (natB (bs.drop at_.toNat))).2.1 (uread 0 (natB (bs.drop at_.toNat))).2.2 (by omega) (Prod.ext h rfl)
      simpa using hb.2.2.1
    · simp
  · simp
theorem i64_xor0 (a : Nat) (h : a < 9223372036854775808) : bits .xor .i64 (a : Int) 0 = (a : Int) := by
  show IntKind.i64.wrap ((BitVec.ofInt 64 (a : Int) ^^^ BitVec.ofInt 64 0).toNat : Int) = _
  rw [show BitVec.ofInt 64 0 = 0#64 from rfl, BitVec.xor_zero, BitVec.ofInt_natCast, BitVec.toNat_ofNat, Nat.mod_eq_of_lt (by omega), IntKind.wrap_i64]
  omega
theorem i64_xor1 (a : Nat) (h : a < 9223372036854775808) : bits .xor .i64 (a : Int) (-1) = -(a : Int) - 1 := by
  show IntKind.i64.wrap ((BitVec.ofInt 64 (a : Int) ^^^ BitVec.ofInt 64 (-1)).toNat : Int) = _
  rw [show BitVec.ofInt 64 (-1) = BitVec.allOnes 64 from by decide, BitVec.xor_allOnes, BitVec.toNat_not, BitVec.ofInt_natCast, BitVec.toNat_ofNat, Nat.mod_eq_of_lt (by omega), IntKind.wrap_i64]
  omega
theorem and_one (v : Nat) (h : v < 18446744073709551616) : bits .and .u64 (v : Int) 1 = ((v % 2 : Nat) : Int) := by
  rw [show (1 : Int) = ((1 : Nat) : Int) from rfl, u64_and_nat _ _ h (by omega), Nat.and_one_is_mod]
theorem Cu.set {w W : World} {a b c a' b' c' : Value} {rs : Array Value} (h : Cu w W #[a, b, c] rs) : Cu w (((W.setCell ⟨w.heap.size, 0, none⟩ a').setCell ⟨w.heap.size, 1, none⟩ b').setCell ⟨w.heap.size, 2, none⟩ c') #[a', b', c'] rs :=
  ⟨((h.1.set_ 0 a').set_ 1 b').set_ 2 c', ((h.2.1.far (by simp) _).far (by simp) _).far (by simp) _, ((h.2.2.setCell (by simp) _).setCell (by simp) _).setCell (by simp) _⟩

set_option maxRecDepth 100000 in
theorem Int_c (A : Option Addr) (n c : Nat) (at_ err : Int) (bs : List UInt8) (B : Nat) (w : World) (hr : Reads w B 1 A n (byteCells bs)) (hB : B ≤ w.heap.size) (hnc : n ≤ c) (hcm : c ≤ 9223372036854775807) (hn : n ≤ 10000) :
    Calls Try.prog 19 #[.agg #[.slice A n c, .int .i64 at_, .int .i64 err]] w fun e w' => e = .returned (.tuple #[.agg #[.slice A n c, .int .i64 (uRes bs at_ err).1, .int .i64 (uRes bs at_ err).2.1], .int .i64 (unzig (uRes bs at_ err).2.2)]) ∧ Below w.heap.size w w' := by
  have hv := uRes_lt bs at_ err
  have HU := Lib.hid (fun W (h : Reads W B 1 A n (byteCells bs)) (h' : B ≤ W.heap.size) => Uint_c A n c at_ err bs B W h h' hnc hcm hn)
  have HR := Lib.hid hr
  clear hr
  generalize uRes bs at_ err = r at *
  obtain ⟨x, y, v⟩ := r
  simp only at *
  have hand := and_one v hv
  go_enter Try.func19, Try.ntmps19
  go_wp2_with fail
  have C0 := Lib.hid (Cu.start w #[.slice A n c, .int .i64 at_, .int .i64 err] #[.slice none 0 0, .int .i64 0, .int .i64 0])
  refine (HU.out _ (C0.out.reads HR.out hB) (by simp; omega)).mono ?_
  rintro e w1 ⟨rfl, hb⟩
  have C1 := Lib.hid (C0.out.next hb)
  clear hb C0
  obtain ⟨k0, k1, k2, r0, r1, r2, f0, f1, f2, g0, g1, g2⟩ := C1.out.cells
  rcases (by omega : v % 2 = 0 ∨ v % 2 = 1) with hp | hp
  · have HZ := Lib.hid (show unzig v = (v : Int) / 2 from by unfold unzig; rw [if_pos hp]; rfl)
    rw [hp] at hand
    have hx := i64_xor0 (v / 2) (by omega)
    rw [show ((v / 2 : Nat) : Int) = (v : Int) / 2 from rfl] at hx
    clear hp
    have hand' : bits .and .u64 (v : Int) 1 = 0 := hand
    clear hand
    go_wp2
    have hbe := C1.out.2.2
    exact bodyPost_ret (v := .tuple #[.agg #[.slice A n c, .int .i64 x, .int .i64 y], .int .i64 ((v : Int) / 2)]) (by simp [results, Try.results19, go_sem, r0, r1, r2]) rfl ⟨by rw [HZ.out], (by repeat (first | refine Below.setCell ?_ (by simp) _ | refine Below.drew ?_ | refine below_drewN ?_ _ | exact hbe))⟩
  · have HZ := Lib.hid (show unzig v = -((v : Int) / 2) - 1 from by unfold unzig; rw [if_neg (by omega)]; rfl)
    rw [hp] at hand
    have hx := i64_xor1 (v / 2) (by omega)
    rw [show ((v / 2 : Nat) : Int) = (v : Int) / 2 from rfl] at hx
    clear hp
    have hand' : bits .and .u64 (v : Int) 1 = 1 := hand
    clear hand
    go_wp2
    have hbe := C1.out.2.2
    exact bodyPost_ret (v := .tuple #[.agg #[.slice A n c, .int .i64 x, .int .i64 y], .int .i64 (-((v : Int) / 2) - 1)]) (by simp [results, Try.results19, go_sem, r0, r1, r2]) rfl ⟨by rw [HZ.out], (by repeat (first | refine Below.setCell ?_ (by simp) _ | refine Below.drew ?_ | refine below_drewN ?_ _ | exact hbe))⟩
end Go.Proofs.Ytgpefnlmlicopaa
