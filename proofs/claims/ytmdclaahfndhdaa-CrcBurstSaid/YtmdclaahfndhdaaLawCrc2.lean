/- The walk of CrcTable. -/
import Derived.Test.YtmdclaahfndhdaaLawCrc
namespace Go.Proofs.Ytmdclaahfndhdaa
set_option linter.unusedVariables false
open Go.RowKit

theorem run_index_tab (w : World) (t : Nat → Nat) (k : IntKind) (m : Nat) (hm : m < 256) : (Instr.index 44 (.agg (tabArr t)) (.int k m)).run Try.prog w = .ok (.int .u32 (t m)) w := by
  simp [Instr.index, run_underlying Try.underlying44, asIntOf, hm, tabArr_get t m hm, go_sem]

set_option maxRecDepth 100000 in
theorem CrcTable_walk (k : Int) (w : World) (hk : (Lit.int .u8 k).wf = true) : Calls Try.prog 9 #[.int .u8 k] w fun e w' => e = .returned (.bool true) ∧ Below w.heap.size w w' := by
  have hb := bounds_u8 hk
  obtain ⟨m, rfl⟩ : ∃ m : Nat, k = (m : Int) := ⟨k.toNat, by omega⟩
  have hm : m < 256 := by omega
  clear hk hb
  go_enter Try.func9, Try.ntmps9
  go_wp2_with fail
  refine (Crc_awake _).mono ?_
  rintro e w1 ⟨rfl, hb1⟩
  go_wp2_with fail
  go_loop [3, 4] (fun t j => ∃ q : Nat, q ≤ 8 ∧ j = .int .i64 q ∧ t = .int .u32 (stepK q m)) (fun _ j => 8 - (intOf j).toNat)
  case atStart => exact ⟨0, Nat.zero_le _, rfl, rfl⟩
  case round =>
    obtain ⟨q, hq, rfl, rfl⟩ := hrel
    by_cases hq8 : q < 8
    · go_wp2_with (go_at_call 42; refine (rStep_c _ (stepK_lt (by omega) q) _).mono ?_; rintro e w' ⟨rfl, rfl⟩)
      go_round
      case rel => exact ⟨q + 1, by omega, by go_num, rfl⟩
      case measure => simp [intOf]; omega
    · obtain rfl : q = 8 := by omega
      go_wp2_with fail
      refine (Table_c _).mono ?_
      rintro e w2 ⟨rfl, hb2⟩
      have hget := run_index_tab w2 step8 .u8 m hm
      have h8 : stepK 8 m = step8 m := stepK_8 m
      go_wp2
      go_ret
      exact ⟨rfl, hb1.trans (hb2.mono hb1.size)⟩
end Go.Proofs.Ytmdclaahfndhdaa
