/- Contracts of token.put and of the reference's digit. -/
import Derived.Test.YtadidldkphimfaaTokP
import Derived.Test.YtadidldkphimfaaBuild
import Derived.Test.YtadidldkphimfaaKept
import Derived.Test.YtadidldkphimfaaHeld
namespace Go.Proofs.Ytadidldkphimfaa
open Go.Shelf Go.RowKit
set_option linter.unusedVariables false

theorem digit_c (n : Nat) (hn : n < 16) (w : World) : Calls Try.prog 26 #[.int .u8 (n : Int)] w fun e w' => e = .returned (.int .u8 ((hexN n : Nat) : Int)) ∧ w = w' := by
  go_enter Try.func26, Try.ntmps26
  go_wp2
  all_goals
    go_ret
    refine ⟨retI ?_, rfl⟩
    unfold hexN
    split <;> omega
abbrev hexLit : ByteArray := ⟨#[48, 49, 50, 51, 52, 53, 54, 55, 56, 57, 97, 98, 99, 100, 101, 102]⟩
theorem hexLit_get (i : Nat) (h : i < hexLit.size) : (hexLit[i]'h).toNat = hexN i := by
  have h16 : i < 16 := h
  have e : ∀ j : Fin 16, (hexLit.data[j.val]'j.isLt).toNat = hexN j.val := by decide
  exact e ⟨i, h16⟩
theorem hexOf_cells (x : UInt8) : byteCells (hexOf x) = [.int .u8 ((hexN (x.toNat / 16) : Nat) : Int), .int .u8 ((hexN (x.toNat % 16) : Nat) : Int)] := by
  simp only [byteCells, hexOf, List.map_cons, List.map_nil]
  rw [hexN_toNat _ (half_lt x).1, hexN_toNat _ (half_lt x).2]
theorem tput_c (B b : Nat) (bs : List Value) (x : UInt8) (w : World) (h : IsB B b bs w) (hlen : bs.length + 2 ≤ 140737488355328) (hBw : B ≤ w.heap.size) :
    Calls Try.prog 20 #[.pointer (some ⟨b, 0, none⟩), .int .u8 (x.toNat : Int)] w fun e w' => e = .returned (.tuple #[]) ∧ (UsedB B b (bs ++ byteCells (hexOf x)) w' ∧ Below B w w') := by
  have hx := half_lt x
  go_enter Try.func20, Try.ntmps20
  go_wp2_with fail
  refine (WriteByte_c B b bs _ w h (by omega) hBw).mono ?_
  rintro e w1 ⟨rfl, h1, hb1⟩
  rw [hexLit_get] at h1
  have H1 := Lib.hid h1
  have hs1 := hb1.size
  clear h1
  go_wp2_with fail
  refine (WriteByte_c B b _ _ w1 (.inr H1.out) (by simp; omega) (by omega)).mono ?_
  rintro e w2 ⟨rfl, h2, hb2⟩
  rw [hexLit_get] at h2
  have H2 := Lib.hid h2
  clear h2
  go_wp2
  go_end0
  refine ⟨rfl, ?_, hb1.trans hb2⟩
  rw [hexOf_cells]
  have e := H2.out
  rw [List.append_assoc] at e
  exact e
end Go.Proofs.Ytadidldkphimfaa
