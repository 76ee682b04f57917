/- Contracts of math.Trunc over whole numbers (the model stands in for its assembly). -/
import Derived.Test.YtmkjfpmailihjaaFlo
import Derived.Test.YtmkjfpmailihjaaHold
import Derived.Laws.Externs
import Derived.WalkLawsBesides
import Derived.Outline
namespace Go.Proofs.Ytmkjfpmailihjaa
set_option linter.unusedVariables false
open Go.RowKit

theorem arch_run {b : Nat} {z : Int} (h : Fl b z) (w : World) : (callFunc 42 #[.float .f64 b]).run Try.prog w = .ok (.value (.float .f64 b)) w := by
  obtain ⟨s, m, rfl, hm, rfl⟩ := h
  obtain ⟨u, hu, eu⟩ := read_FW s m hm
  rw [run_callFunc_extern (e := Extern.MathFloor.toIntegral "math.archTrunc" .zero) Try.func42 (by kernel_rfl) (by kernel_rfl) (by kernel_rfl) (by kernel_rfl)]
  have hi : (Ieee.Datum.number s (m * 2 ^ u) (-(u : Int))).integral .zero = .number s m 0 := by
    unfold Ieee.Datum.integral
    simp only
    rw [show (-(u : Int)).toNat = 0 from by omega, Nat.shiftLeft_zero, Int.neg_neg, Int.toNat_natCast, cut_zero]
  have hn : FloatKind.f64.encode (.number s m 0) = FW s m := by
    have h := near_FW s m 0 hm
    rw [← h]
    unfold FloatKind.encode FloatKind.format Ieee.Format.write
    simp
  have hd : FloatKind.f64.decode (FW s m) = .number s (m * 2 ^ u) (-(u : Int)) := eu
  have he : (Extern.MathFloor.toIntegral "math.archTrunc" .zero #[.float .f64 (FW s m)]).run Try.prog w = .ok (.float .f64 (FW s m)) w := by
    change Sem.run Try.prog (match FloatKind.f64.decode (FW s m) with | .nan a b => (_ : Sem Value) | d => (pure (Value.float .f64 (FloatKind.f64.encode (d.integral .zero))) : Sem Value)) w = _
    rw [hd]
    show Sem.run Try.prog (pure (Value.float .f64 (FloatKind.f64.encode ((Ieee.Datum.number s (m * 2 ^ u) (-(u : Int))).integral .zero)))) w = _
    rw [hi, hn]
    rfl
  rw [he]
  rfl
theorem Trunc_c {b : Nat} {z : Int} (h : Fl b z) (w : World) : Calls Try.prog 41 #[.float .f64 b] w fun e w' => e = .returned (.float .f64 b) ∧ w = w' := by
  have h1 := fun W => arch_run h W
  go_enter Try.func41, Try.ntmps41
  go_wp2
  go_ret
  exact ⟨rfl, rfl⟩
end Go.Proofs.Ytmkjfpmailihjaa
