/- Lemmas and contracts that the proof of TopBytes uses, part 6 of 12: each is a theorem for every input that its premises allow. -/
import Derived.Test.YtpokkciheejeiaaGreatDoorTbE
set_option linter.unusedVariables false
set_option linter.unusedSimpArgs false
namespace Go.Proofs.YtpokkciheejeiaaGreatDoor
section
set_option maxRecDepth 100000
theorem good0 : (List.range 60).all (fun i => goodAt Tryz.prog reachAll plans (0 + i)) = true := by kernel_rfl
theorem good60 : (List.range 70).all (fun i => goodAt Tryz.prog reachAll plans (60 + i)) = true := by kernel_rfl
theorem good130 : (List.range 80).all (fun i => goodAt Tryz.prog reachAll plans (130 + i)) = true := by kernel_rfl
theorem good210 : (List.range 60).all (fun i => goodAt Tryz.prog reachAll plans (210 + i)) = true := by kernel_rfl
theorem good270 : (List.range 60).all (fun i => goodAt Tryz.prog reachAll plans (270 + i)) = true := by kernel_rfl
theorem all_range {n : Nat} {p : Nat → Bool} (h : (List.range n).all p = true) {i : Nat} (hi : i < n) : p i = true := by
  rw [List.all_eq_true] at h
  exact h i (List.mem_range.2 hi)
def reachOf (n : Nat) : Nat := 2 ^ n - 1
theorem reach_eq : reachAll = reachOf 330 := by kernel_rfl
theorem goodF_n {P : Program} {t : Plans} (n : Nat) (h : ∀ f, f < n → goodAt P (reachOf n) t f = true) : GoodF (mkEnv P (reachOf n) t) := goodF_of n (Nat.sub_lt (Nat.two_pow_pos n) Nat.one_pos) h
theorem goodAll : GoodF (mkEnv Tryz.prog reachAll plans) := by
  rw [reach_eq]
  refine goodF_n 330 (fun f hf => ?_)
  rw [← reach_eq]
  by_cases h0 : f < 60
  · have : goodAt Tryz.prog reachAll plans (0 + (f - 0)) = true := all_range good0 (i := f - 0) (by omega)
    rwa [show 0 + (f - 0) = f from by omega] at this
  by_cases h1 : f < 130
  · have : goodAt Tryz.prog reachAll plans (60 + (f - 60)) = true := all_range good60 (i := f - 60) (by omega)
    rwa [show 60 + (f - 60) = f from by omega] at this
  by_cases h2 : f < 210
  · have : goodAt Tryz.prog reachAll plans (130 + (f - 130)) = true := all_range good130 (i := f - 130) (by omega)
    rwa [show 130 + (f - 130) = f from by omega] at this
  by_cases h3 : f < 270
  · have : goodAt Tryz.prog reachAll plans (210 + (f - 210)) = true := all_range good210 (i := f - 210) (by omega)
    rwa [show 210 + (f - 210) = f from by omega] at this
  have : goodAt Tryz.prog reachAll plans (270 + (f - 270)) = true := all_range good270 (i := f - 270) (by omega)
  rwa [show 270 + (f - 270) = f from by omega] at this
end
end Go.Proofs.YtpokkciheejeiaaGreatDoor
