/- Contracts of crc.Open at short bytes and of the reference's Opens. -/
import Derived.Test.YtmdclaahfndhdaaCrc4
import Derived.Test.YtmdclaahfndhdaaHeld
namespace Go.Proofs.Ytmdclaahfndhdaa
set_option linter.unusedVariables false
open Go.RowKit

set_option maxRecDepth 100000 in
theorem Open_short (t : Nat → Nat) (A : Option Addr) (n c : Nat) (w : World) (hn : n < 4) :
    Calls Try.prog 40 #[.agg (tabArr t), .slice A n c] w fun e w' => e = .returned (.tuple #[.slice none 0 0, .int .i64 10]) ∧ Below w.heap.size w w' := by
  have h4 : decide ((n : Int) - 4 < 0) = true := by simp; omega
  go_enter Try.func40, Try.ntmps40
  go_wp2
  go_ret2
  exact ⟨rfl, ((Below.refl _ _).alloc (Nat.le_refl _) _)⟩

theorem rOpens_short (A : Option Addr) (n c : Nat) (w : World) (hn : n < 4) :
    Calls Try.prog 41 #[.slice A n c] w fun e w' => e = .returned (.bool false) ∧ Below w.heap.size w w' := by
  have h4 : decide ((4 : Int) ≤ (n : Int)) = false := by simp; omega
  go_enter Try.func41, Try.ntmps41
  go_wp2
  go_quiet (fail)
  go_wp2
  go_ret
  exact ⟨rfl, ⟨rfl, rfl, rfl, Nat.le_refl _, fun _ _ => rfl⟩⟩

set_option maxHeartbeats 1000000 in
theorem rOpens_c (A : Option Addr) (m c B : Nat) (bs : List UInt8) (w : World) (hr : Reads w B 1 A (m + 4) (byteCells bs)) (hB : B ≤ w.heap.size) (hmc : m + 4 ≤ c) (hn : m ≤ 900000) (hcm : c ≤ 9223372036854775807) :
    Calls Try.prog 41 #[.slice A (m + 4) c] w fun e w' => e = .returned (.bool (sealP (bs.take m) == bs)) ∧ Below w.heap.size w w' := by
  have HP := Lib.hid (hr.preB (k := m) (by omega))
  have HR := Lib.hid hr; clear hr
  have h4 : ((m + 4 : Nat) : Int) - 4 = (m : Int) := by omega
  have hmi : (m : Int) ≤ (c : Int) := by omega
  have h0i : (0 : Int) ≤ (m : Int) := by omega
  have hw4 : IntKind.i64.wrap (m : Int) = (m : Int) := IntWalk.i64_in _ (by omega)
  have h5 : (4 : Int) ≤ (m : Int) + 4 := by omega
  have hmc' : m ≤ c := by omega
  go_enter Try.func41, Try.ntmps41
  go_wp2
  refine wp_region_noPanic ?_
  refine wp_region_held_drew (S := fun W => (∀ c, (convert 45 9 (.slice A (m + 4) c)).run Try.prog W = .ok (.string ⟨bs.toArray⟩) W) ∧ Below w.heap.size w W) (by kernel_rfl) ⟨conv_reads HR.out.drew, (Below.refl _ _).drew⟩ (fun hHeld => ?_)
  refine takeH 0 (v := ?v0) rfl (by kernel_rfl) (by kernel_rfl) (by kernel_rfl) rfl (fun _ _ _ h => h) (Or.inl ⟨by rfl, ?y0⟩) hHeld ?r0
  case y0 => (intro W hSW; (try dsimp only at hSW); go_simp; try with_reducible rfl)
  simp only [Act.put, List.setIfInBounds_toArray, List.set_cons_zero, List.set_cons_succ]
  refine takeH 1 (v := ?v1) rfl (by kernel_rfl) (by kernel_rfl) (by kernel_rfl) rfl (fun _ _ _ h => h) (Or.inl ⟨by rfl, ?y1⟩) hHeld ?r1
  case y1 => (intro W hSW; (try dsimp only at hSW); go_simp; try with_reducible rfl)
  simp only [Act.put, List.setIfInBounds_toArray, List.set_cons_zero, List.set_cons_succ]
  refine takeH 2 (v := ?v2) rfl (by kernel_rfl) (by kernel_rfl) (by kernel_rfl) rfl (fun _ _ _ h => h) (Or.inl ⟨by rfl, ?y2⟩) hHeld ?r2
  case y2 => (intro W hSW; (try dsimp only at hSW); go_simp; try with_reducible rfl)
  simp only [Act.put, List.setIfInBounds_toArray, List.set_cons_zero, List.set_cons_succ]
  refine takeH 3 (v := ?v3) rfl (by kernel_rfl) (by kernel_rfl) (by kernel_rfl) rfl (fun _ _ _ h => h) (Or.inl ⟨by rfl, ?y3⟩) hHeld ?r3
  case y3 => (intro W hSW; (try dsimp only at hSW); go_simp; try with_reducible rfl)
  simp only [Act.put, List.setIfInBounds_toArray, List.set_cons_zero, List.set_cons_succ]
  refine takeH 4 (v := ?v4) rfl (by kernel_rfl) (by kernel_rfl) (by kernel_rfl) rfl (fun _ _ _ h => h) (Or.inl ⟨by rfl, ?y4⟩) hHeld ?r4
  case y4 => (intro W hSW; (try dsimp only at hSW); go_simp; try with_reducible rfl)
  simp only [Act.put, List.setIfInBounds_toArray, List.set_cons_zero, List.set_cons_succ]
  refine takeH 5 (v := ?v5) rfl (by kernel_rfl) (by kernel_rfl) (by kernel_rfl) rfl (fun _ _ _ h => h) (Or.inl ⟨by rfl, ?y5⟩) hHeld ?r5
  case y5 => (intro W hSW; (try dsimp only at hSW); go_simp; try with_reducible rfl)
  simp only [Act.put, List.setIfInBounds_toArray, List.set_cons_zero, List.set_cons_succ]
  refine takeH 6 (v := ?v6) rfl (by kernel_rfl) (by kernel_rfl) (by kernel_rfl) rfl (fun _ _ _ h => h) (Or.inl ⟨by rfl, ?y6⟩) hHeld ?r6
  case y6 => (intro W hSW; (try dsimp only at hSW); go_simp; try with_reducible rfl)
  simp only [Act.put, List.setIfInBounds_toArray, List.set_cons_zero, List.set_cons_succ]
  refine takeH 7 (v := ?v7) rfl (by kernel_rfl) (by kernel_rfl) (by kernel_rfl) rfl (fun _ _ _ h => h) (Or.inl ⟨by rfl, ?y7⟩) hHeld ?r7
  case y7 => (intro W hSW; (try dsimp only at hSW); go_simp; try with_reducible rfl)
  simp only [Act.put, List.setIfInBounds_toArray, List.set_cons_zero, List.set_cons_succ]
  refine takeH 8 (v := ?v8) rfl (by kernel_rfl) (by kernel_rfl) (by kernel_rfl) rfl (fun _ _ _ h => h) (Or.inl ⟨by rfl, ?y8⟩) hHeld ?r8
  case y8 => (intro W hSW; (try dsimp only at hSW); go_simp; try with_reducible rfl)
  simp only [Act.put, List.setIfInBounds_toArray, List.set_cons_zero, List.set_cons_succ]
  refine takeH 11 (v := ?v11) rfl (by kernel_rfl) (by kernel_rfl) (by kernel_rfl) rfl (fun _ _ _ h => h) (Or.inl ⟨by rfl, ?y11⟩) hHeld ?r11
  case y11 => (intro W hSW; (try dsimp only at hSW); go_simp; try with_reducible rfl)
  simp only [Act.put, List.setIfInBounds_toArray, List.set_cons_zero, List.set_cons_succ]
  refine takeH 12 (v := ?v12) rfl (by kernel_rfl) (by kernel_rfl) (by kernel_rfl) rfl (fun _ _ _ h => h) (Or.inl ⟨by rfl, ?y12⟩) hHeld ?r12
  case y12 => (intro W hSW; (try dsimp only at hSW); go_simp; try with_reducible rfl)
  simp only [Act.put, List.setIfInBounds_toArray, List.set_cons_zero, List.set_cons_succ]
  refine wpAnyH_ready (rs := [9]) (by kernel_rfl) (by simp) ?_
  refine AllReadyH.cons rfl (fun K hK => ?_) AllReadyH.nil
  go_simp
  refine (rSeal_c A m c B (bs.take m) _ HP.out.drew hB (by omega)).mono ?_
  rintro e wn ⟨v, rfl, hown, hbn⟩
  obtain ⟨A1, c1, rfl, hc1, hc2, hc3, hR1⟩ := own_reads hown
  have hcv := conv_reads hR1 c1
  have hbe : Below w.heap.size w wn := ((Below.refl _ _).drew).trans hbn
  clear hown hc1 hc2 hc3 hR1
  refine hK.out _ _ ⟨conv_reads (HR.out.drew.below (hbn.mono hB)), hbe⟩ (fun hHeld => ?_)
  clear hK K
  try simp only [Act.put, List.setIfInBounds_toArray, List.set_cons_zero, List.set_cons_succ]
  refine wpAnyH_ready (rs := [10]) (by kernel_rfl) (by simp) ?_
  refine AllReadyH.cons rfl (fun K hK => ?_) AllReadyH.nil
  go_simp
  refine hK.out _ _ hHeld (fun hHeld => ?_)
  clear hK K
  try simp only [Act.put, List.setIfInBounds_toArray, List.set_cons_zero, List.set_cons_succ]
  refine takeH 13 (v := ?v13) rfl (by kernel_rfl) (by kernel_rfl) (by kernel_rfl) rfl (fun _ _ _ h => h) (Or.inl ⟨by rfl, ?y13⟩) hHeld ?r13
  case y13 => (intro W hSW; (try dsimp only at hSW); go_simp; try with_reducible rfl)
  simp only [Act.put, List.setIfInBounds_toArray, List.set_cons_zero, List.set_cons_succ]
  refine takeH 14 (v := ?v14) rfl (by kernel_rfl) (by kernel_rfl) (by kernel_rfl) rfl (fun _ _ _ h => h) (Or.inl ⟨by rfl, ?y14⟩) hHeld ?r14
  case y14 => (intro W hSW; (try dsimp only at hSW); go_simp; try with_reducible rfl)
  simp only [Act.put, List.setIfInBounds_toArray, List.set_cons_zero, List.set_cons_succ]
  refine takeH 15 (v := ?v15) rfl (by kernel_rfl) (by kernel_rfl) (by kernel_rfl) rfl (fun _ _ _ h => h) (Or.inl ⟨by rfl, ?y15⟩) hHeld ?r15
  case y15 => (intro W hSW; (try dsimp only at hSW); go_simp; try with_reducible rfl)
  simp only [Act.put, List.setIfInBounds_toArray, List.set_cons_zero, List.set_cons_succ]
  refine wpAnyH_done (by kernel_rfl) ?_ _
  refine NoPanic.normal ?_
  go_wp2
  go_ret
  exact ⟨rfl, hbe⟩
end Go.Proofs.Ytmdclaahfndhdaa
