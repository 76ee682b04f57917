/- The walk of TallyRight. -/
import Derived.Test.YtnccamcfjbjkbaaLawTally3
import Derived.Test.YtnccamcfjbjkbaaHeld
import Derived.IntWalk
namespace Go.Proofs.Ytnccamcfjbjkbaa
set_option linter.unusedVariables false
open Go.RowKit

def pairK (zs : List Int) (k : Nat) : List (Int × Int) := (List.range k).map (fun i => (hold (zs.getD (2 * i) 0), hold (zs.getD (2 * i + 1) 0)))
theorem pairK_succ (zs : List Int) (k : Nat) : pairK zs (k + 1) = pairK zs k ++ [(hold (zs.getD (2 * k) 0), hold (zs.getD (2 * k + 1) 0))] := by simp [pairK, List.range_succ]
theorem pairK_small (zs : List Int) (k : Nat) : ∀ z ∈ pairK zs k, smallP 1099511627776 z := by
  intro z hz
  obtain ⟨i, _, rfl⟩ := List.mem_map.1 hz
  exact small_hold _ _
theorem pairK_bound (zs : List Int) (k : Nat) (hk : k ≤ 300) : smallP 329853488332800 (sumP (pairK zs k)) := by
  have h := small_mul k 300 1099511627776 _ (by omega) (by omega) (by have h := sumP_small 1099511627776 (by omega) (pairK zs k) (pairK_small zs k); rw [show (pairK zs k).length = k from by simp [pairK]] at h; exact h)
  simpa using h

set_option maxRecDepth 100000 in
theorem TallyRight_long (A : Option Addr) (n c : Nat) (x y q : Int) (w : World) (h : 300 < n) :
    Calls Try.prog 3 #[.int .i64 x, .int .i64 y, .int .i64 q, .slice A n c] w fun e w' => e = .returned (.bool true) ∧ Below w.heap.size w w' := by
  have d : decide ((300 : Int) < (n : Int)) = true := by simp; omega
  go_enter Try.func3, Try.ntmps3
  go_wp2_with fail
  with_reducible refine (Tally_awake _).mono ?_
  rintro e w1 ⟨rfl, hb⟩
  go_wp2
  go_ret
  exact ⟨rfl, hb⟩
set_option maxRecDepth 100000 in
set_option maxHeartbeats 4000000 in
theorem TallyRight_main (A : Option Addr) (n c : Nat) (zs : List Int) (x y q : Int) (w : World) (hr : Reads w w.heap.size 1 A n (zs.map (Value.int .i64))) (h : n ≤ 300) (q1 : -9223372036854775808 ≤ q) (q2 : q ≤ 9223372036854775807) :
    Calls Try.prog 3 #[.int .i64 x, .int .i64 y, .int .i64 q, .slice A n c] w fun e w' => e = .returned (.bool true) ∧ Below w.heap.size w w' := by
  have d : decide ((300 : Int) < (n : Int)) = false := by simp; omega
  have HL := Lib.hid (show zs.length = n from by simpa using hr.1)
  have HR := Lib.hid hr
  clear hr
  obtain ⟨i0, hi0, hz0, hz1, hz2⟩ := info_parts Try.infoC128
  have x1 := hold_lo x
  have x2 := hold_hi x
  have y1 := hold_lo y
  have y2 := hold_hi y
  go_enter Try.func3, Try.ntmps3
  go_wp2_with fail
  with_reducible refine (Tally_awake _).mono ?_
  rintro e w1 ⟨rfl, hb⟩
  have HB := Lib.hid hb
  clear hb
  go_wp2_with fail
  with_reducible refine (rHold_c x _).mono ?_
  rintro e w' ⟨rfl, rfl⟩
  go_wp2_with fail
  with_reducible refine (rHold_c y _).mono ?_
  rintro e w' ⟨rfl, rfl⟩
  go_wp2_with fail
  with_reducible refine (Of_c x y _).mono ?_
  rintro e w' ⟨v1, rfl, ⟨a1, b1, rfl, h1, h2⟩, rfl⟩
  have H1 := Lib.hid h1
  have H2 := Lib.hid h2
  clear h1 h2
  go_wp2_with fail
  with_reducible refine (Parts_c H1.out H2.out _).mono ?_
  rintro e w' ⟨rfl, rfl⟩
  go_wp2_with fail
  with_reducible refine (Of_c x y _).mono ?_
  rintro e w' ⟨v2, rfl, hv2, rfl⟩
  have HV2 := Lib.hid hv2
  clear hv2
  go_wp2_with fail
  with_reducible refine (Turn_c v2 _ _ q HV2.out q1 q2 _).mono ?_
  rintro e w' ⟨v3, rfl, ⟨a3, b3, rfl, h3, h4⟩, rfl⟩
  have H3 := Lib.hid h3
  have H4 := Lib.hid h4
  clear h3 h4
  go_wp2_with fail
  with_reducible refine (Parts_c H3.out H4.out _).mono ?_
  rintro e w' ⟨rfl, rfl⟩
  go_wp2_with fail
  with_reducible refine (rTurn_c (hold x) (hold y) q (by omega) (by omega) (by omega) (by omega) q1 q2 _).mono ?_
  rintro e w' ⟨rfl, rfl⟩
  have HO0 := Lib.hid (show ∃ ps, w1.ownsRow w.heap.size 27 1 (.slice none 0 0) 0 (ps.map cxv) ∧ FlL ps (pairK zs 0) ∧ Below w.heap.size w w1 from ⟨[], ⟨rfl, .inl ⟨rfl, rfl⟩⟩, FlL.nil, HB.out⟩)
  clear HB H1 H2 H3 H4 HV2
  go_wp2
  go_loopw [15, 16, 17, 18] (fun v p q i wr => ∃ k : Nat, 2 * k ≤ n ∧ i = .int .i64 ((2 * k : Nat) : Int) ∧ p = .int .i64 (sumP (pairK zs k)).1 ∧ q = .int .i64 (sumP (pairK zs k)).2 ∧ Hid (∃ ps, wr.ownsRow w.heap.size 27 1 v k (ps.map cxv) ∧ FlL ps (pairK zs k) ∧ Below w.heap.size w wr)) (fun _ _ _ i _ => n - (intOf i).toNat)
  case atStart => exact ⟨0, by omega, rfl, rfl, rfl, HO0⟩
  case round =>
    obtain ⟨k, hk, rfl, rfl, rfl, HP⟩ := hrel
    clear HO0
    obtain ⟨ps, hown, hf, hb⟩ := HP.out
    have HF := Lib.hid hf
    have HB := Lib.hid hb
    have HO := Lib.hid hown
    clear HP hf hb hown
    have hbs := HB.out.size
    have hsm := pairK_bound zs k (by omega)
    unfold smallP at hsm
    obtain ⟨s1, s2, s3, s4⟩ := hsm
    obtain ⟨i, hi⟩ : ∃ i : Nat, 2 * k = i := ⟨_, rfl⟩
    rw [hi]
    by_cases hlt : i + 1 < n
    · obtain ⟨ad, u, rfl, hba, hx, hc⟩ := HR.out.at_ (show i < n by omega)
      obtain ⟨z1, hz1', rfl⟩ : ∃ x, zs[i]? = some x ∧ Value.int .i64 x = u := by simpa using hx
      obtain ⟨ad', u', hA', _, hx2, hc2⟩ := HR.out.at_ hlt
      cases hA'
      obtain ⟨z2, hz2', rfl⟩ : ∃ x, zs[i + 1]? = some x ∧ Value.int .i64 x = u' := by simpa using hx2
      have HS := Lib.hid (show pairK zs (k + 1) = pairK zs k ++ [(hold z1, hold z2)] from by rw [pairK_succ, hi, getD_of_some hz1', getD_of_some hz2'])
      have bc1 : w.cell? (ad.add i) = some (.int .i64 z1) := hc
      have bc2 : w.cell? ⟨ad.block, ad.off + (i + 1), none⟩ = some (.int .i64 z2) := by rw [show ad.add (i + 1) = ⟨ad.block, ad.off + (i + 1), none⟩ from by unfold Addr.add; rw [if_neg (by omega)]] at hc2; exact hc2
      have HOd := Lib.hid (show wr.drew.ownsRow w.heap.size 27 1 _ k (ps.map cxv) from HO.out)
      have g1 := hold_lo z1
      have g2 := hold_hi z1
      have g3 := hold_lo z2
      have g4 := hold_hi z2
      have i1 : (0 : Int) ≤ (i : Int) := by omega
      have i2 : (i : Int) < (n : Int) := by omega
      have i3 : (0 : Int) ≤ (i : Int) + 1 := by omega
      have i4 : (i : Int) + 1 < (n : Int) := by omega
      have i5 : IntKind.i64.wrap ((i : Int) + 1) = (i : Int) + 1 := IntWalk.i64_in _ (by omega)
      have i6 : ((i : Int) + 1).toNat = i + 1 := by omega
      clear hx hx2 hc hc2 hz1' hz2'
      go_wp2
      -- REGION
      refine wp_region_noPanic ?_
      refine wp_region_held_drew (S := fun W => Below w.heap.size w W) (by kernel_rfl) HB.out.drew (fun hHeld => ?_)
      refine takeH 0 (v := ?v0u1) rfl (by kernel_rfl) (by kernel_rfl) (by kernel_rfl) rfl (fun _ _ _ h => h) (Or.inl ⟨by rfl, ?y0u1⟩) hHeld ?r0u1
      case y0u1 => (intro W hSW; (try dsimp only at hSW); go_simp; try with_reducible rfl)
      simp only [Act.put, List.setIfInBounds_toArray, List.set_cons_zero, List.set_cons_succ]
      refine takeH 1 (v := ?v1u2) rfl (by kernel_rfl) (by kernel_rfl) (by kernel_rfl) rfl (fun _ _ _ h => h) (Or.inl ⟨by rfl, ?y1u2⟩) hHeld ?r1u2
      case y1u2 => (intro W hSW; (try dsimp only at hSW); go_simp; try with_reducible rfl)
      simp only [Act.put, List.setIfInBounds_toArray, List.set_cons_zero, List.set_cons_succ]
      refine takeH 2 (v := ?v2u3) rfl (by kernel_rfl) (by kernel_rfl) (by kernel_rfl) rfl (fun _ _ _ h => h) (Or.inl ⟨by rfl, ?y2u3⟩) hHeld ?r2u3
      case y2u3 => (intro W hSW; (try dsimp only at hSW); go_simp; try with_reducible rfl)
      simp only [Act.put, List.setIfInBounds_toArray, List.set_cons_zero, List.set_cons_succ]
      refine takeH 3 (v := ?v3u4) rfl (by kernel_rfl) (by kernel_rfl) (by kernel_rfl) rfl (fun _ _ _ h => h) (Or.inl ⟨by rfl, ?y3u4⟩) hHeld ?r3u4
      case y3u4 => (intro W hSW; (try dsimp only at hSW); go_simp; try with_reducible rfl)
      simp only [Act.put, List.setIfInBounds_toArray, List.set_cons_zero, List.set_cons_succ]
      refine takeH 4 (v := ?v4u5) rfl (by kernel_rfl) (by kernel_rfl) (by kernel_rfl) rfl (fun _ _ _ h => h) (Or.inl ⟨by rfl, ?y4u5⟩) hHeld ?r4u5
      case y4u5 => (intro W hSW; (try dsimp only at hSW); have qq : W.cell? (ad.add i) = some (.int .i64 z1) := (hSW.cell (by rw [block_of_add]; omega)).trans bc1; go_simp; try with_reducible rfl)
      simp only [Act.put, List.setIfInBounds_toArray, List.set_cons_zero, List.set_cons_succ]
      refine takeH 5 (v := ?v5u6) rfl (by kernel_rfl) (by kernel_rfl) (by kernel_rfl) rfl (fun _ _ _ h => h) (Or.inl ⟨by rfl, ?y5u6⟩) hHeld ?r5u6
      case y5u6 => (intro W hSW; (try dsimp only at hSW); go_simp; try with_reducible rfl)
      simp only [Act.put, List.setIfInBounds_toArray, List.set_cons_zero, List.set_cons_succ]
      refine takeH 6 (v := ?v6u7) rfl (by kernel_rfl) (by kernel_rfl) (by kernel_rfl) rfl (fun _ _ _ h => h) (Or.inl ⟨by rfl, ?y6u7⟩) hHeld ?r6u7
      case y6u7 => (intro W hSW; (try dsimp only at hSW); go_simp; try with_reducible rfl)
      simp only [Act.put, List.setIfInBounds_toArray, List.set_cons_zero, List.set_cons_succ]
      refine takeH 7 (v := ?v7u8) rfl (by kernel_rfl) (by kernel_rfl) (by kernel_rfl) rfl (fun _ _ _ h => h) (Or.inl ⟨by rfl, ?y7u8⟩) hHeld ?r7u8
      case y7u8 => (intro W hSW; (try dsimp only at hSW); go_simp; try with_reducible rfl)
      simp only [Act.put, List.setIfInBounds_toArray, List.set_cons_zero, List.set_cons_succ]
      refine takeH 8 (v := ?v8u9) rfl (by kernel_rfl) (by kernel_rfl) (by kernel_rfl) rfl (fun _ _ _ h => h) (Or.inl ⟨by rfl, ?y8u9⟩) hHeld ?r8u9
      case y8u9 => (intro W hSW; (try dsimp only at hSW); go_simp; try with_reducible rfl)
      simp only [Act.put, List.setIfInBounds_toArray, List.set_cons_zero, List.set_cons_succ]
      refine takeH 9 (v := ?v9u10) rfl (by kernel_rfl) (by kernel_rfl) (by kernel_rfl) rfl (fun _ _ _ h => h) (Or.inl ⟨by rfl, ?y9u10⟩) hHeld ?r9u10
      case y9u10 => (intro W hSW; (try dsimp only at hSW); have qq : W.cell? ⟨ad.block, ad.off + (i + 1), none⟩ = some (.int .i64 z2) := (hSW.cell (by simp; omega)).trans bc2; go_simp; try with_reducible rfl)
      simp only [Act.put, List.setIfInBounds_toArray, List.set_cons_zero, List.set_cons_succ]
      refine wpAnyH_ready (rs := [10]) (by kernel_rfl) (by simp) ?_
      refine AllReadyH.cons rfl (fun K hK => ?_) AllReadyH.nil
      go_simp
      with_reducible refine (Of_c z1 z2 _).mono ?_
      rintro e w' ⟨v1, rfl, hv1, rfl⟩
      obtain ⟨p, rfl, hfp⟩ := FlL.snoc HF.out hv1
      rw [← HS.out] at hfp
      have HFP := Lib.hid hfp
      clear hfp hv1
      refine hK.out _ _ hHeld (fun hHeld => ?_)
      clear hK K
      try simp only [Act.put, List.setIfInBounds_toArray, List.set_cons_zero, List.set_cons_succ]
      refine wpAnyH_ready (rs := [11]) (by kernel_rfl) (by simp) ?_
      refine AllReadyH.cons rfl (fun K hK => ?_) AllReadyH.nil
      go_simp
      refine hK.out _ _ (hHeld.alloc hbs _) (fun hHeld => ?_)
      clear hK K
      try simp only [Act.put, List.setIfInBounds_toArray, List.set_cons_zero, List.set_cons_succ]
      refine wpAnyH_ready (rs := [12]) (by kernel_rfl) (by simp) ?_
      refine AllReadyH.cons rfl (fun K hK => ?_) AllReadyH.nil
      refine step_append_any _ rfl _ _ 31 rfl w.heap.size 27 i0 _ 1 16 Try.underlying31 hi0 hz0 hz1 hz2 rfl (by omega) _ k (ps.map cxv) rfl (HOd.out.alloc _) (wr.heap.size + 1) (some ⟨wr.heap.size, 0, none⟩) 1 1 [.complex .f64 p.1 p.2] rfl (Reads.of_blk (Blk.new wr.drew 27 #[.complex .f64 p.1 p.2]) 1 _ rfl rfl) (by intro u hu; simp at hu; subst hu; rfl) (by unfold maxLen; omega) (by omega) (by simp [World.drew]; omega) ?_
      intro v' w3 hown3 hg3 _
      have HB3 := Lib.hid (show Below w.heap.size w w3 from below_own hHeld hg3 (HOd.out.alloc _) (Nat.le_refl _) (by simp [World.drew]; omega))
      refine hK.out _ _ HB3.out (fun hHeld => ?_)
      clear hK K
      simp only [Act.put, List.setIfInBounds_toArray]
      refine takeH 13 (v := ?v13u11) rfl (by kernel_rfl) (by kernel_rfl) (by kernel_rfl) rfl (fun _ _ _ h => h) (Or.inl ⟨by rfl, ?y13u11⟩) hHeld ?r13u11
      case y13u11 => (intro W hSW; (try dsimp only at hSW); go_simp; try with_reducible rfl)
      simp only [Act.put]
      refine wpAnyH_done (by kernel_rfl) ?_ _
      refine NoPanic.normal ?_
      have HN := Lib.hid (show ∃ ps, w3.ownsRow w.heap.size 27 1 v' (k + 1) (ps.map cxv) ∧ FlL ps (pairK zs (k + 1)) ∧ Below w.heap.size w w3 from ⟨ps ++ [p], by rw [List.map_append]; exact hown3, HFP.out, HB3.out⟩)
      have e1 : w3.cell? (ad.add i) = some (.int .i64 z1) := (HB3.out.cell (by rw [block_of_add]; omega)).trans bc1
      have e2 : w3.cell? ⟨ad.block, ad.off + (i + 1), none⟩ = some (.int .i64 z2) := (HB3.out.cell (by simp; omega)).trans bc2
      clear hown3 hg3 HOd hHeld
      go_wp2_with (go_at_call 7; refine (rHold_c _ _).mono ?_; rintro e w' ⟨rfl, rfl⟩)
      go_roundw
      case rel => exact ⟨k + 1, by omega, by rw [show 2 * (k + 1) = i + 2 from by omega]; go_num, by rw [HS.out, sumP_snoc], by rw [HS.out, sumP_snoc], HN⟩
      case measure => simp [intOf]; omega
    · have dk : decide ((i : Int) + 1 < (n : Int)) = false := by simp; omega
      obtain ⟨A2, c2, rfl, _, _, _, hr2⟩ := own_reads HO.out
      have HR2 := Lib.hid hr2
      clear hr2
      go_wp2_with fail
      with_reducible refine (Sum_c A2 k c2 _ ps _ _ HR2.out HF.out (pairK_small zs k) (by omega)).mono ?_
      rintro e w' ⟨a, b, rfl, ha, hb, rfl⟩
      have HA := Lib.hid ha
      have HB2 := Lib.hid hb
      clear ha hb
      go_wp2_with fail
      with_reducible refine (Parts_c HA.out HB2.out _).mono ?_
      rintro e w' ⟨rfl, rfl⟩
      go_wp2
      go_ret
      exact ⟨rfl, HB.out⟩
theorem TallyRight_walk (x y q : Int) (A : Option Addr) (n c : Nat) (zs : List Int) (w : World) (hq : (Lit.int .i64 q).wf = true) (hz : IntArg .i64 w A n c zs) :
    Calls Try.prog 3 #[.int .i64 x, .int .i64 y, .int .i64 q, .slice A n c] w fun e w' => e = .returned (.bool true) ∧ Below w.heap.size w w' := by
  have h1 := bounds_i64 hq
  by_cases h : 300 < n
  · exact TallyRight_long A n c x y q w h
  · exact TallyRight_main A n c zs x y q w hz.1 (by omega) h1.1 h1.2
end Go.Proofs.Ytnccamcfjbjkbaa
