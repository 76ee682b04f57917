/- Contracts of the reference's Below. -/
import Derived.Test.YtmdclaahfndhdaaHist4
namespace Go.Proofs.Ytmdclaahfndhdaa
set_option linter.unusedVariables false
open Go.RowKit

def midF (f : Nat → Int) (k q : Nat) : Nat → Int := fun i => if i < k then sumTo f (i + 1) else if i = k then sumTo f q else 0
theorem midF_zero (f : Nat → Int) (k : Nat) : midF f k 0 = stepF f k := by
  funext i; unfold midF stepF
  by_cases h : i < k
  · rw [if_pos h, if_pos h]
  · rw [if_neg h, if_neg h]; split <;> rfl
theorem midF_full (f : Nat → Int) (k : Nat) : midF f k (k + 1) = stepF f (k + 1) := by
  funext i; unfold midF stepF
  by_cases h : i < k
  · rw [if_pos h, if_pos (by omega)]
  · rw [if_neg h]
    by_cases h2 : i = k
    · subst h2; rw [if_pos rfl, if_pos (by omega)]
    · rw [if_neg h2, if_neg (by omega)]
theorem midF_step (f : Nat → Int) (k q : Nat) (v : Int) (hv : v = sumTo f (q + 1)) : updF (midF f k q) k v = midF f k (q + 1) := by
  subst hv
  funext i; unfold updF midF
  by_cases h2 : i = k
  · subst h2; rw [if_pos rfl, if_neg (by omega), if_pos rfl]
  · rw [if_neg h2]
    by_cases h : i < k
    · rw [if_pos h, if_pos h]
    · rw [if_neg h, if_neg h, if_neg h2, if_neg h2]
theorem midF_at (f : Nat → Int) (k q : Nat) : midF f k q k = sumTo f q := by unfold midF; rw [if_neg (by omega), if_pos rfl]

theorem Blk.belowTop {w w' : World} {g : Nat} {t : TypeId} {cs : Array Value} (h : Blk w g t cs) (hb : Below w.heap.size w w') : Blk w' g t cs := h.below hb h.lt
theorem cell10' {wr : World} {g : Nat} {f : Nat → Int} {s : Int} (h : Blk wr g 62 #[.int .i64 (f 0), .int .i64 (f 1), .int .i64 (f 2), .int .i64 (f 3), .int .i64 (f 4), .int .i64 (f 5), .int .i64 (f 6), .int .i64 (f 7), .int .i64 (f 8), .int .i64 s]) (k : Nat) (hk : k < 9) : wr.cell? ⟨g, k, none⟩ = some (.int .i64 (f k)) := by
  rw [h.cell k]
  rcases (by omega : k = 0 ∨ k = 1 ∨ k = 2 ∨ k = 3 ∨ k = 4 ∨ k = 5 ∨ k = 6 ∨ k = 7 ∨ k = 8) with rfl | rfl | rfl | rfl | rfl | rfl | rfl | rfl | rfl
  all_goals rfl

set_option maxRecDepth 100000 in
set_option maxHeartbeats 4000000 in
theorem rBelow_no (f : Nat → Int) (s : Int) (w : World) (hR : rightF f s = false) : Calls Try.prog 53 #[.agg #[.int .i64 (f 0), .int .i64 (f 1), .int .i64 (f 2), .int .i64 (f 3), .int .i64 (f 4), .int .i64 (f 5), .int .i64 (f 6), .int .i64 (f 7), .int .i64 (f 8), .int .i64 s]] w fun e w' => e = .returned (.agg #[.int .i64 (belowF f s 0), .int .i64 (belowF f s 1), .int .i64 (belowF f s 2), .int .i64 (belowF f s 3), .int .i64 (belowF f s 4), .int .i64 (belowF f s 5), .int .i64 (belowF f s 6), .int .i64 (belowF f s 7), .int .i64 (belowF f s 8)]) ∧ Below w.heap.size w w' := by
  have HR := fun W => Lib.hid (rRight_h f s W)
  have hz : ∀ i, belowF f s i = 0 := fun i => by unfold belowF; rw [hR]; rfl
  have HZ := Lib.hid hz; clear hz
  go_enter Try.func53, Try.ntmps53
  go_wp2
  refine wp_loop_rounds 1 ?_
  rw [rounds_succ]
  go_wp2_with (go_at_call 49; refine ((HR _).out).mono ?_; rintro e w1 ⟨rfl, hb1⟩; obtain ⟨hc1, hf1⟩ := bcell hb1; have hz1 : w.heap.size + 2 < w1.heap.size := (by have := hb1.size; simp at this; omega))
  have hbase : Below w.heap.size w w1 := ((((Below.refl _ _).alloc (Nat.le_refl _) _).alloc (by simp) _).alloc (by simp; omega) _).trans (hb1.mono (by simp; omega))
  refine bodyPost_ret (v := .agg #[.int .i64 0, .int .i64 0, .int .i64 0, .int .i64 0, .int .i64 0, .int .i64 0, .int .i64 0, .int .i64 0, .int .i64 0]) (by simp [results, Try.results53, go_sem, hc1]) rfl ⟨by simp only [HZ.out], ?_⟩
  repeat (refine Below.setCell ?_ (by simp) _)
  exact hbase

set_option maxRecDepth 100000 in
set_option maxHeartbeats 4000000 in
theorem rBelow_yes (f : Nat → Int) (s : Int) (w : World) (hR : rightF f s = true) : Calls Try.prog 53 #[.agg #[.int .i64 (f 0), .int .i64 (f 1), .int .i64 (f 2), .int .i64 (f 3), .int .i64 (f 4), .int .i64 (f 5), .int .i64 (f 6), .int .i64 (f 7), .int .i64 (f 8), .int .i64 s]] w fun e w' => e = .returned (.agg #[.int .i64 (belowF f s 0), .int .i64 (belowF f s 1), .int .i64 (belowF f s 2), .int .i64 (belowF f s 3), .int .i64 (belowF f s 4), .int .i64 (belowF f s 5), .int .i64 (belowF f s 6), .int .i64 (belowF f s 7), .int .i64 (belowF f s 8)]) ∧ Below w.heap.size w w' := by
  have HR := fun W => Lib.hid (rRight_h f s W)
  obtain ⟨hbd, hs0, hs1⟩ := rightF_bd hR
  have HBD := Lib.hid hbd; clear hbd
  have HZ := Lib.hid (show ∀ i, i < 9 → belowF f s i = stepF f 9 i from fun i hi => by unfold belowF stepF; rw [if_pos hR, if_pos hi])
  go_enter Try.func53, Try.ntmps53
  go_wp2
  go_loopw [4] (fun i wr => ∃ k : Nat, k ≤ 9 ∧ i = .int .i64 k ∧ Hid (Blk wr (w.heap.size + 2) 60 (lit9 (stepF f k))) ∧ Hid (Blk wr (w.heap.size + 1) 60 #[.int .i64 0, .int .i64 0, .int .i64 0, .int .i64 0, .int .i64 0, .int .i64 0, .int .i64 0, .int .i64 0, .int .i64 0]) ∧ Hid (Blk wr w.heap.size 62 #[.int .i64 (f 0), .int .i64 (f 1), .int .i64 (f 2), .int .i64 (f 3), .int .i64 (f 4), .int .i64 (f 5), .int .i64 (f 6), .int .i64 (f 7), .int .i64 (f 8), .int .i64 s]) ∧ Below w.heap.size w wr) (fun i _ => 9 - (intOf i).toNat)
  case atStart => exact ⟨0, Nat.zero_le _, rfl, blk3_2 w _ _ _ _ _ _, blk3_1 w _ _ _ _ _ _, blk3_0 w _ _ _ _ _ _, (((Below.refl _ _).alloc (Nat.le_refl _) _).alloc (by simp) _).alloc (by simp; omega) _⟩
  case round =>
    obtain ⟨k, hk, rfl, H2, H1, H0, hbr⟩ := hrel
    by_cases hlt : k < 9
    · have hH := fun k hk => cell10' H0.out k hk
      have h9 : wr.cell? ⟨w.heap.size, 9, none⟩ = some (.int .i64 s) := H0.out.cell 9
      go_wp2_with (go_at_call 49; refine ((HR _).out).mono ?_; rintro e w1 ⟨rfl, hb1⟩)
      have K2 := Lib.hid (H2.out.belowTop hb1)
      have K1 := Lib.hid (H1.out.belowTop hb1)
      have K0 := Lib.hid (H0.out.belowTop hb1)
      have hbr1 := hbr.trans (hb1.mono hbr.size)
      clear hH h9 H0 H1 H2 hb1 hbr
      rw [← midF_zero] at K2
      obtain ⟨wo, rfl⟩ : ∃ wo : World, wo = wr := ⟨_, rfl⟩
      go_loopw [5] (fun j wr => ∃ q : Nat, q ≤ k + 1 ∧ j = .int .i64 q ∧ Hid (Blk wr (w.heap.size + 2) 60 (lit9 (midF f k q))) ∧ Hid (Blk wr (w.heap.size + 1) 60 #[.int .i64 0, .int .i64 0, .int .i64 0, .int .i64 0, .int .i64 0, .int .i64 0, .int .i64 0, .int .i64 0, .int .i64 0]) ∧ Hid (Blk wr w.heap.size 62 #[.int .i64 (f 0), .int .i64 (f 1), .int .i64 (f 2), .int .i64 (f 3), .int .i64 (f 4), .int .i64 (f 5), .int .i64 (f 6), .int .i64 (f 7), .int .i64 (f 8), .int .i64 s]) ∧ Below w.heap.size w wr) (fun j _ => k + 1 - (intOf j).toNat)
      case atStart => exact ⟨0, Nat.zero_le _, rfl, K2, K1, K0, hbr1⟩
      case round =>
        obtain ⟨q, hq, rfl, H2, H1, H0, hbr⟩ := hrel
        by_cases hqk : q ≤ k
        · have hsm := sumTo_bd f HBD.out q (by omega)
          have hfq := HBD.out q (by omega)
          have hA : wr.cell? ⟨w.heap.size + 2, k, none⟩ = some (.int .i64 (sumTo f q)) := ((H2.out.cell k).trans (lit9_get _ k hlt)).trans (by rw [midF_at])
          have hA' : wr.cell? ⟨w.heap.size + 1 + 1, k, none⟩ = some (.int .i64 (sumTo f q)) := hA
          have hF : wr.frozen? ⟨w.heap.size + 2, k, none⟩ = false := H2.out.frozen k
          have hF' : wr.frozen? ⟨w.heap.size + 1 + 1, k, none⟩ = false := hF
          have hQ := cell10' H0.out q (by omega)
          have hk9 : (k : Int) < 9 := by omega
          have hq9 : (q : Int) < 9 := by omega
          have hadd : IntKind.i64.wrap (sumTo f q + f q) = sumTo f q + f q := IntWalk.i64_in _ (by omega)
          go_wp2
          go_still_tail 10, (by kernel_rfl)
          change wpList _ _ _ _ _ wr.drew
          go_wp2
          refine ⟨⟨q + 1, by omega, by go_num, ?_, ?_, ?_, ?_⟩, by simp [intOf]; omega⟩
          · have e := H2.out.set_ k (.int .i64 (sumTo f q + f q))
            rw [lit9_set _ k hlt, midF_step f k q (sumTo f q + f q) rfl] at e
            exact e
          · exact Blk.far (p := ⟨w.heap.size + 2, k, none⟩) H1.out (by simp) _
          · exact Blk.far (p := ⟨w.heap.size + 2, k, none⟩) H0.out (by simp) _
          · exact (hbr.setCell (p := ⟨w.heap.size + 2, k, none⟩) (by simp) _).drew
        · obtain rfl : q = k + 1 := by omega
          rw [midF_full] at H2
          go_wp2
          go_roundw
          case rel => exact ⟨k + 1, by omega, by go_num, H2, H1, H0, hbr⟩
          case measure => simp [intOf]; omega
    · obtain rfl : k = 9 := by omega
      have hA : ∀ i, i < 9 → wr.cell? ⟨w.heap.size + 2, i, none⟩ = some (.int .i64 (belowF f s i)) := fun i hi => by rw [HZ.out i hi]; exact (H2.out.cell i).trans (lit9_get _ i hi)
      have hB : ∀ i, i < 9 → wr.cell? ⟨w.heap.size + 1, i, none⟩ = some (.int .i64 0) := fun i hi => (H1.out.cell i).trans (lit9_get (fun _ => 0) i hi)
      have hF : ∀ i, wr.frozen? ⟨w.heap.size + 1, i, none⟩ = false := fun i => H1.out.frozen i
      go_wp2
      refine bodyPost_ret (v := .agg #[.int .i64 (belowF f s 0), .int .i64 (belowF f s 1), .int .i64 (belowF f s 2), .int .i64 (belowF f s 3), .int .i64 (belowF f s 4), .int .i64 (belowF f s 5), .int .i64 (belowF f s 6), .int .i64 (belowF f s 7), .int .i64 (belowF f s 8)]) (by simp [results, Try.results53, go_sem, hB]) rfl ⟨rfl, ?_⟩
      repeat (refine Below.setCell ?_ (by simp) _)
      exact hbr

theorem rBelow_h (f : Nat → Int) (s : Int) (w : World) : Calls Try.prog 53 #[.agg #[.int .i64 (f 0), .int .i64 (f 1), .int .i64 (f 2), .int .i64 (f 3), .int .i64 (f 4), .int .i64 (f 5), .int .i64 (f 6), .int .i64 (f 7), .int .i64 (f 8), .int .i64 s]] w fun e w' => e = .returned (.agg #[.int .i64 (belowF f s 0), .int .i64 (belowF f s 1), .int .i64 (belowF f s 2), .int .i64 (belowF f s 3), .int .i64 (belowF f s 4), .int .i64 (belowF f s 5), .int .i64 (belowF f s 6), .int .i64 (belowF f s 7), .int .i64 (belowF f s 8)]) ∧ Below w.heap.size w w' := by
  cases hR : rightF f s
  · exact rBelow_no f s w hR
  · exact rBelow_yes f s w hR
end Go.Proofs.Ytmdclaahfndhdaa
