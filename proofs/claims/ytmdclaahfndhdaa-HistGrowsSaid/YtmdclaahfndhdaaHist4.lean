/- Contracts of hist.Below and of its reference. -/
import Derived.Test.YtmdclaahfndhdaaHist
import Derived.StillTailTactics
namespace Go.Proofs.Ytmdclaahfndhdaa
set_option linter.unusedVariables false
open Go.RowKit

def lit9 (g : Nat → Int) : Array Value := #[.int .i64 (g 0), .int .i64 (g 1), .int .i64 (g 2), .int .i64 (g 3), .int .i64 (g 4), .int .i64 (g 5), .int .i64 (g 6), .int .i64 (g 7), .int .i64 (g 8)]
theorem lit9_get (g : Nat → Int) (k : Nat) (hk : k < 9) : (lit9 g)[k]? = some (.int .i64 (g k)) := by
  rcases (by omega : k = 0 ∨ k = 1 ∨ k = 2 ∨ k = 3 ∨ k = 4 ∨ k = 5 ∨ k = 6 ∨ k = 7 ∨ k = 8) with rfl | rfl | rfl | rfl | rfl | rfl | rfl | rfl | rfl
  all_goals rfl
theorem lit9_set (g : Nat → Int) (k : Nat) (hk : k < 9) (v : Int) : (lit9 g).setIfInBounds k (.int .i64 v) = lit9 (updF g k v) := by
  rcases (by omega : k = 0 ∨ k = 1 ∨ k = 2 ∨ k = 3 ∨ k = 4 ∨ k = 5 ∨ k = 6 ∨ k = 7 ∨ k = 8) with rfl | rfl | rfl | rfl | rfl | rfl | rfl | rfl | rfl
  all_goals simp [lit9, updF]
theorem lit9_ext {g h : Nat → Int} (e : ∀ i, i < 9 → g i = h i) : lit9 g = lit9 h := by
  unfold lit9
  rw [e 0 (by omega), e 1 (by omega), e 2 (by omega), e 3 (by omega), e 4 (by omega), e 5 (by omega), e 6 (by omega), e 7 (by omega), e 8 (by omega)]
def stepF (f : Nat → Int) (k : Nat) : Nat → Int := fun i => if i < k then sumTo f (i + 1) else 0

set_option maxRecDepth 100000 in
set_option maxHeartbeats 4000000 in
theorem Below_no (f : Nat → Int) (s : Int) (w : World) (hR : rightF f s = false) : Calls Try.prog 52 #[.agg #[.int .i64 (f 0), .int .i64 (f 1), .int .i64 (f 2), .int .i64 (f 3), .int .i64 (f 4), .int .i64 (f 5), .int .i64 (f 6), .int .i64 (f 7), .int .i64 (f 8), .int .i64 s]] w fun e w' => e = .returned (.agg #[.int .i64 (belowF f s 0), .int .i64 (belowF f s 1), .int .i64 (belowF f s 2), .int .i64 (belowF f s 3), .int .i64 (belowF f s 4), .int .i64 (belowF f s 5), .int .i64 (belowF f s 6), .int .i64 (belowF f s 7), .int .i64 (belowF f s 8)]) ∧ Below w.heap.size w w' := by
  have HR := fun W => Lib.hid (Right_h f s W)
  have hz : ∀ i, belowF f s i = 0 := fun i => by unfold belowF; rw [hR]; rfl
  have HZ := Lib.hid hz; clear hz
  go_enter Try.func52, Try.ntmps52
  go_wp2_with (go_at_call 48; refine ((HR _).out).mono ?_; rintro e w1 ⟨rfl, hb1⟩; obtain ⟨hc1, hf1⟩ := bcell hb1; have hz1 : w.heap.size + 2 < w1.heap.size := (by have := hb1.size; simp at this; omega))
  have hbase : Below w.heap.size w w1 := ((((Below.refl _ _).alloc (Nat.le_refl _) _).alloc (by simp) _).alloc (by simp; omega) _).trans (hb1.mono (by simp; omega))
  refine bodyPost_ret (v := .agg #[.int .i64 0, .int .i64 0, .int .i64 0, .int .i64 0, .int .i64 0, .int .i64 0, .int .i64 0, .int .i64 0, .int .i64 0]) (by simp [results, Try.results52, go_sem, hc1]) rfl ⟨by simp only [HZ.out], ?_⟩
  repeat (refine Below.setCell ?_ (by simp) _)
  exact hbase

set_option maxRecDepth 100000 in
set_option maxHeartbeats 4000000 in
theorem Below_yes (f : Nat → Int) (s : Int) (w : World) (hR : rightF f s = true) : Calls Try.prog 52 #[.agg #[.int .i64 (f 0), .int .i64 (f 1), .int .i64 (f 2), .int .i64 (f 3), .int .i64 (f 4), .int .i64 (f 5), .int .i64 (f 6), .int .i64 (f 7), .int .i64 (f 8), .int .i64 s]] w fun e w' => e = .returned (.agg #[.int .i64 (belowF f s 0), .int .i64 (belowF f s 1), .int .i64 (belowF f s 2), .int .i64 (belowF f s 3), .int .i64 (belowF f s 4), .int .i64 (belowF f s 5), .int .i64 (belowF f s 6), .int .i64 (belowF f s 7), .int .i64 (belowF f s 8)]) ∧ Below w.heap.size w w' := by
  have HR := fun W => Lib.hid (Right_h f s W)
  have HI := fun k hk W => Lib.hid (idx9 f k hk W)
  obtain ⟨hbd, hs0, hs1⟩ := rightF_bd hR
  have HBD := Lib.hid hbd; clear hbd
  have HZ := Lib.hid (show ∀ i, i < 9 → belowF f s i = stepF f 9 i from fun i hi => by unfold belowF stepF; rw [if_pos hR, if_pos hi])
  go_enter Try.func52, Try.ntmps52
  go_wp2_with (go_at_call 48; refine ((HR _).out).mono ?_; rintro e w1 ⟨rfl, hb1⟩; obtain ⟨hc1, hf1⟩ := bcell hb1; have hz1 : w.heap.size + 2 < w1.heap.size := (by have := hb1.size; simp at this; omega))
  have HB2 : Hid (Blk w1 (w.heap.size + 2) 60 (lit9 (stepF f 0))) := (blk3_2 w _ _ _ _ _ _).below hb1 (by simp)
  have HB1 : Hid (Blk w1 (w.heap.size + 1) 60 #[.int .i64 0, .int .i64 0, .int .i64 0, .int .i64 0, .int .i64 0, .int .i64 0, .int .i64 0, .int .i64 0, .int .i64 0]) := (blk3_1 w _ _ _ _ _ _).below hb1 (by simp)
  have hbase : Below w.heap.size w w1 := ((((Below.refl _ _).alloc (Nat.le_refl _) _).alloc (by simp) _).alloc (by simp; omega) _).trans (hb1.mono (by simp; omega))
  clear hc1 hf1 hb1 hz1
  go_loopw [4, 13] (fun t i wr => ∃ k : Nat, k ≤ 9 ∧ i = .int .i64 k ∧ t = .int .i64 (sumTo f k) ∧ Hid (Blk wr (w.heap.size + 2) 60 (lit9 (stepF f k))) ∧ Hid (Blk wr (w.heap.size + 1) 60 #[.int .i64 0, .int .i64 0, .int .i64 0, .int .i64 0, .int .i64 0, .int .i64 0, .int .i64 0, .int .i64 0, .int .i64 0]) ∧ Below w.heap.size w wr) (fun _ i _ => 9 - (intOf i).toNat)
  case atStart => exact ⟨0, Nat.zero_le _, rfl, rfl, HB2, HB1, hbase⟩
  case round =>
    obtain ⟨k, hk, rfl, rfl, H2, H1, hbr⟩ := hrel
    have hsm := sumTo_bd f HBD.out k hk
    by_cases hlt : k < 9
    · have hidx := fun W => (HI k hlt W).out
      have hfk := HBD.out k hlt
      have hcell : wr.cell? ⟨w.heap.size + 2, k, none⟩ = some (.int .i64 (stepF f k k)) := (H2.out.cell k).trans (lit9_get _ k hlt)
      have hfz : wr.frozen? ⟨w.heap.size + 2, k, none⟩ = false := H2.out.frozen k
      clear HB1 HB2 hbase
      go_wp2
      go_roundw
      case rel =>
        refine ⟨k + 1, by omega, by go_num, rfl, ?_, H1.out.far (by simp) _, hbr.setCell (by first | (simp; done) | (simp; omega)) _⟩
        have e := H2.out.set_ k (.int .i64 (sumTo f k + f k))
        rw [lit9_set _ k hlt, lit9_ext (h := stepF f (k + 1)) (fun i hi => ?_)] at e
        · exact e
        · unfold updF stepF
          by_cases h1 : i = k
          · subst h1; rw [if_pos rfl, if_pos (by omega)]; rfl
          · rw [if_neg h1]
            by_cases h2 : i < k
            · rw [if_pos h2, if_pos (by omega)]
            · rw [if_neg h2, if_neg (by omega)]
      case measure => simp [intOf]; omega
    · obtain rfl : k = 9 := by omega
      have hA : ∀ i, i < 9 → wr.cell? ⟨w.heap.size + 2, i, none⟩ = some (.int .i64 (belowF f s i)) := fun i hi => by rw [HZ.out i hi]; exact (H2.out.cell i).trans (lit9_get _ i hi)
      have hB : ∀ i, i < 9 → wr.cell? ⟨w.heap.size + 1, i, none⟩ = some (.int .i64 0) := fun i hi => (H1.out.cell i).trans (lit9_get (fun _ => 0) i hi)
      have hF : ∀ i, wr.frozen? ⟨w.heap.size + 1, i, none⟩ = false := fun i => H1.out.frozen i
      go_wp2
      refine bodyPost_ret (v := .agg #[.int .i64 (belowF f s 0), .int .i64 (belowF f s 1), .int .i64 (belowF f s 2), .int .i64 (belowF f s 3), .int .i64 (belowF f s 4), .int .i64 (belowF f s 5), .int .i64 (belowF f s 6), .int .i64 (belowF f s 7), .int .i64 (belowF f s 8)]) (by simp [results, Try.results52, go_sem, hB]) rfl ⟨rfl, ?_⟩
      repeat (refine Below.setCell ?_ (by simp) _)
      exact hbr

theorem Below_h (f : Nat → Int) (s : Int) (w : World) : Calls Try.prog 52 #[.agg #[.int .i64 (f 0), .int .i64 (f 1), .int .i64 (f 2), .int .i64 (f 3), .int .i64 (f 4), .int .i64 (f 5), .int .i64 (f 6), .int .i64 (f 7), .int .i64 (f 8), .int .i64 s]] w fun e w' => e = .returned (.agg #[.int .i64 (belowF f s 0), .int .i64 (belowF f s 1), .int .i64 (belowF f s 2), .int .i64 (belowF f s 3), .int .i64 (belowF f s 4), .int .i64 (belowF f s 5), .int .i64 (belowF f s 6), .int .i64 (belowF f s 7), .int .i64 (belowF f s 8)]) ∧ Below w.heap.size w w' := by
  cases hR : rightF f s
  · exact Below_no f s w hR
  · exact Below_yes f s w hR
end Go.Proofs.Ytmdclaahfndhdaa
