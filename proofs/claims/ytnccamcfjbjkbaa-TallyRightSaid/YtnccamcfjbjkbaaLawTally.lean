/- awake of tally, and the walk of TallyTurns. -/
import Derived.Test.YtnccamcfjbjkbaaTally3
import Derived.Test.YtnccamcfjbjkbaaArgs
namespace Go.Proofs.Ytnccamcfjbjkbaa
set_option linter.unusedVariables false
open Go.RowKit

theorem two_reads (W : World) (t : TypeId) (a b c d : Nat) : Reads (W.alloc (.cells #[.complex .f64 a b, .complex .f64 c d] t)) (W.heap.size + 1) 1 (some ⟨W.heap.size, 0, none⟩) 2 ([(a, b), (c, d)].map cxv) :=
  Reads.of_blk (Blk.new W t _) 2 _ rfl rfl
theorem FlL.two {a b c d : Nat} {x y z u : Int} (h1 : Fl a x) (h2 : Fl b y) (h3 : Fl c z) (h4 : Fl d u) : FlL [(a, b), (c, d)] [(x, y), (z, u)] := by
  refine ⟨rfl, fun i p q hp hq => ?_⟩
  match i with
  | 0 => simp at hp hq; subst hp hq; exact ⟨h1, h2⟩
  | 1 => simp at hp hq; subst hp hq; exact ⟨h3, h4⟩
  | i + 2 => simp at hp
theorem small_hold (x y : Int) : smallP 1099511627776 (hold x, hold y) := by
  have := hold_lo x; have := hold_hi x; have := hold_lo y; have := hold_hi y
  unfold smallP; simp only; omega
theorem small_turn (k : Nat) (z : Int × Int) (h : smallP 1099511627776 z) : smallP 1099511627776 (turnN k z) := turnN_bound k z _ h.1 h.2.1 h.2.2.1 h.2.2.2
theorem small_two {p q : Int × Int} (hp : smallP 1099511627776 p) (hq : smallP 1099511627776 q) : ∀ z ∈ [p, q], smallP 1099511627776 z := by
  intro z hz
  simp at hz
  rcases hz with rfl | rfl
  · exact hp
  · exact hq
theorem five_reads (W : World) (t : TypeId) : Reads (W.alloc (.cells #[.int .i64 5, .int .i64 1, .int .i64 0, .int .i64 0, .int .i64 5] t)) (W.heap.size + 1) 1 (some ⟨W.heap.size, 0, none⟩) 5 (([5, 1, 0, 0, 5] : List Int).map (Value.int .i64)) :=
  Reads.of_blk (Blk.new W t _) 5 _ rfl rfl

set_option maxRecDepth 100000 in
set_option maxHeartbeats 1000000 in
theorem Tally_awake (w : World) : Calls Try.prog 6 #[] w fun e w' => e = .returned (.bool true) ∧ Below w.heap.size w w' := by
  go_enter Try.func6, Try.ntmps6
  go_wp2_with fail
  with_reducible refine (Of_c 3 4 _).mono ?_
  rintro e w' ⟨v1, rfl, ⟨a1, b1, rfl, h1, h2⟩, rfl⟩
  have H1 := Lib.hid h1
  have H2 := Lib.hid h2
  clear h1 h2
  go_wp2_with fail
  with_reducible refine (Of_c 1 1 _).mono ?_
  rintro e w' ⟨v2, rfl, ⟨a2, b2, rfl, h3, h4⟩, rfl⟩
  have H3 := Lib.hid h3
  have H4 := Lib.hid h4
  clear h3 h4
  go_wp2_with fail
  with_reducible refine (Sum_c _ 2 2 _ [(a1, b1), (a2, b2)] [(hold 3, hold 4), (hold 1, hold 1)] _ (two_reads w _ a1 b1 a2 b2) (FlL.two H1.out H2.out H3.out H4.out) (small_two (small_hold _ _) (small_hold _ _)) (by omega)).mono ?_
  rintro e w' ⟨a, b, rfl, ha, hb, rfl⟩
  have HA := Lib.hid (show Fl a 4 from by rw [show (4 : Int) = (sumP [(hold 3, hold 4), (hold 1, hold 1)]).1 from by decide]; exact ha)
  have HB := Lib.hid (show Fl b 5 from by rw [show (5 : Int) = (sumP [(hold 3, hold 4), (hold 1, hold 1)]).2 from by decide]; exact hb)
  clear ha hb
  go_wp2_with fail
  with_reducible refine (Parts_c HA.out HB.out _).mono ?_
  rintro e w' ⟨rfl, rfl⟩
  go_wp2_with fail
  with_reducible refine (Of_c 3 4 _).mono ?_
  rintro e w' ⟨v3, rfl, hv3, rfl⟩
  have HV := Lib.hid hv3
  clear hv3
  go_wp2_with fail
  with_reducible refine (Turn_c v3 _ _ 5 HV.out (by omega) (by omega) _).mono ?_
  rintro e w' ⟨v4, rfl, ⟨a3, b3, rfl, h5, h6⟩, rfl⟩
  have H5 := Lib.hid (show Fl a3 (-4) from by rw [show (-4 : Int) = (turnN (5 % 4 : Int).toNat (hold 3, hold 4)).1 from by decide]; exact h5)
  have H6 := Lib.hid (show Fl b3 3 from by rw [show (3 : Int) = (turnN (5 % 4 : Int).toNat (hold 3, hold 4)).2 from by decide]; exact h6)
  clear h5 h6
  go_wp2_with fail
  with_reducible refine (Parts_c H5.out H6.out _).mono ?_
  rintro e w' ⟨rfl, rfl⟩
  go_wp2_with fail
  with_reducible refine (Beat_c (some ⟨w.heap.size + 1, 0, none⟩) 5 5 (w.heap.size + 1 + 1) [5, 1, 0, 0, 5] _ (Reads.of_blk (blk2_1 w _ _ _ #[.int .i64 5, .int .i64 1, .int .i64 0, .int .i64 0, .int .i64 5]) 5 _ rfl rfl) (by simp)).mono ?_
  rintro e w2 ⟨rfl, hb⟩
  rw [show (beatF [5, 1, 0, 0, 5]).1 = 10 from by decide, show (beatF [5, 1, 0, 0, 5]).2 = 1 from by decide]
  have HBB := Lib.hid (show Below w.heap.size w w2 from (((Below.refl _ _).alloc (Nat.le_refl _) _).alloc (by simp) _).trans (hb.mono (by simp; omega)))
  clear hb
  go_wp2
  go_ret
  exact ⟨rfl, HBB.out⟩
end Go.Proofs.Ytnccamcfjbjkbaa
