/- The walk of the law HistRight. -/
import Derived.Test.YtmdclaahfndhdaaLawHist
import Derived.ChangeKeysEq
namespace Go.Proofs.Ytmdclaahfndhdaa
set_option linter.unusedVariables false
open Go.RowKit

theorem infoI64h : (Try.prog.info? 2).map (fun i => (i.zero, i.size, i.bytes)) = some (some (.int .i64 0), 1, 8) := by kernel_rfl
theorem arr9_self (d : Nat) (f : Nat → Int) (w : World) : (Op.equalIn (d + 2) 60 (.agg #[.int .i64 (f 0), .int .i64 (f 1), .int .i64 (f 2), .int .i64 (f 3), .int .i64 (f 4), .int .i64 (f 5), .int .i64 (f 6), .int .i64 (f 7), .int .i64 (f 8)]) (.agg #[.int .i64 (f 0), .int .i64 (f 1), .int .i64 (f 2), .int .i64 (f 3), .int .i64 (f 4), .int .i64 (f 5), .int .i64 (f 6), .int .i64 (f 7), .int .i64 (f 8)])).run Try.prog w = .ok true w := by
  obtain ⟨i0, hi0, _⟩ := info_parts infoI64h
  have hC : Try.prog.cellsOf 2 = 1 := by kernel_rfl
  rw [run_equalIn_array w (d + 1) _ _ Try.underlying60 hi0]
  simp [Op.eqItems, List.range, List.range.loop, go_sem, hC, run_equalIn_int _ d 2 .i64 .i64 _ _ Try.underlying2]

set_option maxRecDepth 100000 in
set_option maxHeartbeats 8000000 in
theorem HistRight_walk (f : Nat → Int) (s n place part : Int) (w : World) :
    Calls Try.prog 12 #[.agg #[.int .i64 (f 0), .int .i64 (f 1), .int .i64 (f 2), .int .i64 (f 3), .int .i64 (f 4), .int .i64 (f 5), .int .i64 (f 6), .int .i64 (f 7), .int .i64 (f 8), .int .i64 s], .int .i64 n, .int .i64 place, .int .i64 part] w fun e w' => e = .returned (.bool true) ∧ Below w.heap.size w w' := by
  have hA1 := fun W => arr9_self 9997 (addF f s n) W
  have hA2 := fun W => arr9_self 9998 (belowF f s) W
  go_enter Try.func12, Try.ntmps12
  go_wp2_with fail
  refine (Hist_awake _).mono ?_
  rintro e w1 ⟨rfl, hb1⟩
  have hz1 : w.heap.size < w1.heap.size := by have := hb1.size; simp at this; omega
  obtain ⟨hc1, hf1⟩ := bcell hb1
  have hbase : Below w.heap.size w w1 := ((Below.refl _ _).alloc (Nat.le_refl _) _).trans (hb1.mono (by simp))
  have k0 : w1.cell? ⟨w.heap.size, 0, none⟩ = some (.int .i64 (f 0)) := by have h := hc1 w.heap.size 0 (by simp); simpa using h
  have k1 : w1.cell? ⟨w.heap.size, 1, none⟩ = some (.int .i64 (f 1)) := by have h := hc1 w.heap.size 1 (by simp); simpa using h
  have k2 : w1.cell? ⟨w.heap.size, 2, none⟩ = some (.int .i64 (f 2)) := by have h := hc1 w.heap.size 2 (by simp); simpa using h
  have k3 : w1.cell? ⟨w.heap.size, 3, none⟩ = some (.int .i64 (f 3)) := by have h := hc1 w.heap.size 3 (by simp); simpa using h
  have k4 : w1.cell? ⟨w.heap.size, 4, none⟩ = some (.int .i64 (f 4)) := by have h := hc1 w.heap.size 4 (by simp); simpa using h
  have k5 : w1.cell? ⟨w.heap.size, 5, none⟩ = some (.int .i64 (f 5)) := by have h := hc1 w.heap.size 5 (by simp); simpa using h
  have k6 : w1.cell? ⟨w.heap.size, 6, none⟩ = some (.int .i64 (f 6)) := by have h := hc1 w.heap.size 6 (by simp); simpa using h
  have k7 : w1.cell? ⟨w.heap.size, 7, none⟩ = some (.int .i64 (f 7)) := by have h := hc1 w.heap.size 7 (by simp); simpa using h
  have k8 : w1.cell? ⟨w.heap.size, 8, none⟩ = some (.int .i64 (f 8)) := by have h := hc1 w.heap.size 8 (by simp); simpa using h
  have k9 : w1.cell? ⟨w.heap.size, 9, none⟩ = some (.int .i64 s) := by have h := hc1 w.heap.size 9 (by simp); simpa using h
  clear hc1 hf1 hb1
  go_wp2_with fail
  go_region_held3 (fun w' => w'.cell? ⟨w.heap.size, 0, none⟩ = some (.int .i64 (f 0)) ∧ w'.cell? ⟨w.heap.size, 1, none⟩ = some (.int .i64 (f 1)) ∧ w'.cell? ⟨w.heap.size, 2, none⟩ = some (.int .i64 (f 2)) ∧ w'.cell? ⟨w.heap.size, 3, none⟩ = some (.int .i64 (f 3)) ∧ w'.cell? ⟨w.heap.size, 4, none⟩ = some (.int .i64 (f 4)) ∧ w'.cell? ⟨w.heap.size, 5, none⟩ = some (.int .i64 (f 5)) ∧ w'.cell? ⟨w.heap.size, 6, none⟩ = some (.int .i64 (f 6)) ∧ w'.cell? ⟨w.heap.size, 7, none⟩ = some (.int .i64 (f 7)) ∧ w'.cell? ⟨w.heap.size, 8, none⟩ = some (.int .i64 (f 8)) ∧ w'.cell? ⟨w.heap.size, 9, none⟩ = some (.int .i64 s) ∧ Below w.heap.size w w' ∧ w.heap.size < w'.heap.size)
    (first
      | exact ⟨k0, k1, k2, k3, k4, k5, k6, k7, k8, k9, hbase.drew, hz1⟩
      | (go_split_ands; have hzn := hbn.size; have hbt := Below.trans (by assumption) (hbn.mono (by omega)); refine ⟨(hbn.cell (p := ⟨w.heap.size, 0, none⟩) (by assumption)).trans (by assumption), (hbn.cell (p := ⟨w.heap.size, 1, none⟩) (by assumption)).trans (by assumption), (hbn.cell (p := ⟨w.heap.size, 2, none⟩) (by assumption)).trans (by assumption), (hbn.cell (p := ⟨w.heap.size, 3, none⟩) (by assumption)).trans (by assumption), (hbn.cell (p := ⟨w.heap.size, 4, none⟩) (by assumption)).trans (by assumption), (hbn.cell (p := ⟨w.heap.size, 5, none⟩) (by assumption)).trans (by assumption), (hbn.cell (p := ⟨w.heap.size, 6, none⟩) (by assumption)).trans (by assumption), (hbn.cell (p := ⟨w.heap.size, 7, none⟩) (by assumption)).trans (by assumption), (hbn.cell (p := ⟨w.heap.size, 8, none⟩) (by assumption)).trans (by assumption), (hbn.cell (p := ⟨w.heap.size, 9, none⟩) (by assumption)).trans (by assumption), hbt, by omega⟩)
      | assumption)
    (first
      | (go_at_call 44; refine (Bound_c _ _).mono ?_; rintro e wn ⟨rfl, rfl⟩)
      | (go_at_call 45; refine (rBound_c _ _).mono ?_; rintro e wn ⟨rfl, hbn⟩)
      | (go_at_call 46; refine (Place_h _ _).mono ?_; rintro e wn ⟨rfl, rfl⟩)
      | (go_at_call 47; refine (rPlace_h _ _).mono ?_; rintro e wn ⟨rfl, hbn⟩)
      | (go_at_call 48; refine (Right_h f s _).mono ?_; rintro e wn ⟨rfl, hbn⟩)
      | (go_at_call 49; refine (rRight_h f s _).mono ?_; rintro e wn ⟨rfl, hbn⟩)
      | (go_at_call 50; refine (Add_h f s _ _).mono ?_; rintro e wn ⟨rfl, hbn⟩)
      | (go_at_call 51; refine (rAdd_h f s _ _).mono ?_; rintro e wn ⟨rfl, hbn⟩)
      | (go_at_call 52; refine (Below_h f s _).mono ?_; rintro e wn ⟨rfl, hbn⟩)
      | (go_at_call 53; refine (rBelow_h f s _).mono ?_; rintro e wn ⟨rfl, hbn⟩)
      | (go_at_call 54; refine (Least_h f s _ _).mono ?_; rintro e wn ⟨rfl, hbn⟩)
      | (go_at_call 55; refine (rLeast_h f s _ _).mono ?_; rintro e wn ⟨rfl, hbn⟩))
  go_wp2
  go_ret
  refine ⟨rfl, ?_⟩
  first | assumption | (go_split_ands; assumption)
end Go.Proofs.Ytmdclaahfndhdaa
