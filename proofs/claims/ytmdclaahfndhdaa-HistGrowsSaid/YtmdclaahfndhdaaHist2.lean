/- Contracts of hist.Add. -/
import Derived.Test.YtmdclaahfndhdaaHist
namespace Go.Proofs.Ytmdclaahfndhdaa
set_option linter.unusedVariables false
open Go.RowKit

set_option maxRecDepth 100000 in
set_option maxHeartbeats 4000000 in
theorem Add_no (f : Nat → Int) (s n : Int) (w : World) (h : ¬ (rightF f s = true ∧ 0 ≤ n)) : Calls Try.prog 50 #[.agg #[.int .i64 (f 0), .int .i64 (f 1), .int .i64 (f 2), .int .i64 (f 3), .int .i64 (f 4), .int .i64 (f 5), .int .i64 (f 6), .int .i64 (f 7), .int .i64 (f 8), .int .i64 s], .int .i64 n] w fun e w' => e = .returned (.agg #[.int .i64 (f 0), .int .i64 (f 1), .int .i64 (f 2), .int .i64 (f 3), .int .i64 (f 4), .int .i64 (f 5), .int .i64 (f 6), .int .i64 (f 7), .int .i64 (f 8), .int .i64 s]) ∧ Below w.heap.size w w' := by
  have HR := fun W => Lib.hid (Right_h f s W)
  by_cases hR : rightF f s = true
  · have hn : n < 0 := by
      rcases Int.lt_or_le n 0 with h' | h'
      · exact h'
      · exact absurd ⟨hR, h'⟩ h
    clear h
    go_enter Try.func50, Try.ntmps50
    go_wp2_with (go_at_call 48; refine ((HR _).out).mono ?_; rintro e w1 ⟨rfl, hb1⟩; obtain ⟨hc1, hf1⟩ := bcell hb1; have hz1 : w.heap.size + 1 < w1.heap.size := (by have := hb1.size; simp at this; omega))
    have hbase : Below w.heap.size w w1 := (((Below.refl _ _).alloc (Nat.le_refl _) _).alloc (by simp) _).trans (hb1.mono (by simp; omega))
    refine bodyPost_ret (v := .agg #[.int .i64 (f 0), .int .i64 (f 1), .int .i64 (f 2), .int .i64 (f 3), .int .i64 (f 4), .int .i64 (f 5), .int .i64 (f 6), .int .i64 (f 7), .int .i64 (f 8), .int .i64 s]) (by simp [results, Try.results50, go_sem, hc1]) rfl ⟨rfl, ?_⟩
    repeat (refine Below.setCell ?_ (by simp) _)
    exact hbase
  · have hR' : rightF f s = false := by simpa using hR
    clear h hR
    go_enter Try.func50, Try.ntmps50
    go_wp2_with (go_at_call 48; refine ((HR _).out).mono ?_; rintro e w1 ⟨rfl, hb1⟩; obtain ⟨hc1, hf1⟩ := bcell hb1; have hz1 : w.heap.size + 1 < w1.heap.size := (by have := hb1.size; simp at this; omega))
    have hbase : Below w.heap.size w w1 := (((Below.refl _ _).alloc (Nat.le_refl _) _).alloc (by simp) _).trans (hb1.mono (by simp; omega))
    refine bodyPost_ret (v := .agg #[.int .i64 (f 0), .int .i64 (f 1), .int .i64 (f 2), .int .i64 (f 3), .int .i64 (f 4), .int .i64 (f 5), .int .i64 (f 6), .int .i64 (f 7), .int .i64 (f 8), .int .i64 s]) (by simp [results, Try.results50, go_sem, hc1]) rfl ⟨rfl, ?_⟩
    repeat (refine Below.setCell ?_ (by simp) _)
    exact hbase

set_option maxRecDepth 100000 in
set_option maxHeartbeats 4000000 in
theorem Add_yes0 (f : Nat → Int) (s n : Int) (w : World) (hR : rightF f s = true) (hn : 0 ≤ n) (hp : placeF n = 0) : Calls Try.prog 50 #[.agg #[.int .i64 (f 0), .int .i64 (f 1), .int .i64 (f 2), .int .i64 (f 3), .int .i64 (f 4), .int .i64 (f 5), .int .i64 (f 6), .int .i64 (f 7), .int .i64 (f 8), .int .i64 s], .int .i64 n] w fun e w' => e = .returned (.agg #[.int .i64 (up (f 0) 1), .int .i64 (f 1), .int .i64 (f 2), .int .i64 (f 3), .int .i64 (f 4), .int .i64 (f 5), .int .i64 (f 6), .int .i64 (f 7), .int .i64 (f 8), .int .i64 (up s n)]) ∧ Below w.heap.size w w' := by
  have HR := fun W => Lib.hid (Right_h f s W)
  have HP := Lib.hid hp; clear hp
  go_enter Try.func50, Try.ntmps50
  go_wp2_with (first
    | (go_at_call 48; refine ((HR _).out).mono ?_; rintro e w1 ⟨rfl, hb1⟩; obtain ⟨hc1, hf1⟩ := bcell hb1; have hz1 : w.heap.size + 1 < w1.heap.size := (by have := hb1.size; simp at this; omega); have hcp : w1.cell? ⟨w.heap.size, 0, none⟩ = some (.int .i64 (f 0)) := (by have h := hc1 w.heap.size 0 (by simp; omega); simpa using h); have hc9 : w1.cell? ⟨w.heap.size, 9, none⟩ = some (.int .i64 s) := by have h := hc1 w.heap.size 9 (by simp; omega); simpa using h)
    | (go_at_call 46; refine (Place_h _ _).mono ?_; rintro e w2 ⟨rfl, rfl⟩; rw [HP.out])
    | (go_at_call 19; refine (Up_c _ _ _).mono ?_; rintro e w' ⟨rfl, rfl⟩))
  have hbase : Below w.heap.size w w1 := (((Below.refl _ _).alloc (Nat.le_refl _) _).alloc (by simp) _).trans (hb1.mono (by simp; omega))
  refine bodyPost_ret (v := .agg #[.int .i64 (up (f 0) 1), .int .i64 (f 1), .int .i64 (f 2), .int .i64 (f 3), .int .i64 (f 4), .int .i64 (f 5), .int .i64 (f 6), .int .i64 (f 7), .int .i64 (f 8), .int .i64 (up s n)]) (by simp [results, Try.results50, go_sem, hc1]) rfl ⟨rfl, ?_⟩
  repeat (refine Below.setCell ?_ (by simp) _)
  exact hbase

set_option maxRecDepth 100000 in
set_option maxHeartbeats 4000000 in
theorem Add_yes1 (f : Nat → Int) (s n : Int) (w : World) (hR : rightF f s = true) (hn : 0 ≤ n) (hp : placeF n = 1) : Calls Try.prog 50 #[.agg #[.int .i64 (f 0), .int .i64 (f 1), .int .i64 (f 2), .int .i64 (f 3), .int .i64 (f 4), .int .i64 (f 5), .int .i64 (f 6), .int .i64 (f 7), .int .i64 (f 8), .int .i64 s], .int .i64 n] w fun e w' => e = .returned (.agg #[.int .i64 (f 0), .int .i64 (up (f 1) 1), .int .i64 (f 2), .int .i64 (f 3), .int .i64 (f 4), .int .i64 (f 5), .int .i64 (f 6), .int .i64 (f 7), .int .i64 (f 8), .int .i64 (up s n)]) ∧ Below w.heap.size w w' := by
  have HR := fun W => Lib.hid (Right_h f s W)
  have HP := Lib.hid hp; clear hp
  go_enter Try.func50, Try.ntmps50
  go_wp2_with (first
    | (go_at_call 48; refine ((HR _).out).mono ?_; rintro e w1 ⟨rfl, hb1⟩; obtain ⟨hc1, hf1⟩ := bcell hb1; have hz1 : w.heap.size + 1 < w1.heap.size := (by have := hb1.size; simp at this; omega); have hcp : w1.cell? ⟨w.heap.size, 1, none⟩ = some (.int .i64 (f 1)) := (by have h := hc1 w.heap.size 1 (by simp; omega); simpa using h); have hc9 : w1.cell? ⟨w.heap.size, 9, none⟩ = some (.int .i64 s) := by have h := hc1 w.heap.size 9 (by simp; omega); simpa using h)
    | (go_at_call 46; refine (Place_h _ _).mono ?_; rintro e w2 ⟨rfl, rfl⟩; rw [HP.out])
    | (go_at_call 19; refine (Up_c _ _ _).mono ?_; rintro e w' ⟨rfl, rfl⟩))
  have hbase : Below w.heap.size w w1 := (((Below.refl _ _).alloc (Nat.le_refl _) _).alloc (by simp) _).trans (hb1.mono (by simp; omega))
  refine bodyPost_ret (v := .agg #[.int .i64 (f 0), .int .i64 (up (f 1) 1), .int .i64 (f 2), .int .i64 (f 3), .int .i64 (f 4), .int .i64 (f 5), .int .i64 (f 6), .int .i64 (f 7), .int .i64 (f 8), .int .i64 (up s n)]) (by simp [results, Try.results50, go_sem, hc1]) rfl ⟨rfl, ?_⟩
  repeat (refine Below.setCell ?_ (by simp) _)
  exact hbase

set_option maxRecDepth 100000 in
set_option maxHeartbeats 4000000 in
theorem Add_yes2 (f : Nat → Int) (s n : Int) (w : World) (hR : rightF f s = true) (hn : 0 ≤ n) (hp : placeF n = 2) : Calls Try.prog 50 #[.agg #[.int .i64 (f 0), .int .i64 (f 1), .int .i64 (f 2), .int .i64 (f 3), .int .i64 (f 4), .int .i64 (f 5), .int .i64 (f 6), .int .i64 (f 7), .int .i64 (f 8), .int .i64 s], .int .i64 n] w fun e w' => e = .returned (.agg #[.int .i64 (f 0), .int .i64 (f 1), .int .i64 (up (f 2) 1), .int .i64 (f 3), .int .i64 (f 4), .int .i64 (f 5), .int .i64 (f 6), .int .i64 (f 7), .int .i64 (f 8), .int .i64 (up s n)]) ∧ Below w.heap.size w w' := by
  have HR := fun W => Lib.hid (Right_h f s W)
  have HP := Lib.hid hp; clear hp
  go_enter Try.func50, Try.ntmps50
  go_wp2_with (first
    | (go_at_call 48; refine ((HR _).out).mono ?_; rintro e w1 ⟨rfl, hb1⟩; obtain ⟨hc1, hf1⟩ := bcell hb1; have hz1 : w.heap.size + 1 < w1.heap.size := (by have := hb1.size; simp at this; omega); have hcp : w1.cell? ⟨w.heap.size, 2, none⟩ = some (.int .i64 (f 2)) := (by have h := hc1 w.heap.size 2 (by simp; omega); simpa using h); have hc9 : w1.cell? ⟨w.heap.size, 9, none⟩ = some (.int .i64 s) := by have h := hc1 w.heap.size 9 (by simp; omega); simpa using h)
    | (go_at_call 46; refine (Place_h _ _).mono ?_; rintro e w2 ⟨rfl, rfl⟩; rw [HP.out])
    | (go_at_call 19; refine (Up_c _ _ _).mono ?_; rintro e w' ⟨rfl, rfl⟩))
  have hbase : Below w.heap.size w w1 := (((Below.refl _ _).alloc (Nat.le_refl _) _).alloc (by simp) _).trans (hb1.mono (by simp; omega))
  refine bodyPost_ret (v := .agg #[.int .i64 (f 0), .int .i64 (f 1), .int .i64 (up (f 2) 1), .int .i64 (f 3), .int .i64 (f 4), .int .i64 (f 5), .int .i64 (f 6), .int .i64 (f 7), .int .i64 (f 8), .int .i64 (up s n)]) (by simp [results, Try.results50, go_sem, hc1]) rfl ⟨rfl, ?_⟩
  repeat (refine Below.setCell ?_ (by simp) _)
  exact hbase

set_option maxRecDepth 100000 in
set_option maxHeartbeats 4000000 in
theorem Add_yes3 (f : Nat → Int) (s n : Int) (w : World) (hR : rightF f s = true) (hn : 0 ≤ n) (hp : placeF n = 3) : Calls Try.prog 50 #[.agg #[.int .i64 (f 0), .int .i64 (f 1), .int .i64 (f 2), .int .i64 (f 3), .int .i64 (f 4), .int .i64 (f 5), .int .i64 (f 6), .int .i64 (f 7), .int .i64 (f 8), .int .i64 s], .int .i64 n] w fun e w' => e = .returned (.agg #[.int .i64 (f 0), .int .i64 (f 1), .int .i64 (f 2), .int .i64 (up (f 3) 1), .int .i64 (f 4), .int .i64 (f 5), .int .i64 (f 6), .int .i64 (f 7), .int .i64 (f 8), .int .i64 (up s n)]) ∧ Below w.heap.size w w' := by
  have HR := fun W => Lib.hid (Right_h f s W)
  have HP := Lib.hid hp; clear hp
  go_enter Try.func50, Try.ntmps50
  go_wp2_with (first
    | (go_at_call 48; refine ((HR _).out).mono ?_; rintro e w1 ⟨rfl, hb1⟩; obtain ⟨hc1, hf1⟩ := bcell hb1; have hz1 : w.heap.size + 1 < w1.heap.size := (by have := hb1.size; simp at this; omega); have hcp : w1.cell? ⟨w.heap.size, 3, none⟩ = some (.int .i64 (f 3)) := (by have h := hc1 w.heap.size 3 (by simp; omega); simpa using h); have hc9 : w1.cell? ⟨w.heap.size, 9, none⟩ = some (.int .i64 s) := by have h := hc1 w.heap.size 9 (by simp; omega); simpa using h)
    | (go_at_call 46; refine (Place_h _ _).mono ?_; rintro e w2 ⟨rfl, rfl⟩; rw [HP.out])
    | (go_at_call 19; refine (Up_c _ _ _).mono ?_; rintro e w' ⟨rfl, rfl⟩))
  have hbase : Below w.heap.size w w1 := (((Below.refl _ _).alloc (Nat.le_refl _) _).alloc (by simp) _).trans (hb1.mono (by simp; omega))
  refine bodyPost_ret (v := .agg #[.int .i64 (f 0), .int .i64 (f 1), .int .i64 (f 2), .int .i64 (up (f 3) 1), .int .i64 (f 4), .int .i64 (f 5), .int .i64 (f 6), .int .i64 (f 7), .int .i64 (f 8), .int .i64 (up s n)]) (by simp [results, Try.results50, go_sem, hc1]) rfl ⟨rfl, ?_⟩
  repeat (refine Below.setCell ?_ (by simp) _)
  exact hbase

set_option maxRecDepth 100000 in
set_option maxHeartbeats 4000000 in
theorem Add_yes4 (f : Nat → Int) (s n : Int) (w : World) (hR : rightF f s = true) (hn : 0 ≤ n) (hp : placeF n = 4) : Calls Try.prog 50 #[.agg #[.int .i64 (f 0), .int .i64 (f 1), .int .i64 (f 2), .int .i64 (f 3), .int .i64 (f 4), .int .i64 (f 5), .int .i64 (f 6), .int .i64 (f 7), .int .i64 (f 8), .int .i64 s], .int .i64 n] w fun e w' => e = .returned (.agg #[.int .i64 (f 0), .int .i64 (f 1), .int .i64 (f 2), .int .i64 (f 3), .int .i64 (up (f 4) 1), .int .i64 (f 5), .int .i64 (f 6), .int .i64 (f 7), .int .i64 (f 8), .int .i64 (up s n)]) ∧ Below w.heap.size w w' := by
  have HR := fun W => Lib.hid (Right_h f s W)
  have HP := Lib.hid hp; clear hp
  go_enter Try.func50, Try.ntmps50
  go_wp2_with (first
    | (go_at_call 48; refine ((HR _).out).mono ?_; rintro e w1 ⟨rfl, hb1⟩; obtain ⟨hc1, hf1⟩ := bcell hb1; have hz1 : w.heap.size + 1 < w1.heap.size := (by have := hb1.size; simp at this; omega); have hcp : w1.cell? ⟨w.heap.size, 4, none⟩ = some (.int .i64 (f 4)) := (by have h := hc1 w.heap.size 4 (by simp; omega); simpa using h); have hc9 : w1.cell? ⟨w.heap.size, 9, none⟩ = some (.int .i64 s) := by have h := hc1 w.heap.size 9 (by simp; omega); simpa using h)
    | (go_at_call 46; refine (Place_h _ _).mono ?_; rintro e w2 ⟨rfl, rfl⟩; rw [HP.out])
    | (go_at_call 19; refine (Up_c _ _ _).mono ?_; rintro e w' ⟨rfl, rfl⟩))
  have hbase : Below w.heap.size w w1 := (((Below.refl _ _).alloc (Nat.le_refl _) _).alloc (by simp) _).trans (hb1.mono (by simp; omega))
  refine bodyPost_ret (v := .agg #[.int .i64 (f 0), .int .i64 (f 1), .int .i64 (f 2), .int .i64 (f 3), .int .i64 (up (f 4) 1), .int .i64 (f 5), .int .i64 (f 6), .int .i64 (f 7), .int .i64 (f 8), .int .i64 (up s n)]) (by simp [results, Try.results50, go_sem, hc1]) rfl ⟨rfl, ?_⟩
  repeat (refine Below.setCell ?_ (by simp) _)
  exact hbase

set_option maxRecDepth 100000 in
set_option maxHeartbeats 4000000 in
theorem Add_yes5 (f : Nat → Int) (s n : Int) (w : World) (hR : rightF f s = true) (hn : 0 ≤ n) (hp : placeF n = 5) : Calls Try.prog 50 #[.agg #[.int .i64 (f 0), .int .i64 (f 1), .int .i64 (f 2), .int .i64 (f 3), .int .i64 (f 4), .int .i64 (f 5), .int .i64 (f 6), .int .i64 (f 7), .int .i64 (f 8), .int .i64 s], .int .i64 n] w fun e w' => e = .returned (.agg #[.int .i64 (f 0), .int .i64 (f 1), .int .i64 (f 2), .int .i64 (f 3), .int .i64 (f 4), .int .i64 (up (f 5) 1), .int .i64 (f 6), .int .i64 (f 7), .int .i64 (f 8), .int .i64 (up s n)]) ∧ Below w.heap.size w w' := by
  have HR := fun W => Lib.hid (Right_h f s W)
  have HP := Lib.hid hp; clear hp
  go_enter Try.func50, Try.ntmps50
  go_wp2_with (first
    | (go_at_call 48; refine ((HR _).out).mono ?_; rintro e w1 ⟨rfl, hb1⟩; obtain ⟨hc1, hf1⟩ := bcell hb1; have hz1 : w.heap.size + 1 < w1.heap.size := (by have := hb1.size; simp at this; omega); have hcp : w1.cell? ⟨w.heap.size, 5, none⟩ = some (.int .i64 (f 5)) := (by have h := hc1 w.heap.size 5 (by simp; omega); simpa using h); have hc9 : w1.cell? ⟨w.heap.size, 9, none⟩ = some (.int .i64 s) := by have h := hc1 w.heap.size 9 (by simp; omega); simpa using h)
    | (go_at_call 46; refine (Place_h _ _).mono ?_; rintro e w2 ⟨rfl, rfl⟩; rw [HP.out])
    | (go_at_call 19; refine (Up_c _ _ _).mono ?_; rintro e w' ⟨rfl, rfl⟩))
  have hbase : Below w.heap.size w w1 := (((Below.refl _ _).alloc (Nat.le_refl _) _).alloc (by simp) _).trans (hb1.mono (by simp; omega))
  refine bodyPost_ret (v := .agg #[.int .i64 (f 0), .int .i64 (f 1), .int .i64 (f 2), .int .i64 (f 3), .int .i64 (f 4), .int .i64 (up (f 5) 1), .int .i64 (f 6), .int .i64 (f 7), .int .i64 (f 8), .int .i64 (up s n)]) (by simp [results, Try.results50, go_sem, hc1]) rfl ⟨rfl, ?_⟩
  repeat (refine Below.setCell ?_ (by simp) _)
  exact hbase

set_option maxRecDepth 100000 in
set_option maxHeartbeats 4000000 in
theorem Add_yes6 (f : Nat → Int) (s n : Int) (w : World) (hR : rightF f s = true) (hn : 0 ≤ n) (hp : placeF n = 6) : Calls Try.prog 50 #[.agg #[.int .i64 (f 0), .int .i64 (f 1), .int .i64 (f 2), .int .i64 (f 3), .int .i64 (f 4), .int .i64 (f 5), .int .i64 (f 6), .int .i64 (f 7), .int .i64 (f 8), .int .i64 s], .int .i64 n] w fun e w' => e = .returned (.agg #[.int .i64 (f 0), .int .i64 (f 1), .int .i64 (f 2), .int .i64 (f 3), .int .i64 (f 4), .int .i64 (f 5), .int .i64 (up (f 6) 1), .int .i64 (f 7), .int .i64 (f 8), .int .i64 (up s n)]) ∧ Below w.heap.size w w' := by
  have HR := fun W => Lib.hid (Right_h f s W)
  have HP := Lib.hid hp; clear hp
  go_enter Try.func50, Try.ntmps50
  go_wp2_with (first
    | (go_at_call 48; refine ((HR _).out).mono ?_; rintro e w1 ⟨rfl, hb1⟩; obtain ⟨hc1, hf1⟩ := bcell hb1; have hz1 : w.heap.size + 1 < w1.heap.size := (by have := hb1.size; simp at this; omega); have hcp : w1.cell? ⟨w.heap.size, 6, none⟩ = some (.int .i64 (f 6)) := (by have h := hc1 w.heap.size 6 (by simp; omega); simpa using h); have hc9 : w1.cell? ⟨w.heap.size, 9, none⟩ = some (.int .i64 s) := by have h := hc1 w.heap.size 9 (by simp; omega); simpa using h)
    | (go_at_call 46; refine (Place_h _ _).mono ?_; rintro e w2 ⟨rfl, rfl⟩; rw [HP.out])
    | (go_at_call 19; refine (Up_c _ _ _).mono ?_; rintro e w' ⟨rfl, rfl⟩))
  have hbase : Below w.heap.size w w1 := (((Below.refl _ _).alloc (Nat.le_refl _) _).alloc (by simp) _).trans (hb1.mono (by simp; omega))
  refine bodyPost_ret (v := .agg #[.int .i64 (f 0), .int .i64 (f 1), .int .i64 (f 2), .int .i64 (f 3), .int .i64 (f 4), .int .i64 (f 5), .int .i64 (up (f 6) 1), .int .i64 (f 7), .int .i64 (f 8), .int .i64 (up s n)]) (by simp [results, Try.results50, go_sem, hc1]) rfl ⟨rfl, ?_⟩
  repeat (refine Below.setCell ?_ (by simp) _)
  exact hbase

set_option maxRecDepth 100000 in
set_option maxHeartbeats 4000000 in
theorem Add_yes7 (f : Nat → Int) (s n : Int) (w : World) (hR : rightF f s = true) (hn : 0 ≤ n) (hp : placeF n = 7) : Calls Try.prog 50 #[.agg #[.int .i64 (f 0), .int .i64 (f 1), .int .i64 (f 2), .int .i64 (f 3), .int .i64 (f 4), .int .i64 (f 5), .int .i64 (f 6), .int .i64 (f 7), .int .i64 (f 8), .int .i64 s], .int .i64 n] w fun e w' => e = .returned (.agg #[.int .i64 (f 0), .int .i64 (f 1), .int .i64 (f 2), .int .i64 (f 3), .int .i64 (f 4), .int .i64 (f 5), .int .i64 (f 6), .int .i64 (up (f 7) 1), .int .i64 (f 8), .int .i64 (up s n)]) ∧ Below w.heap.size w w' := by
  have HR := fun W => Lib.hid (Right_h f s W)
  have HP := Lib.hid hp; clear hp
  go_enter Try.func50, Try.ntmps50
  go_wp2_with (first
    | (go_at_call 48; refine ((HR _).out).mono ?_; rintro e w1 ⟨rfl, hb1⟩; obtain ⟨hc1, hf1⟩ := bcell hb1; have hz1 : w.heap.size + 1 < w1.heap.size := (by have := hb1.size; simp at this; omega); have hcp : w1.cell? ⟨w.heap.size, 7, none⟩ = some (.int .i64 (f 7)) := (by have h := hc1 w.heap.size 7 (by simp; omega); simpa using h); have hc9 : w1.cell? ⟨w.heap.size, 9, none⟩ = some (.int .i64 s) := by have h := hc1 w.heap.size 9 (by simp; omega); simpa using h)
    | (go_at_call 46; refine (Place_h _ _).mono ?_; rintro e w2 ⟨rfl, rfl⟩; rw [HP.out])
    | (go_at_call 19; refine (Up_c _ _ _).mono ?_; rintro e w' ⟨rfl, rfl⟩))
  have hbase : Below w.heap.size w w1 := (((Below.refl _ _).alloc (Nat.le_refl _) _).alloc (by simp) _).trans (hb1.mono (by simp; omega))
  refine bodyPost_ret (v := .agg #[.int .i64 (f 0), .int .i64 (f 1), .int .i64 (f 2), .int .i64 (f 3), .int .i64 (f 4), .int .i64 (f 5), .int .i64 (f 6), .int .i64 (up (f 7) 1), .int .i64 (f 8), .int .i64 (up s n)]) (by simp [results, Try.results50, go_sem, hc1]) rfl ⟨rfl, ?_⟩
  repeat (refine Below.setCell ?_ (by simp) _)
  exact hbase

set_option maxRecDepth 100000 in
set_option maxHeartbeats 4000000 in
theorem Add_yes8 (f : Nat → Int) (s n : Int) (w : World) (hR : rightF f s = true) (hn : 0 ≤ n) (hp : placeF n = 8) : Calls Try.prog 50 #[.agg #[.int .i64 (f 0), .int .i64 (f 1), .int .i64 (f 2), .int .i64 (f 3), .int .i64 (f 4), .int .i64 (f 5), .int .i64 (f 6), .int .i64 (f 7), .int .i64 (f 8), .int .i64 s], .int .i64 n] w fun e w' => e = .returned (.agg #[.int .i64 (f 0), .int .i64 (f 1), .int .i64 (f 2), .int .i64 (f 3), .int .i64 (f 4), .int .i64 (f 5), .int .i64 (f 6), .int .i64 (f 7), .int .i64 (up (f 8) 1), .int .i64 (up s n)]) ∧ Below w.heap.size w w' := by
  have HR := fun W => Lib.hid (Right_h f s W)
  have HP := Lib.hid hp; clear hp
  go_enter Try.func50, Try.ntmps50
  go_wp2_with (first
    | (go_at_call 48; refine ((HR _).out).mono ?_; rintro e w1 ⟨rfl, hb1⟩; obtain ⟨hc1, hf1⟩ := bcell hb1; have hz1 : w.heap.size + 1 < w1.heap.size := (by have := hb1.size; simp at this; omega); have hcp : w1.cell? ⟨w.heap.size, 8, none⟩ = some (.int .i64 (f 8)) := (by have h := hc1 w.heap.size 8 (by simp; omega); simpa using h); have hc9 : w1.cell? ⟨w.heap.size, 9, none⟩ = some (.int .i64 s) := by have h := hc1 w.heap.size 9 (by simp; omega); simpa using h)
    | (go_at_call 46; refine (Place_h _ _).mono ?_; rintro e w2 ⟨rfl, rfl⟩; rw [HP.out])
    | (go_at_call 19; refine (Up_c _ _ _).mono ?_; rintro e w' ⟨rfl, rfl⟩))
  have hbase : Below w.heap.size w w1 := (((Below.refl _ _).alloc (Nat.le_refl _) _).alloc (by simp) _).trans (hb1.mono (by simp; omega))
  refine bodyPost_ret (v := .agg #[.int .i64 (f 0), .int .i64 (f 1), .int .i64 (f 2), .int .i64 (f 3), .int .i64 (f 4), .int .i64 (f 5), .int .i64 (f 6), .int .i64 (f 7), .int .i64 (up (f 8) 1), .int .i64 (up s n)]) (by simp [results, Try.results50, go_sem, hc1]) rfl ⟨rfl, ?_⟩
  repeat (refine Below.setCell ?_ (by simp) _)
  exact hbase

theorem Add_h (f : Nat → Int) (s n : Int) (w : World) : Calls Try.prog 50 #[.agg #[.int .i64 (f 0), .int .i64 (f 1), .int .i64 (f 2), .int .i64 (f 3), .int .i64 (f 4), .int .i64 (f 5), .int .i64 (f 6), .int .i64 (f 7), .int .i64 (f 8), .int .i64 s], .int .i64 n] w fun e w' => e = .returned (.agg #[.int .i64 (addF f s n 0), .int .i64 (addF f s n 1), .int .i64 (addF f s n 2), .int .i64 (addF f s n 3), .int .i64 (addF f s n 4), .int .i64 (addF f s n 5), .int .i64 (addF f s n 6), .int .i64 (addF f s n 7), .int .i64 (addF f s n 8), .int .i64 (addS f s n)]) ∧ Below w.heap.size w w' := by
  by_cases h : rightF f s = true ∧ 0 ≤ n
  · obtain ⟨hR, hn⟩ := h
    have hle := placeF_le n
    rcases (by omega : placeF n = 0 ∨ placeF n = 1 ∨ placeF n = 2 ∨ placeF n = 3 ∨ placeF n = 4 ∨ placeF n = 5 ∨ placeF n = 6 ∨ placeF n = 7 ∨ placeF n = 8) with hp | hp | hp | hp | hp | hp | hp | hp | hp
    · have h1 := Add_yes0 f s n w hR hn hp
      have e1 : addF f s n = updF f 0 (up (f 0) 1) := by unfold addF; rw [if_pos ⟨hR, hn⟩, hp]
      have e2 : addS f s n = up s n := by unfold addS; rw [if_pos ⟨hR, hn⟩]
      rw [e1, e2]
      simpa [updF] using h1
    · have h1 := Add_yes1 f s n w hR hn hp
      have e1 : addF f s n = updF f 1 (up (f 1) 1) := by unfold addF; rw [if_pos ⟨hR, hn⟩, hp]
      have e2 : addS f s n = up s n := by unfold addS; rw [if_pos ⟨hR, hn⟩]
      rw [e1, e2]
      simpa [updF] using h1
    · have h1 := Add_yes2 f s n w hR hn hp
      have e1 : addF f s n = updF f 2 (up (f 2) 1) := by unfold addF; rw [if_pos ⟨hR, hn⟩, hp]
      have e2 : addS f s n = up s n := by unfold addS; rw [if_pos ⟨hR, hn⟩]
      rw [e1, e2]
      simpa [updF] using h1
    · have h1 := Add_yes3 f s n w hR hn hp
      have e1 : addF f s n = updF f 3 (up (f 3) 1) := by unfold addF; rw [if_pos ⟨hR, hn⟩, hp]
      have e2 : addS f s n = up s n := by unfold addS; rw [if_pos ⟨hR, hn⟩]
      rw [e1, e2]
      simpa [updF] using h1
    · have h1 := Add_yes4 f s n w hR hn hp
      have e1 : addF f s n = updF f 4 (up (f 4) 1) := by unfold addF; rw [if_pos ⟨hR, hn⟩, hp]
      have e2 : addS f s n = up s n := by unfold addS; rw [if_pos ⟨hR, hn⟩]
      rw [e1, e2]
      simpa [updF] using h1
    · have h1 := Add_yes5 f s n w hR hn hp
      have e1 : addF f s n = updF f 5 (up (f 5) 1) := by unfold addF; rw [if_pos ⟨hR, hn⟩, hp]
      have e2 : addS f s n = up s n := by unfold addS; rw [if_pos ⟨hR, hn⟩]
      rw [e1, e2]
      simpa [updF] using h1
    · have h1 := Add_yes6 f s n w hR hn hp
      have e1 : addF f s n = updF f 6 (up (f 6) 1) := by unfold addF; rw [if_pos ⟨hR, hn⟩, hp]
      have e2 : addS f s n = up s n := by unfold addS; rw [if_pos ⟨hR, hn⟩]
      rw [e1, e2]
      simpa [updF] using h1
    · have h1 := Add_yes7 f s n w hR hn hp
      have e1 : addF f s n = updF f 7 (up (f 7) 1) := by unfold addF; rw [if_pos ⟨hR, hn⟩, hp]
      have e2 : addS f s n = up s n := by unfold addS; rw [if_pos ⟨hR, hn⟩]
      rw [e1, e2]
      simpa [updF] using h1
    · have h1 := Add_yes8 f s n w hR hn hp
      have e1 : addF f s n = updF f 8 (up (f 8) 1) := by unfold addF; rw [if_pos ⟨hR, hn⟩, hp]
      have e2 : addS f s n = up s n := by unfold addS; rw [if_pos ⟨hR, hn⟩]
      rw [e1, e2]
      simpa [updF] using h1
  · have e1 : addF f s n = f := by unfold addF; rw [if_neg h]
    have e2 : addS f s n = s := by unfold addS; rw [if_neg h]
    rw [e1, e2]
    exact Add_no f s n w h
end Go.Proofs.Ytmdclaahfndhdaa
