/- The walk of the law HistRight. -/
import Derived.Test.YtmdclaahfndhdaaHist2
import Derived.Test.YtmdclaahfndhdaaHist3
import Derived.Test.YtmdclaahfndhdaaHist6
import Derived.Deep.RegionHeld3
namespace Go.Proofs.Ytmdclaahfndhdaa
set_option linter.unusedVariables false
open Go.RowKit

set_option maxRecDepth 100000 in
set_option maxHeartbeats 4000000 in
theorem Hist_awake (w : World) : Calls Try.prog 43 #[] w fun e w' => e = .returned (.bool true) ∧ Below w.heap.size w w' := by
  go_enter Try.func43, Try.ntmps43
  go_wp2_with fail
  refine (Add_h (fun _ => 0) 0 3 _).mono ?_
  rintro e w1 ⟨rfl, hb1⟩
  obtain ⟨f1, hf1⟩ : ∃ f1, addF (fun _ => 0) 0 3 = f1 := ⟨_, rfl⟩
  obtain ⟨s1, hs1⟩ : ∃ s1, addS (fun _ => 0) 0 3 = s1 := ⟨_, rfl⟩
  rw [hf1, hs1]
  have F1 := Lib.hid hf1; have S1 := Lib.hid hs1
  clear hf1 hs1
  have hw1 := hb1.size
  go_wp2_with fail
  refine (Add_h f1 s1 3 _).mono ?_
  rintro e w2 ⟨rfl, hb2⟩
  obtain ⟨f2, hf2⟩ : ∃ f2, addF f1 s1 3 = f2 := ⟨_, rfl⟩
  obtain ⟨s2, hs2⟩ : ∃ s2, addS f1 s1 3 = s2 := ⟨_, rfl⟩
  rw [hf2, hs2]
  have F2 := Lib.hid hf2; have S2 := Lib.hid hs2
  clear hf2 hs2
  have hb2' := hb1.trans (hb2.mono hw1)
  have hw2 := hb2.size
  clear hb2
  go_wp2_with fail
  refine (Add_h f2 s2 200 _).mono ?_
  rintro e w3 ⟨rfl, hb3⟩
  obtain ⟨f3, hf3⟩ : ∃ f3, addF f2 s2 200 = f3 := ⟨_, rfl⟩
  obtain ⟨s3, hs3⟩ : ∃ s3, addS f2 s2 200 = s3 := ⟨_, rfl⟩
  rw [hf3, hs3]
  have F3 := Lib.hid hf3; have S3 := Lib.hid hs3
  clear hf3 hs3
  have hb3' := hb2'.trans (hb3.mono (by omega))
  have hw3 := hb3.size
  clear hb3
  have q1 : belowF f3 s3 1 = 0 := by rw [← F3.out, ← S3.out, ← F2.out, ← S2.out, ← F1.out, ← S1.out]; decide
  have q2 : belowF f3 s3 2 = 2 := by rw [← F3.out, ← S3.out, ← F2.out, ← S2.out, ← F1.out, ← S1.out]; decide
  have q3 : belowF f3 s3 8 = 3 := by rw [← F3.out, ← S3.out, ← F2.out, ← S2.out, ← F1.out, ← S1.out]; decide
  have q4 : s3 = 206 := by rw [← S3.out, ← F2.out, ← S2.out, ← F1.out, ← S1.out]; decide
  have q5 : leastF f3 s3 500 = 2 := by rw [← F3.out, ← S3.out, ← F2.out, ← S2.out, ← F1.out, ← S1.out]; decide
  have q6 : placeF 129 = 8 := by decide
  have q7 : boundF 7 = 128 := by decide
  have q8 : rightF f3 s3 = true := by rw [← F3.out, ← S3.out, ← F2.out, ← S2.out, ← F1.out, ← S1.out]; decide
  have Q1 := Lib.hid q1; have Q2 := Lib.hid q2; have Q3 := Lib.hid q3; have Q5 := Lib.hid q5; have Q6 := Lib.hid q6; have Q7 := Lib.hid q7; have Q8 := Lib.hid q8
  have Q4 : (s3 == 206) = true := by rw [q4]; rfl
  clear q1 q2 q3 q4 q5 q6 q7 q8 F1 F2 F3 S1 S2 S3
  go_wp2_with fail
  refine (Below_h f3 s3 _).mono ?_
  rintro e w4 ⟨rfl, hb4⟩
  rw [Q1.out, Q2.out, Q3.out]
  have hb4' := (hb3'.alloc (by omega) _).trans (hb4.mono (by simp; omega))
  obtain ⟨hc4, hf4⟩ := bcell hb4
  have hw4 : w3.heap.size < w4.heap.size := by have := hb4.size; simp at this; omega
  go_wp2_with fail
  refine (Least_h f3 s3 500 _).mono ?_
  rintro e w5 ⟨rfl, hb5⟩
  rw [Q5.out]
  have hb5' := (hb4'.alloc (by omega) _).trans (hb5.mono (by simp; omega))
  obtain ⟨hc5, hf5⟩ := bcell hb5
  have hw5 : w4.heap.size < w5.heap.size := by have := hb5.size; simp at this; omega
  have hw53 : w3.heap.size < w5.heap.size := by omega
  go_wp2_with fail
  refine (Place_h 129 _).mono ?_
  rintro e w6 ⟨rfl, rfl⟩
  rw [Q6.out]
  go_wp2_with fail
  refine (Bound_c 7 _).mono ?_
  rintro e w6 ⟨rfl, rfl⟩
  rw [Q7.out]
  go_wp2_with fail
  refine (Right_h f3 s3 _).mono ?_
  rintro e w7 ⟨rfl, hb7⟩
  rw [Q8.out]
  go_wp2
  go_ret
  exact ⟨rfl, hb5'.trans (hb7.mono (by omega))⟩
end Go.Proofs.Ytmdclaahfndhdaa
