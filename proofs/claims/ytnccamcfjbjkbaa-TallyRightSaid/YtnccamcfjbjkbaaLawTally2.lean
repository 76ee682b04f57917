/- The walk of TallyTurns. -/
import Derived.Test.YtnccamcfjbjkbaaLawTally
namespace Go.Proofs.Ytnccamcfjbjkbaa
set_option linter.unusedVariables false
open Go.RowKit

theorem Fl.same {a b : Nat} {x y : Int} (ha : Fl a x) (hb : Fl b y) (h : x = y) : FloatKind.f64.format.order a b = some .eq := by rw [ha.order hb, Int.compare_eq_eq.2 h]
theorem turnN_add (a b : Nat) (p : Int × Int) : turnN (a + b) p = turnN a (turnN b p) := by
  induction a with
  | zero => rw [Nat.zero_add]; rfl
  | succ a ih => rw [show a + 1 + b = (a + b) + 1 from by omega]; unfold turnN; rw [ih]
theorem turnN_4 (p : Int × Int) : turnN 4 p = p := by simp [turnN]
theorem turnN_mod (a : Nat) (p : Int × Int) : turnN a p = turnN (a % 4) p := by
  induction a using Nat.strongRecOn with
  | ind a ih =>
    by_cases h : a < 4
    · rw [Nat.mod_eq_of_lt h]
    · have e : a = (a - 4) + 4 := by omega
      rw [e, turnN_add, turnN_4, ih (a - 4) (by omega), Nat.add_mod_right]
theorem turnN_sum (m n : Int) (p : Int × Int) : turnN (n % 4).toNat (turnN (m % 4).toNat p) = turnN ((m + n) % 4).toNat p := by
  rw [← turnN_add, turnN_mod, turnN_mod ((m + n) % 4).toNat]
  congr 1
  omega
theorem turnN_plus (k : Nat) (p q : Int × Int) : turnN k (p.1 + q.1, p.2 + q.2) = ((turnN k p).1 + (turnN k q).1, (turnN k p).2 + (turnN k q).2) := by
  induction k with
  | zero => rfl
  | succ k ih =>
    unfold turnN
    rw [ih]
    refine Prod.ext ?_ rfl
    show -((turnN k p).2 + (turnN k q).2) = -(turnN k p).2 + -(turnN k q).2
    omega
theorem sumP_two (p q : Int × Int) : sumP [p, q] = (p.1 + q.1, p.2 + q.2) := by simp [sumP]

set_option maxRecDepth 100000 in
set_option maxHeartbeats 4000000 in
theorem TallyTurns_walk (a b c d m n : Int) (w : World) (hm : (Lit.int .i16 m).wf = true) (hn : (Lit.int .i16 n).wf = true) :
    Calls Try.prog 4 #[.int .i64 a, .int .i64 b, .int .i64 c, .int .i64 d, .int .i16 m, .int .i16 n] w fun e w' => e = .returned (.bool true) ∧ Below w.heap.size w w' := by
  obtain ⟨m1, m2⟩ := bounds_i16 hm
  obtain ⟨n1, n2⟩ := bounds_i16 hn
  have hng := fun (W : World) (a b : Nat) => show (Op.unary .neg (.complex .f64 a b)).run Try.prog W = Result.ok (.complex .f64 (Op.negFloat .f64 a) (Op.negFloat .f64 b)) W from rfl
  clear hm hn
  go_enter Try.func4, Try.ntmps4
  go_wp2_with fail
  with_reducible refine (Tally_awake _).mono ?_
  rintro e w1 ⟨rfl, hb⟩
  have HB := Lib.hid hb
  clear hb
  go_wp2_with fail
  with_reducible refine (Of_c a b _).mono ?_
  rintro e w' ⟨v1, rfl, ⟨a1, b1, rfl, h1, h2⟩, rfl⟩
  have H1 := Lib.hid h1
  have H2 := Lib.hid h2
  have S1 := Lib.hid (small_hold a b)
  have S2 := Lib.hid (small_hold c d)
  clear h1 h2
  go_wp2_with fail
  with_reducible refine (Of_c c d _).mono ?_
  rintro e w' ⟨v2, rfl, ⟨a2, b2, rfl, h3, h4⟩, rfl⟩
  have H3 := Lib.hid h3
  have H4 := Lib.hid h4
  clear h3 h4
  generalize hold a = xa at H1 S1
  generalize hold b = xb at H2 S1
  generalize hold c = xc at H3 S2
  generalize hold d = xd at H4 S2
  have CS := Lib.hid (show CV (.complex .f64 a1 b1) xa xb from ⟨_, _, rfl, H1.out, H2.out⟩)
  have CT := Lib.hid (show CV (.complex .f64 a2 b2) xc xd from ⟨_, _, rfl, H3.out, H4.out⟩)
  go_wp2_with fail
  with_reducible refine (Turn_c _ xa xb 4 CS.out (by omega) (by omega) _).mono ?_
  rintro e w' ⟨v3, rfl, ⟨a3, b3, rfl, h5, h6⟩, rfl⟩
  have o1 := h5.same H1.out rfl
  have o2 := h6.same H2.out rfl
  clear h5 h6
  go_wp2_with fail
  with_reducible refine (Turn_c _ xa xb 2 CS.out (by omega) (by omega) _).mono ?_
  rintro e w' ⟨v4, rfl, ⟨a4, b4, rfl, h5, h6⟩, rfl⟩
  have o3 := h5.same H1.out.neg rfl
  have o4 := h6.same H2.out.neg rfl
  clear h5 h6 o1 o2
  go_wp2_with fail
  with_reducible refine (Turn_c _ xa xb m CS.out (by omega) (by omega) _).mono ?_
  rintro e w' ⟨v5, rfl, hv5, rfl⟩
  have CV5 := Lib.hid hv5
  clear hv5 o3 o4
  go_wp2_with fail
  with_reducible refine (Turn_c v5 _ _ n CV5.out (by omega) (by omega) _).mono ?_
  rintro e w' ⟨v6, rfl, ⟨a6, b6, rfl, h5, h6⟩, rfl⟩
  rw [show ((turnN (m % 4).toNat (xa, xb)).fst, (turnN (m % 4).toNat (xa, xb)).snd) = turnN (m % 4).toNat (xa, xb) from rfl, turnN_sum] at h5 h6
  have H5 := Lib.hid h5
  have H6 := Lib.hid h6
  clear h5 h6
  go_wp2_with fail
  with_reducible refine (Turn_c _ xa xb (m + n) CS.out (by omega) (by omega) _).mono ?_
  rintro e w' ⟨v7, rfl, ⟨a7, b7, rfl, h7, h8⟩, rfl⟩
  have o5 := H5.out.same h7 rfl
  have o6 := H6.out.same h8 rfl
  clear h7 h8
  go_wp2_with fail
  clear o5 o6
  with_reducible refine (Sum_c _ 2 2 _ [(a1, b1), (a2, b2)] [(xa, xb), (xc, xd)] _ (two_reads w1 _ a1 b1 a2 b2) (FlL.two H1.out H2.out H3.out H4.out) (small_two S1.out S2.out) (by omega)).mono ?_
  rintro e w' ⟨a8, b8, rfl, h7, h8, rfl⟩
  have CV8 := Lib.hid (show CV (.complex .f64 a8 b8) (xa + xc) (xb + xd) from by rw [sumP_two] at h7 h8; exact ⟨_, _, rfl, h7, h8⟩)
  clear h7 h8
  go_wp2_with fail
  with_reducible refine (Turn_c _ _ _ m CV8.out (by omega) (by omega) _).mono ?_
  rintro e w' ⟨v9, rfl, ⟨a9, b9, rfl, h7, h8⟩, rfl⟩
  have hp := turnN_plus (m % 4).toNat (xa, xb) (xc, xd)
  simp only at hp
  rw [hp] at h7 h8
  have H7 := Lib.hid h7
  have H8 := Lib.hid h8
  clear h7 h8 hp
  go_wp2_with fail
  with_reducible refine (Turn_c _ xa xb m CS.out (by omega) (by omega) _).mono ?_
  rintro e w' ⟨v10, rfl, ⟨a10, b10, rfl, h9, h10⟩, rfl⟩
  have H9 := Lib.hid h9
  have H10 := Lib.hid h10
  clear h9 h10
  go_wp2_with fail
  with_reducible refine (Turn_c _ xc xd m CT.out (by omega) (by omega) _).mono ?_
  rintro e w' ⟨v11, rfl, ⟨a11, b11, rfl, h11, h12⟩, rfl⟩
  have H11 := Lib.hid h11
  have H12 := Lib.hid h12
  clear h11 h12
  go_wp2_with fail
  with_reducible refine (Sum_c (some ⟨w1.heap.size + 1, 0, none⟩) 2 2 (w1.heap.size + 1 + 1) [(a10, b10), (a11, b11)] [turnN (m % 4).toNat (xa, xb), turnN (m % 4).toNat (xc, xd)] _ (Reads.of_blk (blk2_1 w1 _ _ _ #[.complex .f64 a10 b10, .complex .f64 a11 b11]) 2 _ rfl rfl) (FlL.two H9.out H10.out H11.out H12.out) (small_two (small_turn _ _ S1.out) (small_turn _ _ S2.out)) (by omega)).mono ?_
  rintro e w' ⟨a12, b12, rfl, h13, h14, rfl⟩
  rw [sumP_two] at h13 h14
  have o7 := H7.out.same h13 rfl
  have o8 := H8.out.same h14 rfl
  clear h13 h14
  go_wp2
  go_ret
  exact ⟨rfl, (HB.out.alloc HB.out.size _).alloc (by have := HB.out.size; simp; omega) _⟩
end Go.Proofs.Ytnccamcfjbjkbaa
