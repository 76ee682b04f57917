/- The walk of TallyBeat. -/
import Derived.Test.YtnccamcfjbjkbaaLawTally2
namespace Go.Proofs.Ytnccamcfjbjkbaa
set_option linter.unusedVariables false
open Go.RowKit

theorem turn_one (h : Int) (k : Nat) : turnN ((k + 1) % 4) (h, 0) = (-(turnN (k % 4) (h, 0)).2, (turnN (k % 4) (h, 0)).1) := by
  have e := turnN_mod (k + 1) (h, 0)
  rw [← e, ← turnN_mod k]
  rfl
theorem beat_cons (zs : List Int) (k : Nat) : sumP (beatK (0 :: zs) (k + 1)) = (-(sumP (beatK zs k)).2, (sumP (beatK zs k)).1) := by
  induction k with
  | zero => simp [beatK, sumP, turnN, hold]
  | succ k ih =>
    rw [beatK_succ (0 :: zs) (k + 1), sumP_snoc, ih, beatK_succ zs k, sumP_snoc, turn_one, List.getD_cons_succ]
    refine Prod.ext ?_ rfl
    simp only
    omega
theorem beatF_cons (zs : List Int) (h : zs.length < 4096) : beatF (0 :: zs) = (-(beatF zs).2, (beatF zs).1) := by
  unfold beatF
  rw [if_neg (by simp; omega), if_neg (by omega), List.length_cons]
  exact beat_cons zs zs.length
theorem beat_same (n : Int) (t : Nat) (zs : List Int) (h : ∀ i, i < 4 * t → zs.getD i 0 = n) : sumP (beatK zs (4 * t)) = (0, 0) := by
  induction t with
  | zero => rfl
  | succ t ih =>
    rw [show 4 * (t + 1) = 4 * t + 1 + 1 + 1 + 1 from by omega, beatK_succ, beatK_succ, beatK_succ, beatK_succ, sumP_snoc, sumP_snoc, sumP_snoc, sumP_snoc, ih (fun i hi => h i (by omega)), h _ (by omega), h _ (by omega), h _ (by omega), h _ (by omega)]
    rw [show (4 * t) % 4 = 0 from by omega, show (4 * t + 1) % 4 = 1 from by omega, show (4 * t + 1 + 1) % 4 = 2 from by omega, show (4 * t + 1 + 1 + 1) % 4 = 3 from by omega]
    simp [turnN]
    omega
theorem beatF_same (n : Int) (t : Nat) (ht : t < 256) : beatF (List.replicate (4 * t) n) = (0, 0) := by
  unfold beatF
  rw [List.length_replicate, if_neg (by omega)]
  exact beat_same n t _ (fun i hi => by rw [List.getD_eq_getElem?_getD, List.getElem?_replicate, if_pos hi]; rfl)
theorem beatF_bound (zs : List Int) : -9000000000000000000 ≤ (beatF zs).1 ∧ (beatF zs).1 ≤ 9000000000000000000 ∧ -9000000000000000000 ≤ (beatF zs).2 ∧ (beatF zs).2 ≤ 9000000000000000000 := by
  unfold beatF
  by_cases h : 4096 < zs.length
  · rw [if_pos h]; simp only; omega
  · rw [if_neg h]
    have := beatK_bound zs zs.length (by omega)
    unfold smallP at this
    omega
theorem Try.infoI64 : (Try.prog.info? 2).map (fun i => (i.zero, i.size, i.bytes)) = some (some (.int .i64 0), 1, 8) := by kernel_rfl
theorem ints_one (zs : List Int) : ∀ u ∈ zs.map (Value.int .i64), u.oneCell' = true := by
  intro u hu
  obtain ⟨s, _, rfl⟩ := List.mem_map.1 hu
  rfl

set_option maxRecDepth 100000 in
theorem TallyBeat_long (A : Option Addr) (n c : Nat) (x : Int) (t : Nat) (w : World) (h : 5000 < n) :
    Calls Try.prog 5 #[.slice A n c, .int .i64 x, .int .u8 t] w fun e w' => e = .returned (.bool true) ∧ Below w.heap.size w w' := by
  have d : decide ((5000 : Int) < (n : Int)) = true := by simp; omega
  go_enter Try.func5, Try.ntmps5
  go_wp2_with fail
  with_reducible refine (Tally_awake _).mono ?_
  rintro e w1 ⟨rfl, hb⟩
  go_wp2
  go_ret
  exact ⟨rfl, hb⟩
set_option maxRecDepth 100000 in
set_option maxHeartbeats 4000000 in
theorem TallyBeat_main (A : Option Addr) (n c : Nat) (zs : List Int) (x : Int) (t : Nat) (w : World) (hr : Reads w w.heap.size 1 A n (zs.map (Value.int .i64))) (h : n ≤ 5000) (ht : t < 256) :
    Calls Try.prog 5 #[.slice A n c, .int .i64 x, .int .u8 t] w fun e w' => e = .returned (.bool true) ∧ Below w.heap.size w w' := by
  have d : decide ((5000 : Int) < (n : Int)) = false := by simp; omega
  have HL := Lib.hid (show zs.length = n from by simpa using hr.1)
  have HR := Lib.hid hr
  clear hr
  obtain ⟨i0, hi0, hz0, hz1, hz2⟩ := info_parts Try.infoI64
  obtain ⟨b1, b2, b3, b4⟩ := beatF_bound zs
  go_enter Try.func5, Try.ntmps5
  go_wp2_with fail
  with_reducible refine (Tally_awake _).mono ?_
  rintro e w1 ⟨rfl, hb⟩
  have HB := Lib.hid hb
  have hz := hb.size
  clear hb
  go_wp2_with fail
  with_reducible refine (Beat_c A n c w.heap.size zs _ (HR.out.below HB.out) hz).mono ?_
  rintro e w2 ⟨rfl, hb⟩
  have HB2 := Lib.hid (HB.out.trans (hb.mono hz))
  have hz2' := HB2.out.size
  clear hb HB
  go_wp2_with fail
  with_reducible refine (rBeat_c A n c w.heap.size zs _ (HR.out.below HB2.out)).mono ?_
  rintro e w' ⟨rfl, rfl⟩
  have HO0 := Lib.hid (show w2.ownsRow w.heap.size 2 1 (.slice none 0 0) 0 ((List.replicate 0 x).map (Value.int .i64)) ∧ Below w.heap.size w w2 from ⟨⟨rfl, .inl ⟨rfl, rfl⟩⟩, HB2.out⟩)
  clear HB2
  go_wp2
  go_loopw [11, 12] (fun v i wr => ∃ k : Nat, k ≤ 4 * t ∧ i = .int .i64 k ∧ Hid (wr.ownsRow w.heap.size 2 1 v k ((List.replicate k x).map (Value.int .i64)) ∧ Below w.heap.size w wr)) (fun _ i _ => 4 * t - (intOf i).toNat)
  case atStart => exact ⟨0, Nat.zero_le _, rfl, HO0⟩
  case round =>
    obtain ⟨k, hk, rfl, HO⟩ := hrel
    clear HO0 hz2'
    have hbs := HO.out.2.size
    by_cases hlt : k < 4 * t
    · have dk : decide ((k : Int) < 4 * (t : Int)) = true := by simp; omega
      go_wp2_with (at_builtin; go_must (refine wpList_append_one wr rfl _ _ 22 rfl w.heap.size 2 i0 _ 8 Try.underlying22 hi0 hz0 hz1 hz2 rfl _ _ _ HO.out.1 rfl (.int .i64 x) rfl rfl (by unfold maxLen; omega) (by omega) hbs ?_); intro v' w3 hown3 hg3)
      have HN := Lib.hid (show w3.ownsRow w.heap.size 2 1 v' (k + 1) ((List.replicate (k + 1) x).map (Value.int .i64)) ∧ Below w.heap.size w w3 from ⟨by rw [List.replicate_succ', List.map_append]; exact hown3, below_own HO.out.2 hg3 HO.out.1 (Nat.le_refl _) hbs⟩)
      clear hown3 hg3
      go_roundw
      case rel => exact ⟨k + 1, by omega, by go_num, HN⟩
      case measure => simp [intOf]; omega
    · have dk : decide ((k : Int) < 4 * (t : Int)) = false := by simp; omega
      obtain rfl : k = 4 * t := by omega
      obtain ⟨A2, c2, rfl, _, _, _, hr2⟩ := own_reads HO.out.1
      have HR2 := Lib.hid hr2
      have HB := Lib.hid HO.out.2
      clear hr2 HO
      go_wp2_with fail
      with_reducible refine (Beat_c A2 (4 * t) c2 _ (List.replicate (4 * t) x) _ HR2.out (Nat.le_refl _)).mono ?_
      rintro e w4 ⟨rfl, hb⟩
      rw [beatF_same x t ht]
      simp only
      have HB4 := Lib.hid (HB.out.trans (hb.mono hbs))
      have hz4 := HB4.out.size
      clear hb HB HR2
      by_cases hl : 4096 ≤ n
      · have dl : decide ((4096 : Int) ≤ (n : Int)) = true := by simp; omega
        go_wp2
        go_ret
        exact ⟨rfl, HB4.out⟩
      · have dl : decide ((4096 : Int) ≤ (n : Int)) = false := by simp; omega
        have hn1 : 1 + n ≤ maxLen := by unfold maxLen; omega
        go_wp2_with (at_builtin; go_must (refine wpList_append_any _ rfl _ _ 22 rfl w.heap.size 2 i0 _ 1 8 Try.underlying22 hi0 hz0 hz1 hz2 rfl (by omega) _ 1 [.int .i64 0] rfl ⟨rfl, .inr ⟨w4.heap.size, 1, #[.int .i64 0], rfl, hz4, Blk.new w4 _ _, Nat.le_refl _, (by unfold maxLen; omega), rfl, rfl⟩⟩ w.heap.size A n c _ rfl ((HR.out.below HB4.out).alloc hz4 _) (ints_one zs) hn1 (by omega) (by simp; omega) ?_); intro v1 w5 hown5 hg5 hat5)
        obtain ⟨A5, c5, rfl, _, _, _, hr5⟩ := own_reads hown5
        have HR5 := Lib.hid (show Reads w5 w5.heap.size 1 A5 (1 + n) ((0 :: zs).map (Value.int .i64)) from hr5)
        have HB5 := Lib.hid (show Below w.heap.size w w5 from below_own (HB4.out.alloc hz4 _) hg5 (show (w4.alloc (.cells #[.int .i64 0] 2)).ownsRow w.heap.size 2 1 (.slice (some ⟨w4.heap.size, 0, none⟩) 1 1) 1 [.int .i64 0] from ⟨rfl, .inr ⟨w4.heap.size, 1, #[.int .i64 0], rfl, hz4, Blk.new w4 _ _, Nat.le_refl _, (by unfold maxLen; omega), rfl, rfl⟩⟩) (Nat.le_refl _) (by simp; omega))
        have hz5 := HB5.out.size
        clear hown5 hg5 hat5 hr5
        with_reducible refine (Beat_c A5 (1 + n) c5 _ (0 :: zs) _ HR5.out (Nat.le_refl _)).mono ?_
        rintro e w6 ⟨rfl, hb6⟩
        rw [beatF_cons zs (by rw [HL.out]; omega)]
        simp only
        have HB6 := Lib.hid (HB5.out.trans (hb6.mono hz5))
        clear hb6
        go_wp2
        go_ret
        exact ⟨rfl, HB6.out⟩
theorem TallyBeat_walk (A : Option Addr) (n c : Nat) (zs : List Int) (x t : Int) (w : World) (hz : IntArg .i64 w A n c zs) (hx : (Lit.int .i64 x).wf = true) (ht : (Lit.int .u8 t).wf = true) :
    Calls Try.prog 5 #[.slice A n c, .int .i64 x, .int .u8 t] w fun e w' => e = .returned (.bool true) ∧ Below w.heap.size w w' := by
  have h1 := bounds_u8 ht
  obtain ⟨t, rfl⟩ : ∃ m : Nat, t = (m : Int) := ⟨t.toNat, by omega⟩
  by_cases h : 5000 < n
  · exact TallyBeat_long A n c x t w h
  · exact TallyBeat_main A n c zs x t w hz.1 (by omega) (by omega)
end Go.Proofs.Ytnccamcfjbjkbaa
