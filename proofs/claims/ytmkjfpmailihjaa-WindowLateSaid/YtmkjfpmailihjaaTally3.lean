/- Contracts of tally's Sum and Beat and of the reference's Beat. -/
import Derived.Test.YtmkjfpmailihjaaTally2
import Derived.Deep.DeepMust
namespace Go.Proofs.Ytmkjfpmailihjaa
set_option linter.unusedVariables false
open Go.RowKit

def sumP (l : List (Int × Int)) : Int × Int := l.foldl (fun s z => (s.1 + z.1, s.2 + z.2)) (0, 0)
theorem sumP_snoc (l : List (Int × Int)) (z : Int × Int) : sumP (l ++ [z]) = ((sumP l).1 + z.1, (sumP l).2 + z.2) := by simp [sumP]
def smallP (M : Int) (z : Int × Int) : Prop := -M ≤ z.1 ∧ z.1 ≤ M ∧ -M ≤ z.2 ∧ z.2 ≤ M
theorem foldl_start (l : List (Int × Int)) (s : Int × Int) : l.foldl (fun s z => (s.1 + z.1, s.2 + z.2)) s = (s.1 + (sumP l).1, s.2 + (sumP l).2) := by
  induction l generalizing s with
  | nil => simp [sumP]
  | cons x l ih =>
    have h := ih (0 + x.1, 0 + x.2)
    unfold sumP
    rw [List.foldl_cons, List.foldl_cons, ih, h]
    simp only [Prod.mk.injEq]
    omega
theorem sumP_cons (z : Int × Int) (l : List (Int × Int)) : sumP (z :: l) = (z.1 + (sumP l).1, z.2 + (sumP l).2) := by
  have h := foldl_start l (0 + z.1, 0 + z.2)
  unfold sumP at h ⊢
  rw [List.foldl_cons, h]
  simp
theorem sumP_small (M : Int) (h0 : 0 ≤ M) (l : List (Int × Int)) (h : ∀ z ∈ l, smallP M z) : smallP ((l.length : Int) * M) (sumP l) := by
  induction l with
  | nil => simp [sumP, smallP]
  | cons z l ih =>
    obtain ⟨a1, a2, a3, a4⟩ := h z (List.mem_cons_self ..)
    obtain ⟨b1, b2, b3, b4⟩ := ih (fun x hx => h x (List.mem_cons_of_mem _ hx))
    rw [sumP_cons]
    have e : ((l.length + 1 : Nat) : Int) * M = (l.length : Int) * M + M := by rw [Int.natCast_add, Int.add_mul]; simp
    rw [List.length_cons, e]
    unfold smallP
    simp only
    omega
theorem small_mul (n : Nat) (N M : Int) (z : Int × Int) (hM : 0 ≤ M) (hn : (n : Int) ≤ N) (h : smallP ((n : Int) * M) z) : smallP (N * M) z := by
  have := Int.mul_le_mul_of_nonneg_right hn hM
  unfold smallP at *
  omega

def cxv (p : Nat × Nat) : Value := .complex .f64 p.1 p.2
def FlL (ps : List (Nat × Nat)) (zs : List (Int × Int)) : Prop := ps.length = zs.length ∧ ∀ (i : Nat) p z, ps[i]? = some p → zs[i]? = some z → Fl p.1 z.1 ∧ Fl p.2 z.2
theorem FlL.nil : FlL [] [] := ⟨rfl, fun i p z h => by simp at h⟩
theorem FlL.snoc {ps : List (Nat × Nat)} {zs : List (Int × Int)} (h : FlL ps zs) {v : Value} {x y : Int} (hv : CV v x y) : ∃ p : Nat × Nat, v = .complex .f64 p.1 p.2 ∧ FlL (ps ++ [p]) (zs ++ [(x, y)]) := by
  obtain ⟨a, b, rfl, ha, hb⟩ := hv
  refine ⟨(a, b), rfl, by simp [h.1], fun i p z hp hz => ?_⟩
  have hl := h.1
  by_cases hi : i < ps.length
  · rw [List.getElem?_append_left hi] at hp
    rw [List.getElem?_append_left (by omega)] at hz
    exact h.2 i p z hp hz
  · rw [List.getElem?_append_right (by omega)] at hp
    rw [List.getElem?_append_right (by omega)] at hz
    have h0 : i - ps.length = 0 := by
      rcases Nat.eq_zero_or_pos (i - ps.length) with h | h
      · exact h
      · rw [List.getElem?_eq_none (by simp; omega)] at hp; cases hp
    rw [h0] at hp
    rw [show i - zs.length = 0 from by omega] at hz
    simp at hp hz
    subst hp hz
    exact ⟨ha, hb⟩
theorem cxv_one (ps : List (Nat × Nat)) : ∀ u ∈ ps.map cxv, u.oneCell' = true := by
  intro u hu
  obtain ⟨p, _, rfl⟩ := List.mem_map.1 hu
  rfl

theorem Sum_c (A : Option Addr) (n c B : Nat) (ps : List (Nat × Nat)) (zs : List (Int × Int)) (w : World) (hr : Reads w B 1 A n (ps.map cxv)) (hf : FlL ps zs) (hs : ∀ z ∈ zs, smallP 1099511627776 z) (hn : n ≤ 4096) :
    Calls Try.prog 36 #[.slice A n c] w fun e w' => ∃ a b, e = .returned (.complex .f64 a b) ∧ Fl a (sumP zs).1 ∧ Fl b (sumP zs).2 ∧ w = w' := by
  have hl : ps.length = n := by simpa using hr.1
  have HL := Lib.hid hl
  have HF := Lib.hid hf
  have HS := Lib.hid hs
  have HR := Lib.hid hr
  clear hl hf hs hr
  go_enter Try.func36, Try.ntmps36
  go_wp2
  go_loop [3, 8] (fun s i => ∃ k a b : Nat, k ≤ n ∧ i = .int .i64 k ∧ s = .complex .f64 a b ∧ Hid (Fl a (sumP (zs.take k)).1 ∧ Fl b (sumP (zs.take k)).2)) (fun _ i => n - (intOf i).toNat)
  case atStart => exact ⟨0, 0, 0, Nat.zero_le _, rfl, rfl, Lib.hid ⟨Fl.zero, Fl.zero⟩⟩
  case round =>
    obtain ⟨k, a, b, hk, rfl, rfl, HA⟩ := hrel
    by_cases hlt : k < n
    · obtain ⟨ad, u, rfl, hb, hx, hc⟩ := HR.out.at_ hlt
      obtain ⟨p, hp, rfl⟩ : ∃ p, ps[k]? = some p ∧ cxv p = u := by simpa using hx
      obtain ⟨z, hz⟩ : ∃ z, zs[k]? = some z := ⟨_, List.getElem?_eq_getElem (by rw [← HF.out.1, HL.out]; exact hlt)⟩
      obtain ⟨hp1, hp2⟩ := HF.out.2 k p z hp hz
      have ht := take_succ_map zs k z hz
      have hsm : smallP (4096 * 1099511627776) (sumP (zs.take (k + 1))) := by
        refine small_mul (zs.take (k + 1)).length 4096 _ _ (by omega) (by rw [List.length_take]; omega) (sumP_small _ (by omega) _ (fun x hx => HS.out x (List.mem_of_mem_take hx)))
      rw [ht, sumP_snoc] at hsm
      unfold smallP at hsm
      simp only at hsm
      obtain ⟨r1, hr1, hf1⟩ := HA.out.1.add hp1 (by omega) (by omega)
      obtain ⟨r2, hr2, hf2⟩ := HA.out.2.add hp2 (by omega) (by omega)
      have HN := Lib.hid (show Fl r1 (sumP (zs.take (k + 1))).1 ∧ Fl r2 (sumP (zs.take (k + 1))).2 from by rw [ht, sumP_snoc]; exact ⟨hf1, hf2⟩)
      have hadd := fun W => run_complex_sum (P := Try.prog) W .add (Or.inl rfl) 60 .f64 a b p.1 p.2 r1 r2 (by unfold cSumBits; rw [hr1, hr2]; rfl)
      have hc' : w.cell? (ad.add k) = some (.complex .f64 p.1 p.2) := hc
      have i1 : (0 : Int) ≤ (k : Int) := by omega
      have i2 : (k : Int) < (n : Int) := by omega
      clear hx hp hz hp1 hp2 ht hsm hr1 hf1 hr2 hf2 hc
      go_wp2
      go_round
      case rel => exact ⟨k + 1, r1, r2, by omega, by go_num, rfl, HN⟩
      case measure => simp [intOf]; omega
    · obtain rfl : n = k := by omega
      have hA := HA.out
      rw [List.take_of_length_le (by rw [← HF.out.1, HL.out]; exact Nat.le_refl _)] at hA
      have HA' := Lib.hid hA
      clear hA
      go_wp2
      go_ret
      exact ⟨_, _, rfl, HA'.out.1, HA'.out.2, rfl⟩

def beatK (zs : List Int) (k : Nat) : List (Int × Int) := (List.range k).map (fun i => turnN (i % 4) (hold (zs.getD i 0), 0))
theorem beatK_succ (zs : List Int) (k : Nat) : beatK zs (k + 1) = beatK zs k ++ [turnN (k % 4) (hold (zs.getD k 0), 0)] := by simp [beatK, List.range_succ]
theorem beatK_small (zs : List Int) (k : Nat) : ∀ z ∈ beatK zs k, smallP 1099511627776 z := by
  intro z hz
  obtain ⟨i, _, rfl⟩ := List.mem_map.1 hz
  have h1 := hold_lo (zs.getD i 0)
  have h2 := hold_hi (zs.getD i 0)
  exact turnN_bound (i % 4) _ _ (by simp only; omega) (by simp only; omega) (by simp) (by simp)
theorem beatK_length (zs : List Int) (k : Nat) : (beatK zs k).length = k := by simp [beatK]
theorem beatK_bound (zs : List Int) (k : Nat) (hk : k ≤ 5000) : smallP 5497558138880000 (sumP (beatK zs k)) := by
  have h := small_mul k 5000 1099511627776 _ (by omega) (by omega) (by have h := sumP_small 1099511627776 (by omega) (beatK zs k) (beatK_small zs k); rw [beatK_length] at h; exact h)
  simpa using h
def beatF (zs : List Int) : Int × Int := if 4096 < zs.length then (0, 0) else sumP (beatK zs zs.length)

theorem Try.infoC128 : (Try.prog.info? 60).map (fun i => (i.zero, i.size, i.bytes)) = some (some (.complex .f64 0 0), 1, 16) := by kernel_rfl
theorem getD_of_some {zs : List Int} {k : Nat} {x : Int} (h : zs[k]? = some x) : zs.getD k 0 = x := by rw [List.getD_eq_getElem?_getD, h]; rfl

theorem Beat_long (A : Option Addr) (n c : Nat) (w : World) (h : 4096 < n) : Calls Try.prog 32 #[.slice A n c] w fun e w' => e = .returned (.tuple #[.int .i64 0, .int .i64 0]) ∧ Below w.heap.size w w' := by
  have d : decide ((4096 : Int) < (n : Int)) = true := by simp; omega
  go_enter Try.func32, Try.ntmps32
  go_wp2
  go_ret2
  exact ⟨rfl, Below.refl _ _⟩
set_option maxHeartbeats 1000000 in
theorem Beat_short (A : Option Addr) (n c B : Nat) (zs : List Int) (w : World) (hr : Reads w B 1 A n (zs.map (Value.int .i64))) (hB : B ≤ w.heap.size) (h : n ≤ 4096) :
    Calls Try.prog 32 #[.slice A n c] w fun e w' => e = .returned (.tuple #[.int .i64 (sumP (beatK zs n)).1, .int .i64 (sumP (beatK zs n)).2]) ∧ Below w.heap.size w w' := by
  have d : decide ((4096 : Int) < (n : Int)) = false := by simp; omega
  have HR := Lib.hid hr
  clear hr
  obtain ⟨i0, hi0, hz0, hz1, hz2⟩ := info_parts Try.infoC128
  go_enter Try.func32, Try.ntmps32
  go_wp2_with (at_make; go_must (refine wpList_make_own _ rfl _ _ 59 rfl w.heap.size 60 i0 _ 1 Try.underlying59 hi0 hz0 hz1 _ _ _ n rfl rfl (by omega) (by rw [hz2]; omega) (by unfold maxLen; omega) (Nat.le_refl _) ?_); intro w1 hown1 hg1)
  have HO := Lib.hid (show ∃ ps, w1.ownsRow w.heap.size 60 1 (.slice (some ⟨w.heap.size, 0, none⟩) 0 n) 0 (ps.map cxv) ∧ FlL ps (beatK zs 0) ∧ Below w.heap.size w w1 from ⟨[], hown1, FlL.nil, (Below.refl _ _).grown hg1 (Nat.le_refl _) (fun g h => by cases h)⟩)
  clear hown1 hg1
  go_loopw [4, 15] (fun v i wr => ∃ k : Nat, k ≤ n ∧ i = .int .i64 k ∧ Hid (∃ ps, wr.ownsRow w.heap.size 60 1 v k (ps.map cxv) ∧ FlL ps (beatK zs k) ∧ Below w.heap.size w wr)) (fun _ i _ => n - (intOf i).toNat)
  case atStart => exact ⟨0, Nat.zero_le _, rfl, HO⟩
  case round =>
    obtain ⟨k, hk, rfl, HP⟩ := hrel
    clear HO
    obtain ⟨ps, hown, hf, hb⟩ := HP.out
    have HF := Lib.hid hf
    have HB := Lib.hid hb
    have HO := Lib.hid hown
    clear HP hf hb hown
    by_cases hlt : k < n
    · obtain ⟨ad, u, rfl, hb, hx, hc⟩ := HR.out.at_ hlt
      obtain ⟨x, hx', rfl⟩ : ∃ x, zs[k]? = some x ∧ Value.int .i64 x = u := by simpa using hx
      have hc' : wr.cell? (ad.add k) = some (.int .i64 x) := (HB.out.cell (by rw [block_of_add]; omega)).trans hc
      have HX := Lib.hid (getD_of_some hx')
      have i1 : (0 : Int) ≤ (k : Int) := by omega
      have i2 : (k : Int) < (n : Int) := by omega
      clear hx hx' hc
      go_wp2_with fail
      refine (Of_c _ _ _).mono ?_
      rintro e w' ⟨v1, rfl, hv1, rfl⟩
      have HV1 := Lib.hid hv1
      clear hv1
      go_wp2_with fail
      refine (Turn_c v1 _ _ _ HV1.out (by omega) (by omega) _).mono ?_
      rintro e w' ⟨v2, rfl, hv2, rfl⟩
      have hv2' : CV v2 (turnN (k % 4) (hold (zs.getD k 0), 0)).1 (turnN (k % 4) (hold (zs.getD k 0), 0)).2 := by
        rw [HX.out]
        rw [show ((k : Int) % 4).toNat = k % 4 from by omega, show hold 0 = 0 from by decide] at hv2
        exact hv2
      obtain ⟨p, rfl, hfp⟩ := FlL.snoc HF.out hv2'
      rw [← beatK_succ] at hfp
      have HFP := Lib.hid hfp
      clear hfp hv2 hv2' HV1
      have hbs := HB.out.size
      go_wp2_with (at_builtin; go_must (refine wpList_append_one wr rfl _ _ 59 rfl w.heap.size 60 i0 _ 16 Try.underlying59 hi0 hz0 hz1 hz2 rfl _ _ _ HO.out rfl (.complex .f64 p.1 p.2) rfl rfl (by unfold maxLen; omega) (by omega) hbs ?_); intro v' w3 hown3 hg3)
      have HN := Lib.hid (show ∃ ps, w3.ownsRow w.heap.size 60 1 v' (k + 1) (ps.map cxv) ∧ FlL ps (beatK zs (k + 1)) ∧ Below w.heap.size w w3 from ⟨ps ++ [p], by rw [List.map_append]; exact hown3, HFP.out, below_own HB.out hg3 HO.out (Nat.le_refl _) hbs⟩)
      clear hown3 hg3
      go_roundw
      case rel => exact ⟨k + 1, by omega, by go_num, HN⟩
      case measure => simp [intOf]; omega
    · obtain rfl : n = k := by omega
      obtain ⟨A2, c2, rfl, _, _, _, hr2⟩ := own_reads HO.out
      have HR2 := Lib.hid hr2
      clear hr2
      go_wp2_with fail
      refine (Sum_c A2 n c2 _ ps _ _ HR2.out HF.out (beatK_small zs n) h).mono ?_
      rintro e w' ⟨a, b, rfl, ha, hb, rfl⟩
      have HA := Lib.hid ha
      have HB2 := Lib.hid hb
      clear ha hb
      go_wp2_with fail
      refine (Parts_c HA.out HB2.out _).mono ?_
      rintro e w' ⟨rfl, rfl⟩
      go_wp2
      go_ret2
      exact ⟨rfl, HB.out⟩
theorem Beat_c (A : Option Addr) (n c B : Nat) (zs : List Int) (w : World) (hr : Reads w B 1 A n (zs.map (Value.int .i64))) (hB : B ≤ w.heap.size) :
    Calls Try.prog 32 #[.slice A n c] w fun e w' => e = .returned (.tuple #[.int .i64 (beatF zs).1, .int .i64 (beatF zs).2]) ∧ Below w.heap.size w w' := by
  have hl : zs.length = n := by simpa using hr.1
  unfold beatF
  rw [hl]
  by_cases h : 4096 < n
  · rw [if_pos h]; exact Beat_long A n c w h
  · rw [if_neg h]; exact Beat_short A n c B zs w hr hB (by omega)

theorem rBeat_long (A : Option Addr) (n c : Nat) (w : World) (h : 4096 < n) : Calls Try.prog 33 #[.slice A n c] w fun e w' => e = .returned (.tuple #[.int .i64 0, .int .i64 0]) ∧ w = w' := by
  have d : decide ((4096 : Int) < (n : Int)) = true := by simp; omega
  go_enter Try.func33, Try.ntmps33
  go_wp2
  go_ret2
  exact ⟨rfl, rfl⟩
theorem turn4 (h : Int) (k : Nat) : turnN (k % 4) (h, 0) = if k % 4 = 0 then (h, 0) else if k % 4 = 1 then (0, h) else if k % 4 = 2 then (-h, 0) else (0, -h) := by
  have hk : k % 4 < 4 := Nat.mod_lt _ (by omega)
  generalize k % 4 = r at hk
  match r, hk with
  | 0, _ => rfl
  | 1, _ => simp [turnN]
  | 2, _ => simp [turnN]
  | 3, _ => simp [turnN]
set_option maxHeartbeats 1000000 in
theorem rBeat_short (A : Option Addr) (n c B : Nat) (zs : List Int) (w : World) (hr : Reads w B 1 A n (zs.map (Value.int .i64))) (h : n ≤ 4096) :
    Calls Try.prog 33 #[.slice A n c] w fun e w' => e = .returned (.tuple #[.int .i64 (sumP (beatK zs n)).1, .int .i64 (sumP (beatK zs n)).2]) ∧ w = w' := by
  have d : decide ((4096 : Int) < (n : Int)) = false := by simp; omega
  have HR := Lib.hid hr
  clear hr
  go_enter Try.func33, Try.ntmps33
  go_wp2
  go_loop [4, 5, 6] (fun a b i => ∃ k : Nat, k ≤ n ∧ i = .int .i64 k ∧ a = .int .i64 (sumP (beatK zs k)).1 ∧ b = .int .i64 (sumP (beatK zs k)).2) (fun _ _ i => n - (intOf i).toNat)
  case atStart => exact ⟨0, Nat.zero_le _, rfl, rfl, rfl⟩
  case round =>
    obtain ⟨k, hk, rfl, rfl, rfl⟩ := hrel
    by_cases hlt : k < n
    · obtain ⟨ad, u, rfl, hb, hx, hc⟩ := HR.out.at_ hlt
      obtain ⟨x, hx', rfl⟩ : ∃ x, zs[k]? = some x ∧ Value.int .i64 x = u := by simpa using hx
      have hs := beatK_bound zs k (by omega)
      unfold smallP at hs
      have hs2 := beatK_succ zs k
      rw [turn4, getD_of_some hx'] at hs2
      have HS := Lib.hid (show sumP (beatK zs (k + 1)) = _ from by rw [hs2, sumP_snoc])
      have h1 := hold_lo x
      have h2 := hold_hi x
      have i1 : (0 : Int) ≤ (k : Int) := by omega
      have i2 : (k : Int) < (n : Int) := by omega
      obtain ⟨a1, a2, a3, a4⟩ := hs
      obtain ⟨r, hr⟩ : ∃ r, k % 4 = r := ⟨_, rfl⟩
      have hkr : (k : Int) % 4 = (r : Int) := by omega
      have hr4 : r < 4 := by omega
      rw [hr] at HS
      clear hx hx' hs2 hr
      generalize sumP (beatK zs k) = S at *
      match r, hr4 with
      | 0, _ =>
        go_wp2_with (go_at_call 38; refine (rHold_c _ _).mono ?_; rintro e w' ⟨rfl, rfl⟩)
        go_round
        case rel => exact ⟨k + 1, by omega, by go_num, by rw [HS.out]; simp, by rw [HS.out]; simp⟩
        case measure => simp [intOf]; omega
      | 1, _ =>
        go_wp2_with (go_at_call 38; refine (rHold_c _ _).mono ?_; rintro e w' ⟨rfl, rfl⟩)
        go_round
        case rel => exact ⟨k + 1, by omega, by go_num, by rw [HS.out]; simp, by rw [HS.out]; simp⟩
        case measure => simp [intOf]; omega
      | 2, _ =>
        go_wp2_with (go_at_call 38; refine (rHold_c _ _).mono ?_; rintro e w' ⟨rfl, rfl⟩)
        go_round
        case rel => exact ⟨k + 1, by omega, by go_num, by rw [HS.out]; simp [Int.sub_eq_add_neg], by rw [HS.out]; simp⟩
        case measure => simp [intOf]; omega
      | 3, _ =>
        go_wp2_with (go_at_call 38; refine (rHold_c _ _).mono ?_; rintro e w' ⟨rfl, rfl⟩)
        go_round
        case rel => exact ⟨k + 1, by omega, by go_num, by rw [HS.out]; simp, by rw [HS.out]; simp [Int.sub_eq_add_neg]⟩
        case measure => simp [intOf]; omega
    · obtain rfl : n = k := by omega
      go_wp2
      go_ret2
      exact ⟨rfl, rfl⟩
theorem rBeat_c (A : Option Addr) (n c B : Nat) (zs : List Int) (w : World) (hr : Reads w B 1 A n (zs.map (Value.int .i64))) :
    Calls Try.prog 33 #[.slice A n c] w fun e w' => e = .returned (.tuple #[.int .i64 (beatF zs).1, .int .i64 (beatF zs).2]) ∧ w = w' := by
  have hl : zs.length = n := by simpa using hr.1
  unfold beatF
  rw [hl]
  by_cases h : 4096 < n
  · rw [if_pos h]; exact rBeat_long A n c w h
  · rw [if_neg h]; exact rBeat_short A n c B zs w hr (by omega)
end Go.Proofs.Ytmkjfpmailihjaa
