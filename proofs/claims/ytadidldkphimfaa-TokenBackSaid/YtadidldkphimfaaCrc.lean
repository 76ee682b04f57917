/- Contracts of the package crc: step, Table; the reference's Step. -/
import Derived.Test.YtadidldkphimfaaRows
import Derived.Test.YtadidldkphimfaaCrcP
import Derived.Test.YtadidldkphimfaaArgs
import Derived.WalkLawsBesides
import Derived.WalkSpells
import Derived.Outline
import Derived.Deep.DeepMust
namespace Go.Proofs.Ytadidldkphimfaa
set_option linter.unusedVariables false
open Go.RowKit

theorem retI {k : IntKind} {a b : Int} (h : a = b) : Ending.returned (.int k a) = .returned (.int k b) := by rw [h]
theorem xor_poly (n : Nat) (h : n < 4294967296) : bits .xor .u32 ((n : Int) / 2) 3988292384 = ((n / 2 ^^^ polyN : Nat) : Int) := by
  have e : ((n : Int) / 2) = ((n / 2 : Nat) : Int) := by omega
  have e2 : (3988292384 : Int) = ((polyN : Nat) : Int) := rfl
  rw [e, e2, u32_xor_nat _ _ (by omega) (by decide)]

theorem step_c (n : Nat) (hn : n < 4294967296) (w : World) : Calls Try.prog 31 #[.int .u32 n] w fun e w' => e = .returned (.int .u32 (stepN n)) ∧ w = w' := by
  have hx := xor_poly n hn
  have HX := Lib.hid hx; clear hx
  by_cases h : n % 2 = 1
  · have h1 : (((n : Int) % 2) == 1) = true := by rw [beq_iff_eq]; omega
    have HS := Lib.hid (show stepN n = n / 2 ^^^ polyN from by unfold stepN; rw [if_pos h])
    clear h
    go_enter Try.func31, Try.ntmps31
    go_wp2
    go_ret
    exact ⟨retI (by rw [HS.out, ← HX.out]), rfl⟩
  · have h1 : (((n : Int) % 2) == 1) = false := by rw [beq_eq_false_iff_ne]; omega
    have HS := Lib.hid (show stepN n = n / 2 from by unfold stepN; rw [if_neg h])
    clear h
    go_enter Try.func31, Try.ntmps31
    go_wp2
    go_ret
    exact ⟨retI (by rw [HS.out]; rfl), rfl⟩

theorem rStep_c (n : Nat) (hn : n < 4294967296) (w : World) : Calls Try.prog 34 #[.int .u32 n] w fun e w' => e = .returned (.int .u32 (stepN n)) ∧ w = w' := by
  have hx := xor_poly n hn
  have HX := Lib.hid hx; clear hx
  by_cases h : n % 2 = 1
  · have h1 : (((n : Int) % 2) == 1) = true := by rw [beq_iff_eq]; omega
    have HS := Lib.hid (show stepN n = n / 2 ^^^ polyN from by unfold stepN; rw [if_pos h])
    clear h
    go_enter Try.func34, Try.ntmps34
    go_wp2
    go_ret
    exact ⟨retI (by rw [HS.out, ← HX.out]), rfl⟩
  · have h1 : (((n : Int) % 2) == 1) = false := by rw [beq_eq_false_iff_ne]; omega
    have HS := Lib.hid (show stepN n = n / 2 from by unfold stepN; rw [if_neg h])
    clear h
    go_enter Try.func34, Try.ntmps34
    go_wp2
    go_ret
    exact ⟨retI (by rw [HS.out]; rfl), rfl⟩

/-- 256 numbers as an array's cells. -/
def tabArr (t : Nat → Nat) : Array Value := ((List.range 256).map (fun i => Value.int .u32 ((t i : Nat) : Int))).toArray
theorem tabArr_size (t : Nat → Nat) : (tabArr t).size = 256 := by simp [tabArr]
theorem tabArr_get (t : Nat → Nat) (i : Nat) (h : i < 256) : (tabArr t)[i]? = some (.int .u32 (t i)) := by
  simp [tabArr, h]
def Try.zeroCells44 : Array Value := Array.replicate 256 (.int .u32 0)
theorem zrunTab (w : World) : (zeroValue 44).run Try.prog w = .ok (.agg Try.zeroCells44) w := by kernel_rfl
theorem zneTab : ¬ Try.zeroCells44 = #[] := by intro h; have := congrArg Array.size h; simp [Try.zeroCells44] at this
theorem tabArr_zero : Try.zeroCells44 = tabArr (fun _ => 0) := by kernel_rfl
theorem tabArr_set (t : Nat → Nat) (k : Nat) (hk : k < 256) (v : Nat) : (tabArr t).setIfInBounds k (.int .u32 v) = tabArr (fun i => if i = k then v else t i) := by
  apply Array.ext_getElem?
  intro i
  rw [Array.getElem?_setIfInBounds]
  by_cases hi : k = i
  · subst hi
    rw [if_pos rfl, tabArr_size, if_pos hk, tabArr_get _ _ hk]; simp
  · rw [if_neg hi]
    by_cases h : i < 256
    · rw [tabArr_get _ _ h, tabArr_get _ _ h, if_neg (fun e => hi e.symm)]
    · rw [Array.getElem?_eq_none (by rw [tabArr_size]; omega), Array.getElem?_eq_none (by rw [tabArr_size]; omega)]
theorem tabArr_ext {t u : Nat → Nat} (h : ∀ i, i < 256 → t i = u i) : tabArr t = tabArr u := by
  apply Array.ext_getElem?
  intro i
  by_cases hi : i < 256
  · rw [tabArr_get _ _ hi, tabArr_get _ _ hi, h i hi]
  · rw [Array.getElem?_eq_none (by rw [tabArr_size]; omega), Array.getElem?_eq_none (by rw [tabArr_size]; omega)]
theorem tabArr_one (t : Nat → Nat) : (tabArr t).all (·.oneCell') = true := by
  rw [Array.all_eq_true]
  intro i hi
  have h256 : i < 256 := by rw [tabArr_size] at hi; exact hi
  have := tabArr_get t i h256
  rw [Array.getElem?_eq_getElem hi] at this
  injection this with this
  rw [this]; rfl
attribute [irreducible] tabArr
theorem tabArr_info (t : Nat → Nat) : (Try.prog.info? 44).map (·.size) = some (tabArr t).size := by rw [tabArr_size]; kernel_rfl

theorem Blk.setRow {w : World} {g : Nat} {t : TypeId} {old : Array Value} (h : Blk w g t old) (cs : Array Value) : Blk (w.setRow g cs) g t cs := setRow_heap w g old cs t (0, 0) h
theorem Blk.setRow_far {w : World} {g g' : Nat} {t : TypeId} {old : Array Value} (h : Blk w g t old) (hne : g ≠ g') (cs : Array Value) : Blk (w.setRow g' cs) g t old := (setRow_other w g' g cs hne).trans h
theorem below_setRow {B : Nat} {a w : World} (h : Below B a w) {g : Nat} (hg : B ≤ g) (cs : Array Value) : Below B a (w.setRow g cs) :=
  h.trans ⟨rfl, rfl, rfl, by simp, fun k hk => setRow_other w g k cs (by omega)⟩

set_option maxRecDepth 100000 in
theorem Table_c (w : World) : Calls Try.prog 17 #[] w fun e w' => e = .returned (.agg (tabArr step8)) ∧ Below w.heap.size w w' := by
  have hz1 := zrunTab
  have hz2 := zneTab
  go_enter Try.func17, Try.ntmps17
  go_wp2
  go_loopw [4] (fun i wr => ∃ k : Nat, k ≤ 256 ∧ i = .int .i64 k ∧ Hid (Blk wr (w.heap.size + 1) 44 (tabArr (fun i => if i < k then step8 i else 0))) ∧ Hid (Blk wr w.heap.size 44 (tabArr (fun _ => 0))) ∧ Below w.heap.size w wr) (fun i _ => 256 - (intOf i).toNat)
  case atStart =>
    refine ⟨0, Nat.zero_le _, rfl, ?_, ?_, (((Below.refl _ _).alloc (Nat.le_refl _) _).alloc (by simp) _)⟩
    · have h := blk2_1 w 44 44 Try.zeroCells44 Try.zeroCells44
      rw [show tabArr (fun i => if i < 0 then step8 i else 0) = Try.zeroCells44 from by rw [tabArr_zero]; exact tabArr_ext (fun i _ => rfl)]
      exact h
    · rw [← tabArr_zero]
      exact blk2_0 w 44 44 Try.zeroCells44 Try.zeroCells44
  case round =>
    obtain ⟨k, hk, rfl, H1, H0, hbr⟩ := hrel
    by_cases hlt : k < 256
    · have hcell : wr.cell? ⟨w.heap.size + 1, k, none⟩ = some (.int .u32 0) := by
        rw [H1.out.cell k, tabArr_get _ _ hlt, if_neg (by omega)]; rfl
      have hfz : wr.frozen? ⟨w.heap.size + 1, k, none⟩ = false := H1.out.frozen k
      have hi0 : (0 : Int) ≤ (k : Int) := by omega
      have hd : decide ((k : Int) < 256) = true := by simp; omega
      go_wp2
      go_loop [3, 9] (fun t j => ∃ q : Nat, q ≤ 8 ∧ j = .int .i64 q ∧ t = .int .u32 (stepK q k)) (fun _ j => 8 - (intOf j).toNat)
      case atStart => exact ⟨0, Nat.zero_le _, rfl, rfl⟩
      case round =>
        obtain ⟨q, hq, rfl, rfl⟩ := hrel
        by_cases hq8 : q < 8
        · go_wp2_with (go_at_call 31; refine (step_c _ (stepK_lt (by omega) q) _).mono ?_; rintro e w' ⟨rfl, rfl⟩)
          go_round
          case rel => exact ⟨q + 1, by omega, by go_num, rfl⟩
          case measure => simp [intOf]; omega
        · obtain rfl : q = 8 := by omega
          go_wp2
          go_roundw
          case rel =>
            refine ⟨k + 1, by omega, by go_num, ?_, H0.out.far (by simp) _, hbr.setCell (by simp) _⟩
            have e := H1.out.set_ k (.int .u32 (stepK 8 k))
            rw [tabArr_set _ k hlt, tabArr_ext (u := fun i => if i < k + 1 then step8 i else 0) (fun i _ => ?_)] at e
            · exact e
            · by_cases h1 : i = k
              · subst h1; rw [if_pos rfl, if_pos (by omega), stepK_8]
              · rw [if_neg h1]
                by_cases h2 : i < k
                · rw [if_pos h2, if_pos (by omega)]
                · rw [if_neg h2, if_neg (by omega)]
          case measure => simp [intOf]; omega
    · obtain rfl : k = 256 := by omega
      rw [tabArr_ext (u := step8) (fun i hi => by rw [if_pos hi])] at H1
      go_wp2_with (first
        | (refine wpList_load_row rfl 44 _ rfl (w.heap.size + 1) rfl 44 (tabArr step8) (0, 0) _ H1.out Try.underlying44 rfl (tabArr_info _) ?_)
        | (refine wpList_store_row rfl 44 _ _ rfl w.heap.size (tabArr step8) rfl rfl 44 (tabArr (fun _ => 0)) H0.out (tabArr_info _) (by rw [tabArr_size, tabArr_size]) (tabArr_one _) ?_))
      exact bodyPost_ret (results_cell_row rfl _ _ w.heap.size 44 (tabArr step8) (0, 0) _ rfl (H0.out.setRow _) Try.underlying44 rfl (tabArr_info _)) rfl ⟨rfl, below_setRow hbr (Nat.le_refl _) _⟩
end Go.Proofs.Ytadidldkphimfaa
