/- Contracts of crc.Open and of the reference's Opens. -/
import Derived.Test.YtfbcdheemhenmaaCrc3
import Derived.Deep.RegionHeld3
import Derived.BigQuiet
namespace Go.Proofs.Ytfbcdheemhenmaa
set_option linter.unusedVariables false
open Go.RowKit

theorem tab_range {w : World} {g : Nat} {t : Nat → Nat} (h : Blk w g 39 (tabArr t)) : w.rangeAt g 0 (tabArr t).toList := fun j v hv => by
  rw [Nat.zero_add, h.cell j]
  simpa using hv

theorem range_below {B b o : Nat} {w w' : World} {cs : List Value} (h : w.rangeAt b o cs) (hb : Below B w w') (hlt : b < B) : w'.rangeAt b o cs := fun j v hv => (hb.cell (p := ⟨b, o + j, none⟩) hlt).trans (h j v hv)

set_option maxRecDepth 100000 in
set_option maxHeartbeats 1000000 in
theorem Open_yes (t : Nat → Nat) (ht : ∀ i, i < 256 → t i < 4294967296) (A : Option Addr) (m c B : Nat) (bs : List UInt8) (w : World) (hr : Reads w B 1 A (m + 4) (byteCells bs)) (hB : B ≤ w.heap.size) (hmc : m + 4 ≤ c) (hn : m ≤ 900000) (hcm : c ≤ 9223372036854775807) (b : Bool) (hbb : (sealB t (bs.take m) == bs) = b) :
    Calls Try.prog 14 #[.agg (tabArr t), .slice A (m + 4) c] w fun e w' => e = .returned (.tuple #[if b then .slice A m m else .slice none 0 0, .int .i64 (if b then 0 else 12)]) ∧ Below w.heap.size w w' := by
  have HP := Lib.hid (hr.preB (k := m) (by omega))
  have HR := Lib.hid hr; clear hr
  have hu := Try.underlying39
  have hi2 : (Try.prog.info? 39).map (·.size) = some (tabArr t).toList.length := by rw [Array.length_toList]; exact tabArr_info t
  have hl2 : (tabArr t).toList.length = 256 := by rw [Array.length_toList, tabArr_size]
  have ho2 : ∀ v ∈ (tabArr t).toList, v.oneCell' = true := by have := tabArr_one t; rw [Array.all_eq_true'] at this; intro v hv; exact this v (by simpa using hv)
  have h4 : ((m + 4 : Nat) : Int) - 4 = (m : Int) := by omega
  have hmc' : m ≤ c := by omega
  have HQ := Lib.hid (show (w.alloc (.cells (tabArr t) 39)).drew.rangeAt w.heap.size 0 (tabArr t).toList from (tab_range (Blk.new w 39 (tabArr t))))
  have HB0 := Lib.hid (show Below w.heap.size w (w.alloc (.cells (tabArr t) 39)).drew from ((Below.refl _ _).alloc (Nat.le_refl _) _).drew)
  go_enter Try.func14, Try.ntmps14
  go_wp2
  go_region_held3 (fun w' => w'.rangeAt w.heap.size 0 (tabArr t).toList ∧ Below w.heap.size w w')
    (first
      | exact ⟨HQ.out, HB0.out⟩
      | exact ⟨range_below HQ.out hbn (by simp), HB0.out.trans (hbn.mono (by simp))⟩
      | assumption)
    (first
      | (go_at_call 11; refine (Seal_c t ht A m c B (bs.take m) _ ((HP.out.alloc hB _).drew) (by simp; omega) (by omega)).mono ?_; rintro e wn ⟨v, rfl, hown, hbn⟩; obtain ⟨A1, c1, rfl, hc1, hc2, hc3, hR1⟩ := own_reads hown; clear hown hc1 hc2 hc3)
      | (go_at_call 20; refine (Equal_c _ _ _ _ _ _ _ B (sealB t (bs.take m)) bs _ hR1 (((HR.out.alloc hB _).drew).below (hbn.mono (by simp; omega)))).mono ?_; rintro e wn2 ⟨rfl, rfl⟩; rw [hbb]))
  all_goals
    have hbe : Below w.heap.size w wn := HB0.out.trans (hbn.mono (by simp))
    clear hbn hR1
    cases b
    · go_wp2
      go_ret2
      exact ⟨rfl, hbe⟩
    · go_wp2
      go_ret2
      exact ⟨rfl, hbe⟩
end Go.Proofs.Ytfbcdheemhenmaa
