/- The walk of the law HistOrder. -/
import Derived.Test.YtmdclaahfndhdaaLawHist3
import Derived.Test.YtmdclaahfndhdaaHist5
namespace Go.Proofs.Ytmdclaahfndhdaa
set_option linter.unusedVariables false
open Go.RowKit

theorem store10 {w : World} {g : Nat} {q : (Nat → Int) × Int} (p : (Nat → Int) × Int) (h : Blk w g 62 (cells10 q)) : Blk ((((((((((w.setCell ⟨g, 0, none⟩ (.int .i64 (p.1 0))).setCell ⟨g, 1, none⟩ (.int .i64 (p.1 1))).setCell ⟨g, 2, none⟩ (.int .i64 (p.1 2))).setCell ⟨g, 3, none⟩ (.int .i64 (p.1 3))).setCell ⟨g, 4, none⟩ (.int .i64 (p.1 4))).setCell ⟨g, 5, none⟩ (.int .i64 (p.1 5))).setCell ⟨g, 6, none⟩ (.int .i64 (p.1 6))).setCell ⟨g, 7, none⟩ (.int .i64 (p.1 7))).setCell ⟨g, 8, none⟩ (.int .i64 (p.1 8))).setCell ⟨g, 9, none⟩ (.int .i64 p.2)) g 62 (cells10 p) := by
  have h1 := ((((((((((h.set_ 0 (.int .i64 (p.1 0))).set_ 1 (.int .i64 (p.1 1))).set_ 2 (.int .i64 (p.1 2))).set_ 3 (.int .i64 (p.1 3))).set_ 4 (.int .i64 (p.1 4))).set_ 5 (.int .i64 (p.1 5))).set_ 6 (.int .i64 (p.1 6))).set_ 7 (.int .i64 (p.1 7))).set_ 8 (.int .i64 (p.1 8))).set_ 9 (.int .i64 p.2))
  have e : (((((((((((cells10 q).setIfInBounds 0 (.int .i64 (p.1 0))).setIfInBounds 1 (.int .i64 (p.1 1))).setIfInBounds 2 (.int .i64 (p.1 2))).setIfInBounds 3 (.int .i64 (p.1 3))).setIfInBounds 4 (.int .i64 (p.1 4))).setIfInBounds 5 (.int .i64 (p.1 5))).setIfInBounds 6 (.int .i64 (p.1 6))).setIfInBounds 7 (.int .i64 (p.1 7))).setIfInBounds 8 (.int .i64 (p.1 8))).setIfInBounds 9 (.int .i64 p.2)) = cells10 p := by simp [cells10]
  rw [e] at h1
  exact h1
theorem store10_far {w : World} {g g' : Nat} {t : TypeId} {cs : Array Value} (p : (Nat → Int) × Int) (h : Blk w g' t cs) (hne : g' ≠ g) : Blk ((((((((((w.setCell ⟨g, 0, none⟩ (.int .i64 (p.1 0))).setCell ⟨g, 1, none⟩ (.int .i64 (p.1 1))).setCell ⟨g, 2, none⟩ (.int .i64 (p.1 2))).setCell ⟨g, 3, none⟩ (.int .i64 (p.1 3))).setCell ⟨g, 4, none⟩ (.int .i64 (p.1 4))).setCell ⟨g, 5, none⟩ (.int .i64 (p.1 5))).setCell ⟨g, 6, none⟩ (.int .i64 (p.1 6))).setCell ⟨g, 7, none⟩ (.int .i64 (p.1 7))).setCell ⟨g, 8, none⟩ (.int .i64 (p.1 8))).setCell ⟨g, 9, none⟩ (.int .i64 p.2)) g' t cs := by
  repeat (refine Blk.far ?_ hne _)
  exact h
theorem store10_below {w w0 : World} {g B : Nat} (p : (Nat → Int) × Int) (h : Below B w0 w) (hg : B ≤ g) : Below B w0 ((((((((((w.setCell ⟨g, 0, none⟩ (.int .i64 (p.1 0))).setCell ⟨g, 1, none⟩ (.int .i64 (p.1 1))).setCell ⟨g, 2, none⟩ (.int .i64 (p.1 2))).setCell ⟨g, 3, none⟩ (.int .i64 (p.1 3))).setCell ⟨g, 4, none⟩ (.int .i64 (p.1 4))).setCell ⟨g, 5, none⟩ (.int .i64 (p.1 5))).setCell ⟨g, 6, none⟩ (.int .i64 (p.1 6))).setCell ⟨g, 7, none⟩ (.int .i64 (p.1 7))).setCell ⟨g, 8, none⟩ (.int .i64 (p.1 8))).setCell ⟨g, 9, none⟩ (.int .i64 p.2)) := by
  repeat (refine Below.setCell ?_ hg _)
  exact h
theorem store10_size {w : World} {g : Nat} (p : (Nat → Int) × Int) : ((((((((((w.setCell ⟨g, 0, none⟩ (.int .i64 (p.1 0))).setCell ⟨g, 1, none⟩ (.int .i64 (p.1 1))).setCell ⟨g, 2, none⟩ (.int .i64 (p.1 2))).setCell ⟨g, 3, none⟩ (.int .i64 (p.1 3))).setCell ⟨g, 4, none⟩ (.int .i64 (p.1 4))).setCell ⟨g, 5, none⟩ (.int .i64 (p.1 5))).setCell ⟨g, 6, none⟩ (.int .i64 (p.1 6))).setCell ⟨g, 7, none⟩ (.int .i64 (p.1 7))).setCell ⟨g, 8, none⟩ (.int .i64 (p.1 8))).setCell ⟨g, 9, none⟩ (.int .i64 p.2)).heap.size = w.heap.size := by simp [World.setCell]

set_option maxRecDepth 100000 in
set_option maxHeartbeats 8000000 in
theorem HistOrder_walk (f : Nat → Int) (s : Int) (A : Option Addr) (n c : Nat) (zs : List Int) (w : World) (hz : IntArg .i32 w A n c zs) :
    Calls Try.prog 14 #[.agg #[.int .i64 (f 0), .int .i64 (f 1), .int .i64 (f 2), .int .i64 (f 3), .int .i64 (f 4), .int .i64 (f 5), .int .i64 (f 6), .int .i64 (f 7), .int .i64 (f 8), .int .i64 s], .slice A n c] w fun e w' => e = .returned (.bool true) ∧ Below w.heap.size w w' := by
  obtain ⟨hr, hnc, hcm, hnil, hwf⟩ := hz
  unfold maxLen at hcm
  have hl : zs.length = n := by simpa using hr.1
  have HL := Lib.hid hl; clear hl
  have HWF := Lib.hid hwf; clear hwf
  by_cases h60 : n ≤ 60
  · go_enter Try.func14, Try.ntmps14
    go_wp2_with fail
    refine (Hist_awake _).mono ?_
    rintro e w1 ⟨rfl, hb1⟩
    have hz1 : w.heap.size < w1.heap.size := by have := hb1.size; simp at this; omega
    obtain ⟨hc1, hf1⟩ := bcell hb1
    have hbase : Below w.heap.size w w1 := ((Below.refl _ _).alloc (Nat.le_refl _) _).trans (hb1.mono (by simp))
    clear hnil hnc
    go_wp2_with fail
    go_region
    ·
      have hne : w1.heap.size ≠ (w1.heap.size + 1) := by omega
      have hgaB : w.heap.size ≤ w1.heap.size := by omega
      have hgbB : w.heap.size ≤ (w1.heap.size + 1) := by omega
      clear hc1 hf1
      go_wp2
      go_loopw [7] (fun i wr => ∃ k : Nat, k ≤ n ∧ i = .int .i64 k ∧ Hid (Blk wr w1.heap.size 62 (cells10 (addAll f s (zs.take k)))) ∧ Hid (Blk wr (w1.heap.size + 1) 62 (cells10 (addAll f s (zs.reverse.take k)))) ∧ Below w.heap.size w wr) (fun i _ => n - (intOf i).toNat)
      case atStart => exact ⟨0, Nat.zero_le _, rfl, blk2_0 w1 _ _ _ _, blk2_1 w1 _ _ _ _, ((hbase.alloc (by omega) _).alloc (by simp; omega) _).drew⟩
      case round =>
        obtain ⟨k, hk, rfl, HA, HB, hbr⟩ := hrel
        by_cases hlt : k < n
        · have hrr := hr.below hbr
          obtain ⟨ad, u, rfl, hb, hx, hc⟩ := hrr.at_ hlt
          obtain ⟨x, hx', rfl⟩ : ∃ x, zs[k]? = some x ∧ Value.int .i32 x = u := by simpa using hx
          obtain ⟨ad2, u2, e2, hbb, hy, hcy⟩ := hrr.at_ (k := n - 1 - k) (by omega)
          cases e2
          obtain ⟨y, hy', rfl⟩ : ∃ y, zs[n - 1 - k]? = some y ∧ Value.int .i32 y = u2 := by simpa using hy
          have hxb := bounds_i32 (HWF.out x (List.mem_of_getElem? hx'))
          have hyb := bounds_i32 (HWF.out y (List.mem_of_getElem? hy'))
          have HX := Lib.hid (take_succ_i zs k x hx')
          have HY := Lib.hid (take_succ_i zs.reverse k y (by rw [List.getElem?_reverse (by rw [HL.out]; exact hlt), HL.out]; exact hy'))
          have EX := Lib.hid (show addAll f s (zs.take (k + 1)) = (addF (addAll f s (zs.take k)).1 (addAll f s (zs.take k)).2 x, addS (addAll f s (zs.take k)).1 (addAll f s (zs.take k)).2 x) from by rw [HX.out, addAll_snoc])
          have EY := Lib.hid (show addAll f s (zs.reverse.take (k + 1)) = (addF (addAll f s (zs.reverse.take k)).1 (addAll f s (zs.reverse.take k)).2 y, addS (addAll f s (zs.reverse.take k)).1 (addAll f s (zs.reverse.take k)).2 y) from by rw [HY.out, addAll_snoc])
          obtain ⟨fa, sa, hpa⟩ : ∃ fa sa, addAll f s (zs.take k) = (fa, sa) := ⟨_, _, rfl⟩
          obtain ⟨fb, sb, hpb⟩ : ∃ fb sb, addAll f s (zs.reverse.take k) = (fb, sb) := ⟨_, _, rfl⟩
          rw [hpa] at HA EX
          rw [hpb] at HB EY
          have hi0 : (0 : Int) ≤ (k : Int) := by omega
          have hi1 : (k : Int) < (n : Int) := by omega
          obtain ⟨m, hm⟩ : ∃ m, n - 1 - k = m := ⟨_, rfl⟩
          rw [hm] at hcy
          have hjm : (n : Int) - 1 - (k : Int) = (m : Int) := by omega
          have hmn : m < n := by omega
          clear hm
          have hwx : IntKind.i64.wrap x = x := IntWalk.i64_in _ (by omega)
          have hwy : IntKind.i64.wrap y = y := IntWalk.i64_in _ (by omega)
          have hw1 : IntKind.i64.wrap ((n : Int) - 1) = (n : Int) - 1 := IntWalk.i64_in _ (by omega)
          have hw2 : IntKind.i64.wrap (m : Int) = (m : Int) := IntWalk.i64_in _ (by omega)
          clear hx hx' hy hy' hpa hpb HX HY hrr
          obtain ⟨a0, a1, a2, a3, a4, a5, a6, a7, a8, a9⟩ := cells10_get _ HA.out
          simp only at a0 a1 a2 a3 a4 a5 a6 a7 a8 a9
          have hadb := hb
          go_wp2
          go_still_tail 6, (by kernel_rfl)
          change wpList _ _ _ _ _ wr.drew
          go_wp2_with fail
          refine (Add_h fa sa x _).mono ?_
          rintro e w2 ⟨rfl, hb2⟩
          have hb2' : Below wr.heap.size wr w2 := ((Below.refl wr.heap.size wr).drew).trans hb2
          have HA2 := Lib.hid (HA.out.belowTop hb2')
          have HB2 := Lib.hid (HB.out.belowTop hb2')
          have hbr2 := hbr.trans (hb2'.mono hbr.size)
          have hcy2 : w2.cell? (ad.add m) = some (.int .i32 y) := (hb2'.cell (by rw [block_of_add]; have := hbr.size; omega)).trans hcy
          clear a0 a1 a2 a3 a4 a5 a6 a7 a8 a9
          obtain ⟨a0, a1, a2, a3, a4, a5, a6, a7, a8, a9⟩ := cells10_get _ HA2.out
          simp only at a0 a1 a2 a3 a4 a5 a6 a7 a8 a9
          have az : ∀ i : Nat, w2.frozen? (⟨w1.heap.size, i, none⟩ : Addr) = false := fun i => HA2.out.frozen i
          clear hb2 hc hcy HA HB
          go_wp2
          have HA3 : Hid (Blk ((((((((((w2.setCell ⟨w1.heap.size, 0, none⟩ (.int .i64 (addF fa sa x 0))).setCell ⟨w1.heap.size, 1, none⟩ (.int .i64 (addF fa sa x 1))).setCell ⟨w1.heap.size, 2, none⟩ (.int .i64 (addF fa sa x 2))).setCell ⟨w1.heap.size, 3, none⟩ (.int .i64 (addF fa sa x 3))).setCell ⟨w1.heap.size, 4, none⟩ (.int .i64 (addF fa sa x 4))).setCell ⟨w1.heap.size, 5, none⟩ (.int .i64 (addF fa sa x 5))).setCell ⟨w1.heap.size, 6, none⟩ (.int .i64 (addF fa sa x 6))).setCell ⟨w1.heap.size, 7, none⟩ (.int .i64 (addF fa sa x 7))).setCell ⟨w1.heap.size, 8, none⟩ (.int .i64 (addF fa sa x 8))).setCell ⟨w1.heap.size, 9, none⟩ (.int .i64 (addS fa sa x))) w1.heap.size 62 (cells10 (addF fa sa x, addS fa sa x))) := store10 (addF fa sa x, addS fa sa x) HA2.out
          have HB3 : Hid (Blk ((((((((((w2.setCell ⟨w1.heap.size, 0, none⟩ (.int .i64 (addF fa sa x 0))).setCell ⟨w1.heap.size, 1, none⟩ (.int .i64 (addF fa sa x 1))).setCell ⟨w1.heap.size, 2, none⟩ (.int .i64 (addF fa sa x 2))).setCell ⟨w1.heap.size, 3, none⟩ (.int .i64 (addF fa sa x 3))).setCell ⟨w1.heap.size, 4, none⟩ (.int .i64 (addF fa sa x 4))).setCell ⟨w1.heap.size, 5, none⟩ (.int .i64 (addF fa sa x 5))).setCell ⟨w1.heap.size, 6, none⟩ (.int .i64 (addF fa sa x 6))).setCell ⟨w1.heap.size, 7, none⟩ (.int .i64 (addF fa sa x 7))).setCell ⟨w1.heap.size, 8, none⟩ (.int .i64 (addF fa sa x 8))).setCell ⟨w1.heap.size, 9, none⟩ (.int .i64 (addS fa sa x))) (w1.heap.size + 1) 62 (cells10 (fb, sb))) := store10_far (addF fa sa x, addS fa sa x) HB2.out (by omega)
          have hbr3 : Below w.heap.size w ((((((((((w2.setCell ⟨w1.heap.size, 0, none⟩ (.int .i64 (addF fa sa x 0))).setCell ⟨w1.heap.size, 1, none⟩ (.int .i64 (addF fa sa x 1))).setCell ⟨w1.heap.size, 2, none⟩ (.int .i64 (addF fa sa x 2))).setCell ⟨w1.heap.size, 3, none⟩ (.int .i64 (addF fa sa x 3))).setCell ⟨w1.heap.size, 4, none⟩ (.int .i64 (addF fa sa x 4))).setCell ⟨w1.heap.size, 5, none⟩ (.int .i64 (addF fa sa x 5))).setCell ⟨w1.heap.size, 6, none⟩ (.int .i64 (addF fa sa x 6))).setCell ⟨w1.heap.size, 7, none⟩ (.int .i64 (addF fa sa x 7))).setCell ⟨w1.heap.size, 8, none⟩ (.int .i64 (addF fa sa x 8))).setCell ⟨w1.heap.size, 9, none⟩ (.int .i64 (addS fa sa x))) := store10_below (addF fa sa x, addS fa sa x) hbr2 (by omega)
          have hcy3 : ((((((((((w2.setCell ⟨w1.heap.size, 0, none⟩ (.int .i64 (addF fa sa x 0))).setCell ⟨w1.heap.size, 1, none⟩ (.int .i64 (addF fa sa x 1))).setCell ⟨w1.heap.size, 2, none⟩ (.int .i64 (addF fa sa x 2))).setCell ⟨w1.heap.size, 3, none⟩ (.int .i64 (addF fa sa x 3))).setCell ⟨w1.heap.size, 4, none⟩ (.int .i64 (addF fa sa x 4))).setCell ⟨w1.heap.size, 5, none⟩ (.int .i64 (addF fa sa x 5))).setCell ⟨w1.heap.size, 6, none⟩ (.int .i64 (addF fa sa x 6))).setCell ⟨w1.heap.size, 7, none⟩ (.int .i64 (addF fa sa x 7))).setCell ⟨w1.heap.size, 8, none⟩ (.int .i64 (addF fa sa x 8))).setCell ⟨w1.heap.size, 9, none⟩ (.int .i64 (addS fa sa x))).cell? (ad.add m) = some (.int .i32 y) := (Below.cell (store10_below (B := w.heap.size) (addF fa sa x, addS fa sa x) (Below.refl _ w2) (by omega)) (by rw [block_of_add]; exact hadb)).trans hcy2
          clear a0 a1 a2 a3 a4 a5 a6 a7 a8 a9 az HA2 HB2 hcy2 hbr2 hbr hb2'
          generalize ((((((((((w2.setCell ⟨w1.heap.size, 0, none⟩ (.int .i64 (addF fa sa x 0))).setCell ⟨w1.heap.size, 1, none⟩ (.int .i64 (addF fa sa x 1))).setCell ⟨w1.heap.size, 2, none⟩ (.int .i64 (addF fa sa x 2))).setCell ⟨w1.heap.size, 3, none⟩ (.int .i64 (addF fa sa x 3))).setCell ⟨w1.heap.size, 4, none⟩ (.int .i64 (addF fa sa x 4))).setCell ⟨w1.heap.size, 5, none⟩ (.int .i64 (addF fa sa x 5))).setCell ⟨w1.heap.size, 6, none⟩ (.int .i64 (addF fa sa x 6))).setCell ⟨w1.heap.size, 7, none⟩ (.int .i64 (addF fa sa x 7))).setCell ⟨w1.heap.size, 8, none⟩ (.int .i64 (addF fa sa x 8))).setCell ⟨w1.heap.size, 9, none⟩ (.int .i64 (addS fa sa x))) = w3 at HA3 HB3 hbr3 hcy3 ⊢
          obtain ⟨a0, a1, a2, a3, a4, a5, a6, a7, a8, a9⟩ := cells10_get _ HB3.out
          simp only at a0 a1 a2 a3 a4 a5 a6 a7 a8 a9
          go_still_tail 10, (by kernel_rfl)
          change wpList _ _ _ _ _ w3.drew
          go_wp2_with fail
          refine (Add_h fb sb y _).mono ?_
          rintro e w4 ⟨rfl, hb4⟩
          have hb4' : Below w3.heap.size w3 w4 := ((Below.refl w3.heap.size w3).drew).trans hb4
          have HA4 := Lib.hid (HA3.out.belowTop hb4')
          have HB4 := Lib.hid (HB3.out.belowTop hb4')
          have hbr4 := hbr3.trans (hb4'.mono hbr3.size)
          clear a0 a1 a2 a3 a4 a5 a6 a7 a8 a9
          obtain ⟨a0, a1, a2, a3, a4, a5, a6, a7, a8, a9⟩ := cells10_get _ HB4.out
          simp only at a0 a1 a2 a3 a4 a5 a6 a7 a8 a9
          have az : ∀ i : Nat, w4.frozen? (⟨(w1.heap.size + 1), i, none⟩ : Addr) = false := fun i => HB4.out.frozen i
          clear hb4 HA3 HB3 hcy3
          go_wp2
          have HA5 : Hid (Blk ((((((((((w4.setCell ⟨(w1.heap.size + 1), 0, none⟩ (.int .i64 (addF fb sb y 0))).setCell ⟨(w1.heap.size + 1), 1, none⟩ (.int .i64 (addF fb sb y 1))).setCell ⟨(w1.heap.size + 1), 2, none⟩ (.int .i64 (addF fb sb y 2))).setCell ⟨(w1.heap.size + 1), 3, none⟩ (.int .i64 (addF fb sb y 3))).setCell ⟨(w1.heap.size + 1), 4, none⟩ (.int .i64 (addF fb sb y 4))).setCell ⟨(w1.heap.size + 1), 5, none⟩ (.int .i64 (addF fb sb y 5))).setCell ⟨(w1.heap.size + 1), 6, none⟩ (.int .i64 (addF fb sb y 6))).setCell ⟨(w1.heap.size + 1), 7, none⟩ (.int .i64 (addF fb sb y 7))).setCell ⟨(w1.heap.size + 1), 8, none⟩ (.int .i64 (addF fb sb y 8))).setCell ⟨(w1.heap.size + 1), 9, none⟩ (.int .i64 (addS fb sb y))) w1.heap.size 62 (cells10 (addF fa sa x, addS fa sa x))) := store10_far (addF fb sb y, addS fb sb y) HA4.out (by omega)
          have HB5 : Hid (Blk ((((((((((w4.setCell ⟨(w1.heap.size + 1), 0, none⟩ (.int .i64 (addF fb sb y 0))).setCell ⟨(w1.heap.size + 1), 1, none⟩ (.int .i64 (addF fb sb y 1))).setCell ⟨(w1.heap.size + 1), 2, none⟩ (.int .i64 (addF fb sb y 2))).setCell ⟨(w1.heap.size + 1), 3, none⟩ (.int .i64 (addF fb sb y 3))).setCell ⟨(w1.heap.size + 1), 4, none⟩ (.int .i64 (addF fb sb y 4))).setCell ⟨(w1.heap.size + 1), 5, none⟩ (.int .i64 (addF fb sb y 5))).setCell ⟨(w1.heap.size + 1), 6, none⟩ (.int .i64 (addF fb sb y 6))).setCell ⟨(w1.heap.size + 1), 7, none⟩ (.int .i64 (addF fb sb y 7))).setCell ⟨(w1.heap.size + 1), 8, none⟩ (.int .i64 (addF fb sb y 8))).setCell ⟨(w1.heap.size + 1), 9, none⟩ (.int .i64 (addS fb sb y))) (w1.heap.size + 1) 62 (cells10 (addF fb sb y, addS fb sb y))) := store10 (addF fb sb y, addS fb sb y) HB4.out
          have hbr5 : Below w.heap.size w ((((((((((w4.setCell ⟨(w1.heap.size + 1), 0, none⟩ (.int .i64 (addF fb sb y 0))).setCell ⟨(w1.heap.size + 1), 1, none⟩ (.int .i64 (addF fb sb y 1))).setCell ⟨(w1.heap.size + 1), 2, none⟩ (.int .i64 (addF fb sb y 2))).setCell ⟨(w1.heap.size + 1), 3, none⟩ (.int .i64 (addF fb sb y 3))).setCell ⟨(w1.heap.size + 1), 4, none⟩ (.int .i64 (addF fb sb y 4))).setCell ⟨(w1.heap.size + 1), 5, none⟩ (.int .i64 (addF fb sb y 5))).setCell ⟨(w1.heap.size + 1), 6, none⟩ (.int .i64 (addF fb sb y 6))).setCell ⟨(w1.heap.size + 1), 7, none⟩ (.int .i64 (addF fb sb y 7))).setCell ⟨(w1.heap.size + 1), 8, none⟩ (.int .i64 (addF fb sb y 8))).setCell ⟨(w1.heap.size + 1), 9, none⟩ (.int .i64 (addS fb sb y))) := store10_below (addF fb sb y, addS fb sb y) hbr4 (by omega)
          rw [← EX.out] at HA5
          rw [← EY.out] at HB5
          refine ⟨⟨k + 1, by omega, by go_num, HA5, HB5, hbr5⟩, by simp [intOf]; omega⟩
        · have HT := Lib.hid (List.take_of_length_le (l := zs) (i := k) (by rw [HL.out]; omega))
          have HT2 := Lib.hid (List.take_of_length_le (l := zs.reverse) (i := k) (by rw [List.length_reverse, HL.out]; omega))
          rw [HT.out] at HA
          rw [HT2.out, addAll_reverse] at HB
          obtain ⟨fa, sa, hpa⟩ : ∃ fa sa, addAll f s zs = (fa, sa) := ⟨_, _, rfl⟩
          rw [hpa] at HA HB
          obtain ⟨a0, a1, a2, a3, a4, a5, a6, a7, a8, a9⟩ := cells10_get _ HA.out
          obtain ⟨b0, b1, b2, b3, b4, b5, b6, b7, b8, b9⟩ := cells10_get _ HB.out
          simp only at a0 a1 a2 a3 a4 a5 a6 a7 a8 a9 b0 b1 b2 b3 b4 b5 b6 b7 b8 b9
          have hA1 := fun W => arr9_self 9997 fa W
          clear hpa HT HT2
          go_wp2
          go_ret
          exact ⟨rfl, hbr⟩
    ·
      have hne : (w1.heap.size + 1) ≠ w1.heap.size := by omega
      have hgaB : w.heap.size ≤ (w1.heap.size + 1) := by omega
      have hgbB : w.heap.size ≤ w1.heap.size := by omega
      clear hc1 hf1
      go_wp2
      go_loopw [7] (fun i wr => ∃ k : Nat, k ≤ n ∧ i = .int .i64 k ∧ Hid (Blk wr (w1.heap.size + 1) 62 (cells10 (addAll f s (zs.take k)))) ∧ Hid (Blk wr w1.heap.size 62 (cells10 (addAll f s (zs.reverse.take k)))) ∧ Below w.heap.size w wr) (fun i _ => n - (intOf i).toNat)
      case atStart => exact ⟨0, Nat.zero_le _, rfl, blk2_1 w1 _ _ _ _, blk2_0 w1 _ _ _ _, ((hbase.alloc (by omega) _).alloc (by simp; omega) _).drew⟩
      case round =>
        obtain ⟨k, hk, rfl, HA, HB, hbr⟩ := hrel
        by_cases hlt : k < n
        · have hrr := hr.below hbr
          obtain ⟨ad, u, rfl, hb, hx, hc⟩ := hrr.at_ hlt
          obtain ⟨x, hx', rfl⟩ : ∃ x, zs[k]? = some x ∧ Value.int .i32 x = u := by simpa using hx
          obtain ⟨ad2, u2, e2, hbb, hy, hcy⟩ := hrr.at_ (k := n - 1 - k) (by omega)
          cases e2
          obtain ⟨y, hy', rfl⟩ : ∃ y, zs[n - 1 - k]? = some y ∧ Value.int .i32 y = u2 := by simpa using hy
          have hxb := bounds_i32 (HWF.out x (List.mem_of_getElem? hx'))
          have hyb := bounds_i32 (HWF.out y (List.mem_of_getElem? hy'))
          have HX := Lib.hid (take_succ_i zs k x hx')
          have HY := Lib.hid (take_succ_i zs.reverse k y (by rw [List.getElem?_reverse (by rw [HL.out]; exact hlt), HL.out]; exact hy'))
          have EX := Lib.hid (show addAll f s (zs.take (k + 1)) = (addF (addAll f s (zs.take k)).1 (addAll f s (zs.take k)).2 x, addS (addAll f s (zs.take k)).1 (addAll f s (zs.take k)).2 x) from by rw [HX.out, addAll_snoc])
          have EY := Lib.hid (show addAll f s (zs.reverse.take (k + 1)) = (addF (addAll f s (zs.reverse.take k)).1 (addAll f s (zs.reverse.take k)).2 y, addS (addAll f s (zs.reverse.take k)).1 (addAll f s (zs.reverse.take k)).2 y) from by rw [HY.out, addAll_snoc])
          obtain ⟨fa, sa, hpa⟩ : ∃ fa sa, addAll f s (zs.take k) = (fa, sa) := ⟨_, _, rfl⟩
          obtain ⟨fb, sb, hpb⟩ : ∃ fb sb, addAll f s (zs.reverse.take k) = (fb, sb) := ⟨_, _, rfl⟩
          rw [hpa] at HA EX
          rw [hpb] at HB EY
          have hi0 : (0 : Int) ≤ (k : Int) := by omega
          have hi1 : (k : Int) < (n : Int) := by omega
          obtain ⟨m, hm⟩ : ∃ m, n - 1 - k = m := ⟨_, rfl⟩
          rw [hm] at hcy
          have hjm : (n : Int) - 1 - (k : Int) = (m : Int) := by omega
          have hmn : m < n := by omega
          clear hm
          have hwx : IntKind.i64.wrap x = x := IntWalk.i64_in _ (by omega)
          have hwy : IntKind.i64.wrap y = y := IntWalk.i64_in _ (by omega)
          have hw1 : IntKind.i64.wrap ((n : Int) - 1) = (n : Int) - 1 := IntWalk.i64_in _ (by omega)
          have hw2 : IntKind.i64.wrap (m : Int) = (m : Int) := IntWalk.i64_in _ (by omega)
          clear hx hx' hy hy' hpa hpb HX HY hrr
          obtain ⟨a0, a1, a2, a3, a4, a5, a6, a7, a8, a9⟩ := cells10_get _ HA.out
          simp only at a0 a1 a2 a3 a4 a5 a6 a7 a8 a9
          have hadb := hb
          go_wp2
          go_still_tail 6, (by kernel_rfl)
          change wpList _ _ _ _ _ wr.drew
          go_wp2_with fail
          refine (Add_h fa sa x _).mono ?_
          rintro e w2 ⟨rfl, hb2⟩
          have hb2' : Below wr.heap.size wr w2 := ((Below.refl wr.heap.size wr).drew).trans hb2
          have HA2 := Lib.hid (HA.out.belowTop hb2')
          have HB2 := Lib.hid (HB.out.belowTop hb2')
          have hbr2 := hbr.trans (hb2'.mono hbr.size)
          have hcy2 : w2.cell? (ad.add m) = some (.int .i32 y) := (hb2'.cell (by rw [block_of_add]; have := hbr.size; omega)).trans hcy
          clear a0 a1 a2 a3 a4 a5 a6 a7 a8 a9
          obtain ⟨a0, a1, a2, a3, a4, a5, a6, a7, a8, a9⟩ := cells10_get _ HA2.out
          simp only at a0 a1 a2 a3 a4 a5 a6 a7 a8 a9
          have az : ∀ i : Nat, w2.frozen? (⟨(w1.heap.size + 1), i, none⟩ : Addr) = false := fun i => HA2.out.frozen i
          clear hb2 hc hcy HA HB
          go_wp2
          have HA3 : Hid (Blk ((((((((((w2.setCell ⟨(w1.heap.size + 1), 0, none⟩ (.int .i64 (addF fa sa x 0))).setCell ⟨(w1.heap.size + 1), 1, none⟩ (.int .i64 (addF fa sa x 1))).setCell ⟨(w1.heap.size + 1), 2, none⟩ (.int .i64 (addF fa sa x 2))).setCell ⟨(w1.heap.size + 1), 3, none⟩ (.int .i64 (addF fa sa x 3))).setCell ⟨(w1.heap.size + 1), 4, none⟩ (.int .i64 (addF fa sa x 4))).setCell ⟨(w1.heap.size + 1), 5, none⟩ (.int .i64 (addF fa sa x 5))).setCell ⟨(w1.heap.size + 1), 6, none⟩ (.int .i64 (addF fa sa x 6))).setCell ⟨(w1.heap.size + 1), 7, none⟩ (.int .i64 (addF fa sa x 7))).setCell ⟨(w1.heap.size + 1), 8, none⟩ (.int .i64 (addF fa sa x 8))).setCell ⟨(w1.heap.size + 1), 9, none⟩ (.int .i64 (addS fa sa x))) (w1.heap.size + 1) 62 (cells10 (addF fa sa x, addS fa sa x))) := store10 (addF fa sa x, addS fa sa x) HA2.out
          have HB3 : Hid (Blk ((((((((((w2.setCell ⟨(w1.heap.size + 1), 0, none⟩ (.int .i64 (addF fa sa x 0))).setCell ⟨(w1.heap.size + 1), 1, none⟩ (.int .i64 (addF fa sa x 1))).setCell ⟨(w1.heap.size + 1), 2, none⟩ (.int .i64 (addF fa sa x 2))).setCell ⟨(w1.heap.size + 1), 3, none⟩ (.int .i64 (addF fa sa x 3))).setCell ⟨(w1.heap.size + 1), 4, none⟩ (.int .i64 (addF fa sa x 4))).setCell ⟨(w1.heap.size + 1), 5, none⟩ (.int .i64 (addF fa sa x 5))).setCell ⟨(w1.heap.size + 1), 6, none⟩ (.int .i64 (addF fa sa x 6))).setCell ⟨(w1.heap.size + 1), 7, none⟩ (.int .i64 (addF fa sa x 7))).setCell ⟨(w1.heap.size + 1), 8, none⟩ (.int .i64 (addF fa sa x 8))).setCell ⟨(w1.heap.size + 1), 9, none⟩ (.int .i64 (addS fa sa x))) w1.heap.size 62 (cells10 (fb, sb))) := store10_far (addF fa sa x, addS fa sa x) HB2.out (by omega)
          have hbr3 : Below w.heap.size w ((((((((((w2.setCell ⟨(w1.heap.size + 1), 0, none⟩ (.int .i64 (addF fa sa x 0))).setCell ⟨(w1.heap.size + 1), 1, none⟩ (.int .i64 (addF fa sa x 1))).setCell ⟨(w1.heap.size + 1), 2, none⟩ (.int .i64 (addF fa sa x 2))).setCell ⟨(w1.heap.size + 1), 3, none⟩ (.int .i64 (addF fa sa x 3))).setCell ⟨(w1.heap.size + 1), 4, none⟩ (.int .i64 (addF fa sa x 4))).setCell ⟨(w1.heap.size + 1), 5, none⟩ (.int .i64 (addF fa sa x 5))).setCell ⟨(w1.heap.size + 1), 6, none⟩ (.int .i64 (addF fa sa x 6))).setCell ⟨(w1.heap.size + 1), 7, none⟩ (.int .i64 (addF fa sa x 7))).setCell ⟨(w1.heap.size + 1), 8, none⟩ (.int .i64 (addF fa sa x 8))).setCell ⟨(w1.heap.size + 1), 9, none⟩ (.int .i64 (addS fa sa x))) := store10_below (addF fa sa x, addS fa sa x) hbr2 (by omega)
          have hcy3 : ((((((((((w2.setCell ⟨(w1.heap.size + 1), 0, none⟩ (.int .i64 (addF fa sa x 0))).setCell ⟨(w1.heap.size + 1), 1, none⟩ (.int .i64 (addF fa sa x 1))).setCell ⟨(w1.heap.size + 1), 2, none⟩ (.int .i64 (addF fa sa x 2))).setCell ⟨(w1.heap.size + 1), 3, none⟩ (.int .i64 (addF fa sa x 3))).setCell ⟨(w1.heap.size + 1), 4, none⟩ (.int .i64 (addF fa sa x 4))).setCell ⟨(w1.heap.size + 1), 5, none⟩ (.int .i64 (addF fa sa x 5))).setCell ⟨(w1.heap.size + 1), 6, none⟩ (.int .i64 (addF fa sa x 6))).setCell ⟨(w1.heap.size + 1), 7, none⟩ (.int .i64 (addF fa sa x 7))).setCell ⟨(w1.heap.size + 1), 8, none⟩ (.int .i64 (addF fa sa x 8))).setCell ⟨(w1.heap.size + 1), 9, none⟩ (.int .i64 (addS fa sa x))).cell? (ad.add m) = some (.int .i32 y) := (Below.cell (store10_below (B := w.heap.size) (addF fa sa x, addS fa sa x) (Below.refl _ w2) (by omega)) (by rw [block_of_add]; exact hadb)).trans hcy2
          clear a0 a1 a2 a3 a4 a5 a6 a7 a8 a9 az HA2 HB2 hcy2 hbr2 hbr hb2'
          generalize ((((((((((w2.setCell ⟨(w1.heap.size + 1), 0, none⟩ (.int .i64 (addF fa sa x 0))).setCell ⟨(w1.heap.size + 1), 1, none⟩ (.int .i64 (addF fa sa x 1))).setCell ⟨(w1.heap.size + 1), 2, none⟩ (.int .i64 (addF fa sa x 2))).setCell ⟨(w1.heap.size + 1), 3, none⟩ (.int .i64 (addF fa sa x 3))).setCell ⟨(w1.heap.size + 1), 4, none⟩ (.int .i64 (addF fa sa x 4))).setCell ⟨(w1.heap.size + 1), 5, none⟩ (.int .i64 (addF fa sa x 5))).setCell ⟨(w1.heap.size + 1), 6, none⟩ (.int .i64 (addF fa sa x 6))).setCell ⟨(w1.heap.size + 1), 7, none⟩ (.int .i64 (addF fa sa x 7))).setCell ⟨(w1.heap.size + 1), 8, none⟩ (.int .i64 (addF fa sa x 8))).setCell ⟨(w1.heap.size + 1), 9, none⟩ (.int .i64 (addS fa sa x))) = w3 at HA3 HB3 hbr3 hcy3 ⊢
          obtain ⟨a0, a1, a2, a3, a4, a5, a6, a7, a8, a9⟩ := cells10_get _ HB3.out
          simp only at a0 a1 a2 a3 a4 a5 a6 a7 a8 a9
          go_still_tail 10, (by kernel_rfl)
          change wpList _ _ _ _ _ w3.drew
          go_wp2_with fail
          refine (Add_h fb sb y _).mono ?_
          rintro e w4 ⟨rfl, hb4⟩
          have hb4' : Below w3.heap.size w3 w4 := ((Below.refl w3.heap.size w3).drew).trans hb4
          have HA4 := Lib.hid (HA3.out.belowTop hb4')
          have HB4 := Lib.hid (HB3.out.belowTop hb4')
          have hbr4 := hbr3.trans (hb4'.mono hbr3.size)
          clear a0 a1 a2 a3 a4 a5 a6 a7 a8 a9
          obtain ⟨a0, a1, a2, a3, a4, a5, a6, a7, a8, a9⟩ := cells10_get _ HB4.out
          simp only at a0 a1 a2 a3 a4 a5 a6 a7 a8 a9
          have az : ∀ i : Nat, w4.frozen? (⟨w1.heap.size, i, none⟩ : Addr) = false := fun i => HB4.out.frozen i
          clear hb4 HA3 HB3 hcy3
          go_wp2
          have HA5 : Hid (Blk ((((((((((w4.setCell ⟨w1.heap.size, 0, none⟩ (.int .i64 (addF fb sb y 0))).setCell ⟨w1.heap.size, 1, none⟩ (.int .i64 (addF fb sb y 1))).setCell ⟨w1.heap.size, 2, none⟩ (.int .i64 (addF fb sb y 2))).setCell ⟨w1.heap.size, 3, none⟩ (.int .i64 (addF fb sb y 3))).setCell ⟨w1.heap.size, 4, none⟩ (.int .i64 (addF fb sb y 4))).setCell ⟨w1.heap.size, 5, none⟩ (.int .i64 (addF fb sb y 5))).setCell ⟨w1.heap.size, 6, none⟩ (.int .i64 (addF fb sb y 6))).setCell ⟨w1.heap.size, 7, none⟩ (.int .i64 (addF fb sb y 7))).setCell ⟨w1.heap.size, 8, none⟩ (.int .i64 (addF fb sb y 8))).setCell ⟨w1.heap.size, 9, none⟩ (.int .i64 (addS fb sb y))) (w1.heap.size + 1) 62 (cells10 (addF fa sa x, addS fa sa x))) := store10_far (addF fb sb y, addS fb sb y) HA4.out (by omega)
          have HB5 : Hid (Blk ((((((((((w4.setCell ⟨w1.heap.size, 0, none⟩ (.int .i64 (addF fb sb y 0))).setCell ⟨w1.heap.size, 1, none⟩ (.int .i64 (addF fb sb y 1))).setCell ⟨w1.heap.size, 2, none⟩ (.int .i64 (addF fb sb y 2))).setCell ⟨w1.heap.size, 3, none⟩ (.int .i64 (addF fb sb y 3))).setCell ⟨w1.heap.size, 4, none⟩ (.int .i64 (addF fb sb y 4))).setCell ⟨w1.heap.size, 5, none⟩ (.int .i64 (addF fb sb y 5))).setCell ⟨w1.heap.size, 6, none⟩ (.int .i64 (addF fb sb y 6))).setCell ⟨w1.heap.size, 7, none⟩ (.int .i64 (addF fb sb y 7))).setCell ⟨w1.heap.size, 8, none⟩ (.int .i64 (addF fb sb y 8))).setCell ⟨w1.heap.size, 9, none⟩ (.int .i64 (addS fb sb y))) w1.heap.size 62 (cells10 (addF fb sb y, addS fb sb y))) := store10 (addF fb sb y, addS fb sb y) HB4.out
          have hbr5 : Below w.heap.size w ((((((((((w4.setCell ⟨w1.heap.size, 0, none⟩ (.int .i64 (addF fb sb y 0))).setCell ⟨w1.heap.size, 1, none⟩ (.int .i64 (addF fb sb y 1))).setCell ⟨w1.heap.size, 2, none⟩ (.int .i64 (addF fb sb y 2))).setCell ⟨w1.heap.size, 3, none⟩ (.int .i64 (addF fb sb y 3))).setCell ⟨w1.heap.size, 4, none⟩ (.int .i64 (addF fb sb y 4))).setCell ⟨w1.heap.size, 5, none⟩ (.int .i64 (addF fb sb y 5))).setCell ⟨w1.heap.size, 6, none⟩ (.int .i64 (addF fb sb y 6))).setCell ⟨w1.heap.size, 7, none⟩ (.int .i64 (addF fb sb y 7))).setCell ⟨w1.heap.size, 8, none⟩ (.int .i64 (addF fb sb y 8))).setCell ⟨w1.heap.size, 9, none⟩ (.int .i64 (addS fb sb y))) := store10_below (addF fb sb y, addS fb sb y) hbr4 (by omega)
          rw [← EX.out] at HA5
          rw [← EY.out] at HB5
          refine ⟨⟨k + 1, by omega, by go_num, HA5, HB5, hbr5⟩, by simp [intOf]; omega⟩
        · have HT := Lib.hid (List.take_of_length_le (l := zs) (i := k) (by rw [HL.out]; omega))
          have HT2 := Lib.hid (List.take_of_length_le (l := zs.reverse) (i := k) (by rw [List.length_reverse, HL.out]; omega))
          rw [HT.out] at HA
          rw [HT2.out, addAll_reverse] at HB
          obtain ⟨fa, sa, hpa⟩ : ∃ fa sa, addAll f s zs = (fa, sa) := ⟨_, _, rfl⟩
          rw [hpa] at HA HB
          obtain ⟨a0, a1, a2, a3, a4, a5, a6, a7, a8, a9⟩ := cells10_get _ HA.out
          obtain ⟨b0, b1, b2, b3, b4, b5, b6, b7, b8, b9⟩ := cells10_get _ HB.out
          simp only at a0 a1 a2 a3 a4 a5 a6 a7 a8 a9 b0 b1 b2 b3 b4 b5 b6 b7 b8 b9
          have hA1 := fun W => arr9_self 9997 fa W
          clear hpa HT HT2
          go_wp2
          go_ret
          exact ⟨rfl, hbr⟩
  · go_enter Try.func14, Try.ntmps14
    go_wp2_with fail
    refine (Hist_awake _).mono ?_
    rintro e w1 ⟨rfl, hb1⟩
    go_wp2
    go_ret
    exact ⟨rfl, ((Below.refl _ _).alloc (Nat.le_refl _) _).trans (hb1.mono (by simp))⟩
end Go.Proofs.Ytmdclaahfndhdaa
