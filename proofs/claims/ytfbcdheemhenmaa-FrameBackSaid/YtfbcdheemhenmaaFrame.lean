/- Frames: plain definitions; contracts of frame.kindly, frame.Put and of the reference's Put. -/
import Derived.Test.YtfbcdheemhenmaaCrc4
import Derived.Test.YtfbcdheemhenmaaHeld
namespace Go.Proofs.Ytfbcdheemhenmaa
set_option linter.unusedVariables false
open Go.RowKit

theorem tab8 (i : Nat) (h : i < 256) : step8 i < 4294967296 := step8_lt (by omega)
def headB (n : Nat) (k : Int) : List UInt8 := [UInt8.ofNat (n / 256), UInt8.ofNat (n % 256), UInt8.ofNat k.toNat]
def frameB (k : Int) (p : List UInt8) : List UInt8 := sealB step8 (headB p.length k ++ p)
theorem frameB_length (k : Int) (p : List UInt8) : (frameB k p).length = p.length + 7 := by
  unfold frameB headB; rw [sealB_length]; simp

theorem own_below {w w' : World} {base : Nat} {e : TypeId} {size n : Nat} {v : Value} {xs : List Value} (h : w.ownsRow base e size v n xs) (hb : Below w.heap.size w w') : w'.ownsRow base e size v n xs := by
  rcases h with ⟨h1, h2 | ⟨g, cap, cur, h2, h3, h4, h5⟩⟩
  · exact ⟨h1, .inl h2⟩
  · refine ⟨h1, .inr ⟨g, cap, cur, h2, h3, (hb.block g ?_).trans h4, h5⟩⟩
    exact Blk.lt (t := e) (cs := cur) h4
theorem own_list (W : World) (e : TypeId) (base : Nat) (cs : List Value) (hb : base ≤ W.heap.size) (hl : cs.length ≤ maxLen) : (W.alloc (.cells cs.toArray e)).ownsRow base e 1 (.slice (some ⟨W.heap.size, 0, none⟩) cs.length cs.length) cs.length cs :=
  ⟨by simp, .inr ⟨W.heap.size, cs.length, cs.toArray, rfl, hb, Blk.new W e cs.toArray, Nat.le_refl _, hl, by simp, by simp⟩⟩

theorem kindly_yes (k : Int) (w : World) (h1 : 1 ≤ k) (h3 : k ≤ 3) : Calls Try.prog 10 #[.int .i64 k] w fun e w' => e = .returned (.bool true) ∧ w = w' := by
  have h1' : decide ((1 : Int) ≤ k) = true := by simpa using h1
  have h3' : decide (k ≤ (3 : Int)) = true := by simpa using h3
  go_enter Try.func10, Try.ntmps10
  go_wp2
  go_ret
  exact ⟨rfl, rfl⟩
theorem kindly_no (k : Int) (w : World) (h : k < 1 ∨ 3 < k) : Calls Try.prog 10 #[.int .i64 k] w fun e w' => e = .returned (.bool false) ∧ w = w' := by
  rcases h with h | h
  · have h1' : decide ((1 : Int) ≤ k) = false := by simpa using h
    go_enter Try.func10, Try.ntmps10
    go_wp2
    go_ret
    exact ⟨rfl, rfl⟩
  · have h1' : decide ((1 : Int) ≤ k) = true := by simp; omega
    have h3' : decide (k ≤ (3 : Int)) = false := by simpa using h
    go_enter Try.func10, Try.ntmps10
    go_wp2
    go_ret
    exact ⟨rfl, rfl⟩

theorem Put_kind (k : Int) (A : Option Addr) (n c : Nat) (w : World) (h : k < 1 ∨ 3 < k) :
    Calls Try.prog 6 #[.int .i64 k, .slice A n c] w fun e w' => e = .returned (.tuple #[.slice none 0 0, .int .i64 2]) ∧ w = w' := by
  have H := Lib.hid h; clear h
  go_enter Try.func6, Try.ntmps6
  go_wp2_with fail
  refine (kindly_no k _ H.out).mono ?_
  rintro e w1 ⟨rfl, rfl⟩
  go_wp2
  go_ret2
  exact ⟨rfl, rfl⟩
theorem Put_many (k : Int) (A : Option Addr) (n c : Nat) (w : World) (h1 : 1 ≤ k) (h3 : k ≤ 3) (hn : 200 < n) :
    Calls Try.prog 6 #[.int .i64 k, .slice A n c] w fun e w' => e = .returned (.tuple #[.slice none 0 0, .int .i64 9]) ∧ w = w' := by
  have hd : decide ((200 : Int) < (n : Int)) = true := by simp; omega
  go_enter Try.func6, Try.ntmps6
  go_wp2_with fail
  refine (kindly_yes k _ h1 h3).mono ?_
  rintro e w1 ⟨rfl, rfl⟩
  go_wp2
  go_ret2
  exact ⟨rfl, rfl⟩

theorem headB_cells (n : Nat) (k : Int) (hn : n ≤ 200) (h1 : 0 ≤ k) (h3 : k ≤ 255) : byteCells (headB n k) = [.int .u8 0, .int .u8 (n : Int), .int .u8 k] := by
  unfold byteCells headB
  simp only [List.map_cons, List.map_nil]
  rw [byte_ofNat _ (by omega), byte_ofNat _ (by omega), byte_ofNat _ (by omega), show n / 256 = 0 from by omega, show n % 256 = n from by omega, show ((k.toNat : Nat) : Int) = k from by omega]
  rfl

set_option maxRecDepth 100000 in
set_option maxHeartbeats 1000000 in
theorem Put_c (k : Int) (A : Option Addr) (n c B : Nat) (bs : List UInt8) (w : World) (h1 : 1 ≤ k) (h3 : k ≤ 3) (hn : n ≤ 200) (hr : Reads w B 1 A n (byteCells bs)) (hB : B ≤ w.heap.size) :
    Calls Try.prog 6 #[.int .i64 k, .slice A n c] w fun e w' => ∃ v, e = .returned (.tuple #[v, .int .i64 0]) ∧ w'.ownsRow w.heap.size 5 1 v (n + 7) (byteCells (frameB k bs)) ∧ Below w.heap.size w w' := by
  have HL := Lib.hid hr.lenB
  have HR := Lib.hid hr; clear hr
  have hd : decide ((200 : Int) < (n : Int)) = false := by simp; omega
  have hdiv : (n : Int) / 256 = 0 := by omega
  have hmod : (n : Int) % 256 = (n : Int) := by omega
  have hkm : k % 256 = k := by omega
  obtain ⟨i0, hi0, hz0, hz1, hz2⟩ := info_parts Try.infoU8
  go_enter Try.func6, Try.ntmps6
  go_wp2_with fail
  refine (kindly_yes k _ h1 h3).mono ?_
  rintro e w1 ⟨rfl, rfl⟩
  go_wp2_with fail
  refine (Table_c _).mono ?_
  rintro e w2 ⟨rfl, hb2⟩
  have HO := Lib.hid (own_below (own_list w 5 w.heap.size [.int .u8 0, .int .u8 (n : Int), .int .u8 k] (Nat.le_refl _) (by unfold maxLen; simp)) hb2)
  have HB2 := Lib.hid (show Below w.heap.size w w2 from ((Below.refl _ _).alloc (Nat.le_refl _) _).trans (hb2.mono (by simp)))
  have hs2 := HB2.out.size
  clear hb2
  go_wp2_with (at_builtin; go_must (refine wpList_append_any _ rfl _ _ 22 rfl w.heap.size 5 i0 _ 1 1 Try.underlying22 hi0 hz0 hz1 hz2 rfl (by omega) _ 3 _ rfl HO.out w.heap.size A n c _ rfl ((HR.out.more hB).below HB2.out) (byteCells_one bs) (by unfold maxLen; omega) (by omega) hs2 ?_); intro v1 w3 hown3 hg3 hat3)
  have hb3 := below_own HB2.out hg3 HO.out (Nat.le_refl _) hs2
  have HB3 := Lib.hid hb3
  obtain ⟨A3, c3, rfl, hc1, hc2, hc3, hR3⟩ := own_reads hown3
  rw [← headB_cells n k hn (by omega) (by omega), ← byteCells_append] at hR3
  have hs3 := hb3.size
  clear hown3 hg3 hat3 hb3 HB2 HO
  refine (Seal_c step8 tab8 A3 (3 + n) c3 w3.heap.size _ _ hR3 (Nat.le_refl _) (by omega)).mono ?_
  rintro e w4 ⟨v, rfl, hown4, hb4⟩
  go_wp2
  go_ret2
  refine ⟨v, rfl, ?_, HB3.out.trans (hb4.mono hs3)⟩
  unfold frameB
  rw [HL.out, show n + 7 = 3 + n + 4 from by omega]
  exact ownsRow_base hown4 hs3

set_option maxRecDepth 100000 in
set_option maxHeartbeats 1000000 in
theorem rPut_c (k : Int) (A : Option Addr) (n c B : Nat) (bs : List UInt8) (w : World) (h1 : 1 ≤ k) (h3 : k ≤ 3) (hn : n ≤ 200) (hr : Reads w B 1 A n (byteCells bs)) (hB : B ≤ w.heap.size) :
    Calls Try.prog 7 #[.int .i64 k, .slice A n c] w fun e w' => ∃ v, e = .returned v ∧ w'.ownsRow w.heap.size 5 1 v (n + 7) (byteCells (frameB k bs)) ∧ Below w.heap.size w w' := by
  have HL := Lib.hid hr.lenB
  have HR := Lib.hid hr; clear hr
  have hdiv : (n : Int) / 256 = 0 := by omega
  have hmod : (n : Int) % 256 = (n : Int) := by omega
  have hkm : k % 256 = k := by omega
  have HO := Lib.hid (own_list w 5 w.heap.size [.int .u8 0, .int .u8 (n : Int), .int .u8 k] (Nat.le_refl _) (by unfold maxLen; simp))
  have HB2 := Lib.hid (show Below w.heap.size w (w.alloc (.cells [.int .u8 0, .int .u8 (n : Int), .int .u8 k].toArray 5)) from (Below.refl _ _).alloc (Nat.le_refl _) _)
  obtain ⟨i0, hi0, hz0, hz1, hz2⟩ := info_parts Try.infoU8
  go_enter Try.func7, Try.ntmps7
  go_wp2_with (at_builtin; go_must (refine wpList_append_any _ rfl _ _ 22 rfl w.heap.size 5 i0 _ 1 1 Try.underlying22 hi0 hz0 hz1 hz2 rfl (by omega) _ 3 _ rfl HO.out w.heap.size A n c _ rfl ((HR.out.more hB).below HB2.out) (byteCells_one bs) (by unfold maxLen; omega) (by omega) (by simp) ?_); intro v1 w3 hown3 hg3 hat3)
  have hb3 := below_own HB2.out hg3 HO.out (Nat.le_refl _) (by simp)
  have HB3 := Lib.hid hb3
  obtain ⟨A3, c3, rfl, hc1, hc2, hc3, hR3⟩ := own_reads hown3
  rw [← headB_cells n k hn (by omega) (by omega), ← byteCells_append] at hR3
  have hs3 := hb3.size
  clear hown3 hg3 hat3 hb3 HB2 HO
  refine (rSeal_c A3 (3 + n) c3 w3.heap.size _ _ hR3 (Nat.le_refl _) (by omega)).mono ?_
  rintro e w4 ⟨v, rfl, hown4, hb4⟩
  go_wp2
  go_ret
  refine ⟨v, rfl, ?_, HB3.out.trans (hb4.mono hs3)⟩
  unfold frameB
  rw [HL.out, ← sealP_eq, show n + 7 = 3 + n + 4 from by omega]
  exact ownsRow_base hown4 hs3
end Go.Proofs.Ytfbcdheemhenmaa
