/- slices.Backward over bytes: its contract as an iterator. -/
import Derived.Test.YtadidldkphimfaaWire3
import Derived.RangeFuncNested
import Derived.RangeFuncBound
import Derived.RangeFuncCalls
import Derived.RangeFuncLeaves
import Derived.RangeFuncFrom
import Derived.RangeFuncBox
import Derived.Shelf.Abstract
import Derived.Shelf.RegionOpen
import Derived.OwnWalkIn
import Derived.TacticsInMore
import Derived.LoopNIn
import Derived.LoopIn
namespace Go.Proofs.Ytadidldkphimfaa
set_option linter.unusedVariables false
open Go.RowKit Go.Shelf
attribute [local go_sem] Oper.semAt_some

def upto {α : Type} (f : Nat → α) (k : Nat) : List α := (List.range k).map f
theorem upto_succ {α : Type} (f : Nat → α) (k : Nat) : upto f (k + 1) = upto f k ++ [f k] := by simp [upto, List.range_succ]
theorem upto_length {α : Type} (f : Nat → α) (k : Nat) : (upto f k).length = k := by simp [upto]
def backF (bs : List UInt8) (len j : Nat) : Nat × UInt8 := (len - 1 - j, bs[len - 1 - j]?.getD 0)
def encB (x : Nat × UInt8) : Array Value := #[.int .i64 (x.1 : Int), .int .u8 (x.2.toNat : Int)]
def KpB (n₀ Bs : Nat) (W W' : World) : Prop := Below n₀ W W' ∧ W'.cell? ⟨Bs, 0, none⟩ = W.cell? ⟨Bs, 0, none⟩

set_option maxRecDepth 100000 in
set_option maxHeartbeats 2000000 in
theorem back1_in (F : Fence) (n : Nat) (h1 : F.fn 52) (hro : F.round = none) (hn : 1 ≤ n) (l Bs n₀ : Nat) (A : Option Addr) (len cap : Nat) (bs : List UInt8) (hlen : len ≤ 1000) (J Jx : List (Nat × UInt8) → World → Prop)
    (hY : ∀ pre x W, J pre W → pre.length < len → YieldAt F (n - 1) Try.prog l (encB x) W fun e W' =>
      (e = .returned (.bool true) ∧ J (pre ++ [x]) W' ∧ KpB n₀ Bs W W') ∨ (e = .returned (.bool false) ∧ Jx (pre ++ [x]) W'))
    (W : World) (hBs : W.cell? ⟨Bs, 0, none⟩ = some (.slice A len cap)) (hr : Reads W n₀ 1 A len (byteCells bs)) (h0 : J [] W) :
    CallsIn F n Try.prog 52 #[.func (.yield l) #[] #[], .pointer (some ⟨Bs, 0, none⟩)] W fun e W' => (∃ v, e = .returned v) ∧
      ((∃ ys, ys = upto (backF bs len) len ∧ J ys W') ∨ (∃ pre, (∃ k, k ≤ len ∧ pre = upto (backF bs len) k) ∧ Jx pre W')) := by
  refine callsIn_of_wp Try.func52 rfl h1 ?_ hro
  simp only [Try.ntmps52, List.size_toArray, List.length_cons, List.length_nil, Nat.reduceAdd, Nat.reduceSub, Array.replicate_succ, Array.replicate_zero, List.push_toArray, List.append_toArray, List.nil_append, List.cons_append]
  gi_wp2
  gi_loopw [3] (fun i wr => ∃ k : Nat, k ≤ len ∧ i = .int .i64 ((len : Int) - 1 - (k : Int)) ∧ Hid (J (upto (backF bs len) k) wr) ∧ KpB n₀ Bs W wr)
    (fun i _ => (intOf i + 1).toNat)
  case atStart => exact ⟨0, Nat.zero_le _, by simp, h0, Below.refl _ _, rfl⟩
  case round =>
    obtain ⟨k, hk, rfl, hJs, hnx⟩ := hrel
    have hbox := hnx.2.trans hBs
    have HR := Lib.hid (hr.below hnx.1)
    have HN := Lib.hid hnx
    clear hnx hr
    by_cases hlt : k < len
    · obtain ⟨j, hj⟩ : ∃ j, len = j + 1 + k := ⟨len - 1 - k, by omega⟩
      rw [show (len : Int) - 1 - (k : Int) = (j : Int) from by omega]
      obtain ⟨ad, x, rfl, hb, hx, hc⟩ := HR.out.byte_at (k := j) (by omega)
      have HBF := Lib.hid (show backF bs len k = (j, x) from by unfold backF; rw [show len - 1 - k = j from by omega, hx]; rfl)
      have HJ := Lib.hid hj
      obtain ⟨fn, tmps, assign, body, hy, hR⟩ := hY _ (j, x) wr hJs.out (by rw [upto_length]; exact hlt)
      unfold encB at hy
      dsimp only at hy
      have hjl : j < len := by omega
      clear hx hj
      gi_wp2
      refine hR.mono ?_
      rintro e W3 (⟨rfl, hJ3, hk3⟩ | ⟨rfl, hJx3⟩)
      · gi_wp2
        go_roundw
        case rel => exact ⟨k + 1, by omega, by rw [show (len : Int) - 1 - ((k + 1 : Nat) : Int) = (j : Int) - 1 from by have := HJ.out; omega], (by rw [upto_succ, HBF.out]; exact hJ3), HN.out.1.trans hk3.1, hk3.2.trans HN.out.2⟩
        case measure => simp [intOf]
      · gi_wp2
        refine bodyPost_ret (results_none rfl _ _ _) rfl ?_
        exact ⟨⟨_, rfl⟩, .inr ⟨_, ⟨k + 1, by omega, by rw [upto_succ, HBF.out]⟩, hJx3⟩⟩
    · obtain rfl : k = len := by omega
      rw [show (k : Int) - 1 - (k : Int) = -1 from by omega]
      gi_wp2
      go_end0
      exact ⟨⟨_, rfl⟩, .inl ⟨_, rfl, hJs.out⟩⟩

theorem Backward_c (A : Option Addr) (len cap : Nat) (w : World) :
    Calls Try.prog 47 #[.slice A len cap] w fun e w' => e = .returned (.func (.func 52) #[] #[.pointer (some ⟨w.heap.size, 0, none⟩)]) ∧ w' = w.alloc (.cells #[.slice A len cap] 37) := by
  go_enter Try.func47, Try.ntmps47
  go_wp2
  go_ret
  exact ⟨rfl, rfl⟩

theorem back_stops (F : Fence) (n : Nat) (h1 : F.fn 52) (hro : F.round = none) (hn : 1 ≤ n) (Bs n₀ : Nat) (A : Option Addr) (len cap : Nat) (bs : List UInt8) (hlen : len ≤ 1000) (w : World) (hBs : Bs < w.heap.size) (hn₀ : n₀ ≤ w.heap.size)
    (hc : w.cell? ⟨Bs, 0, none⟩ = some (.slice A len cap)) (hr : Reads w n₀ 1 A len (byteCells bs)) :
    SeqStopsK F n Try.prog 52 #[.pointer (some ⟨Bs, 0, none⟩)] encB (KpB n₀ Bs) (fun ys => ys = upto (backF bs len) len) (fun pre => ∃ k, k ≤ len ∧ pre = upto (backF bs len) k) len w := fun l J Jx W hW _ _ hY h0 =>
  back1_in F n h1 hro hn l Bs n₀ A len cap bs hlen J Jx hY W ((hW.cell (p := ⟨Bs, 0, none⟩) hBs).trans hc) (hr.below (hW.mono hn₀)) h0

theorem kpB_t {n₀ Bs : Nat} {A B C : World} (h : KpB n₀ Bs A B) (k : KpB n₀ Bs B C) : KpB n₀ Bs A C := ⟨h.1.trans k.1, k.2.trans h.2⟩
theorem kpB_b {n₀ Bs : Nat} {w : World} (hn₀ : n₀ ≤ w.heap.size) (hBs : Bs < w.heap.size) : ∀ (W : World) (l : Nat) (o o' : Obj), w.heap.size ≤ l → W.heap[l]? = some o → o.isCells = false → o.isWalk = false → KpB n₀ Bs W (W.putObj l o') := fun W l o o' hl ho hc hw =>
  ⟨belowK_b hn₀ W l o o' hl ho hc hw, (belowK_b (n₀ := Bs + 1) (w := w) hBs W l o o' hl ho hc hw).cell (p := ⟨Bs, 0, none⟩) (Nat.lt_succ_self _)⟩
end Go.Proofs.Ytadidldkphimfaa
