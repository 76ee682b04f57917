/- Lemmas and contracts that the proof of TopBytes uses, part 2 of 12: each is a theorem for every input that its premises allow. -/
import Derived.Laws.CopyOwn
import Derived.Laws.CopyRow
import Derived.RangeFuncNested
import Derived.RangeFuncBound
import Derived.RangeFuncCalls
import Derived.RangeFuncLeaves
import Derived.RangeFuncFrom
import Derived.RangeFuncBox
import Derived.Shelf.Abstract
import Derived.Shelf.RegionOpen
import Derived.OwnWalkIn
import Derived.TacticsInMore
import Derived.LoopNIn
import Derived.LoopIn
import Derived.RegionIn
import Derived.IntWalk
import Derived.Deep.DeepCutAuto
import Derived.StillTailTactics
import Derived.Deep.RegionHeld3
import Derived.Laws.BitsLemmas
import Derived.Test.YtpokkciheejeiaaGreatDoorTbA
set_option linter.unusedVariables false
set_option linter.unusedSimpArgs false
namespace Go.Proofs.YtpokkciheejeiaaGreatDoor
section
set_option maxRecDepth 100000
open Go.RowKit
set_option maxHeartbeats 2000000 in
theorem res_ev {W : World} {g : Nat} {x0 x1 x2 x3 x4 x5 x6 : Value} (fn : Func) (hf : fn.results = #[.cell 4 44]) (h : Blk W g 44 #[x0, x1, x2, x3, x4, x5, x6]) (tmps : Array Value) (ht : tmps[4]?.getD undef = .pointer (some ⟨g, 0, none⟩)) : (results fn tmps).run Tryz.prog W = .ok (.agg #[x0, x1, x2, x3, x4, x5, x6]) W := by
  have c0 : W.cell? ⟨g, 0, none⟩ = some x0 := h.cell 0
  have c1 : W.cell? ⟨g, 1, none⟩ = some x1 := h.cell 1
  have c2 : W.cell? ⟨g, 2, none⟩ = some x2 := h.cell 2
  have c3 : W.cell? ⟨g, 3, none⟩ = some x3 := h.cell 3
  have c4 : W.cell? ⟨g, 4, none⟩ = some x4 := h.cell 4
  have c5 : W.cell? ⟨g, 5, none⟩ = some x5 := h.cell 5
  have c6 : W.cell? ⟨g, 6, none⟩ = some x6 := h.cell 6
  simp [results, hf, go_sem, ht, c0, c1, c2, c3, c4, c5, c6]
theorem put7 {W : World} {g : Nat} {t : TypeId} {y0 y1 y2 y3 y4 y5 y6 x0 x1 x2 x3 x4 x5 x6 : Value} (h : Blk W g t #[y0, y1, y2, y3, y4, y5, y6]) : Blk (((((((W.setCell ⟨g, 0, none⟩ x0).setCell ⟨g, 1, none⟩ x1).setCell ⟨g, 2, none⟩ x2).setCell ⟨g, 3, none⟩ x3).setCell ⟨g, 4, none⟩ x4).setCell ⟨g, 5, none⟩ x5).setCell ⟨g, 6, none⟩ x6) g t #[x0, x1, x2, x3, x4, x5, x6] := by
  have h7 := ((((((h.set_ 0 x0).set_ 1 x1).set_ 2 x2).set_ 3 x3).set_ 4 x4).set_ 5 x5).set_ 6 x6
  simp only [sI, sZ, sS] at h7
  exact h7
def row3 (zs : List Int) : Array Value := #[.int .i64 (zs.getD 0 0), .int .i64 (zs.getD 1 0), .int .i64 (zs.getD 2 0)]
theorem splice3 (zs : List Int) (h : zs.length ≤ 3) : (splice [Value.int .i64 0, .int .i64 0, .int .i64 0] 0 (zs.map (Value.int .i64))).toArray = row3 zs := by
  match zs, h with
  | [], _ => rfl
  | [a], _ => rfl
  | [a, b], _ => rfl
  | [a, b, c], _ => rfl
set_option maxHeartbeats 2000000 in
theorem Fill_c (e0 : Evt) (A : Option Addr) (n c B : Nat) (zs : List Int) (w : World) (hr : Reads w B 1 A n (zs.map (Value.int .i64))) (hB : B ≤ w.heap.size) (hn : n ≤ 3) :
    Calls Tryz.prog 263 #[.agg (evA e0), .slice A n c] w fun e w' => e = .returned (.agg (evA (fillE e0 zs))) ∧ Below w.heap.size w w' := by
  have hl : zs.length = n := by simpa using hr.1
  have HR := Lib.hid hr
  have HL := Lib.hid hl
  have HS := Lib.hid (splice3 zs (by omega))
  have HF := Lib.hid (show fillE e0 zs = { e0 with x := zs.getD 0 0, y := zs.getD 1 0, z := zs.getD 2 0 } from rfl)
  clear hr hl
  obtain ⟨q, a, k, cm, x, y, z⟩ := e0
  rw [HF.out]
  clear HF
  unfold row3 at HS
  simp only
  generalize zs.getD 0 0 = z0 at HS ⊢
  generalize zs.getD 1 0 = z1 at HS ⊢
  generalize zs.getD 2 0 = z2 at HS ⊢
  have HG0 := Lib.hid (show (((w.alloc (.cells #[.int .i64 q, .int .i64 a, .int .i64 k, .string cm, .int .i64 x, .int .i64 y, .int .i64 z] 44)).alloc (.cells #[.int .i64 0, .int .i64 0, .int .i64 0, .string ⟨#[]⟩, .int .i64 0, .int .i64 0, .int .i64 0] 44)).alloc (.cells #[.int .i64 0, .int .i64 0, .int .i64 0] 93)).heap[w.heap.size + 1 + 1]? = some (.cells ([.int .i64 0, .int .i64 0, .int .i64 0] : List Value).toArray 93 (0, 0)) from blk3_2 w _ _ _ _ _ _)
  have HP := Lib.hid (show 0 < (zs.map (Value.int .i64)).length → some (⟨w.heap.size + 1 + 1, 0, none⟩ : Addr) = some ⟨w.heap.size + 1 + 1, 0, none⟩ ∧ ∃ ad, A = some ad ∧ ∀ j v, (zs.map (Value.int .i64))[j]? = some v → (((w.alloc (.cells #[.int .i64 q, .int .i64 a, .int .i64 k, .string cm, .int .i64 x, .int .i64 y, .int .i64 z] 44)).alloc (.cells #[.int .i64 0, .int .i64 0, .int .i64 0, .string ⟨#[]⟩, .int .i64 0, .int .i64 0, .int .i64 0] 44)).alloc (.cells #[.int .i64 0, .int .i64 0, .int .i64 0] 93)).cell? (ad.add j) = some v from fun hp => by
    obtain ⟨ad, h1, h2, h3⟩ := HR.out.2 (by rw [List.length_map, HL.out] at hp; exact hp)
    exact ⟨rfl, ad, h1, fun j v hv => by
      rw [World.cell?_alloc_lt _ _ _ (by rw [block_of_add]; simp; omega), World.cell?_alloc_lt _ _ _ (by rw [block_of_add]; simp; omega), World.cell?_alloc_lt _ _ _ (by rw [block_of_add]; omega)]
      exact h3 j v hv⟩)
  go_enter Tryz.func263, Tryz.ntmps263
  go_wp2_with (refine wpList_copy_splice rfl (.tmp 6) (.tmp 7) 278 278 rfl 2 Tryz.underlying278 (by kernel_rfl) (some ⟨w.heap.size + 1 + 1, 0, none⟩) A 3 3 n c rfl rfl (w.heap.size + 1 + 1) 0 [.int .i64 0, .int .i64 0, .int .i64 0] 93 HG0.out (zs.map (Value.int .i64)) (by rw [List.length_map, HL.out]; exact (Nat.min_eq_left hn).symm) HP.out (by simp [HL.out]; omega) (by simp [Value.oneCell']) (w.heap.size + 1 + 1) _ (Below.refl _ _) (Nat.le_refl _) ?_)
  intro w1 hg hb
  have HG := Lib.hid (show Blk w1 (w.heap.size + 1 + 1) 93 #[.int .i64 z0, .int .i64 z1, .int .i64 z2] from by have := hg.out; rw [HS.out] at this; exact this)
  have HE0 := Lib.hid (show Blk w1 w.heap.size 44 #[.int .i64 q, .int .i64 a, .int .i64 k, .string cm, .int .i64 x, .int .i64 y, .int .i64 z] from (blk3_0 w _ _ _ _ _ _).below hb (by omega))
  have HE1 := Lib.hid (show Blk w1 (w.heap.size + 1) 44 _ from (blk3_1 w _ _ _ _ _ _).below hb (by omega))
  have HB1 := Lib.hid (show Below w.heap.size w w1 from ((((Below.refl w.heap.size w).alloc (Nat.le_refl _) _).alloc (by simp) _).alloc (by simp; omega) _).trans (hb.mono (by omega)))
  clear hg hb
  clear HS HL HR
  go_wp2_with fail
  refine wp_region_noPanic ?_
  refine wp_region_held_drew (S := fun W' => Blk W' (w.heap.size + 1 + 1) 93 #[.int .i64 z0, .int .i64 z1, .int .i64 z2]) (by kernel_rfl) (HG.out.drew) (fun hHeld => ?_)
  have f4 : w1.cell? ⟨w.heap.size, 4, none⟩ = some (.int .i64 x) := HE0.out.cell 4
  have f5 : w1.cell? ⟨w.heap.size, 5, none⟩ = some (.int .i64 y) := HE0.out.cell 5
  have f6 : w1.cell? ⟨w.heap.size, 6, none⟩ = some (.int .i64 z) := HE0.out.cell 6
  have z4 : w1.frozen? ⟨w.heap.size, 4, none⟩ = false := HE0.out.frozen 4
  have z5 : w1.frozen? ⟨w.heap.size, 5, none⟩ = false := HE0.out.frozen 5
  have z6 : w1.frozen? ⟨w.heap.size, 6, none⟩ = false := HE0.out.frozen 6
  refine takeH 0 (v := ?v0u1) rfl (by kernel_rfl) (by kernel_rfl) (by kernel_rfl) rfl (fun _ _ _ h => h) (Or.inl ⟨by rfl, ?y0u1⟩) hHeld ?r0u1
  case y0u1 => (intro W hSW; (try dsimp only at hSW); go_simp; try with_reducible rfl)
  simp only [Act.put, sI, sZ, sS]
  refine takeH 1 (v := ?v1u2) rfl (by kernel_rfl) (by kernel_rfl) (by kernel_rfl) rfl (fun _ _ _ h => h) (Or.inl ⟨by rfl, ?y1u2⟩) hHeld ?r1u2
  case y1u2 => (intro W hSW; (try dsimp only at hSW); have q0 : W.cell? ⟨w.heap.size + 1 + 1, 0, none⟩ = some (.int .i64 z0) := hSW.cell 0; go_simp; try with_reducible rfl)
  simp only [Act.put, sI, sZ, sS]
  refine takeH 2 (v := ?v2u3) rfl (by kernel_rfl) (by kernel_rfl) (by kernel_rfl) rfl (fun _ _ _ h => h) (Or.inl ⟨by rfl, ?y2u3⟩) hHeld ?r2u3
  case y2u3 => (intro W hSW; (try dsimp only at hSW); go_simp; try with_reducible rfl)
  simp only [Act.put, sI, sZ, sS]
  refine takeH 3 (v := ?v3u4) rfl (by kernel_rfl) (by kernel_rfl) (by kernel_rfl) rfl (fun _ _ _ h => h) (Or.inl ⟨by rfl, ?y3u4⟩) hHeld ?r3u4
  case y3u4 => (intro W hSW; (try dsimp only at hSW); have q0 : W.cell? ⟨w.heap.size + 1 + 1, 1, none⟩ = some (.int .i64 z1) := hSW.cell 1; go_simp; try with_reducible rfl)
  simp only [Act.put, sI, sZ, sS]
  refine takeH 4 (v := ?v4u5) rfl (by kernel_rfl) (by kernel_rfl) (by kernel_rfl) rfl (fun _ _ _ h => h) (Or.inl ⟨by rfl, ?y4u5⟩) hHeld ?r4u5
  case y4u5 => (intro W hSW; (try dsimp only at hSW); go_simp; try with_reducible rfl)
  simp only [Act.put, sI, sZ, sS]
  refine takeH 5 (v := ?v5u6) rfl (by kernel_rfl) (by kernel_rfl) (by kernel_rfl) rfl (fun _ _ _ h => h) (Or.inl ⟨by rfl, ?y5u6⟩) hHeld ?r5u6
  case y5u6 => (intro W hSW; (try dsimp only at hSW); have q0 : W.cell? ⟨w.heap.size + 1 + 1, 2, none⟩ = some (.int .i64 z2) := hSW.cell 2; go_simp; try with_reducible rfl)
  simp only [Act.put, sI, sZ, sS]
  refine takeH 6 (v := ?v6u7) rfl (by kernel_rfl) (by kernel_rfl) (by kernel_rfl) rfl (fun _ _ _ h => h) (Or.inl ⟨by rfl, ?y6u7⟩) hHeld ?r6u7
  case y6u7 => (intro W hSW; (try dsimp only at hSW); go_simp; try with_reducible rfl)
  simp only [Act.put, sI, sZ, sS]
  refine wpAnyH_ready (rs := [7]) (by kernel_rfl) (by simp) ?_
  refine AllReadyH.cons rfl (fun K hK => ?_) AllReadyH.nil
  go_simp
  refine hK.out _ _ (hHeld.far (p := ⟨w.heap.size, 4, none⟩) (by simp; omega) (.int .i64 z0)) (fun hHeld => ?_)
  clear hK K
  try simp only [Act.put, sI, sZ, sS]
  refine takeH 8 (v := ?v8u8) rfl (by kernel_rfl) (by kernel_rfl) (by kernel_rfl) rfl (fun _ _ _ h => h) (Or.inl ⟨by rfl, ?y8u8⟩) hHeld ?r8u8
  case y8u8 => (intro W hSW; (try dsimp only at hSW); go_simp; try with_reducible rfl)
  simp only [Act.put, sI, sZ, sS]
  refine wpAnyH_ready (rs := [9]) (by kernel_rfl) (by simp) ?_
  refine AllReadyH.cons rfl (fun K hK => ?_) AllReadyH.nil
  go_simp
  refine hK.out _ _ (hHeld.far (p := ⟨w.heap.size, 5, none⟩) (by simp; omega) (.int .i64 z1)) (fun hHeld => ?_)
  clear hK K
  try simp only [Act.put, sI, sZ, sS]
  refine takeH 10 (v := ?v10u9) rfl (by kernel_rfl) (by kernel_rfl) (by kernel_rfl) rfl (fun _ _ _ h => h) (Or.inl ⟨by rfl, ?y10u9⟩) hHeld ?r10u9
  case y10u9 => (intro W hSW; (try dsimp only at hSW); go_simp; try with_reducible rfl)
  simp only [Act.put, sI, sZ, sS]
  refine wpAnyH_ready (rs := [11]) (by kernel_rfl) (by simp) ?_
  refine AllReadyH.cons rfl (fun K hK => ?_) AllReadyH.nil
  go_simp
  refine hK.out _ _ (hHeld.far (p := ⟨w.heap.size, 6, none⟩) (by simp; omega) (.int .i64 z2)) (fun hHeld => ?_)
  clear hK K
  try simp only [Act.put, sI, sZ, sS]
  refine wpAnyH_done (by kernel_rfl) ?_ _
  refine NoPanic.normal ?_
  have g0 : w1.cell? ⟨w.heap.size, 0, none⟩ = some (.int .i64 q) := HE0.out.cell 0
  have g1 : w1.cell? ⟨w.heap.size, 1, none⟩ = some (.int .i64 a) := HE0.out.cell 1
  have g2 : w1.cell? ⟨w.heap.size, 2, none⟩ = some (.int .i64 k) := HE0.out.cell 2
  have g3 : w1.cell? ⟨w.heap.size, 3, none⟩ = some (.string cm) := HE0.out.cell 3
  have r0 : w1.cell? ⟨w.heap.size + 1, 0, none⟩ = some _ := HE1.out.cell 0
  have t0 : w1.frozen? ⟨w.heap.size + 1, 0, none⟩ = false := HE1.out.frozen 0
  have r1 : w1.cell? ⟨w.heap.size + 1, 1, none⟩ = some _ := HE1.out.cell 1
  have t1 : w1.frozen? ⟨w.heap.size + 1, 1, none⟩ = false := HE1.out.frozen 1
  have r2 : w1.cell? ⟨w.heap.size + 1, 2, none⟩ = some _ := HE1.out.cell 2
  have t2 : w1.frozen? ⟨w.heap.size + 1, 2, none⟩ = false := HE1.out.frozen 2
  have r3 : w1.cell? ⟨w.heap.size + 1, 3, none⟩ = some _ := HE1.out.cell 3
  have t3 : w1.frozen? ⟨w.heap.size + 1, 3, none⟩ = false := HE1.out.frozen 3
  have r4 : w1.cell? ⟨w.heap.size + 1, 4, none⟩ = some _ := HE1.out.cell 4
  have t4 : w1.frozen? ⟨w.heap.size + 1, 4, none⟩ = false := HE1.out.frozen 4
  have r5 : w1.cell? ⟨w.heap.size + 1, 5, none⟩ = some _ := HE1.out.cell 5
  have t5 : w1.frozen? ⟨w.heap.size + 1, 5, none⟩ = false := HE1.out.frozen 5
  have r6 : w1.cell? ⟨w.heap.size + 1, 6, none⟩ = some _ := HE1.out.cell 6
  have t6 : w1.frozen? ⟨w.heap.size + 1, 6, none⟩ = false := HE1.out.frozen 6
  go_wp2
  refine bodyPost_ret (res_ev _ Tryz.results263 ((put7 (((HE1.out.far (p := ⟨w.heap.size, 4, none⟩) (by simp) (.int .i64 z0)).far (p := ⟨w.heap.size, 5, none⟩) (by simp) (.int .i64 z1)).far (p := ⟨w.heap.size, 6, none⟩) (by simp) (.int .i64 z2))).drew) _ rfl) rfl ⟨rfl, ?_⟩
  refine Below.drew ?_
  iterate 10 refine Below.setCell ?_ (by simp) _
  exact HB1.out
end
section
set_option maxRecDepth 100000
open Go.RowKit
def lowB (x : UInt8) : Bool := decide (x.toNat < 128)
theorem Uint1_c (x : UInt8) (w : World) : Calls Tryz.prog 231 #[.int .u8 (x.toNat : Int)] w fun e w' => e = .returned (.bool (lowB x)) ∧ w = w' := by
  have h : decide ((x.toNat : Int) < 128) = lowB x := by unfold lowB; rw [decide_eq_decide]; omega
  have H := Lib.hid h; clear h
  go_enter Tryz.func231, Tryz.ntmps231
  go_wp2
  go_ret
  refine ⟨?_, rfl⟩
  rw [← H.out]; rfl
theorem IndexFuncB_c (A : Option Addr) (n c B : Nat) (bs : List UInt8) (w : World) (hr : Reads w B 1 A n (byteCells bs)) (hn : n ≤ 1000000) :
    Calls Tryz.prog 230 #[.slice A n c, .func (.func 231) #[] #[]] w fun e w' => e = .returned (.int .i64 (firstIdx lowB bs)) ∧ w = w' := by
  have hl := hr.lenB
  have HL := Lib.hid hl; clear hl
  go_enter Tryz.func230, Tryz.ntmps230
  go_wp2
  go_loop [8] (fun i => ∃ k : Nat, k ≤ n ∧ i = .int .i64 k ∧ Hid (∀ (j : Nat) y, j < k → bs[j]? = some y → lowB y = false)) (fun i => n - (intOf i).toNat)
  case atStart => exact ⟨0, Nat.zero_le _, rfl, fun j y hj => by omega⟩
  case round =>
    obtain ⟨k, hk, rfl, H0⟩ := hrel
    by_cases hlt : k < n
    · obtain ⟨ad, x, rfl, hb, hx, hc⟩ := hr.byte_at hlt
      have HX := Lib.hid hx
      clear hx hr
      by_cases he : lowB x = false
      · go_wp2_with (go_at_call 231; refine (Uint1_c _ _).mono ?_; rintro e w' ⟨rfl, rfl⟩)
        go_round
        case rel =>
          refine ⟨k + 1, by omega, by go_num, fun j y hj hy => ?_⟩
          rcases Nat.lt_or_ge j k with h | h
          · exact H0.out j y h hy
          · obtain rfl : j = k := by omega
            rw [HX.out] at hy
            cases hy
            exact he
        case measure => simp [intOf]; omega
      · have he' : lowB x = true := by simpa using he
        go_wp2_with (go_at_call 231; refine (Uint1_c _ _).mono ?_; rintro e w' ⟨rfl, rfl⟩)
        go_ret
        exact ⟨ret_i (firstIdx_hit _ _ k _ H0.out HX.out he').symm, rfl⟩
    · go_wp2
      go_ret
      refine ⟨ret_i (firstIdx_none _ _ (fun j y hy => H0.out j y ?_ hy)).symm, rfl⟩
      have : j < bs.length := (List.getElem?_eq_some_iff.1 hy).1
      rw [HL.out] at this
      omega
def Cu (w W : World) (cs rs : Array Value) : Prop := Blk W w.heap.size 252 cs ∧ Blk W (w.heap.size + 1) 252 rs ∧ Below w.heap.size w W
theorem Cu.start (w : World) (cs rs : Array Value) : Cu w ((w.alloc (.cells cs 252)).alloc (.cells rs 252)) cs rs := ⟨blk2_0 w _ _ cs rs, blk2_1 w _ _ cs rs, ((Below.refl _ _).alloc (Nat.le_refl _) _).alloc (by simp) _⟩
theorem Cu.next {w W W' : World} {cs rs : Array Value} (h : Cu w W cs rs) (hb : Below W.heap.size W W') : Cu w W' cs rs := ⟨h.1.below hb h.1.lt, h.2.1.below hb h.2.1.lt, h.2.2.trans (hb.mono h.2.2.size)⟩
theorem Cu.size {w W : World} {cs rs : Array Value} (h : Cu w W cs rs) : w.heap.size ≤ W.heap.size := h.2.2.size
theorem Cu.cells {w W : World} {a b c x y z : Value} (h : Cu w W #[a, b, c] #[x, y, z]) : W.cell? ⟨w.heap.size, 0, none⟩ = some a ∧ W.cell? ⟨w.heap.size, 1, none⟩ = some b ∧ W.cell? ⟨w.heap.size, 2, none⟩ = some c ∧ W.cell? ⟨w.heap.size + 1, 0, none⟩ = some x ∧ W.cell? ⟨w.heap.size + 1, 1, none⟩ = some y ∧ W.cell? ⟨w.heap.size + 1, 2, none⟩ = some z ∧
    W.frozen? ⟨w.heap.size, 0, none⟩ = false ∧ W.frozen? ⟨w.heap.size, 1, none⟩ = false ∧ W.frozen? ⟨w.heap.size, 2, none⟩ = false ∧ W.frozen? ⟨w.heap.size + 1, 0, none⟩ = false ∧ W.frozen? ⟨w.heap.size + 1, 1, none⟩ = false ∧ W.frozen? ⟨w.heap.size + 1, 2, none⟩ = false :=
  ⟨h.1.cell 0, h.1.cell 1, h.1.cell 2, h.2.1.cell 0, h.2.1.cell 1, h.2.1.cell 2, h.1.frozen 0, h.1.frozen 1, h.1.frozen 2, h.2.1.frozen 0, h.2.1.frozen 1, h.2.1.frozen 2⟩
theorem Cu.reads {w W : World} {cs rs : Array Value} (h : Cu w W cs rs) {A : Option Addr} {n B : Nat} {xs : List Value} (hr : Reads w B 1 A n xs) (hB : B ≤ w.heap.size) : Reads W B 1 A n xs := hr.below (h.2.2.mono hB)
theorem Uint_arg0 (A : Option Addr) (n c : Nat) (at_ : Int)  (w : World) (h : at_ < 0 ∨ (n : Int) < at_) : Calls Tryz.prog 176 #[.agg #[.slice A n c, .int .i64 at_, .int .i64 0]] w fun e w' => e = .returned (.tuple #[.agg #[.slice A n c, .int .i64 at_, .int .i64 1], .int .u64 0]) ∧ Below w.heap.size w w' := by
  go_enter Tryz.func176, Tryz.ntmps176
  go_wp2_with fail
  refine (right_no A n c at_ 0 _ (by omega)).mono ?_
  rintro e w1 ⟨rfl, hb⟩
  have C1 := Lib.hid ((Cu.start w #[.slice A n c, .int .i64 at_, .int .i64 0] #[.slice none 0 0, .int .i64 0, .int .i64 0]).next hb)
  clear hb
  obtain ⟨k0, k1, k2, r0, r1, r2, f0, f1, f2, g0, g1, g2⟩ := C1.out.cells
  go_wp2_with fail
  clear k0 k1 k2 r0 r1 r2 f0 f1 f2 g0 g1 g2
  refine (stay_ok A n c at_ 1 _).mono ?_
  rintro e w2 ⟨rfl, hb2⟩
  have C2 := Lib.hid (C1.out.next hb2)
  clear hb2
  obtain ⟨k0, k1, k2, r0, r1, r2, f0, f1, f2, g0, g1, g2⟩ := C2.out.cells
  go_wp2
  have hbe := C2.out.2.2
  exact bodyPost_ret (v := .tuple #[.agg #[.slice A n c, .int .i64 at_, .int .i64 1], .int .u64 0]) (by simp [results, Tryz.results176, go_sem, r0, r1, r2]) rfl ⟨rfl, (by repeat (first | exact ((Below.refl _ _).alloc (Nat.le_refl _) _).alloc (by simp) _ | assumption | refine below_drewN ?_ _ | refine Below.setCell ?_ (by simp) _ | refine Below.drew ?_))⟩
theorem Uint_err (A : Option Addr) (n c : Nat) (at_ : Int) (err : Int) (w : World) (h : err ≠ 0) : Calls Tryz.prog 176 #[.agg #[.slice A n c, .int .i64 at_, .int .i64 err]] w fun e w' => e = .returned (.tuple #[.agg #[.slice A n c, .int .i64 at_, .int .i64 err], .int .u64 0]) ∧ Below w.heap.size w w' := by
  go_enter Tryz.func176, Tryz.ntmps176
  go_wp2_with fail
  refine (right_no A n c at_ err _ (.inr (.inr h))).mono ?_
  rintro e w1 ⟨rfl, hb⟩
  have C1 := Lib.hid ((Cu.start w #[.slice A n c, .int .i64 at_, .int .i64 err] #[.slice none 0 0, .int .i64 0, .int .i64 0]).next hb)
  clear hb
  obtain ⟨k0, k1, k2, r0, r1, r2, f0, f1, f2, g0, g1, g2⟩ := C1.out.cells
  go_wp2_with fail
  clear k0 k1 k2 r0 r1 r2 f0 f1 f2 g0 g1 g2
  refine (stay_err A n c at_ err 1 _ h).mono ?_
  rintro e w2 ⟨rfl, hb2⟩
  have C2 := Lib.hid (C1.out.next hb2)
  clear hb2
  obtain ⟨k0, k1, k2, r0, r1, r2, f0, f1, f2, g0, g1, g2⟩ := C2.out.cells
  go_wp2
  have hbe := C2.out.2.2
  exact bodyPost_ret (v := .tuple #[.agg #[.slice A n c, .int .i64 at_, .int .i64 err], .int .u64 0]) (by simp [results, Tryz.results176, go_sem, r0, r1, r2]) rfl ⟨rfl, (by repeat (first | exact ((Below.refl _ _).alloc (Nat.le_refl _) _).alloc (by simp) _ | assumption | refine below_drewN ?_ _ | refine Below.setCell ?_ (by simp) _ | refine Below.drew ?_))⟩
theorem IndexFuncB_at (A : Option Addr) (n c B : Nat) (bs : List UInt8) (w : World) (l : Int) (hl : firstIdx lowB bs = l) (hr : Reads w B 1 A n (byteCells bs)) (hn : n ≤ 1000000) :
    Calls Tryz.prog 230 #[.slice A n c, .func (.func 231) #[] #[]] w fun e w' => e = .returned (.int .i64 l) ∧ w = w' := by
  subst hl
  exact IndexFuncB_c A n c B bs w hr hn
set_option maxRecDepth 100000 in
set_option maxHeartbeats 1000000 in
theorem Uint_short (ad : Addr) (a m cm : Nat) (bs : List UInt8) (B : Nat) (w : World) (hr : Reads w B 1 (some ad) (a + m) (byteCells bs)) (hB : B ≤ w.heap.size) (hmc : m ≤ cm) (h0 : 0 < m) (hm : m ≤ 10000) (hcx : a + cm ≤ 9223372036854775807) (q : Nat) (hq : q = if m < 10 then m else 10) (hm9 : m < 10) (hnone : firstIdx lowB ((bs.drop a).take q) = -1) : Calls Tryz.prog 176 #[.agg #[.slice (some ad) (a + m) (a + cm), .int .i64 (a : Int), .int .i64 0]] w fun e w' => e = .returned (.tuple #[.agg #[.slice (some ad) (a + m) (a + cm), .int .i64 (a : Int), .int .i64 10], .int .u64 0]) ∧ Below w.heap.size w w' := by
  have HF := Lib.hid hnone; clear hnone
  have hcm : ¬ cm = 0 := by omega
  have hqm : q ≤ m := by rw [hq]; split <;> omega
  have HQR := Lib.hid (show Reads w B 1 (some (ad.add a)) q (byteCells ((bs.drop a).take q)) from by
    have h := (hr.sufB (k := a) (cap := a + cm) (by omega) (by omega)).preB (k := q) (by omega)
    rw [if_neg (by omega), Option.map_some] at h
    exact h)
  clear hr
  obtain ⟨ad', had⟩ : ∃ ad', ad.add a = ad' := ⟨_, rfl⟩
  rw [had] at HQR
  obtain rfl : m = q := by rw [hq, if_pos hm9]
  clear hq
  go_enter Tryz.func176, Tryz.ntmps176
  go_wp2_with fail
  refine (right_yes (some ad) _ (a + cm) a _ (by omega) (by omega)).mono ?_
  rintro e w1 ⟨rfl, hb⟩
  have C1 := Lib.hid ((Cu.start w #[.slice (some ad) _ (a + cm), .int .i64 a, .int .i64 0] #[.slice none 0 0, .int .i64 0, .int .i64 0]).next hb)
  clear hb
  obtain ⟨k0, k1, k2, r0, r1, r2, f0, f1, f2, g0, g1, g2⟩ := C1.out.cells
  go_wp2_with fail
  refine (IndexFuncB_at (some ad') _ cm B _ _ (-1) HF.out (C1.out.reads HQR.out hB) (by omega)).mono ?_
  rintro e w2 ⟨rfl, rfl⟩
  go_wp2_with fail
  clear k0 k1 k2 r0 r1 r2 f0 f1 f2 g0 g1 g2
  refine (stay_ok (some ad) _ (a + cm) a 10 _).mono ?_
  rintro e w2 ⟨rfl, hb2⟩
  have C2 := Lib.hid (C1.out.next hb2)
  clear hb2
  obtain ⟨k0, k1, k2, r0, r1, r2, f0, f1, f2, g0, g1, g2⟩ := C2.out.cells
  go_wp2
  have hbe := C2.out.2.2
  exact bodyPost_ret (v := .tuple #[.agg #[.slice (some ad) (a + m) (a + cm), .int .i64 (a : Int), .int .i64 10], .int .u64 0]) (by simp [results, Tryz.results176, go_sem, r0, r1, r2]) rfl ⟨rfl, (by repeat (first | exact ((Below.refl _ _).alloc (Nat.le_refl _) _).alloc (by simp) _ | assumption | refine below_drewN ?_ _ | refine Below.setCell ?_ (by simp) _ | refine Below.drew ?_))⟩
set_option maxRecDepth 100000 in
set_option maxHeartbeats 1000000 in
theorem Uint_long (ad : Addr) (a m cm : Nat) (bs : List UInt8) (B : Nat) (w : World) (hr : Reads w B 1 (some ad) (a + m) (byteCells bs)) (hB : B ≤ w.heap.size) (hmc : m ≤ cm) (h0 : 0 < m) (hm : m ≤ 10000) (hcx : a + cm ≤ 9223372036854775807) (q : Nat) (hq : q = if m < 10 then m else 10) (hm9 : 10 ≤ m) (hnone : firstIdx lowB ((bs.drop a).take q) = -1) : Calls Tryz.prog 176 #[.agg #[.slice (some ad) (a + m) (a + cm), .int .i64 (a : Int), .int .i64 0]] w fun e w' => e = .returned (.tuple #[.agg #[.slice (some ad) (a + m) (a + cm), .int .i64 (a : Int), .int .i64 11], .int .u64 0]) ∧ Below w.heap.size w w' := by
  have HF := Lib.hid hnone; clear hnone
  have hcm : ¬ cm = 0 := by omega
  have hqm : q ≤ m := by rw [hq]; split <;> omega
  have HQR := Lib.hid (show Reads w B 1 (some (ad.add a)) q (byteCells ((bs.drop a).take q)) from by
    have h := (hr.sufB (k := a) (cap := a + cm) (by omega) (by omega)).preB (k := q) (by omega)
    rw [if_neg (by omega), Option.map_some] at h
    exact h)
  clear hr
  obtain ⟨ad', had⟩ : ∃ ad', ad.add a = ad' := ⟨_, rfl⟩
  rw [had] at HQR
  rcases (by omega : m = 10 ∨ 10 < m) with rfl | h10
  · obtain rfl : q = 10 := by rw [hq]; rfl
    clear hq
    go_enter Tryz.func176, Tryz.ntmps176
    go_wp2_with fail
    refine (right_yes (some ad) _ (a + cm) a _ (by omega) (by omega)).mono ?_
    rintro e w1 ⟨rfl, hb⟩
    have C1 := Lib.hid ((Cu.start w #[.slice (some ad) _ (a + cm), .int .i64 a, .int .i64 0] #[.slice none 0 0, .int .i64 0, .int .i64 0]).next hb)
    clear hb
    obtain ⟨k0, k1, k2, r0, r1, r2, f0, f1, f2, g0, g1, g2⟩ := C1.out.cells
    go_wp2_with fail
    refine (IndexFuncB_at (some ad') _ cm B _ _ (-1) HF.out (C1.out.reads HQR.out hB) (by omega)).mono ?_
    rintro e w2 ⟨rfl, rfl⟩
    go_wp2_with fail
    clear k0 k1 k2 r0 r1 r2 f0 f1 f2 g0 g1 g2
    refine (stay_ok (some ad) _ (a + cm) a 11 _).mono ?_
    rintro e w2 ⟨rfl, hb2⟩
    have C2 := Lib.hid (C1.out.next hb2)
    clear hb2
    obtain ⟨k0, k1, k2, r0, r1, r2, f0, f1, f2, g0, g1, g2⟩ := C2.out.cells
    go_wp2
    have hbe := C2.out.2.2
    exact bodyPost_ret (v := .tuple #[.agg #[.slice (some ad) (a + 10) (a + cm), .int .i64 (a : Int), .int .i64 11], .int .u64 0]) (by simp [results, Tryz.results176, go_sem, r0, r1, r2]) rfl ⟨rfl, (by repeat (first | exact ((Below.refl _ _).alloc (Nat.le_refl _) _).alloc (by simp) _ | assumption | refine below_drewN ?_ _ | refine Below.setCell ?_ (by simp) _ | refine Below.drew ?_))⟩
  · obtain rfl : q = 10 := by rw [hq, if_neg (by omega)]
    clear hq
    go_enter Tryz.func176, Tryz.ntmps176
    go_wp2_with fail
    refine (right_yes (some ad) _ (a + cm) a _ (by omega) (by omega)).mono ?_
    rintro e w1 ⟨rfl, hb⟩
    have C1 := Lib.hid ((Cu.start w #[.slice (some ad) _ (a + cm), .int .i64 a, .int .i64 0] #[.slice none 0 0, .int .i64 0, .int .i64 0]).next hb)
    clear hb
    obtain ⟨k0, k1, k2, r0, r1, r2, f0, f1, f2, g0, g1, g2⟩ := C1.out.cells
    go_wp2_with fail
    refine (IndexFuncB_at (some ad') _ cm B _ _ (-1) HF.out (C1.out.reads HQR.out hB) (by omega)).mono ?_
    rintro e w2 ⟨rfl, rfl⟩
    go_wp2_with fail
    clear k0 k1 k2 r0 r1 r2 f0 f1 f2 g0 g1 g2
    refine (stay_ok (some ad) _ (a + cm) a 11 _).mono ?_
    rintro e w2 ⟨rfl, hb2⟩
    have C2 := Lib.hid (C1.out.next hb2)
    clear hb2
    obtain ⟨k0, k1, k2, r0, r1, r2, f0, f1, f2, g0, g1, g2⟩ := C2.out.cells
    go_wp2
    have hbe := C2.out.2.2
    exact bodyPost_ret (v := .tuple #[.agg #[.slice (some ad) (a + m) (a + cm), .int .i64 (a : Int), .int .i64 11], .int .u64 0]) (by simp [results, Tryz.results176, go_sem, r0, r1, r2]) rfl ⟨rfl, (by repeat (first | exact ((Below.refl _ _).alloc (Nat.le_refl _) _).alloc (by simp) _ | assumption | refine below_drewN ?_ _ | refine Below.setCell ?_ (by simp) _ | refine Below.drew ?_))⟩
set_option maxRecDepth 100000 in
set_option maxHeartbeats 1000000 in
theorem Uint_form (ad : Addr) (a m cm : Nat) (bs : List UInt8) (B : Nat) (w : World) (hr : Reads w B 1 (some ad) (a + m) (byteCells bs)) (hB : B ≤ w.heap.size) (hmc : m ≤ cm) (h0 : 0 < m) (hm : m ≤ 10000) (hcx : a + cm ≤ 9223372036854775807) (q : Nat) (hq : q = if m < 10 then m else 10) (k : Nat) (x : UInt8) (hkq : k < q) (hx : bs[a + k]? = some x) (hhit : firstIdx lowB ((bs.drop a).take q) = (k : Int)) (hf : (k = 9 ∧ 1 < x.toNat) ∨ (0 < k ∧ x.toNat = 0)) : Calls Tryz.prog 176 #[.agg #[.slice (some ad) (a + m) (a + cm), .int .i64 (a : Int), .int .i64 0]] w fun e w' => e = .returned (.tuple #[.agg #[.slice (some ad) (a + m) (a + cm), .int .i64 (a : Int), .int .i64 11], .int .u64 0]) ∧ Below w.heap.size w w' := by
  have HF := Lib.hid hhit; clear hhit
  have hcm : ¬ cm = 0 := by omega
  have hqm : q ≤ m := by rw [hq]; split <;> omega
  have HQR := Lib.hid (show Reads w B 1 (some (ad.add a)) q (byteCells ((bs.drop a).take q)) from by
    have h := (hr.sufB (k := a) (cap := a + cm) (by omega) (by omega)).preB (k := q) (by omega)
    rw [if_neg (by omega), Option.map_some] at h
    exact h)
  clear hr
  obtain ⟨ad', had⟩ : ∃ ad', ad.add a = ad' := ⟨_, rfl⟩
  rw [had] at HQR
  have hx' : ((bs.drop a).take q)[k]? = some x := by rw [List.getElem?_take, if_pos hkq, List.getElem?_drop]; exact hx
  have HX := Lib.hid hx'
  clear hx hx'
  have hxl := x.toNat_lt
  have b9 : ((k : Int) == 9) = decide (k = 9) := by rw [Bool.eq_iff_iff, beq_iff_eq, decide_eq_true_iff]; omega
  have bx : decide ((1 : Int) < (x.toNat : Int)) = decide (1 < x.toNat) := by rw [decide_eq_decide]; omega
  have bz : ((x.toNat : Int) == 0) = decide (x.toNat = 0) := by rw [Bool.eq_iff_iff, beq_iff_eq, decide_eq_true_iff]; omega
  have bk : decide ((0 : Int) < (k : Int)) = decide (0 < k) := by rw [decide_eq_decide]; omega
  have i1 : (0 : Int) ≤ (k : Int) := by omega
  rcases (by omega : m < 10 ∨ m = 10 ∨ 10 < m) with h10 | rfl | h10
  · obtain rfl : m = q := by rw [hq, if_pos h10]
    clear hq
    go_enter Tryz.func176, Tryz.ntmps176
    go_wp2_with fail
    refine (right_yes (some ad) _ (a + cm) a _ (by omega) (by omega)).mono ?_
    rintro e w1 ⟨rfl, hb⟩
    have C1 := Lib.hid ((Cu.start w #[.slice (some ad) _ (a + cm), .int .i64 a, .int .i64 0] #[.slice none 0 0, .int .i64 0, .int .i64 0]).next hb)
    clear hb
    obtain ⟨k0, k1, k2, r0, r1, r2, f0, f1, f2, g0, g1, g2⟩ := C1.out.cells
    go_wp2_with fail
    refine (IndexFuncB_at (some ad') _ cm B _ _ (k : Int) HF.out (C1.out.reads HQR.out hB) (by omega)).mono ?_
    rintro e w2 ⟨rfl, rfl⟩
    obtain ⟨_, _, E, _, hy, hck⟩ := (C1.out.reads HQR.out hB).byte_at hkq
    cases E
    rw [HX.out] at hy
    cases hy
    by_cases c9 : k = 9 ∧ 1 < x.toNat
    · rw [decide_eq_true c9.1] at b9
      rw [decide_eq_true c9.2] at bx
      clear bz bk hf c9
      go_wp2_with fail
      clear k0 k1 k2 r0 r1 r2 f0 f1 f2 g0 g1 g2
      refine (stay_ok (some ad) _ (a + cm) a 11 _).mono ?_
      rintro e w2 ⟨rfl, hb2⟩
      have C2 := Lib.hid (C1.out.next hb2)
      clear hb2
      obtain ⟨k0, k1, k2, r0, r1, r2, f0, f1, f2, g0, g1, g2⟩ := C2.out.cells
      go_wp2
      have hbe := C2.out.2.2
      exact bodyPost_ret (v := .tuple #[.agg #[.slice (some ad) (a + m) (a + cm), .int .i64 (a : Int), .int .i64 11], .int .u64 0]) (by simp [results, Tryz.results176, go_sem, r0, r1, r2]) rfl ⟨rfl, (by repeat (first | exact ((Below.refl _ _).alloc (Nat.le_refl _) _).alloc (by simp) _ | assumption | refine below_drewN ?_ _ | refine Below.setCell ?_ (by simp) _ | refine Below.drew ?_))⟩
    · have cz : 0 < k ∧ x.toNat = 0 := by omega
      have hk0 : 0 < k := cz.1
      rw [decide_eq_true cz.2] at bz
      have bx' : decide ((1 : Int) < (x.toNat : Int)) = false := by simp; omega
      clear bx bk hf c9 cz
      by_cases c9 : k = 9
      · rw [decide_eq_true c9] at b9
        clear c9
        go_wp2_with fail
        clear k0 k1 k2 r0 r1 r2 f0 f1 f2 g0 g1 g2
        refine (stay_ok (some ad) _ (a + cm) a 11 _).mono ?_
        rintro e w2 ⟨rfl, hb2⟩
        have C2 := Lib.hid (C1.out.next hb2)
        clear hb2
        obtain ⟨k0, k1, k2, r0, r1, r2, f0, f1, f2, g0, g1, g2⟩ := C2.out.cells
        go_wp2
        have hbe := C2.out.2.2
        exact bodyPost_ret (v := .tuple #[.agg #[.slice (some ad) (a + m) (a + cm), .int .i64 (a : Int), .int .i64 11], .int .u64 0]) (by simp [results, Tryz.results176, go_sem, r0, r1, r2]) rfl ⟨rfl, (by repeat (first | exact ((Below.refl _ _).alloc (Nat.le_refl _) _).alloc (by simp) _ | assumption | refine below_drewN ?_ _ | refine Below.setCell ?_ (by simp) _ | refine Below.drew ?_))⟩
      · rw [decide_eq_false c9] at b9
        clear c9
        go_wp2_with fail
        clear k0 k1 k2 r0 r1 r2 f0 f1 f2 g0 g1 g2
        refine (stay_ok (some ad) _ (a + cm) a 11 _).mono ?_
        rintro e w2 ⟨rfl, hb2⟩
        have C2 := Lib.hid (C1.out.next hb2)
        clear hb2
        obtain ⟨k0, k1, k2, r0, r1, r2, f0, f1, f2, g0, g1, g2⟩ := C2.out.cells
        go_wp2
        have hbe := C2.out.2.2
        exact bodyPost_ret (v := .tuple #[.agg #[.slice (some ad) (a + m) (a + cm), .int .i64 (a : Int), .int .i64 11], .int .u64 0]) (by simp [results, Tryz.results176, go_sem, r0, r1, r2]) rfl ⟨rfl, (by repeat (first | exact ((Below.refl _ _).alloc (Nat.le_refl _) _).alloc (by simp) _ | assumption | refine below_drewN ?_ _ | refine Below.setCell ?_ (by simp) _ | refine Below.drew ?_))⟩
  · obtain rfl : q = 10 := by rw [hq]; rfl
    clear hq
    go_enter Tryz.func176, Tryz.ntmps176
    go_wp2_with fail
    refine (right_yes (some ad) _ (a + cm) a _ (by omega) (by omega)).mono ?_
    rintro e w1 ⟨rfl, hb⟩
    have C1 := Lib.hid ((Cu.start w #[.slice (some ad) _ (a + cm), .int .i64 a, .int .i64 0] #[.slice none 0 0, .int .i64 0, .int .i64 0]).next hb)
    clear hb
    obtain ⟨k0, k1, k2, r0, r1, r2, f0, f1, f2, g0, g1, g2⟩ := C1.out.cells
    go_wp2_with fail
    refine (IndexFuncB_at (some ad') _ cm B _ _ (k : Int) HF.out (C1.out.reads HQR.out hB) (by omega)).mono ?_
    rintro e w2 ⟨rfl, rfl⟩
    obtain ⟨_, _, E, _, hy, hck⟩ := (C1.out.reads HQR.out hB).byte_at hkq
    cases E
    rw [HX.out] at hy
    cases hy
    by_cases c9 : k = 9 ∧ 1 < x.toNat
    · rw [decide_eq_true c9.1] at b9
      rw [decide_eq_true c9.2] at bx
      clear bz bk hf c9
      go_wp2_with fail
      clear k0 k1 k2 r0 r1 r2 f0 f1 f2 g0 g1 g2
      refine (stay_ok (some ad) _ (a + cm) a 11 _).mono ?_
      rintro e w2 ⟨rfl, hb2⟩
      have C2 := Lib.hid (C1.out.next hb2)
      clear hb2
      obtain ⟨k0, k1, k2, r0, r1, r2, f0, f1, f2, g0, g1, g2⟩ := C2.out.cells
      go_wp2
      have hbe := C2.out.2.2
      exact bodyPost_ret (v := .tuple #[.agg #[.slice (some ad) (a + 10) (a + cm), .int .i64 (a : Int), .int .i64 11], .int .u64 0]) (by simp [results, Tryz.results176, go_sem, r0, r1, r2]) rfl ⟨rfl, (by repeat (first | exact ((Below.refl _ _).alloc (Nat.le_refl _) _).alloc (by simp) _ | assumption | refine below_drewN ?_ _ | refine Below.setCell ?_ (by simp) _ | refine Below.drew ?_))⟩
    · have cz : 0 < k ∧ x.toNat = 0 := by omega
      have hk0 : 0 < k := cz.1
      rw [decide_eq_true cz.2] at bz
      have bx' : decide ((1 : Int) < (x.toNat : Int)) = false := by simp; omega
      clear bx bk hf c9 cz
      by_cases c9 : k = 9
      · rw [decide_eq_true c9] at b9
        clear c9
        go_wp2_with fail
        clear k0 k1 k2 r0 r1 r2 f0 f1 f2 g0 g1 g2
        refine (stay_ok (some ad) _ (a + cm) a 11 _).mono ?_
        rintro e w2 ⟨rfl, hb2⟩
        have C2 := Lib.hid (C1.out.next hb2)
        clear hb2
        obtain ⟨k0, k1, k2, r0, r1, r2, f0, f1, f2, g0, g1, g2⟩ := C2.out.cells
        go_wp2
        have hbe := C2.out.2.2
        exact bodyPost_ret (v := .tuple #[.agg #[.slice (some ad) (a + 10) (a + cm), .int .i64 (a : Int), .int .i64 11], .int .u64 0]) (by simp [results, Tryz.results176, go_sem, r0, r1, r2]) rfl ⟨rfl, (by repeat (first | exact ((Below.refl _ _).alloc (Nat.le_refl _) _).alloc (by simp) _ | assumption | refine below_drewN ?_ _ | refine Below.setCell ?_ (by simp) _ | refine Below.drew ?_))⟩
      · rw [decide_eq_false c9] at b9
        clear c9
        go_wp2_with fail
        clear k0 k1 k2 r0 r1 r2 f0 f1 f2 g0 g1 g2
        refine (stay_ok (some ad) _ (a + cm) a 11 _).mono ?_
        rintro e w2 ⟨rfl, hb2⟩
        have C2 := Lib.hid (C1.out.next hb2)
        clear hb2
        obtain ⟨k0, k1, k2, r0, r1, r2, f0, f1, f2, g0, g1, g2⟩ := C2.out.cells
        go_wp2
        have hbe := C2.out.2.2
        exact bodyPost_ret (v := .tuple #[.agg #[.slice (some ad) (a + 10) (a + cm), .int .i64 (a : Int), .int .i64 11], .int .u64 0]) (by simp [results, Tryz.results176, go_sem, r0, r1, r2]) rfl ⟨rfl, (by repeat (first | exact ((Below.refl _ _).alloc (Nat.le_refl _) _).alloc (by simp) _ | assumption | refine below_drewN ?_ _ | refine Below.setCell ?_ (by simp) _ | refine Below.drew ?_))⟩
  · obtain rfl : q = 10 := by rw [hq, if_neg (by omega)]
    clear hq
    go_enter Tryz.func176, Tryz.ntmps176
    go_wp2_with fail
    refine (right_yes (some ad) _ (a + cm) a _ (by omega) (by omega)).mono ?_
    rintro e w1 ⟨rfl, hb⟩
    have C1 := Lib.hid ((Cu.start w #[.slice (some ad) _ (a + cm), .int .i64 a, .int .i64 0] #[.slice none 0 0, .int .i64 0, .int .i64 0]).next hb)
    clear hb
    obtain ⟨k0, k1, k2, r0, r1, r2, f0, f1, f2, g0, g1, g2⟩ := C1.out.cells
    go_wp2_with fail
    refine (IndexFuncB_at (some ad') _ cm B _ _ (k : Int) HF.out (C1.out.reads HQR.out hB) (by omega)).mono ?_
    rintro e w2 ⟨rfl, rfl⟩
    obtain ⟨_, _, E, _, hy, hck⟩ := (C1.out.reads HQR.out hB).byte_at hkq
    cases E
    rw [HX.out] at hy
    cases hy
    by_cases c9 : k = 9 ∧ 1 < x.toNat
    · rw [decide_eq_true c9.1] at b9
      rw [decide_eq_true c9.2] at bx
      clear bz bk hf c9
      go_wp2_with fail
      clear k0 k1 k2 r0 r1 r2 f0 f1 f2 g0 g1 g2
      refine (stay_ok (some ad) _ (a + cm) a 11 _).mono ?_
      rintro e w2 ⟨rfl, hb2⟩
      have C2 := Lib.hid (C1.out.next hb2)
      clear hb2
      obtain ⟨k0, k1, k2, r0, r1, r2, f0, f1, f2, g0, g1, g2⟩ := C2.out.cells
      go_wp2
      have hbe := C2.out.2.2
      exact bodyPost_ret (v := .tuple #[.agg #[.slice (some ad) (a + m) (a + cm), .int .i64 (a : Int), .int .i64 11], .int .u64 0]) (by simp [results, Tryz.results176, go_sem, r0, r1, r2]) rfl ⟨rfl, (by repeat (first | exact ((Below.refl _ _).alloc (Nat.le_refl _) _).alloc (by simp) _ | assumption | refine below_drewN ?_ _ | refine Below.setCell ?_ (by simp) _ | refine Below.drew ?_))⟩
    · have cz : 0 < k ∧ x.toNat = 0 := by omega
      have hk0 : 0 < k := cz.1
      rw [decide_eq_true cz.2] at bz
      have bx' : decide ((1 : Int) < (x.toNat : Int)) = false := by simp; omega
      clear bx bk hf c9 cz
      by_cases c9 : k = 9
      · rw [decide_eq_true c9] at b9
        clear c9
        go_wp2_with fail
        clear k0 k1 k2 r0 r1 r2 f0 f1 f2 g0 g1 g2
        refine (stay_ok (some ad) _ (a + cm) a 11 _).mono ?_
        rintro e w2 ⟨rfl, hb2⟩
        have C2 := Lib.hid (C1.out.next hb2)
        clear hb2
        obtain ⟨k0, k1, k2, r0, r1, r2, f0, f1, f2, g0, g1, g2⟩ := C2.out.cells
        go_wp2
        have hbe := C2.out.2.2
        exact bodyPost_ret (v := .tuple #[.agg #[.slice (some ad) (a + m) (a + cm), .int .i64 (a : Int), .int .i64 11], .int .u64 0]) (by simp [results, Tryz.results176, go_sem, r0, r1, r2]) rfl ⟨rfl, (by repeat (first | exact ((Below.refl _ _).alloc (Nat.le_refl _) _).alloc (by simp) _ | assumption | refine below_drewN ?_ _ | refine Below.setCell ?_ (by simp) _ | refine Below.drew ?_))⟩
      · rw [decide_eq_false c9] at b9
        clear c9
        go_wp2_with fail
        clear k0 k1 k2 r0 r1 r2 f0 f1 f2 g0 g1 g2
        refine (stay_ok (some ad) _ (a + cm) a 11 _).mono ?_
        rintro e w2 ⟨rfl, hb2⟩
        have C2 := Lib.hid (C1.out.next hb2)
        clear hb2
        obtain ⟨k0, k1, k2, r0, r1, r2, f0, f1, f2, g0, g1, g2⟩ := C2.out.cells
        go_wp2
        have hbe := C2.out.2.2
        exact bodyPost_ret (v := .tuple #[.agg #[.slice (some ad) (a + m) (a + cm), .int .i64 (a : Int), .int .i64 11], .int .u64 0]) (by simp [results, Tryz.results176, go_sem, r0, r1, r2]) rfl ⟨rfl, (by repeat (first | exact ((Below.refl _ _).alloc (Nat.le_refl _) _).alloc (by simp) _ | assumption | refine below_drewN ?_ _ | refine Below.setCell ?_ (by simp) _ | refine Below.drew ?_))⟩
end
section
set_option maxRecDepth 100000
open Go.RowKit Go.Shelf
attribute [local go_sem] Oper.semAt_some
def upto {α : Type} (f : Nat → α) (k : Nat) : List α := (List.range k).map f
theorem upto_succ {α : Type} (f : Nat → α) (k : Nat) : upto f (k + 1) = upto f k ++ [f k] := by simp [upto, List.range_succ]
theorem upto_length {α : Type} (f : Nat → α) (k : Nat) : (upto f k).length = k := by simp [upto]
def backF (bs : List UInt8) (len j : Nat) : Nat × UInt8 := (len - 1 - j, bs[len - 1 - j]?.getD 0)
def encB (x : Nat × UInt8) : Array Value := #[.int .i64 (x.1 : Int), .int .u8 (x.2.toNat : Int)]
def KpB (n₀ Bs : Nat) (W W' : World) : Prop := Below n₀ W W' ∧ W'.cell? ⟨Bs, 0, none⟩ = W.cell? ⟨Bs, 0, none⟩
set_option maxRecDepth 100000 in
set_option maxHeartbeats 2000000 in
theorem back1_in (F : Fence) (n : Nat) (h1 : F.fn 259) (hro : F.round = none) (hn : 1 ≤ n) (l Bs n₀ : Nat) (A : Option Addr) (len cap : Nat) (bs : List UInt8) (hlen : len ≤ 1000) (J Jx : List (Nat × UInt8) → World → Prop)
    (hY : ∀ pre x W, J pre W → pre.length < len → YieldAt F (n - 1) Tryz.prog l (encB x) W fun e W' =>
      (e = .returned (.bool true) ∧ J (pre ++ [x]) W' ∧ KpB n₀ Bs W W') ∨ (e = .returned (.bool false) ∧ Jx (pre ++ [x]) W'))
    (W : World) (hBs : W.cell? ⟨Bs, 0, none⟩ = some (.slice A len cap)) (hr : Reads W n₀ 1 A len (byteCells bs)) (h0 : J [] W) :
    CallsIn F n Tryz.prog 259 #[.func (.yield l) #[] #[], .pointer (some ⟨Bs, 0, none⟩)] W fun e W' => (∃ v, e = .returned v) ∧
      ((∃ ys, ys = upto (backF bs len) len ∧ J ys W') ∨ (∃ pre, (∃ k, k ≤ len ∧ pre = upto (backF bs len) k) ∧ Jx pre W')) := by
  refine callsIn_of_wp Tryz.func259 rfl h1 ?_ hro
  simp only [Tryz.ntmps259, List.size_toArray, List.length_cons, List.length_nil, Nat.reduceAdd, Nat.reduceSub, Array.replicate_succ, Array.replicate_zero, List.push_toArray, List.append_toArray, List.nil_append, List.cons_append]
  gi_wp2
  gi_loopw [3] (fun i wr => ∃ k : Nat, k ≤ len ∧ i = .int .i64 ((len : Int) - 1 - (k : Int)) ∧ Hid (J (upto (backF bs len) k) wr) ∧ KpB n₀ Bs W wr)
    (fun i _ => (intOf i + 1).toNat)
  case atStart => exact ⟨0, Nat.zero_le _, by simp, h0, Below.refl _ _, rfl⟩
  case round =>
    obtain ⟨k, hk, rfl, hJs, hnx⟩ := hrel
    have hbox := hnx.2.trans hBs
    have HR := Lib.hid (hr.below hnx.1)
    have HN := Lib.hid hnx
    clear hnx hr
    by_cases hlt : k < len
    · obtain ⟨j, hj⟩ : ∃ j, len = j + 1 + k := ⟨len - 1 - k, by omega⟩
      rw [show (len : Int) - 1 - (k : Int) = (j : Int) from by omega]
      obtain ⟨ad, x, rfl, hb, hx, hc⟩ := HR.out.byte_at (k := j) (by omega)
      have HBF := Lib.hid (show backF bs len k = (j, x) from by unfold backF; rw [show len - 1 - k = j from by omega, hx]; rfl)
      have HJ := Lib.hid hj
      obtain ⟨fn, tmps, assign, body, hy, hR⟩ := hY _ (j, x) wr hJs.out (by rw [upto_length]; exact hlt)
      unfold encB at hy
      dsimp only at hy
      have hjl : j < len := by omega
      clear hx hj
      gi_wp2
      refine hR.mono ?_
      rintro e W3 (⟨rfl, hJ3, hk3⟩ | ⟨rfl, hJx3⟩)
      · gi_wp2
        go_roundw
        case rel => exact ⟨k + 1, by omega, by rw [show (len : Int) - 1 - ((k + 1 : Nat) : Int) = (j : Int) - 1 from by have := HJ.out; omega], (by rw [upto_succ, HBF.out]; exact hJ3), HN.out.1.trans hk3.1, hk3.2.trans HN.out.2⟩
        case measure => simp [intOf]
      · gi_wp2
        refine bodyPost_ret (results_none rfl _ _ _) rfl ?_
        exact ⟨⟨_, rfl⟩, .inr ⟨_, ⟨k + 1, by omega, by rw [upto_succ, HBF.out]⟩, hJx3⟩⟩
    · obtain rfl : k = len := by omega
      rw [show (k : Int) - 1 - (k : Int) = -1 from by omega]
      gi_wp2
      go_end0
      exact ⟨⟨_, rfl⟩, .inl ⟨_, rfl, hJs.out⟩⟩
theorem Backward_c (A : Option Addr) (len cap : Nat) (w : World) :
    Calls Tryz.prog 232 #[.slice A len cap] w fun e w' => e = .returned (.func (.func 259) #[] #[.pointer (some ⟨w.heap.size, 0, none⟩)]) ∧ w' = w.alloc (.cells #[.slice A len cap] 50) := by
  go_enter Tryz.func232, Tryz.ntmps232
  go_wp2
  go_ret
  exact ⟨rfl, rfl⟩
theorem back_stops (F : Fence) (n : Nat) (h1 : F.fn 259) (hro : F.round = none) (hn : 1 ≤ n) (Bs n₀ : Nat) (A : Option Addr) (len cap : Nat) (bs : List UInt8) (hlen : len ≤ 1000) (w : World) (hBs : Bs < w.heap.size) (hn₀ : n₀ ≤ w.heap.size)
    (hc : w.cell? ⟨Bs, 0, none⟩ = some (.slice A len cap)) (hr : Reads w n₀ 1 A len (byteCells bs)) :
    SeqStopsK F n Tryz.prog 259 #[.pointer (some ⟨Bs, 0, none⟩)] encB (KpB n₀ Bs) (fun ys => ys = upto (backF bs len) len) (fun pre => ∃ k, k ≤ len ∧ pre = upto (backF bs len) k) len w := fun l J Jx W hW _ _ hY h0 =>
  back1_in F n h1 hro hn l Bs n₀ A len cap bs hlen J Jx hY W ((hW.cell (p := ⟨Bs, 0, none⟩) hBs).trans hc) (hr.below (hW.mono hn₀)) h0
theorem kpB_t {n₀ Bs : Nat} {A B C : World} (h : KpB n₀ Bs A B) (k : KpB n₀ Bs B C) : KpB n₀ Bs A C := ⟨h.1.trans k.1, k.2.trans h.2⟩
theorem kpB_b {n₀ Bs : Nat} {w : World} (hn₀ : n₀ ≤ w.heap.size) (hBs : Bs < w.heap.size) : ∀ (W : World) (l : Nat) (o o' : Obj), w.heap.size ≤ l → W.heap[l]? = some o → o.isCells = false → o.isWalk = false → KpB n₀ Bs W (W.putObj l o') := fun W l o o' hl ho hc hw =>
  ⟨belowK_b hn₀ W l o o' hl ho hc hw, (belowK_b (n₀ := Bs + 1) (w := w) hBs W l o o' hl ho hc hw).cell (p := ⟨Bs, 0, none⟩) (Nat.lt_succ_self _)⟩
end
section
set_option maxRecDepth 100000
open Go.RowKit Go.Shelf
attribute [local go_sem] Oper.semAt_some
def accB : List (Nat × UInt8) → Nat := List.foldl (fun s x => (s * 128) % 18446744073709551616 + x.2.toNat % 128) 0
theorem accB_snoc (pre : List (Nat × UInt8)) (x : Nat × UInt8) : accB (pre ++ [x]) = (accB pre * 128) % 18446744073709551616 + x.2.toNat % 128 := by simp [accB]
theorem accB_lt (pre : List (Nat × UInt8)) : accB pre < 18446744073709551616 := by
  rcases List.eq_nil_or_concat pre with rfl | ⟨l, x, rfl⟩
  · simp [accB]
  · rw [List.concat_eq_append, accB_snoc]; omega
theorem or_step (s x : Nat) (hs : s < 18446744073709551616) : bits .or .u64 (IntKind.u64.wrap ((s : Int) * 128)) ((x : Int) % 128) = (((s * 128) % 18446744073709551616 + x % 128 : Nat) : Int) := by
  rw [IntKind.wrap_u64, show ((s : Int) * 128) % 18446744073709551616 = ((s * 128 % 18446744073709551616 : Nat) : Int) from by omega, show (x : Int) % 128 = ((x % 128 : Nat) : Int) from by omega, u64_or_nat _ _ (by omega) (by omega)]
  have e : s * 128 % 18446744073709551616 = 2 ^ 7 * (s * 128 % 18446744073709551616 / 128) := by omega
  rw [e, ← Nat.two_pow_add_eq_or_of_lt (i := 7) (by omega)]
theorem accB_back (bs : List UInt8) (L : Nat) (hL : L ≤ bs.length) (hv : valB (natB (bs.take L)) < 18446744073709551616) : accB (upto (backF bs L) L) = valB (natB (bs.take L)) := by
  have hmono : ∀ (l : List Nat) (i : Nat), valB (l.drop i) ≤ valB l := by
    intro l
    induction l with
    | nil => intro i; simp
    | cons y l ih =>
      intro i
      cases i with
      | zero => simp
      | succ i => simp only [List.drop_succ_cons, valB]; have := ih i; omega
  have hk : ∀ k, k ≤ L → accB (upto (backF bs L) k) = valB ((natB (bs.take L)).drop (L - k)) := by
    intro k
    induction k with
    | zero => intro _; rw [Nat.sub_zero, List.drop_of_length_le (by rw [natB_length, List.length_take]; omega)]; rfl
    | succ k ih =>
      intro hkL
      have hlt : L - 1 - k < bs.length := by omega
      rw [upto_succ, accB_snoc, ih (by omega)]
      have e : (natB (bs.take L)).drop (L - (k + 1)) = (bs[L - 1 - k]).toNat :: (natB (bs.take L)).drop (L - k) := by
        rw [show L - k = L - (k + 1) + 1 from by omega, List.drop_eq_getElem_cons (by rw [natB_length, List.length_take]; omega)]
        congr 1
        simp only [natB, List.getElem_map, List.getElem_take]
        congr 2
        omega
      have hb : (backF bs L k).2 = bs[L - 1 - k] := by unfold backF; simp [hlt]
      have h1 := hmono (natB (bs.take L)) (L - (k + 1))
      rw [e] at h1 ⊢
      simp only [valB] at h1 ⊢
      rw [hb, Nat.mod_eq_of_lt (by omega)]
      omega
  rw [hk L (Nat.le_refl _)]
  simp
theorem val_lt (bs : List UInt8) (k : Nat) (x : UInt8) (hk : k ≤ 9) (hx : bs[k]? = some x) (hf : ¬ ((k = 9 ∧ 1 < x.toNat) ∨ (0 < k ∧ x.toNat = 0))) : valB (natB (bs.take (k + 1))) < 18446744073709551616 := by
  by_cases h9 : k = 9
  · subst h9
    have hlt := (List.getElem?_eq_some_iff.1 hx).1
    have e : bs.take (9 + 1) = bs.take 9 ++ [x] := by rw [List.take_add_one, hx]; rfl
    rw [e, natB_append, show natB [x] = [x.toNat] from rfl, valB_snoc]
    have h1 := valB_lt (natB (bs.take 9))
    rw [natB_length, List.length_take, Nat.min_eq_left (by omega)] at h1 ⊢
    have h2 : x.toNat % 128 ≤ 1 := by omega
    have h3 : 128 ^ 9 * (x.toNat % 128) ≤ 128 ^ 9 * 1 := Nat.mul_le_mul_left _ h2
    omega
  · have h1 := valB_lt (natB (bs.take (k + 1)))
    rw [natB_length, List.length_take] at h1
    have h2 : (128 : Nat) ^ (min (k + 1) bs.length) ≤ 128 ^ 9 := Nat.pow_le_pow_right (by omega) (by omega)
    have h3 := Nat.lt_of_lt_of_le h1 h2
    omega
set_option maxRecDepth 100000 in
set_option maxHeartbeats 4000000 in
theorem Uint_ltz (ad : Addr) (a m cm : Nat) (bs : List UInt8) (B : Nat) (w : World) (hr : Reads w B 1 (some ad) (a + m) (byteCells bs)) (hB : B ≤ w.heap.size) (hmc : m ≤ cm) (h0 : 0 < m) (hm : m ≤ 10000) (hcx : a + cm ≤ 9223372036854775807) (q : Nat) (hq : q = if m < 10 then m else 10) (h10 : m < 10) (k : Nat) (x : UInt8) (hkk : k = 0) (hkq : k < q) (hx : bs[a + k]? = some x) (hhit : firstIdx lowB ((bs.drop a).take q) = (k : Int)) (hf : ¬ ((k = 9 ∧ 1 < x.toNat) ∨ (0 < k ∧ x.toNat = 0))) : Calls Tryz.prog 176 #[.agg #[.slice (some ad) (a + m) (a + cm), .int .i64 (a : Int), .int .i64 0]] w fun e w' => e = .returned (.tuple #[.agg #[.slice (some ad) (a + m) (a + cm), .int .i64 ((a : Int) + ((k : Int) + 1)), .int .i64 0], .int .u64 ((valB (natB ((bs.drop a).take (k + 1))) : Nat) : Int)]) ∧ Below w.heap.size w w' := by
  have HF := Lib.hid hhit; clear hhit
  have hq10 : q ≤ 10 := by rw [hq]; split <;> omega
  have hcm : ¬ cm = 0 := by omega
  have hqm : q ≤ m := by rw [hq]; split <;> omega
  have HQR := Lib.hid (show Reads w B 1 (some (ad.add a)) q (byteCells ((bs.drop a).take q)) from by
    have h := (hr.sufB (k := a) (cap := a + cm) (by omega) (by omega)).preB (k := q) (by omega)
    rw [if_neg (by omega), Option.map_some] at h
    exact h)
  clear hr
  obtain ⟨ad', had⟩ : ∃ ad', ad.add a = ad' := ⟨_, rfl⟩
  rw [had] at HQR
  have hx' : ((bs.drop a).take q)[k]? = some x := by rw [List.getElem?_take, if_pos hkq, List.getElem?_drop]; exact hx
  have HX := Lib.hid hx'
  have HQ1 := Lib.hid (show Reads w B 1 (some ad') (k + 1) (byteCells ((bs.drop a).take (k + 1))) from by
    have h := HQR.out.preB (k := k + 1) (by omega)
    rw [List.take_take, Nat.min_eq_left (by omega)] at h
    exact h)
  have HACC := Lib.hid (show accB (upto (backF (List.take (k + 1) (List.drop a bs)) (k + 1)) (k + 1)) = valB (natB (List.take (k + 1) (List.drop a bs))) from by
    have hxd : (bs.drop a)[k]? = some x := by rw [List.getElem?_drop]; exact hx
    have hld := (List.getElem?_eq_some_iff.1 hxd).1
    have hv := val_lt (bs.drop a) k x (by omega) hxd hf
    have h := accB_back ((bs.drop a).take (k + 1)) (k + 1) (by rw [List.length_take]; omega) (by rw [List.take_take, Nat.min_self]; exact hv)
    rw [List.take_take, Nat.min_self] at h
    exact h)
  clear hx hx'
  have hxl := x.toNat_lt
  have b9 : ((k : Int) == 9) = false := by rw [beq_eq_false_iff_ne]; omega
  have hk0 : ¬ 0 < k := by omega
  have i1 : (0 : Int) ≤ (k : Int) := by omega
  have hk10 : k ≤ 9 := by omega
  clear hf hkk
  obtain rfl : m = q := by rw [hq, if_pos h10]
  clear hq
  refine (callsIn_wide (n := 5)).1 ?_
  refine callsIn_of_wp_marks Tryz.func176 rfl trivial ?_ rfl
  simp only [Tryz.ntmps176, List.size_toArray, List.length_cons, List.length_nil, Nat.reduceAdd, Nat.reduceSub, Array.replicate_succ, Array.replicate_zero, List.push_toArray, List.append_toArray, List.nil_append, List.cons_append]
  gi_wp2_with fail
  refine ⟨trivial, ?_⟩
  refine (callsIn_wide.2 (right_yes (some ad) _ (a + cm) a _ (by omega) (by omega))).mono ?_
  rintro e w1 ⟨rfl, hb⟩
  have C1 := Lib.hid ((Cu.start w #[.slice (some ad) _ (a + cm), .int .i64 a, .int .i64 0] #[.slice none 0 0, .int .i64 0, .int .i64 0]).next hb)
  clear hb
  obtain ⟨k0, k1, k2, r0, r1, r2, f0, f1, f2, g0, g1, g2⟩ := C1.out.cells
  gi_wp2_with fail
  refine ⟨trivial, ?_⟩
  refine (callsIn_wide.2 (IndexFuncB_at (some ad') _ cm B _ _ (k : Int) HF.out (C1.out.reads HQR.out hB) (by omega))).mono ?_
  rintro e w2 ⟨rfl, rfl⟩
  obtain ⟨_, _, E, _, hy, hck⟩ := (C1.out.reads HQR.out hB).byte_at hkq
  cases E
  rw [HX.out] at hy
  cases hy
  gi_wp2_with fail
  refine ⟨trivial, ?_⟩
  refine (callsIn_wide.2 (Backward_c (some ad') (k + 1) cm _)).mono ?_
  rintro e w3 ⟨rfl, rfl⟩
  gi_wp2_with fail
  have bN := Boxed.new w1 253 (.int .u64 0)
  have bS := Boxed.new (w1.alloc (.cells #[.int .u64 0] 253)) 50 (.slice (some ad') (k + 1) cm)
  rw [World.size_alloc] at bS
  have hB0 : Below w1.heap.size w1 ((w1.alloc (.cells #[.int .u64 0] 253)).alloc (.cells #[.slice (some ad') (k + 1) cm] 50)) := ((Below.refl _ w1).alloc (Nat.le_refl _) _).alloc (by simp) _
  have hsB : B ≤ w1.heap.size := Nat.le_trans hB C1.out.size
  clear k0 k1 k2 r0 r1 r2 f0 f1 f2 g0 g1 g2
  refine wpIn_rangeFunc_ownF rfl (by omega) (gf := 259) (lb := #[.pointer (some ⟨w1.heap.size + 1, 0, none⟩)]) rfl trivial (enters_of Tryz.func259 (by kernel_rfl) rfl)
    (back_stops Fence.wide 4 trivial rfl (by omega) (w1.heap.size + 1) w1.heap.size (some ad') (k + 1) cm ((bs.drop a).take (k + 1)) (by omega) _ (by simp) (by simp; omega) bS.cell ((((C1.out.reads HQ1.out hB).more hsB)).below hB0)) kpB_t (kpB_b (by simp; omega) (by simp)) (Below.refl _ _) (fun _ => rfl)
    (fun pre W => (W.cell? ⟨w1.heap.size, 0, none⟩ = some (.int .u64 (accB pre : Int)) ∧ W.frozen? ⟨w1.heap.size, 0, none⟩ = false) ∧ Below w1.heap.size w1 W)
    (fun _ _ _ => False)
    (OwnFrom.and (Own.from (fun s A B row hs hg hr => ⟨cell_kept hs.1 hg hr, (frozen_kept hs.1 hg hr).trans hs.2⟩) _) (ownFrom_below (Nat.le_refl _) (by simp; omega)))
    (fun _ _ _ _ _ hs _ _ => hs)
    ⟨⟨(bN.alloc _).cell, (bN.alloc _).frozen⟩, hB0⟩
    ?a1 ?assign ?body ?done ?stop
  case assign =>
    intro l x W K hK
    unfold encB
    gi_wp2
    exact hK
  case body =>
    rintro l pre x' W ⟨⟨hc, hfz⟩, hB'⟩ hlt
    have hor := or_step (accB pre) x'.2.toNat (accB_lt pre)
    have hal := accB_lt pre
    gi_wp2
    have hsn : ((accB (pre ++ [x']) : Nat) : Int) = (accB pre : Int) * 128 % 18446744073709551616 + (x'.2.toNat : Int) % 128 := by rw [accB_snoc]; omega
    exact ⟨KeepsOthers.setCell _ _ _, ⟨(Below.refl _ W).setCell (p := ⟨w1.heap.size, 0, none⟩) (Nat.le_refl _) _, World.cell?_setCell_other W ⟨w1.heap.size, 0, none⟩ ⟨w1.heap.size + 1, 0, none⟩ _ (by simp)⟩, ⟨by rw [hsn]; exact World.cell?_setCell_same' _ _ _ (by rw [hc]; rfl), by rw [World.frozen?_setCell]; exact hfz⟩, hB'.setCell (p := ⟨w1.heap.size, 0, none⟩) (Nat.le_refl _) _⟩
  case done =>
    rintro D ys W hD rfl ⟨⟨hc, hfz⟩, hB'⟩ hK
    have C2 := Lib.hid (C1.out.next hB')
    obtain ⟨k0, k1, k2, r0, r1, r2, f0, f1, f2, g0, g1, g2⟩ := C2.out.cells
    have hg1 := C1.out.1.lt
    have hg2 := C1.out.2.1.lt
    have hD' : w1.heap.size + 2 ≤ D := by simpa using hD
    gi_wp2
    gi_region
    all_goals
      gi_wp2
      have hBR : Blk ((((W.setCell ⟨w.heap.size, 1, none⟩ (.int .i64 ((a : Int) + ((k : Int) + 1)))).setCell ⟨w.heap.size + 1, 0, none⟩ (.slice (some ad) (a + m) (a + cm))).setCell ⟨w.heap.size + 1, 1, none⟩ (.int .i64 ((a : Int) + ((k : Int) + 1)))).setCell ⟨w.heap.size + 1, 2, none⟩ (.int .i64 0)).drew (w.heap.size + 1) 252 #[.slice (some ad) (a + m) (a + cm), .int .i64 ((a : Int) + ((k : Int) + 1)), .int .i64 0] :=
        (((((C2.out.2.1.far (p := ⟨w.heap.size, 1, none⟩) (by simp) _).set_ 0 _).set_ 1 _).set_ 2 _).drew)
      have hBW : Below w.heap.size w ((((W.setCell ⟨w.heap.size, 1, none⟩ (.int .i64 ((a : Int) + ((k : Int) + 1)))).setCell ⟨w.heap.size + 1, 0, none⟩ (.slice (some ad) (a + m) (a + cm))).setCell ⟨w.heap.size + 1, 1, none⟩ (.int .i64 ((a : Int) + ((k : Int) + 1)))).setCell ⟨w.heap.size + 1, 2, none⟩ (.int .i64 0)).drew :=
        ((((C2.out.2.2.setCell (by simp) _).setCell (by simp) _).setCell (by simp) _).setCell (by simp) _).drew
      have hK' : ((((W.setCell ⟨w.heap.size, 1, none⟩ (.int .i64 ((a : Int) + ((k : Int) + 1)))).setCell ⟨w.heap.size + 1, 0, none⟩ (.slice (some ad) (a + m) (a + cm))).setCell ⟨w.heap.size + 1, 1, none⟩ (.int .i64 ((a : Int) + ((k : Int) + 1)))).setCell ⟨w.heap.size + 1, 2, none⟩ (.int .i64 0)).drew.heap[D]? = some (.deferred (some [])) :=
        (Below.heap_setCell _ _ _ D (by simp; omega)).trans ((Below.heap_setCell _ _ _ D (by simp; omega)).trans ((Below.heap_setCell _ _ _ D (by simp; omega)).trans ((Below.heap_setCell _ _ _ D (by simp; omega)).trans hK)))
      refine ⟨by simp, .inl ⟨_, _, rfl, run_takeDeferred hK', ?_⟩⟩
      generalize ((((W.setCell ⟨w.heap.size, 1, none⟩ (.int .i64 ((a : Int) + ((k : Int) + 1)))).setCell ⟨w.heap.size + 1, 0, none⟩ (.slice (some ad) (a + m) (a + cm))).setCell ⟨w.heap.size + 1, 1, none⟩ (.int .i64 ((a : Int) + ((k : Int) + 1)))).setCell ⟨w.heap.size + 1, 2, none⟩ (.int .i64 0)).drew = W4 at *
      have hBz := belowK_b (n₀ := w1.heap.size) (w := w1) (Nat.le_refl _) W4 D (.deferred (some [])) (.deferred none) (by omega) hK' rfl rfl
      have hBR2 := hBR.below hBz hg2
      have q0 := hBR2.cell 0
      have q1 := hBR2.cell 1
      have q2 := hBR2.cell 2
      simp only [List.getElem?_toArray, List.getElem?_cons_zero, List.getElem?_cons_succ] at q0 q1 q2
      refine ⟨.tuple #[.agg #[.slice (some ad) (a + m) (a + cm), .int .i64 ((a : Int) + ((k : Int) + 1)), .int .i64 0], .int .u64 ((accB (upto (backF (List.take (k + 1) (List.drop a bs)) (k + 1)) (k + 1)) : Nat) : Int)], ?_, ?_, hBW.trans (hBz.mono C1.out.size)⟩
      · simp [results, Tryz.results176, go_sem, q0, q1, q2]
      · rw [HACC.out]
  case stop =>
    rintro D c pre W _ _ h _
    exact h.elim
set_option maxRecDepth 100000 in
set_option maxHeartbeats 4000000 in
theorem Uint_ltp (ad : Addr) (a m cm : Nat) (bs : List UInt8) (B : Nat) (w : World) (hr : Reads w B 1 (some ad) (a + m) (byteCells bs)) (hB : B ≤ w.heap.size) (hmc : m ≤ cm) (h0 : 0 < m) (hm : m ≤ 10000) (hcx : a + cm ≤ 9223372036854775807) (q : Nat) (hq : q = if m < 10 then m else 10) (h10 : m < 10) (k : Nat) (x : UInt8) (hkk : 0 < k) (hkn : k ≠ 9) (hkq : k < q) (hx : bs[a + k]? = some x) (hhit : firstIdx lowB ((bs.drop a).take q) = (k : Int)) (hf : ¬ ((k = 9 ∧ 1 < x.toNat) ∨ (0 < k ∧ x.toNat = 0))) : Calls Tryz.prog 176 #[.agg #[.slice (some ad) (a + m) (a + cm), .int .i64 (a : Int), .int .i64 0]] w fun e w' => e = .returned (.tuple #[.agg #[.slice (some ad) (a + m) (a + cm), .int .i64 ((a : Int) + ((k : Int) + 1)), .int .i64 0], .int .u64 ((valB (natB ((bs.drop a).take (k + 1))) : Nat) : Int)]) ∧ Below w.heap.size w w' := by
  have HF := Lib.hid hhit; clear hhit
  have hq10 : q ≤ 10 := by rw [hq]; split <;> omega
  have hcm : ¬ cm = 0 := by omega
  have hqm : q ≤ m := by rw [hq]; split <;> omega
  have HQR := Lib.hid (show Reads w B 1 (some (ad.add a)) q (byteCells ((bs.drop a).take q)) from by
    have h := (hr.sufB (k := a) (cap := a + cm) (by omega) (by omega)).preB (k := q) (by omega)
    rw [if_neg (by omega), Option.map_some] at h
    exact h)
  clear hr
  obtain ⟨ad', had⟩ : ∃ ad', ad.add a = ad' := ⟨_, rfl⟩
  rw [had] at HQR
  have hx' : ((bs.drop a).take q)[k]? = some x := by rw [List.getElem?_take, if_pos hkq, List.getElem?_drop]; exact hx
  have HX := Lib.hid hx'
  have HQ1 := Lib.hid (show Reads w B 1 (some ad') (k + 1) (byteCells ((bs.drop a).take (k + 1))) from by
    have h := HQR.out.preB (k := k + 1) (by omega)
    rw [List.take_take, Nat.min_eq_left (by omega)] at h
    exact h)
  have HACC := Lib.hid (show accB (upto (backF (List.take (k + 1) (List.drop a bs)) (k + 1)) (k + 1)) = valB (natB (List.take (k + 1) (List.drop a bs))) from by
    have hxd : (bs.drop a)[k]? = some x := by rw [List.getElem?_drop]; exact hx
    have hld := (List.getElem?_eq_some_iff.1 hxd).1
    have hv := val_lt (bs.drop a) k x (by omega) hxd hf
    have h := accB_back ((bs.drop a).take (k + 1)) (k + 1) (by rw [List.length_take]; omega) (by rw [List.take_take, Nat.min_self]; exact hv)
    rw [List.take_take, Nat.min_self] at h
    exact h)
  clear hx hx'
  have hxl := x.toNat_lt
  have b9 : ((k : Int) == 9) = false := by rw [beq_eq_false_iff_ne]; omega
  have hk0 : 0 < k := hkk
  have bz : ((x.toNat : Int) == 0) = false := by rw [beq_eq_false_iff_ne]; omega
  have i1 : (0 : Int) ≤ (k : Int) := by omega
  have hk10 : k ≤ 9 := by omega
  clear hf hkk hkn
  obtain rfl : m = q := by rw [hq, if_pos h10]
  clear hq
  refine (callsIn_wide (n := 5)).1 ?_
  refine callsIn_of_wp_marks Tryz.func176 rfl trivial ?_ rfl
  simp only [Tryz.ntmps176, List.size_toArray, List.length_cons, List.length_nil, Nat.reduceAdd, Nat.reduceSub, Array.replicate_succ, Array.replicate_zero, List.push_toArray, List.append_toArray, List.nil_append, List.cons_append]
  gi_wp2_with fail
  refine ⟨trivial, ?_⟩
  refine (callsIn_wide.2 (right_yes (some ad) _ (a + cm) a _ (by omega) (by omega))).mono ?_
  rintro e w1 ⟨rfl, hb⟩
  have C1 := Lib.hid ((Cu.start w #[.slice (some ad) _ (a + cm), .int .i64 a, .int .i64 0] #[.slice none 0 0, .int .i64 0, .int .i64 0]).next hb)
  clear hb
  obtain ⟨k0, k1, k2, r0, r1, r2, f0, f1, f2, g0, g1, g2⟩ := C1.out.cells
  gi_wp2_with fail
  refine ⟨trivial, ?_⟩
  refine (callsIn_wide.2 (IndexFuncB_at (some ad') _ cm B _ _ (k : Int) HF.out (C1.out.reads HQR.out hB) (by omega))).mono ?_
  rintro e w2 ⟨rfl, rfl⟩
  obtain ⟨_, _, E, _, hy, hck⟩ := (C1.out.reads HQR.out hB).byte_at hkq
  cases E
  rw [HX.out] at hy
  cases hy
  gi_wp2_with fail
  refine ⟨trivial, ?_⟩
  refine (callsIn_wide.2 (Backward_c (some ad') (k + 1) cm _)).mono ?_
  rintro e w3 ⟨rfl, rfl⟩
  gi_wp2_with fail
  have bN := Boxed.new w1 253 (.int .u64 0)
  have bS := Boxed.new (w1.alloc (.cells #[.int .u64 0] 253)) 50 (.slice (some ad') (k + 1) cm)
  rw [World.size_alloc] at bS
  have hB0 : Below w1.heap.size w1 ((w1.alloc (.cells #[.int .u64 0] 253)).alloc (.cells #[.slice (some ad') (k + 1) cm] 50)) := ((Below.refl _ w1).alloc (Nat.le_refl _) _).alloc (by simp) _
  have hsB : B ≤ w1.heap.size := Nat.le_trans hB C1.out.size
  clear k0 k1 k2 r0 r1 r2 f0 f1 f2 g0 g1 g2
  refine wpIn_rangeFunc_ownF rfl (by omega) (gf := 259) (lb := #[.pointer (some ⟨w1.heap.size + 1, 0, none⟩)]) rfl trivial (enters_of Tryz.func259 (by kernel_rfl) rfl)
    (back_stops Fence.wide 4 trivial rfl (by omega) (w1.heap.size + 1) w1.heap.size (some ad') (k + 1) cm ((bs.drop a).take (k + 1)) (by omega) _ (by simp) (by simp; omega) bS.cell ((((C1.out.reads HQ1.out hB).more hsB)).below hB0)) kpB_t (kpB_b (by simp; omega) (by simp)) (Below.refl _ _) (fun _ => rfl)
    (fun pre W => (W.cell? ⟨w1.heap.size, 0, none⟩ = some (.int .u64 (accB pre : Int)) ∧ W.frozen? ⟨w1.heap.size, 0, none⟩ = false) ∧ Below w1.heap.size w1 W)
    (fun _ _ _ => False)
    (OwnFrom.and (Own.from (fun s A B row hs hg hr => ⟨cell_kept hs.1 hg hr, (frozen_kept hs.1 hg hr).trans hs.2⟩) _) (ownFrom_below (Nat.le_refl _) (by simp; omega)))
    (fun _ _ _ _ _ hs _ _ => hs)
    ⟨⟨(bN.alloc _).cell, (bN.alloc _).frozen⟩, hB0⟩
    ?a1 ?assign ?body ?done ?stop
  case assign =>
    intro l x W K hK
    unfold encB
    gi_wp2
    exact hK
  case body =>
    rintro l pre x' W ⟨⟨hc, hfz⟩, hB'⟩ hlt
    have hor := or_step (accB pre) x'.2.toNat (accB_lt pre)
    have hal := accB_lt pre
    gi_wp2
    have hsn : ((accB (pre ++ [x']) : Nat) : Int) = (accB pre : Int) * 128 % 18446744073709551616 + (x'.2.toNat : Int) % 128 := by rw [accB_snoc]; omega
    exact ⟨KeepsOthers.setCell _ _ _, ⟨(Below.refl _ W).setCell (p := ⟨w1.heap.size, 0, none⟩) (Nat.le_refl _) _, World.cell?_setCell_other W ⟨w1.heap.size, 0, none⟩ ⟨w1.heap.size + 1, 0, none⟩ _ (by simp)⟩, ⟨by rw [hsn]; exact World.cell?_setCell_same' _ _ _ (by rw [hc]; rfl), by rw [World.frozen?_setCell]; exact hfz⟩, hB'.setCell (p := ⟨w1.heap.size, 0, none⟩) (Nat.le_refl _) _⟩
  case done =>
    rintro D ys W hD rfl ⟨⟨hc, hfz⟩, hB'⟩ hK
    have C2 := Lib.hid (C1.out.next hB')
    obtain ⟨k0, k1, k2, r0, r1, r2, f0, f1, f2, g0, g1, g2⟩ := C2.out.cells
    have hg1 := C1.out.1.lt
    have hg2 := C1.out.2.1.lt
    have hD' : w1.heap.size + 2 ≤ D := by simpa using hD
    gi_wp2
    gi_region
    all_goals
      gi_wp2
      have hBR : Blk ((((W.setCell ⟨w.heap.size, 1, none⟩ (.int .i64 ((a : Int) + ((k : Int) + 1)))).setCell ⟨w.heap.size + 1, 0, none⟩ (.slice (some ad) (a + m) (a + cm))).setCell ⟨w.heap.size + 1, 1, none⟩ (.int .i64 ((a : Int) + ((k : Int) + 1)))).setCell ⟨w.heap.size + 1, 2, none⟩ (.int .i64 0)).drew (w.heap.size + 1) 252 #[.slice (some ad) (a + m) (a + cm), .int .i64 ((a : Int) + ((k : Int) + 1)), .int .i64 0] :=
        (((((C2.out.2.1.far (p := ⟨w.heap.size, 1, none⟩) (by simp) _).set_ 0 _).set_ 1 _).set_ 2 _).drew)
      have hBW : Below w.heap.size w ((((W.setCell ⟨w.heap.size, 1, none⟩ (.int .i64 ((a : Int) + ((k : Int) + 1)))).setCell ⟨w.heap.size + 1, 0, none⟩ (.slice (some ad) (a + m) (a + cm))).setCell ⟨w.heap.size + 1, 1, none⟩ (.int .i64 ((a : Int) + ((k : Int) + 1)))).setCell ⟨w.heap.size + 1, 2, none⟩ (.int .i64 0)).drew :=
        ((((C2.out.2.2.setCell (by simp) _).setCell (by simp) _).setCell (by simp) _).setCell (by simp) _).drew
      have hK' : ((((W.setCell ⟨w.heap.size, 1, none⟩ (.int .i64 ((a : Int) + ((k : Int) + 1)))).setCell ⟨w.heap.size + 1, 0, none⟩ (.slice (some ad) (a + m) (a + cm))).setCell ⟨w.heap.size + 1, 1, none⟩ (.int .i64 ((a : Int) + ((k : Int) + 1)))).setCell ⟨w.heap.size + 1, 2, none⟩ (.int .i64 0)).drew.heap[D]? = some (.deferred (some [])) :=
        (Below.heap_setCell _ _ _ D (by simp; omega)).trans ((Below.heap_setCell _ _ _ D (by simp; omega)).trans ((Below.heap_setCell _ _ _ D (by simp; omega)).trans ((Below.heap_setCell _ _ _ D (by simp; omega)).trans hK)))
      refine ⟨by simp, .inl ⟨_, _, rfl, run_takeDeferred hK', ?_⟩⟩
      generalize ((((W.setCell ⟨w.heap.size, 1, none⟩ (.int .i64 ((a : Int) + ((k : Int) + 1)))).setCell ⟨w.heap.size + 1, 0, none⟩ (.slice (some ad) (a + m) (a + cm))).setCell ⟨w.heap.size + 1, 1, none⟩ (.int .i64 ((a : Int) + ((k : Int) + 1)))).setCell ⟨w.heap.size + 1, 2, none⟩ (.int .i64 0)).drew = W4 at *
      have hBz := belowK_b (n₀ := w1.heap.size) (w := w1) (Nat.le_refl _) W4 D (.deferred (some [])) (.deferred none) (by omega) hK' rfl rfl
      have hBR2 := hBR.below hBz hg2
      have q0 := hBR2.cell 0
      have q1 := hBR2.cell 1
      have q2 := hBR2.cell 2
      simp only [List.getElem?_toArray, List.getElem?_cons_zero, List.getElem?_cons_succ] at q0 q1 q2
      refine ⟨.tuple #[.agg #[.slice (some ad) (a + m) (a + cm), .int .i64 ((a : Int) + ((k : Int) + 1)), .int .i64 0], .int .u64 ((accB (upto (backF (List.take (k + 1) (List.drop a bs)) (k + 1)) (k + 1)) : Nat) : Int)], ?_, ?_, hBW.trans (hBz.mono C1.out.size)⟩
      · simp [results, Tryz.results176, go_sem, q0, q1, q2]
      · rw [HACC.out]
  case stop =>
    rintro D c pre W _ _ h _
    exact h.elim
set_option maxRecDepth 100000 in
set_option maxHeartbeats 4000000 in
theorem Uint_eqz (ad : Addr) (a m cm : Nat) (bs : List UInt8) (B : Nat) (w : World) (hr : Reads w B 1 (some ad) (a + m) (byteCells bs)) (hB : B ≤ w.heap.size) (hmc : m ≤ cm) (h0 : 0 < m) (hm : m ≤ 10000) (hcx : a + cm ≤ 9223372036854775807) (q : Nat) (hq : q = if m < 10 then m else 10) (h10 : m = 10) (k : Nat) (x : UInt8) (hkk : k = 0) (hkq : k < q) (hx : bs[a + k]? = some x) (hhit : firstIdx lowB ((bs.drop a).take q) = (k : Int)) (hf : ¬ ((k = 9 ∧ 1 < x.toNat) ∨ (0 < k ∧ x.toNat = 0))) : Calls Tryz.prog 176 #[.agg #[.slice (some ad) (a + m) (a + cm), .int .i64 (a : Int), .int .i64 0]] w fun e w' => e = .returned (.tuple #[.agg #[.slice (some ad) (a + m) (a + cm), .int .i64 ((a : Int) + ((k : Int) + 1)), .int .i64 0], .int .u64 ((valB (natB ((bs.drop a).take (k + 1))) : Nat) : Int)]) ∧ Below w.heap.size w w' := by
  have HF := Lib.hid hhit; clear hhit
  have hq10 : q ≤ 10 := by rw [hq]; split <;> omega
  have hcm : ¬ cm = 0 := by omega
  have hqm : q ≤ m := by rw [hq]; split <;> omega
  have HQR := Lib.hid (show Reads w B 1 (some (ad.add a)) q (byteCells ((bs.drop a).take q)) from by
    have h := (hr.sufB (k := a) (cap := a + cm) (by omega) (by omega)).preB (k := q) (by omega)
    rw [if_neg (by omega), Option.map_some] at h
    exact h)
  clear hr
  obtain ⟨ad', had⟩ : ∃ ad', ad.add a = ad' := ⟨_, rfl⟩
  rw [had] at HQR
  have hx' : ((bs.drop a).take q)[k]? = some x := by rw [List.getElem?_take, if_pos hkq, List.getElem?_drop]; exact hx
  have HX := Lib.hid hx'
  have HQ1 := Lib.hid (show Reads w B 1 (some ad') (k + 1) (byteCells ((bs.drop a).take (k + 1))) from by
    have h := HQR.out.preB (k := k + 1) (by omega)
    rw [List.take_take, Nat.min_eq_left (by omega)] at h
    exact h)
  have HACC := Lib.hid (show accB (upto (backF (List.take (k + 1) (List.drop a bs)) (k + 1)) (k + 1)) = valB (natB (List.take (k + 1) (List.drop a bs))) from by
    have hxd : (bs.drop a)[k]? = some x := by rw [List.getElem?_drop]; exact hx
    have hld := (List.getElem?_eq_some_iff.1 hxd).1
    have hv := val_lt (bs.drop a) k x (by omega) hxd hf
    have h := accB_back ((bs.drop a).take (k + 1)) (k + 1) (by rw [List.length_take]; omega) (by rw [List.take_take, Nat.min_self]; exact hv)
    rw [List.take_take, Nat.min_self] at h
    exact h)
  clear hx hx'
  have hxl := x.toNat_lt
  have b9 : ((k : Int) == 9) = false := by rw [beq_eq_false_iff_ne]; omega
  have hk0 : ¬ 0 < k := by omega
  have i1 : (0 : Int) ≤ (k : Int) := by omega
  have hk10 : k ≤ 9 := by omega
  clear hf hkk
  subst h10
  obtain rfl : q = 10 := by rw [hq]; rfl
  clear hq
  refine (callsIn_wide (n := 5)).1 ?_
  refine callsIn_of_wp_marks Tryz.func176 rfl trivial ?_ rfl
  simp only [Tryz.ntmps176, List.size_toArray, List.length_cons, List.length_nil, Nat.reduceAdd, Nat.reduceSub, Array.replicate_succ, Array.replicate_zero, List.push_toArray, List.append_toArray, List.nil_append, List.cons_append]
  gi_wp2_with fail
  refine ⟨trivial, ?_⟩
  refine (callsIn_wide.2 (right_yes (some ad) _ (a + cm) a _ (by omega) (by omega))).mono ?_
  rintro e w1 ⟨rfl, hb⟩
  have C1 := Lib.hid ((Cu.start w #[.slice (some ad) _ (a + cm), .int .i64 a, .int .i64 0] #[.slice none 0 0, .int .i64 0, .int .i64 0]).next hb)
  clear hb
  obtain ⟨k0, k1, k2, r0, r1, r2, f0, f1, f2, g0, g1, g2⟩ := C1.out.cells
  gi_wp2_with fail
  refine ⟨trivial, ?_⟩
  refine (callsIn_wide.2 (IndexFuncB_at (some ad') _ cm B _ _ (k : Int) HF.out (C1.out.reads HQR.out hB) (by omega))).mono ?_
  rintro e w2 ⟨rfl, rfl⟩
  obtain ⟨_, _, E, _, hy, hck⟩ := (C1.out.reads HQR.out hB).byte_at hkq
  cases E
  rw [HX.out] at hy
  cases hy
  gi_wp2_with fail
  refine ⟨trivial, ?_⟩
  refine (callsIn_wide.2 (Backward_c (some ad') (k + 1) cm _)).mono ?_
  rintro e w3 ⟨rfl, rfl⟩
  gi_wp2_with fail
  have bN := Boxed.new w1 253 (.int .u64 0)
  have bS := Boxed.new (w1.alloc (.cells #[.int .u64 0] 253)) 50 (.slice (some ad') (k + 1) cm)
  rw [World.size_alloc] at bS
  have hB0 : Below w1.heap.size w1 ((w1.alloc (.cells #[.int .u64 0] 253)).alloc (.cells #[.slice (some ad') (k + 1) cm] 50)) := ((Below.refl _ w1).alloc (Nat.le_refl _) _).alloc (by simp) _
  have hsB : B ≤ w1.heap.size := Nat.le_trans hB C1.out.size
  clear k0 k1 k2 r0 r1 r2 f0 f1 f2 g0 g1 g2
  refine wpIn_rangeFunc_ownF rfl (by omega) (gf := 259) (lb := #[.pointer (some ⟨w1.heap.size + 1, 0, none⟩)]) rfl trivial (enters_of Tryz.func259 (by kernel_rfl) rfl)
    (back_stops Fence.wide 4 trivial rfl (by omega) (w1.heap.size + 1) w1.heap.size (some ad') (k + 1) cm ((bs.drop a).take (k + 1)) (by omega) _ (by simp) (by simp; omega) bS.cell ((((C1.out.reads HQ1.out hB).more hsB)).below hB0)) kpB_t (kpB_b (by simp; omega) (by simp)) (Below.refl _ _) (fun _ => rfl)
    (fun pre W => (W.cell? ⟨w1.heap.size, 0, none⟩ = some (.int .u64 (accB pre : Int)) ∧ W.frozen? ⟨w1.heap.size, 0, none⟩ = false) ∧ Below w1.heap.size w1 W)
    (fun _ _ _ => False)
    (OwnFrom.and (Own.from (fun s A B row hs hg hr => ⟨cell_kept hs.1 hg hr, (frozen_kept hs.1 hg hr).trans hs.2⟩) _) (ownFrom_below (Nat.le_refl _) (by simp; omega)))
    (fun _ _ _ _ _ hs _ _ => hs)
    ⟨⟨(bN.alloc _).cell, (bN.alloc _).frozen⟩, hB0⟩
    ?a1 ?assign ?body ?done ?stop
  case assign =>
    intro l x W K hK
    unfold encB
    gi_wp2
    exact hK
  case body =>
    rintro l pre x' W ⟨⟨hc, hfz⟩, hB'⟩ hlt
    have hor := or_step (accB pre) x'.2.toNat (accB_lt pre)
    have hal := accB_lt pre
    gi_wp2
    have hsn : ((accB (pre ++ [x']) : Nat) : Int) = (accB pre : Int) * 128 % 18446744073709551616 + (x'.2.toNat : Int) % 128 := by rw [accB_snoc]; omega
    exact ⟨KeepsOthers.setCell _ _ _, ⟨(Below.refl _ W).setCell (p := ⟨w1.heap.size, 0, none⟩) (Nat.le_refl _) _, World.cell?_setCell_other W ⟨w1.heap.size, 0, none⟩ ⟨w1.heap.size + 1, 0, none⟩ _ (by simp)⟩, ⟨by rw [hsn]; exact World.cell?_setCell_same' _ _ _ (by rw [hc]; rfl), by rw [World.frozen?_setCell]; exact hfz⟩, hB'.setCell (p := ⟨w1.heap.size, 0, none⟩) (Nat.le_refl _) _⟩
  case done =>
    rintro D ys W hD rfl ⟨⟨hc, hfz⟩, hB'⟩ hK
    have C2 := Lib.hid (C1.out.next hB')
    obtain ⟨k0, k1, k2, r0, r1, r2, f0, f1, f2, g0, g1, g2⟩ := C2.out.cells
    have hg1 := C1.out.1.lt
    have hg2 := C1.out.2.1.lt
    have hD' : w1.heap.size + 2 ≤ D := by simpa using hD
    gi_wp2
    gi_region
    all_goals
      gi_wp2
      have hBR : Blk ((((W.setCell ⟨w.heap.size, 1, none⟩ (.int .i64 ((a : Int) + ((k : Int) + 1)))).setCell ⟨w.heap.size + 1, 0, none⟩ (.slice (some ad) (a + 10) (a + cm))).setCell ⟨w.heap.size + 1, 1, none⟩ (.int .i64 ((a : Int) + ((k : Int) + 1)))).setCell ⟨w.heap.size + 1, 2, none⟩ (.int .i64 0)).drew (w.heap.size + 1) 252 #[.slice (some ad) (a + 10) (a + cm), .int .i64 ((a : Int) + ((k : Int) + 1)), .int .i64 0] :=
        (((((C2.out.2.1.far (p := ⟨w.heap.size, 1, none⟩) (by simp) _).set_ 0 _).set_ 1 _).set_ 2 _).drew)
      have hBW : Below w.heap.size w ((((W.setCell ⟨w.heap.size, 1, none⟩ (.int .i64 ((a : Int) + ((k : Int) + 1)))).setCell ⟨w.heap.size + 1, 0, none⟩ (.slice (some ad) (a + 10) (a + cm))).setCell ⟨w.heap.size + 1, 1, none⟩ (.int .i64 ((a : Int) + ((k : Int) + 1)))).setCell ⟨w.heap.size + 1, 2, none⟩ (.int .i64 0)).drew :=
        ((((C2.out.2.2.setCell (by simp) _).setCell (by simp) _).setCell (by simp) _).setCell (by simp) _).drew
      have hK' : ((((W.setCell ⟨w.heap.size, 1, none⟩ (.int .i64 ((a : Int) + ((k : Int) + 1)))).setCell ⟨w.heap.size + 1, 0, none⟩ (.slice (some ad) (a + 10) (a + cm))).setCell ⟨w.heap.size + 1, 1, none⟩ (.int .i64 ((a : Int) + ((k : Int) + 1)))).setCell ⟨w.heap.size + 1, 2, none⟩ (.int .i64 0)).drew.heap[D]? = some (.deferred (some [])) :=
        (Below.heap_setCell _ _ _ D (by simp; omega)).trans ((Below.heap_setCell _ _ _ D (by simp; omega)).trans ((Below.heap_setCell _ _ _ D (by simp; omega)).trans ((Below.heap_setCell _ _ _ D (by simp; omega)).trans hK)))
      refine ⟨by simp, .inl ⟨_, _, rfl, run_takeDeferred hK', ?_⟩⟩
      generalize ((((W.setCell ⟨w.heap.size, 1, none⟩ (.int .i64 ((a : Int) + ((k : Int) + 1)))).setCell ⟨w.heap.size + 1, 0, none⟩ (.slice (some ad) (a + 10) (a + cm))).setCell ⟨w.heap.size + 1, 1, none⟩ (.int .i64 ((a : Int) + ((k : Int) + 1)))).setCell ⟨w.heap.size + 1, 2, none⟩ (.int .i64 0)).drew = W4 at *
      have hBz := belowK_b (n₀ := w1.heap.size) (w := w1) (Nat.le_refl _) W4 D (.deferred (some [])) (.deferred none) (by omega) hK' rfl rfl
      have hBR2 := hBR.below hBz hg2
      have q0 := hBR2.cell 0
      have q1 := hBR2.cell 1
      have q2 := hBR2.cell 2
      simp only [List.getElem?_toArray, List.getElem?_cons_zero, List.getElem?_cons_succ] at q0 q1 q2
      refine ⟨.tuple #[.agg #[.slice (some ad) (a + 10) (a + cm), .int .i64 ((a : Int) + ((k : Int) + 1)), .int .i64 0], .int .u64 ((accB (upto (backF (List.take (k + 1) (List.drop a bs)) (k + 1)) (k + 1)) : Nat) : Int)], ?_, ?_, hBW.trans (hBz.mono C1.out.size)⟩
      · simp [results, Tryz.results176, go_sem, q0, q1, q2]
      · rw [HACC.out]
  case stop =>
    rintro D c pre W _ _ h _
    exact h.elim
set_option maxRecDepth 100000 in
set_option maxHeartbeats 4000000 in
theorem Uint_eqp (ad : Addr) (a m cm : Nat) (bs : List UInt8) (B : Nat) (w : World) (hr : Reads w B 1 (some ad) (a + m) (byteCells bs)) (hB : B ≤ w.heap.size) (hmc : m ≤ cm) (h0 : 0 < m) (hm : m ≤ 10000) (hcx : a + cm ≤ 9223372036854775807) (q : Nat) (hq : q = if m < 10 then m else 10) (h10 : m = 10) (k : Nat) (x : UInt8) (hkk : 0 < k) (hkn : k ≠ 9) (hkq : k < q) (hx : bs[a + k]? = some x) (hhit : firstIdx lowB ((bs.drop a).take q) = (k : Int)) (hf : ¬ ((k = 9 ∧ 1 < x.toNat) ∨ (0 < k ∧ x.toNat = 0))) : Calls Tryz.prog 176 #[.agg #[.slice (some ad) (a + m) (a + cm), .int .i64 (a : Int), .int .i64 0]] w fun e w' => e = .returned (.tuple #[.agg #[.slice (some ad) (a + m) (a + cm), .int .i64 ((a : Int) + ((k : Int) + 1)), .int .i64 0], .int .u64 ((valB (natB ((bs.drop a).take (k + 1))) : Nat) : Int)]) ∧ Below w.heap.size w w' := by
  have HF := Lib.hid hhit; clear hhit
  have hq10 : q ≤ 10 := by rw [hq]; split <;> omega
  have hcm : ¬ cm = 0 := by omega
  have hqm : q ≤ m := by rw [hq]; split <;> omega
  have HQR := Lib.hid (show Reads w B 1 (some (ad.add a)) q (byteCells ((bs.drop a).take q)) from by
    have h := (hr.sufB (k := a) (cap := a + cm) (by omega) (by omega)).preB (k := q) (by omega)
    rw [if_neg (by omega), Option.map_some] at h
    exact h)
  clear hr
  obtain ⟨ad', had⟩ : ∃ ad', ad.add a = ad' := ⟨_, rfl⟩
  rw [had] at HQR
  have hx' : ((bs.drop a).take q)[k]? = some x := by rw [List.getElem?_take, if_pos hkq, List.getElem?_drop]; exact hx
  have HX := Lib.hid hx'
  have HQ1 := Lib.hid (show Reads w B 1 (some ad') (k + 1) (byteCells ((bs.drop a).take (k + 1))) from by
    have h := HQR.out.preB (k := k + 1) (by omega)
    rw [List.take_take, Nat.min_eq_left (by omega)] at h
    exact h)
  have HACC := Lib.hid (show accB (upto (backF (List.take (k + 1) (List.drop a bs)) (k + 1)) (k + 1)) = valB (natB (List.take (k + 1) (List.drop a bs))) from by
    have hxd : (bs.drop a)[k]? = some x := by rw [List.getElem?_drop]; exact hx
    have hld := (List.getElem?_eq_some_iff.1 hxd).1
    have hv := val_lt (bs.drop a) k x (by omega) hxd hf
    have h := accB_back ((bs.drop a).take (k + 1)) (k + 1) (by rw [List.length_take]; omega) (by rw [List.take_take, Nat.min_self]; exact hv)
    rw [List.take_take, Nat.min_self] at h
    exact h)
  clear hx hx'
  have hxl := x.toNat_lt
  have b9 : ((k : Int) == 9) = false := by rw [beq_eq_false_iff_ne]; omega
  have hk0 : 0 < k := hkk
  have bz : ((x.toNat : Int) == 0) = false := by rw [beq_eq_false_iff_ne]; omega
  have i1 : (0 : Int) ≤ (k : Int) := by omega
  have hk10 : k ≤ 9 := by omega
  clear hf hkk hkn
  subst h10
  obtain rfl : q = 10 := by rw [hq]; rfl
  clear hq
  refine (callsIn_wide (n := 5)).1 ?_
  refine callsIn_of_wp_marks Tryz.func176 rfl trivial ?_ rfl
  simp only [Tryz.ntmps176, List.size_toArray, List.length_cons, List.length_nil, Nat.reduceAdd, Nat.reduceSub, Array.replicate_succ, Array.replicate_zero, List.push_toArray, List.append_toArray, List.nil_append, List.cons_append]
  gi_wp2_with fail
  refine ⟨trivial, ?_⟩
  refine (callsIn_wide.2 (right_yes (some ad) _ (a + cm) a _ (by omega) (by omega))).mono ?_
  rintro e w1 ⟨rfl, hb⟩
  have C1 := Lib.hid ((Cu.start w #[.slice (some ad) _ (a + cm), .int .i64 a, .int .i64 0] #[.slice none 0 0, .int .i64 0, .int .i64 0]).next hb)
  clear hb
  obtain ⟨k0, k1, k2, r0, r1, r2, f0, f1, f2, g0, g1, g2⟩ := C1.out.cells
  gi_wp2_with fail
  refine ⟨trivial, ?_⟩
  refine (callsIn_wide.2 (IndexFuncB_at (some ad') _ cm B _ _ (k : Int) HF.out (C1.out.reads HQR.out hB) (by omega))).mono ?_
  rintro e w2 ⟨rfl, rfl⟩
  obtain ⟨_, _, E, _, hy, hck⟩ := (C1.out.reads HQR.out hB).byte_at hkq
  cases E
  rw [HX.out] at hy
  cases hy
  gi_wp2_with fail
  refine ⟨trivial, ?_⟩
  refine (callsIn_wide.2 (Backward_c (some ad') (k + 1) cm _)).mono ?_
  rintro e w3 ⟨rfl, rfl⟩
  gi_wp2_with fail
  have bN := Boxed.new w1 253 (.int .u64 0)
  have bS := Boxed.new (w1.alloc (.cells #[.int .u64 0] 253)) 50 (.slice (some ad') (k + 1) cm)
  rw [World.size_alloc] at bS
  have hB0 : Below w1.heap.size w1 ((w1.alloc (.cells #[.int .u64 0] 253)).alloc (.cells #[.slice (some ad') (k + 1) cm] 50)) := ((Below.refl _ w1).alloc (Nat.le_refl _) _).alloc (by simp) _
  have hsB : B ≤ w1.heap.size := Nat.le_trans hB C1.out.size
  clear k0 k1 k2 r0 r1 r2 f0 f1 f2 g0 g1 g2
  refine wpIn_rangeFunc_ownF rfl (by omega) (gf := 259) (lb := #[.pointer (some ⟨w1.heap.size + 1, 0, none⟩)]) rfl trivial (enters_of Tryz.func259 (by kernel_rfl) rfl)
    (back_stops Fence.wide 4 trivial rfl (by omega) (w1.heap.size + 1) w1.heap.size (some ad') (k + 1) cm ((bs.drop a).take (k + 1)) (by omega) _ (by simp) (by simp; omega) bS.cell ((((C1.out.reads HQ1.out hB).more hsB)).below hB0)) kpB_t (kpB_b (by simp; omega) (by simp)) (Below.refl _ _) (fun _ => rfl)
    (fun pre W => (W.cell? ⟨w1.heap.size, 0, none⟩ = some (.int .u64 (accB pre : Int)) ∧ W.frozen? ⟨w1.heap.size, 0, none⟩ = false) ∧ Below w1.heap.size w1 W)
    (fun _ _ _ => False)
    (OwnFrom.and (Own.from (fun s A B row hs hg hr => ⟨cell_kept hs.1 hg hr, (frozen_kept hs.1 hg hr).trans hs.2⟩) _) (ownFrom_below (Nat.le_refl _) (by simp; omega)))
    (fun _ _ _ _ _ hs _ _ => hs)
    ⟨⟨(bN.alloc _).cell, (bN.alloc _).frozen⟩, hB0⟩
    ?a1 ?assign ?body ?done ?stop
  case assign =>
    intro l x W K hK
    unfold encB
    gi_wp2
    exact hK
  case body =>
    rintro l pre x' W ⟨⟨hc, hfz⟩, hB'⟩ hlt
    have hor := or_step (accB pre) x'.2.toNat (accB_lt pre)
    have hal := accB_lt pre
    gi_wp2
    have hsn : ((accB (pre ++ [x']) : Nat) : Int) = (accB pre : Int) * 128 % 18446744073709551616 + (x'.2.toNat : Int) % 128 := by rw [accB_snoc]; omega
    exact ⟨KeepsOthers.setCell _ _ _, ⟨(Below.refl _ W).setCell (p := ⟨w1.heap.size, 0, none⟩) (Nat.le_refl _) _, World.cell?_setCell_other W ⟨w1.heap.size, 0, none⟩ ⟨w1.heap.size + 1, 0, none⟩ _ (by simp)⟩, ⟨by rw [hsn]; exact World.cell?_setCell_same' _ _ _ (by rw [hc]; rfl), by rw [World.frozen?_setCell]; exact hfz⟩, hB'.setCell (p := ⟨w1.heap.size, 0, none⟩) (Nat.le_refl _) _⟩
  case done =>
    rintro D ys W hD rfl ⟨⟨hc, hfz⟩, hB'⟩ hK
    have C2 := Lib.hid (C1.out.next hB')
    obtain ⟨k0, k1, k2, r0, r1, r2, f0, f1, f2, g0, g1, g2⟩ := C2.out.cells
    have hg1 := C1.out.1.lt
    have hg2 := C1.out.2.1.lt
    have hD' : w1.heap.size + 2 ≤ D := by simpa using hD
    gi_wp2
    gi_region
    all_goals
      gi_wp2
      have hBR : Blk ((((W.setCell ⟨w.heap.size, 1, none⟩ (.int .i64 ((a : Int) + ((k : Int) + 1)))).setCell ⟨w.heap.size + 1, 0, none⟩ (.slice (some ad) (a + 10) (a + cm))).setCell ⟨w.heap.size + 1, 1, none⟩ (.int .i64 ((a : Int) + ((k : Int) + 1)))).setCell ⟨w.heap.size + 1, 2, none⟩ (.int .i64 0)).drew (w.heap.size + 1) 252 #[.slice (some ad) (a + 10) (a + cm), .int .i64 ((a : Int) + ((k : Int) + 1)), .int .i64 0] :=
        (((((C2.out.2.1.far (p := ⟨w.heap.size, 1, none⟩) (by simp) _).set_ 0 _).set_ 1 _).set_ 2 _).drew)
      have hBW : Below w.heap.size w ((((W.setCell ⟨w.heap.size, 1, none⟩ (.int .i64 ((a : Int) + ((k : Int) + 1)))).setCell ⟨w.heap.size + 1, 0, none⟩ (.slice (some ad) (a + 10) (a + cm))).setCell ⟨w.heap.size + 1, 1, none⟩ (.int .i64 ((a : Int) + ((k : Int) + 1)))).setCell ⟨w.heap.size + 1, 2, none⟩ (.int .i64 0)).drew :=
        ((((C2.out.2.2.setCell (by simp) _).setCell (by simp) _).setCell (by simp) _).setCell (by simp) _).drew
      have hK' : ((((W.setCell ⟨w.heap.size, 1, none⟩ (.int .i64 ((a : Int) + ((k : Int) + 1)))).setCell ⟨w.heap.size + 1, 0, none⟩ (.slice (some ad) (a + 10) (a + cm))).setCell ⟨w.heap.size + 1, 1, none⟩ (.int .i64 ((a : Int) + ((k : Int) + 1)))).setCell ⟨w.heap.size + 1, 2, none⟩ (.int .i64 0)).drew.heap[D]? = some (.deferred (some [])) :=
        (Below.heap_setCell _ _ _ D (by simp; omega)).trans ((Below.heap_setCell _ _ _ D (by simp; omega)).trans ((Below.heap_setCell _ _ _ D (by simp; omega)).trans ((Below.heap_setCell _ _ _ D (by simp; omega)).trans hK)))
      refine ⟨by simp, .inl ⟨_, _, rfl, run_takeDeferred hK', ?_⟩⟩
      generalize ((((W.setCell ⟨w.heap.size, 1, none⟩ (.int .i64 ((a : Int) + ((k : Int) + 1)))).setCell ⟨w.heap.size + 1, 0, none⟩ (.slice (some ad) (a + 10) (a + cm))).setCell ⟨w.heap.size + 1, 1, none⟩ (.int .i64 ((a : Int) + ((k : Int) + 1)))).setCell ⟨w.heap.size + 1, 2, none⟩ (.int .i64 0)).drew = W4 at *
      have hBz := belowK_b (n₀ := w1.heap.size) (w := w1) (Nat.le_refl _) W4 D (.deferred (some [])) (.deferred none) (by omega) hK' rfl rfl
      have hBR2 := hBR.below hBz hg2
      have q0 := hBR2.cell 0
      have q1 := hBR2.cell 1
      have q2 := hBR2.cell 2
      simp only [List.getElem?_toArray, List.getElem?_cons_zero, List.getElem?_cons_succ] at q0 q1 q2
      refine ⟨.tuple #[.agg #[.slice (some ad) (a + 10) (a + cm), .int .i64 ((a : Int) + ((k : Int) + 1)), .int .i64 0], .int .u64 ((accB (upto (backF (List.take (k + 1) (List.drop a bs)) (k + 1)) (k + 1)) : Nat) : Int)], ?_, ?_, hBW.trans (hBz.mono C1.out.size)⟩
      · simp [results, Tryz.results176, go_sem, q0, q1, q2]
      · rw [HACC.out]
  case stop =>
    rintro D c pre W _ _ h _
    exact h.elim
set_option maxRecDepth 100000 in
set_option maxHeartbeats 4000000 in
theorem Uint_eqn (ad : Addr) (a m cm : Nat) (bs : List UInt8) (B : Nat) (w : World) (hr : Reads w B 1 (some ad) (a + m) (byteCells bs)) (hB : B ≤ w.heap.size) (hmc : m ≤ cm) (h0 : 0 < m) (hm : m ≤ 10000) (hcx : a + cm ≤ 9223372036854775807) (q : Nat) (hq : q = if m < 10 then m else 10) (h10 : m = 10) (k : Nat) (x : UInt8) (hkk : k = 9) (hkq : k < q) (hx : bs[a + k]? = some x) (hhit : firstIdx lowB ((bs.drop a).take q) = (k : Int)) (hf : ¬ ((k = 9 ∧ 1 < x.toNat) ∨ (0 < k ∧ x.toNat = 0))) : Calls Tryz.prog 176 #[.agg #[.slice (some ad) (a + m) (a + cm), .int .i64 (a : Int), .int .i64 0]] w fun e w' => e = .returned (.tuple #[.agg #[.slice (some ad) (a + m) (a + cm), .int .i64 ((a : Int) + ((k : Int) + 1)), .int .i64 0], .int .u64 ((valB (natB ((bs.drop a).take (k + 1))) : Nat) : Int)]) ∧ Below w.heap.size w w' := by
  have HF := Lib.hid hhit; clear hhit
  have hq10 : q ≤ 10 := by rw [hq]; split <;> omega
  have hcm : ¬ cm = 0 := by omega
  have hqm : q ≤ m := by rw [hq]; split <;> omega
  have HQR := Lib.hid (show Reads w B 1 (some (ad.add a)) q (byteCells ((bs.drop a).take q)) from by
    have h := (hr.sufB (k := a) (cap := a + cm) (by omega) (by omega)).preB (k := q) (by omega)
    rw [if_neg (by omega), Option.map_some] at h
    exact h)
  clear hr
  obtain ⟨ad', had⟩ : ∃ ad', ad.add a = ad' := ⟨_, rfl⟩
  rw [had] at HQR
  have hx' : ((bs.drop a).take q)[k]? = some x := by rw [List.getElem?_take, if_pos hkq, List.getElem?_drop]; exact hx
  have HX := Lib.hid hx'
  have HQ1 := Lib.hid (show Reads w B 1 (some ad') (k + 1) (byteCells ((bs.drop a).take (k + 1))) from by
    have h := HQR.out.preB (k := k + 1) (by omega)
    rw [List.take_take, Nat.min_eq_left (by omega)] at h
    exact h)
  have HACC := Lib.hid (show accB (upto (backF (List.take (k + 1) (List.drop a bs)) (k + 1)) (k + 1)) = valB (natB (List.take (k + 1) (List.drop a bs))) from by
    have hxd : (bs.drop a)[k]? = some x := by rw [List.getElem?_drop]; exact hx
    have hld := (List.getElem?_eq_some_iff.1 hxd).1
    have hv := val_lt (bs.drop a) k x (by omega) hxd hf
    have h := accB_back ((bs.drop a).take (k + 1)) (k + 1) (by rw [List.length_take]; omega) (by rw [List.take_take, Nat.min_self]; exact hv)
    rw [List.take_take, Nat.min_self] at h
    exact h)
  clear hx hx'
  have hxl := x.toNat_lt
  have b9 : ((k : Int) == 9) = true := by rw [beq_iff_eq]; omega
  have hk0 : 0 < k := by omega
  have bx : decide ((1 : Int) < (x.toNat : Int)) = false := by simp; omega
  have bz : ((x.toNat : Int) == 0) = false := by rw [beq_eq_false_iff_ne]; omega
  have i1 : (0 : Int) ≤ (k : Int) := by omega
  have hk10 : k ≤ 9 := by omega
  clear hf hkk
  subst h10
  obtain rfl : q = 10 := by rw [hq]; rfl
  clear hq
  refine (callsIn_wide (n := 5)).1 ?_
  refine callsIn_of_wp_marks Tryz.func176 rfl trivial ?_ rfl
  simp only [Tryz.ntmps176, List.size_toArray, List.length_cons, List.length_nil, Nat.reduceAdd, Nat.reduceSub, Array.replicate_succ, Array.replicate_zero, List.push_toArray, List.append_toArray, List.nil_append, List.cons_append]
  gi_wp2_with fail
  refine ⟨trivial, ?_⟩
  refine (callsIn_wide.2 (right_yes (some ad) _ (a + cm) a _ (by omega) (by omega))).mono ?_
  rintro e w1 ⟨rfl, hb⟩
  have C1 := Lib.hid ((Cu.start w #[.slice (some ad) _ (a + cm), .int .i64 a, .int .i64 0] #[.slice none 0 0, .int .i64 0, .int .i64 0]).next hb)
  clear hb
  obtain ⟨k0, k1, k2, r0, r1, r2, f0, f1, f2, g0, g1, g2⟩ := C1.out.cells
  gi_wp2_with fail
  refine ⟨trivial, ?_⟩
  refine (callsIn_wide.2 (IndexFuncB_at (some ad') _ cm B _ _ (k : Int) HF.out (C1.out.reads HQR.out hB) (by omega))).mono ?_
  rintro e w2 ⟨rfl, rfl⟩
  obtain ⟨_, _, E, _, hy, hck⟩ := (C1.out.reads HQR.out hB).byte_at hkq
  cases E
  rw [HX.out] at hy
  cases hy
  gi_wp2_with fail
  refine ⟨trivial, ?_⟩
  refine (callsIn_wide.2 (Backward_c (some ad') (k + 1) cm _)).mono ?_
  rintro e w3 ⟨rfl, rfl⟩
  gi_wp2_with fail
  have bN := Boxed.new w1 253 (.int .u64 0)
  have bS := Boxed.new (w1.alloc (.cells #[.int .u64 0] 253)) 50 (.slice (some ad') (k + 1) cm)
  rw [World.size_alloc] at bS
  have hB0 : Below w1.heap.size w1 ((w1.alloc (.cells #[.int .u64 0] 253)).alloc (.cells #[.slice (some ad') (k + 1) cm] 50)) := ((Below.refl _ w1).alloc (Nat.le_refl _) _).alloc (by simp) _
  have hsB : B ≤ w1.heap.size := Nat.le_trans hB C1.out.size
  clear k0 k1 k2 r0 r1 r2 f0 f1 f2 g0 g1 g2
  refine wpIn_rangeFunc_ownF rfl (by omega) (gf := 259) (lb := #[.pointer (some ⟨w1.heap.size + 1, 0, none⟩)]) rfl trivial (enters_of Tryz.func259 (by kernel_rfl) rfl)
    (back_stops Fence.wide 4 trivial rfl (by omega) (w1.heap.size + 1) w1.heap.size (some ad') (k + 1) cm ((bs.drop a).take (k + 1)) (by omega) _ (by simp) (by simp; omega) bS.cell ((((C1.out.reads HQ1.out hB).more hsB)).below hB0)) kpB_t (kpB_b (by simp; omega) (by simp)) (Below.refl _ _) (fun _ => rfl)
    (fun pre W => (W.cell? ⟨w1.heap.size, 0, none⟩ = some (.int .u64 (accB pre : Int)) ∧ W.frozen? ⟨w1.heap.size, 0, none⟩ = false) ∧ Below w1.heap.size w1 W)
    (fun _ _ _ => False)
    (OwnFrom.and (Own.from (fun s A B row hs hg hr => ⟨cell_kept hs.1 hg hr, (frozen_kept hs.1 hg hr).trans hs.2⟩) _) (ownFrom_below (Nat.le_refl _) (by simp; omega)))
    (fun _ _ _ _ _ hs _ _ => hs)
    ⟨⟨(bN.alloc _).cell, (bN.alloc _).frozen⟩, hB0⟩
    ?a1 ?assign ?body ?done ?stop
  case assign =>
    intro l x W K hK
    unfold encB
    gi_wp2
    exact hK
  case body =>
    rintro l pre x' W ⟨⟨hc, hfz⟩, hB'⟩ hlt
    have hor := or_step (accB pre) x'.2.toNat (accB_lt pre)
    have hal := accB_lt pre
    gi_wp2
    have hsn : ((accB (pre ++ [x']) : Nat) : Int) = (accB pre : Int) * 128 % 18446744073709551616 + (x'.2.toNat : Int) % 128 := by rw [accB_snoc]; omega
    exact ⟨KeepsOthers.setCell _ _ _, ⟨(Below.refl _ W).setCell (p := ⟨w1.heap.size, 0, none⟩) (Nat.le_refl _) _, World.cell?_setCell_other W ⟨w1.heap.size, 0, none⟩ ⟨w1.heap.size + 1, 0, none⟩ _ (by simp)⟩, ⟨by rw [hsn]; exact World.cell?_setCell_same' _ _ _ (by rw [hc]; rfl), by rw [World.frozen?_setCell]; exact hfz⟩, hB'.setCell (p := ⟨w1.heap.size, 0, none⟩) (Nat.le_refl _) _⟩
  case done =>
    rintro D ys W hD rfl ⟨⟨hc, hfz⟩, hB'⟩ hK
    have C2 := Lib.hid (C1.out.next hB')
    obtain ⟨k0, k1, k2, r0, r1, r2, f0, f1, f2, g0, g1, g2⟩ := C2.out.cells
    have hg1 := C1.out.1.lt
    have hg2 := C1.out.2.1.lt
    have hD' : w1.heap.size + 2 ≤ D := by simpa using hD
    gi_wp2
    gi_region
    all_goals
      gi_wp2
      have hBR : Blk ((((W.setCell ⟨w.heap.size, 1, none⟩ (.int .i64 ((a : Int) + ((k : Int) + 1)))).setCell ⟨w.heap.size + 1, 0, none⟩ (.slice (some ad) (a + 10) (a + cm))).setCell ⟨w.heap.size + 1, 1, none⟩ (.int .i64 ((a : Int) + ((k : Int) + 1)))).setCell ⟨w.heap.size + 1, 2, none⟩ (.int .i64 0)).drew (w.heap.size + 1) 252 #[.slice (some ad) (a + 10) (a + cm), .int .i64 ((a : Int) + ((k : Int) + 1)), .int .i64 0] :=
        (((((C2.out.2.1.far (p := ⟨w.heap.size, 1, none⟩) (by simp) _).set_ 0 _).set_ 1 _).set_ 2 _).drew)
      have hBW : Below w.heap.size w ((((W.setCell ⟨w.heap.size, 1, none⟩ (.int .i64 ((a : Int) + ((k : Int) + 1)))).setCell ⟨w.heap.size + 1, 0, none⟩ (.slice (some ad) (a + 10) (a + cm))).setCell ⟨w.heap.size + 1, 1, none⟩ (.int .i64 ((a : Int) + ((k : Int) + 1)))).setCell ⟨w.heap.size + 1, 2, none⟩ (.int .i64 0)).drew :=
        ((((C2.out.2.2.setCell (by simp) _).setCell (by simp) _).setCell (by simp) _).setCell (by simp) _).drew
      have hK' : ((((W.setCell ⟨w.heap.size, 1, none⟩ (.int .i64 ((a : Int) + ((k : Int) + 1)))).setCell ⟨w.heap.size + 1, 0, none⟩ (.slice (some ad) (a + 10) (a + cm))).setCell ⟨w.heap.size + 1, 1, none⟩ (.int .i64 ((a : Int) + ((k : Int) + 1)))).setCell ⟨w.heap.size + 1, 2, none⟩ (.int .i64 0)).drew.heap[D]? = some (.deferred (some [])) :=
        (Below.heap_setCell _ _ _ D (by simp; omega)).trans ((Below.heap_setCell _ _ _ D (by simp; omega)).trans ((Below.heap_setCell _ _ _ D (by simp; omega)).trans ((Below.heap_setCell _ _ _ D (by simp; omega)).trans hK)))
      refine ⟨by simp, .inl ⟨_, _, rfl, run_takeDeferred hK', ?_⟩⟩
      generalize ((((W.setCell ⟨w.heap.size, 1, none⟩ (.int .i64 ((a : Int) + ((k : Int) + 1)))).setCell ⟨w.heap.size + 1, 0, none⟩ (.slice (some ad) (a + 10) (a + cm))).setCell ⟨w.heap.size + 1, 1, none⟩ (.int .i64 ((a : Int) + ((k : Int) + 1)))).setCell ⟨w.heap.size + 1, 2, none⟩ (.int .i64 0)).drew = W4 at *
      have hBz := belowK_b (n₀ := w1.heap.size) (w := w1) (Nat.le_refl _) W4 D (.deferred (some [])) (.deferred none) (by omega) hK' rfl rfl
      have hBR2 := hBR.below hBz hg2
      have q0 := hBR2.cell 0
      have q1 := hBR2.cell 1
      have q2 := hBR2.cell 2
      simp only [List.getElem?_toArray, List.getElem?_cons_zero, List.getElem?_cons_succ] at q0 q1 q2
      refine ⟨.tuple #[.agg #[.slice (some ad) (a + 10) (a + cm), .int .i64 ((a : Int) + ((k : Int) + 1)), .int .i64 0], .int .u64 ((accB (upto (backF (List.take (k + 1) (List.drop a bs)) (k + 1)) (k + 1)) : Nat) : Int)], ?_, ?_, hBW.trans (hBz.mono C1.out.size)⟩
      · simp [results, Tryz.results176, go_sem, q0, q1, q2]
      · rw [HACC.out]
  case stop =>
    rintro D c pre W _ _ h _
    exact h.elim
set_option maxRecDepth 100000 in
set_option maxHeartbeats 4000000 in
theorem Uint_gtz (ad : Addr) (a m cm : Nat) (bs : List UInt8) (B : Nat) (w : World) (hr : Reads w B 1 (some ad) (a + m) (byteCells bs)) (hB : B ≤ w.heap.size) (hmc : m ≤ cm) (h0 : 0 < m) (hm : m ≤ 10000) (hcx : a + cm ≤ 9223372036854775807) (q : Nat) (hq : q = if m < 10 then m else 10) (h10 : 10 < m) (k : Nat) (x : UInt8) (hkk : k = 0) (hkq : k < q) (hx : bs[a + k]? = some x) (hhit : firstIdx lowB ((bs.drop a).take q) = (k : Int)) (hf : ¬ ((k = 9 ∧ 1 < x.toNat) ∨ (0 < k ∧ x.toNat = 0))) : Calls Tryz.prog 176 #[.agg #[.slice (some ad) (a + m) (a + cm), .int .i64 (a : Int), .int .i64 0]] w fun e w' => e = .returned (.tuple #[.agg #[.slice (some ad) (a + m) (a + cm), .int .i64 ((a : Int) + ((k : Int) + 1)), .int .i64 0], .int .u64 ((valB (natB ((bs.drop a).take (k + 1))) : Nat) : Int)]) ∧ Below w.heap.size w w' := by
  have HF := Lib.hid hhit; clear hhit
  have hq10 : q ≤ 10 := by rw [hq]; split <;> omega
  have hcm : ¬ cm = 0 := by omega
  have hqm : q ≤ m := by rw [hq]; split <;> omega
  have HQR := Lib.hid (show Reads w B 1 (some (ad.add a)) q (byteCells ((bs.drop a).take q)) from by
    have h := (hr.sufB (k := a) (cap := a + cm) (by omega) (by omega)).preB (k := q) (by omega)
    rw [if_neg (by omega), Option.map_some] at h
    exact h)
  clear hr
  obtain ⟨ad', had⟩ : ∃ ad', ad.add a = ad' := ⟨_, rfl⟩
  rw [had] at HQR
  have hx' : ((bs.drop a).take q)[k]? = some x := by rw [List.getElem?_take, if_pos hkq, List.getElem?_drop]; exact hx
  have HX := Lib.hid hx'
  have HQ1 := Lib.hid (show Reads w B 1 (some ad') (k + 1) (byteCells ((bs.drop a).take (k + 1))) from by
    have h := HQR.out.preB (k := k + 1) (by omega)
    rw [List.take_take, Nat.min_eq_left (by omega)] at h
    exact h)
  have HACC := Lib.hid (show accB (upto (backF (List.take (k + 1) (List.drop a bs)) (k + 1)) (k + 1)) = valB (natB (List.take (k + 1) (List.drop a bs))) from by
    have hxd : (bs.drop a)[k]? = some x := by rw [List.getElem?_drop]; exact hx
    have hld := (List.getElem?_eq_some_iff.1 hxd).1
    have hv := val_lt (bs.drop a) k x (by omega) hxd hf
    have h := accB_back ((bs.drop a).take (k + 1)) (k + 1) (by rw [List.length_take]; omega) (by rw [List.take_take, Nat.min_self]; exact hv)
    rw [List.take_take, Nat.min_self] at h
    exact h)
  clear hx hx'
  have hxl := x.toNat_lt
  have b9 : ((k : Int) == 9) = false := by rw [beq_eq_false_iff_ne]; omega
  have hk0 : ¬ 0 < k := by omega
  have i1 : (0 : Int) ≤ (k : Int) := by omega
  have hk10 : k ≤ 9 := by omega
  clear hf hkk
  obtain rfl : q = 10 := by rw [hq, if_neg (by omega)]
  clear hq
  refine (callsIn_wide (n := 5)).1 ?_
  refine callsIn_of_wp_marks Tryz.func176 rfl trivial ?_ rfl
  simp only [Tryz.ntmps176, List.size_toArray, List.length_cons, List.length_nil, Nat.reduceAdd, Nat.reduceSub, Array.replicate_succ, Array.replicate_zero, List.push_toArray, List.append_toArray, List.nil_append, List.cons_append]
  gi_wp2_with fail
  refine ⟨trivial, ?_⟩
  refine (callsIn_wide.2 (right_yes (some ad) _ (a + cm) a _ (by omega) (by omega))).mono ?_
  rintro e w1 ⟨rfl, hb⟩
  have C1 := Lib.hid ((Cu.start w #[.slice (some ad) _ (a + cm), .int .i64 a, .int .i64 0] #[.slice none 0 0, .int .i64 0, .int .i64 0]).next hb)
  clear hb
  obtain ⟨k0, k1, k2, r0, r1, r2, f0, f1, f2, g0, g1, g2⟩ := C1.out.cells
  gi_wp2_with fail
  refine ⟨trivial, ?_⟩
  refine (callsIn_wide.2 (IndexFuncB_at (some ad') _ cm B _ _ (k : Int) HF.out (C1.out.reads HQR.out hB) (by omega))).mono ?_
  rintro e w2 ⟨rfl, rfl⟩
  obtain ⟨_, _, E, _, hy, hck⟩ := (C1.out.reads HQR.out hB).byte_at hkq
  cases E
  rw [HX.out] at hy
  cases hy
  gi_wp2_with fail
  refine ⟨trivial, ?_⟩
  refine (callsIn_wide.2 (Backward_c (some ad') (k + 1) cm _)).mono ?_
  rintro e w3 ⟨rfl, rfl⟩
  gi_wp2_with fail
  have bN := Boxed.new w1 253 (.int .u64 0)
  have bS := Boxed.new (w1.alloc (.cells #[.int .u64 0] 253)) 50 (.slice (some ad') (k + 1) cm)
  rw [World.size_alloc] at bS
  have hB0 : Below w1.heap.size w1 ((w1.alloc (.cells #[.int .u64 0] 253)).alloc (.cells #[.slice (some ad') (k + 1) cm] 50)) := ((Below.refl _ w1).alloc (Nat.le_refl _) _).alloc (by simp) _
  have hsB : B ≤ w1.heap.size := Nat.le_trans hB C1.out.size
  clear k0 k1 k2 r0 r1 r2 f0 f1 f2 g0 g1 g2
  refine wpIn_rangeFunc_ownF rfl (by omega) (gf := 259) (lb := #[.pointer (some ⟨w1.heap.size + 1, 0, none⟩)]) rfl trivial (enters_of Tryz.func259 (by kernel_rfl) rfl)
    (back_stops Fence.wide 4 trivial rfl (by omega) (w1.heap.size + 1) w1.heap.size (some ad') (k + 1) cm ((bs.drop a).take (k + 1)) (by omega) _ (by simp) (by simp; omega) bS.cell ((((C1.out.reads HQ1.out hB).more hsB)).below hB0)) kpB_t (kpB_b (by simp; omega) (by simp)) (Below.refl _ _) (fun _ => rfl)
    (fun pre W => (W.cell? ⟨w1.heap.size, 0, none⟩ = some (.int .u64 (accB pre : Int)) ∧ W.frozen? ⟨w1.heap.size, 0, none⟩ = false) ∧ Below w1.heap.size w1 W)
    (fun _ _ _ => False)
    (OwnFrom.and (Own.from (fun s A B row hs hg hr => ⟨cell_kept hs.1 hg hr, (frozen_kept hs.1 hg hr).trans hs.2⟩) _) (ownFrom_below (Nat.le_refl _) (by simp; omega)))
    (fun _ _ _ _ _ hs _ _ => hs)
    ⟨⟨(bN.alloc _).cell, (bN.alloc _).frozen⟩, hB0⟩
    ?a1 ?assign ?body ?done ?stop
  case assign =>
    intro l x W K hK
    unfold encB
    gi_wp2
    exact hK
  case body =>
    rintro l pre x' W ⟨⟨hc, hfz⟩, hB'⟩ hlt
    have hor := or_step (accB pre) x'.2.toNat (accB_lt pre)
    have hal := accB_lt pre
    gi_wp2
    have hsn : ((accB (pre ++ [x']) : Nat) : Int) = (accB pre : Int) * 128 % 18446744073709551616 + (x'.2.toNat : Int) % 128 := by rw [accB_snoc]; omega
    exact ⟨KeepsOthers.setCell _ _ _, ⟨(Below.refl _ W).setCell (p := ⟨w1.heap.size, 0, none⟩) (Nat.le_refl _) _, World.cell?_setCell_other W ⟨w1.heap.size, 0, none⟩ ⟨w1.heap.size + 1, 0, none⟩ _ (by simp)⟩, ⟨by rw [hsn]; exact World.cell?_setCell_same' _ _ _ (by rw [hc]; rfl), by rw [World.frozen?_setCell]; exact hfz⟩, hB'.setCell (p := ⟨w1.heap.size, 0, none⟩) (Nat.le_refl _) _⟩
  case done =>
    rintro D ys W hD rfl ⟨⟨hc, hfz⟩, hB'⟩ hK
    have C2 := Lib.hid (C1.out.next hB')
    obtain ⟨k0, k1, k2, r0, r1, r2, f0, f1, f2, g0, g1, g2⟩ := C2.out.cells
    have hg1 := C1.out.1.lt
    have hg2 := C1.out.2.1.lt
    have hD' : w1.heap.size + 2 ≤ D := by simpa using hD
    gi_wp2
    gi_region
    all_goals
      gi_wp2
      have hBR : Blk ((((W.setCell ⟨w.heap.size, 1, none⟩ (.int .i64 ((a : Int) + ((k : Int) + 1)))).setCell ⟨w.heap.size + 1, 0, none⟩ (.slice (some ad) (a + m) (a + cm))).setCell ⟨w.heap.size + 1, 1, none⟩ (.int .i64 ((a : Int) + ((k : Int) + 1)))).setCell ⟨w.heap.size + 1, 2, none⟩ (.int .i64 0)).drew (w.heap.size + 1) 252 #[.slice (some ad) (a + m) (a + cm), .int .i64 ((a : Int) + ((k : Int) + 1)), .int .i64 0] :=
        (((((C2.out.2.1.far (p := ⟨w.heap.size, 1, none⟩) (by simp) _).set_ 0 _).set_ 1 _).set_ 2 _).drew)
      have hBW : Below w.heap.size w ((((W.setCell ⟨w.heap.size, 1, none⟩ (.int .i64 ((a : Int) + ((k : Int) + 1)))).setCell ⟨w.heap.size + 1, 0, none⟩ (.slice (some ad) (a + m) (a + cm))).setCell ⟨w.heap.size + 1, 1, none⟩ (.int .i64 ((a : Int) + ((k : Int) + 1)))).setCell ⟨w.heap.size + 1, 2, none⟩ (.int .i64 0)).drew :=
        ((((C2.out.2.2.setCell (by simp) _).setCell (by simp) _).setCell (by simp) _).setCell (by simp) _).drew
      have hK' : ((((W.setCell ⟨w.heap.size, 1, none⟩ (.int .i64 ((a : Int) + ((k : Int) + 1)))).setCell ⟨w.heap.size + 1, 0, none⟩ (.slice (some ad) (a + m) (a + cm))).setCell ⟨w.heap.size + 1, 1, none⟩ (.int .i64 ((a : Int) + ((k : Int) + 1)))).setCell ⟨w.heap.size + 1, 2, none⟩ (.int .i64 0)).drew.heap[D]? = some (.deferred (some [])) :=
        (Below.heap_setCell _ _ _ D (by simp; omega)).trans ((Below.heap_setCell _ _ _ D (by simp; omega)).trans ((Below.heap_setCell _ _ _ D (by simp; omega)).trans ((Below.heap_setCell _ _ _ D (by simp; omega)).trans hK)))
      refine ⟨by simp, .inl ⟨_, _, rfl, run_takeDeferred hK', ?_⟩⟩
      generalize ((((W.setCell ⟨w.heap.size, 1, none⟩ (.int .i64 ((a : Int) + ((k : Int) + 1)))).setCell ⟨w.heap.size + 1, 0, none⟩ (.slice (some ad) (a + m) (a + cm))).setCell ⟨w.heap.size + 1, 1, none⟩ (.int .i64 ((a : Int) + ((k : Int) + 1)))).setCell ⟨w.heap.size + 1, 2, none⟩ (.int .i64 0)).drew = W4 at *
      have hBz := belowK_b (n₀ := w1.heap.size) (w := w1) (Nat.le_refl _) W4 D (.deferred (some [])) (.deferred none) (by omega) hK' rfl rfl
      have hBR2 := hBR.below hBz hg2
      have q0 := hBR2.cell 0
      have q1 := hBR2.cell 1
      have q2 := hBR2.cell 2
      simp only [List.getElem?_toArray, List.getElem?_cons_zero, List.getElem?_cons_succ] at q0 q1 q2
      refine ⟨.tuple #[.agg #[.slice (some ad) (a + m) (a + cm), .int .i64 ((a : Int) + ((k : Int) + 1)), .int .i64 0], .int .u64 ((accB (upto (backF (List.take (k + 1) (List.drop a bs)) (k + 1)) (k + 1)) : Nat) : Int)], ?_, ?_, hBW.trans (hBz.mono C1.out.size)⟩
      · simp [results, Tryz.results176, go_sem, q0, q1, q2]
      · rw [HACC.out]
  case stop =>
    rintro D c pre W _ _ h _
    exact h.elim
set_option maxRecDepth 100000 in
set_option maxHeartbeats 4000000 in
theorem Uint_gtp (ad : Addr) (a m cm : Nat) (bs : List UInt8) (B : Nat) (w : World) (hr : Reads w B 1 (some ad) (a + m) (byteCells bs)) (hB : B ≤ w.heap.size) (hmc : m ≤ cm) (h0 : 0 < m) (hm : m ≤ 10000) (hcx : a + cm ≤ 9223372036854775807) (q : Nat) (hq : q = if m < 10 then m else 10) (h10 : 10 < m) (k : Nat) (x : UInt8) (hkk : 0 < k) (hkn : k ≠ 9) (hkq : k < q) (hx : bs[a + k]? = some x) (hhit : firstIdx lowB ((bs.drop a).take q) = (k : Int)) (hf : ¬ ((k = 9 ∧ 1 < x.toNat) ∨ (0 < k ∧ x.toNat = 0))) : Calls Tryz.prog 176 #[.agg #[.slice (some ad) (a + m) (a + cm), .int .i64 (a : Int), .int .i64 0]] w fun e w' => e = .returned (.tuple #[.agg #[.slice (some ad) (a + m) (a + cm), .int .i64 ((a : Int) + ((k : Int) + 1)), .int .i64 0], .int .u64 ((valB (natB ((bs.drop a).take (k + 1))) : Nat) : Int)]) ∧ Below w.heap.size w w' := by
  have HF := Lib.hid hhit; clear hhit
  have hq10 : q ≤ 10 := by rw [hq]; split <;> omega
  have hcm : ¬ cm = 0 := by omega
  have hqm : q ≤ m := by rw [hq]; split <;> omega
  have HQR := Lib.hid (show Reads w B 1 (some (ad.add a)) q (byteCells ((bs.drop a).take q)) from by
    have h := (hr.sufB (k := a) (cap := a + cm) (by omega) (by omega)).preB (k := q) (by omega)
    rw [if_neg (by omega), Option.map_some] at h
    exact h)
  clear hr
  obtain ⟨ad', had⟩ : ∃ ad', ad.add a = ad' := ⟨_, rfl⟩
  rw [had] at HQR
  have hx' : ((bs.drop a).take q)[k]? = some x := by rw [List.getElem?_take, if_pos hkq, List.getElem?_drop]; exact hx
  have HX := Lib.hid hx'
  have HQ1 := Lib.hid (show Reads w B 1 (some ad') (k + 1) (byteCells ((bs.drop a).take (k + 1))) from by
    have h := HQR.out.preB (k := k + 1) (by omega)
    rw [List.take_take, Nat.min_eq_left (by omega)] at h
    exact h)
  have HACC := Lib.hid (show accB (upto (backF (List.take (k + 1) (List.drop a bs)) (k + 1)) (k + 1)) = valB (natB (List.take (k + 1) (List.drop a bs))) from by
    have hxd : (bs.drop a)[k]? = some x := by rw [List.getElem?_drop]; exact hx
    have hld := (List.getElem?_eq_some_iff.1 hxd).1
    have hv := val_lt (bs.drop a) k x (by omega) hxd hf
    have h := accB_back ((bs.drop a).take (k + 1)) (k + 1) (by rw [List.length_take]; omega) (by rw [List.take_take, Nat.min_self]; exact hv)
    rw [List.take_take, Nat.min_self] at h
    exact h)
  clear hx hx'
  have hxl := x.toNat_lt
  have b9 : ((k : Int) == 9) = false := by rw [beq_eq_false_iff_ne]; omega
  have hk0 : 0 < k := hkk
  have bz : ((x.toNat : Int) == 0) = false := by rw [beq_eq_false_iff_ne]; omega
  have i1 : (0 : Int) ≤ (k : Int) := by omega
  have hk10 : k ≤ 9 := by omega
  clear hf hkk hkn
  obtain rfl : q = 10 := by rw [hq, if_neg (by omega)]
  clear hq
  refine (callsIn_wide (n := 5)).1 ?_
  refine callsIn_of_wp_marks Tryz.func176 rfl trivial ?_ rfl
  simp only [Tryz.ntmps176, List.size_toArray, List.length_cons, List.length_nil, Nat.reduceAdd, Nat.reduceSub, Array.replicate_succ, Array.replicate_zero, List.push_toArray, List.append_toArray, List.nil_append, List.cons_append]
  gi_wp2_with fail
  refine ⟨trivial, ?_⟩
  refine (callsIn_wide.2 (right_yes (some ad) _ (a + cm) a _ (by omega) (by omega))).mono ?_
  rintro e w1 ⟨rfl, hb⟩
  have C1 := Lib.hid ((Cu.start w #[.slice (some ad) _ (a + cm), .int .i64 a, .int .i64 0] #[.slice none 0 0, .int .i64 0, .int .i64 0]).next hb)
  clear hb
  obtain ⟨k0, k1, k2, r0, r1, r2, f0, f1, f2, g0, g1, g2⟩ := C1.out.cells
  gi_wp2_with fail
  refine ⟨trivial, ?_⟩
  refine (callsIn_wide.2 (IndexFuncB_at (some ad') _ cm B _ _ (k : Int) HF.out (C1.out.reads HQR.out hB) (by omega))).mono ?_
  rintro e w2 ⟨rfl, rfl⟩
  obtain ⟨_, _, E, _, hy, hck⟩ := (C1.out.reads HQR.out hB).byte_at hkq
  cases E
  rw [HX.out] at hy
  cases hy
  gi_wp2_with fail
  refine ⟨trivial, ?_⟩
  refine (callsIn_wide.2 (Backward_c (some ad') (k + 1) cm _)).mono ?_
  rintro e w3 ⟨rfl, rfl⟩
  gi_wp2_with fail
  have bN := Boxed.new w1 253 (.int .u64 0)
  have bS := Boxed.new (w1.alloc (.cells #[.int .u64 0] 253)) 50 (.slice (some ad') (k + 1) cm)
  rw [World.size_alloc] at bS
  have hB0 : Below w1.heap.size w1 ((w1.alloc (.cells #[.int .u64 0] 253)).alloc (.cells #[.slice (some ad') (k + 1) cm] 50)) := ((Below.refl _ w1).alloc (Nat.le_refl _) _).alloc (by simp) _
  have hsB : B ≤ w1.heap.size := Nat.le_trans hB C1.out.size
  clear k0 k1 k2 r0 r1 r2 f0 f1 f2 g0 g1 g2
  refine wpIn_rangeFunc_ownF rfl (by omega) (gf := 259) (lb := #[.pointer (some ⟨w1.heap.size + 1, 0, none⟩)]) rfl trivial (enters_of Tryz.func259 (by kernel_rfl) rfl)
    (back_stops Fence.wide 4 trivial rfl (by omega) (w1.heap.size + 1) w1.heap.size (some ad') (k + 1) cm ((bs.drop a).take (k + 1)) (by omega) _ (by simp) (by simp; omega) bS.cell ((((C1.out.reads HQ1.out hB).more hsB)).below hB0)) kpB_t (kpB_b (by simp; omega) (by simp)) (Below.refl _ _) (fun _ => rfl)
    (fun pre W => (W.cell? ⟨w1.heap.size, 0, none⟩ = some (.int .u64 (accB pre : Int)) ∧ W.frozen? ⟨w1.heap.size, 0, none⟩ = false) ∧ Below w1.heap.size w1 W)
    (fun _ _ _ => False)
    (OwnFrom.and (Own.from (fun s A B row hs hg hr => ⟨cell_kept hs.1 hg hr, (frozen_kept hs.1 hg hr).trans hs.2⟩) _) (ownFrom_below (Nat.le_refl _) (by simp; omega)))
    (fun _ _ _ _ _ hs _ _ => hs)
    ⟨⟨(bN.alloc _).cell, (bN.alloc _).frozen⟩, hB0⟩
    ?a1 ?assign ?body ?done ?stop
  case assign =>
    intro l x W K hK
    unfold encB
    gi_wp2
    exact hK
  case body =>
    rintro l pre x' W ⟨⟨hc, hfz⟩, hB'⟩ hlt
    have hor := or_step (accB pre) x'.2.toNat (accB_lt pre)
    have hal := accB_lt pre
    gi_wp2
    have hsn : ((accB (pre ++ [x']) : Nat) : Int) = (accB pre : Int) * 128 % 18446744073709551616 + (x'.2.toNat : Int) % 128 := by rw [accB_snoc]; omega
    exact ⟨KeepsOthers.setCell _ _ _, ⟨(Below.refl _ W).setCell (p := ⟨w1.heap.size, 0, none⟩) (Nat.le_refl _) _, World.cell?_setCell_other W ⟨w1.heap.size, 0, none⟩ ⟨w1.heap.size + 1, 0, none⟩ _ (by simp)⟩, ⟨by rw [hsn]; exact World.cell?_setCell_same' _ _ _ (by rw [hc]; rfl), by rw [World.frozen?_setCell]; exact hfz⟩, hB'.setCell (p := ⟨w1.heap.size, 0, none⟩) (Nat.le_refl _) _⟩
  case done =>
    rintro D ys W hD rfl ⟨⟨hc, hfz⟩, hB'⟩ hK
    have C2 := Lib.hid (C1.out.next hB')
    obtain ⟨k0, k1, k2, r0, r1, r2, f0, f1, f2, g0, g1, g2⟩ := C2.out.cells
    have hg1 := C1.out.1.lt
    have hg2 := C1.out.2.1.lt
    have hD' : w1.heap.size + 2 ≤ D := by simpa using hD
    gi_wp2
    gi_region
    all_goals
      gi_wp2
      have hBR : Blk ((((W.setCell ⟨w.heap.size, 1, none⟩ (.int .i64 ((a : Int) + ((k : Int) + 1)))).setCell ⟨w.heap.size + 1, 0, none⟩ (.slice (some ad) (a + m) (a + cm))).setCell ⟨w.heap.size + 1, 1, none⟩ (.int .i64 ((a : Int) + ((k : Int) + 1)))).setCell ⟨w.heap.size + 1, 2, none⟩ (.int .i64 0)).drew (w.heap.size + 1) 252 #[.slice (some ad) (a + m) (a + cm), .int .i64 ((a : Int) + ((k : Int) + 1)), .int .i64 0] :=
        (((((C2.out.2.1.far (p := ⟨w.heap.size, 1, none⟩) (by simp) _).set_ 0 _).set_ 1 _).set_ 2 _).drew)
      have hBW : Below w.heap.size w ((((W.setCell ⟨w.heap.size, 1, none⟩ (.int .i64 ((a : Int) + ((k : Int) + 1)))).setCell ⟨w.heap.size + 1, 0, none⟩ (.slice (some ad) (a + m) (a + cm))).setCell ⟨w.heap.size + 1, 1, none⟩ (.int .i64 ((a : Int) + ((k : Int) + 1)))).setCell ⟨w.heap.size + 1, 2, none⟩ (.int .i64 0)).drew :=
        ((((C2.out.2.2.setCell (by simp) _).setCell (by simp) _).setCell (by simp) _).setCell (by simp) _).drew
      have hK' : ((((W.setCell ⟨w.heap.size, 1, none⟩ (.int .i64 ((a : Int) + ((k : Int) + 1)))).setCell ⟨w.heap.size + 1, 0, none⟩ (.slice (some ad) (a + m) (a + cm))).setCell ⟨w.heap.size + 1, 1, none⟩ (.int .i64 ((a : Int) + ((k : Int) + 1)))).setCell ⟨w.heap.size + 1, 2, none⟩ (.int .i64 0)).drew.heap[D]? = some (.deferred (some [])) :=
        (Below.heap_setCell _ _ _ D (by simp; omega)).trans ((Below.heap_setCell _ _ _ D (by simp; omega)).trans ((Below.heap_setCell _ _ _ D (by simp; omega)).trans ((Below.heap_setCell _ _ _ D (by simp; omega)).trans hK)))
      refine ⟨by simp, .inl ⟨_, _, rfl, run_takeDeferred hK', ?_⟩⟩
      generalize ((((W.setCell ⟨w.heap.size, 1, none⟩ (.int .i64 ((a : Int) + ((k : Int) + 1)))).setCell ⟨w.heap.size + 1, 0, none⟩ (.slice (some ad) (a + m) (a + cm))).setCell ⟨w.heap.size + 1, 1, none⟩ (.int .i64 ((a : Int) + ((k : Int) + 1)))).setCell ⟨w.heap.size + 1, 2, none⟩ (.int .i64 0)).drew = W4 at *
      have hBz := belowK_b (n₀ := w1.heap.size) (w := w1) (Nat.le_refl _) W4 D (.deferred (some [])) (.deferred none) (by omega) hK' rfl rfl
      have hBR2 := hBR.below hBz hg2
      have q0 := hBR2.cell 0
      have q1 := hBR2.cell 1
      have q2 := hBR2.cell 2
      simp only [List.getElem?_toArray, List.getElem?_cons_zero, List.getElem?_cons_succ] at q0 q1 q2
      refine ⟨.tuple #[.agg #[.slice (some ad) (a + m) (a + cm), .int .i64 ((a : Int) + ((k : Int) + 1)), .int .i64 0], .int .u64 ((accB (upto (backF (List.take (k + 1) (List.drop a bs)) (k + 1)) (k + 1)) : Nat) : Int)], ?_, ?_, hBW.trans (hBz.mono C1.out.size)⟩
      · simp [results, Tryz.results176, go_sem, q0, q1, q2]
      · rw [HACC.out]
  case stop =>
    rintro D c pre W _ _ h _
    exact h.elim
set_option maxRecDepth 100000 in
set_option maxHeartbeats 4000000 in
theorem Uint_gtn (ad : Addr) (a m cm : Nat) (bs : List UInt8) (B : Nat) (w : World) (hr : Reads w B 1 (some ad) (a + m) (byteCells bs)) (hB : B ≤ w.heap.size) (hmc : m ≤ cm) (h0 : 0 < m) (hm : m ≤ 10000) (hcx : a + cm ≤ 9223372036854775807) (q : Nat) (hq : q = if m < 10 then m else 10) (h10 : 10 < m) (k : Nat) (x : UInt8) (hkk : k = 9) (hkq : k < q) (hx : bs[a + k]? = some x) (hhit : firstIdx lowB ((bs.drop a).take q) = (k : Int)) (hf : ¬ ((k = 9 ∧ 1 < x.toNat) ∨ (0 < k ∧ x.toNat = 0))) : Calls Tryz.prog 176 #[.agg #[.slice (some ad) (a + m) (a + cm), .int .i64 (a : Int), .int .i64 0]] w fun e w' => e = .returned (.tuple #[.agg #[.slice (some ad) (a + m) (a + cm), .int .i64 ((a : Int) + ((k : Int) + 1)), .int .i64 0], .int .u64 ((valB (natB ((bs.drop a).take (k + 1))) : Nat) : Int)]) ∧ Below w.heap.size w w' := by
  have HF := Lib.hid hhit; clear hhit
  have hq10 : q ≤ 10 := by rw [hq]; split <;> omega
  have hcm : ¬ cm = 0 := by omega
  have hqm : q ≤ m := by rw [hq]; split <;> omega
  have HQR := Lib.hid (show Reads w B 1 (some (ad.add a)) q (byteCells ((bs.drop a).take q)) from by
    have h := (hr.sufB (k := a) (cap := a + cm) (by omega) (by omega)).preB (k := q) (by omega)
    rw [if_neg (by omega), Option.map_some] at h
    exact h)
  clear hr
  obtain ⟨ad', had⟩ : ∃ ad', ad.add a = ad' := ⟨_, rfl⟩
  rw [had] at HQR
  have hx' : ((bs.drop a).take q)[k]? = some x := by rw [List.getElem?_take, if_pos hkq, List.getElem?_drop]; exact hx
  have HX := Lib.hid hx'
  have HQ1 := Lib.hid (show Reads w B 1 (some ad') (k + 1) (byteCells ((bs.drop a).take (k + 1))) from by
    have h := HQR.out.preB (k := k + 1) (by omega)
    rw [List.take_take, Nat.min_eq_left (by omega)] at h
    exact h)
  have HACC := Lib.hid (show accB (upto (backF (List.take (k + 1) (List.drop a bs)) (k + 1)) (k + 1)) = valB (natB (List.take (k + 1) (List.drop a bs))) from by
    have hxd : (bs.drop a)[k]? = some x := by rw [List.getElem?_drop]; exact hx
    have hld := (List.getElem?_eq_some_iff.1 hxd).1
    have hv := val_lt (bs.drop a) k x (by omega) hxd hf
    have h := accB_back ((bs.drop a).take (k + 1)) (k + 1) (by rw [List.length_take]; omega) (by rw [List.take_take, Nat.min_self]; exact hv)
    rw [List.take_take, Nat.min_self] at h
    exact h)
  clear hx hx'
  have hxl := x.toNat_lt
  have b9 : ((k : Int) == 9) = true := by rw [beq_iff_eq]; omega
  have hk0 : 0 < k := by omega
  have bx : decide ((1 : Int) < (x.toNat : Int)) = false := by simp; omega
  have bz : ((x.toNat : Int) == 0) = false := by rw [beq_eq_false_iff_ne]; omega
  have i1 : (0 : Int) ≤ (k : Int) := by omega
  have hk10 : k ≤ 9 := by omega
  clear hf hkk
  obtain rfl : q = 10 := by rw [hq, if_neg (by omega)]
  clear hq
  refine (callsIn_wide (n := 5)).1 ?_
  refine callsIn_of_wp_marks Tryz.func176 rfl trivial ?_ rfl
  simp only [Tryz.ntmps176, List.size_toArray, List.length_cons, List.length_nil, Nat.reduceAdd, Nat.reduceSub, Array.replicate_succ, Array.replicate_zero, List.push_toArray, List.append_toArray, List.nil_append, List.cons_append]
  gi_wp2_with fail
  refine ⟨trivial, ?_⟩
  refine (callsIn_wide.2 (right_yes (some ad) _ (a + cm) a _ (by omega) (by omega))).mono ?_
  rintro e w1 ⟨rfl, hb⟩
  have C1 := Lib.hid ((Cu.start w #[.slice (some ad) _ (a + cm), .int .i64 a, .int .i64 0] #[.slice none 0 0, .int .i64 0, .int .i64 0]).next hb)
  clear hb
  obtain ⟨k0, k1, k2, r0, r1, r2, f0, f1, f2, g0, g1, g2⟩ := C1.out.cells
  gi_wp2_with fail
  refine ⟨trivial, ?_⟩
  refine (callsIn_wide.2 (IndexFuncB_at (some ad') _ cm B _ _ (k : Int) HF.out (C1.out.reads HQR.out hB) (by omega))).mono ?_
  rintro e w2 ⟨rfl, rfl⟩
  obtain ⟨_, _, E, _, hy, hck⟩ := (C1.out.reads HQR.out hB).byte_at hkq
  cases E
  rw [HX.out] at hy
  cases hy
  gi_wp2_with fail
  refine ⟨trivial, ?_⟩
  refine (callsIn_wide.2 (Backward_c (some ad') (k + 1) cm _)).mono ?_
  rintro e w3 ⟨rfl, rfl⟩
  gi_wp2_with fail
  have bN := Boxed.new w1 253 (.int .u64 0)
  have bS := Boxed.new (w1.alloc (.cells #[.int .u64 0] 253)) 50 (.slice (some ad') (k + 1) cm)
  rw [World.size_alloc] at bS
  have hB0 : Below w1.heap.size w1 ((w1.alloc (.cells #[.int .u64 0] 253)).alloc (.cells #[.slice (some ad') (k + 1) cm] 50)) := ((Below.refl _ w1).alloc (Nat.le_refl _) _).alloc (by simp) _
  have hsB : B ≤ w1.heap.size := Nat.le_trans hB C1.out.size
  clear k0 k1 k2 r0 r1 r2 f0 f1 f2 g0 g1 g2
  refine wpIn_rangeFunc_ownF rfl (by omega) (gf := 259) (lb := #[.pointer (some ⟨w1.heap.size + 1, 0, none⟩)]) rfl trivial (enters_of Tryz.func259 (by kernel_rfl) rfl)
    (back_stops Fence.wide 4 trivial rfl (by omega) (w1.heap.size + 1) w1.heap.size (some ad') (k + 1) cm ((bs.drop a).take (k + 1)) (by omega) _ (by simp) (by simp; omega) bS.cell ((((C1.out.reads HQ1.out hB).more hsB)).below hB0)) kpB_t (kpB_b (by simp; omega) (by simp)) (Below.refl _ _) (fun _ => rfl)
    (fun pre W => (W.cell? ⟨w1.heap.size, 0, none⟩ = some (.int .u64 (accB pre : Int)) ∧ W.frozen? ⟨w1.heap.size, 0, none⟩ = false) ∧ Below w1.heap.size w1 W)
    (fun _ _ _ => False)
    (OwnFrom.and (Own.from (fun s A B row hs hg hr => ⟨cell_kept hs.1 hg hr, (frozen_kept hs.1 hg hr).trans hs.2⟩) _) (ownFrom_below (Nat.le_refl _) (by simp; omega)))
    (fun _ _ _ _ _ hs _ _ => hs)
    ⟨⟨(bN.alloc _).cell, (bN.alloc _).frozen⟩, hB0⟩
    ?a1 ?assign ?body ?done ?stop
  case assign =>
    intro l x W K hK
    unfold encB
    gi_wp2
    exact hK
  case body =>
    rintro l pre x' W ⟨⟨hc, hfz⟩, hB'⟩ hlt
    have hor := or_step (accB pre) x'.2.toNat (accB_lt pre)
    have hal := accB_lt pre
    gi_wp2
    have hsn : ((accB (pre ++ [x']) : Nat) : Int) = (accB pre : Int) * 128 % 18446744073709551616 + (x'.2.toNat : Int) % 128 := by rw [accB_snoc]; omega
    exact ⟨KeepsOthers.setCell _ _ _, ⟨(Below.refl _ W).setCell (p := ⟨w1.heap.size, 0, none⟩) (Nat.le_refl _) _, World.cell?_setCell_other W ⟨w1.heap.size, 0, none⟩ ⟨w1.heap.size + 1, 0, none⟩ _ (by simp)⟩, ⟨by rw [hsn]; exact World.cell?_setCell_same' _ _ _ (by rw [hc]; rfl), by rw [World.frozen?_setCell]; exact hfz⟩, hB'.setCell (p := ⟨w1.heap.size, 0, none⟩) (Nat.le_refl _) _⟩
  case done =>
    rintro D ys W hD rfl ⟨⟨hc, hfz⟩, hB'⟩ hK
    have C2 := Lib.hid (C1.out.next hB')
    obtain ⟨k0, k1, k2, r0, r1, r2, f0, f1, f2, g0, g1, g2⟩ := C2.out.cells
    have hg1 := C1.out.1.lt
    have hg2 := C1.out.2.1.lt
    have hD' : w1.heap.size + 2 ≤ D := by simpa using hD
    gi_wp2
    gi_region
    all_goals
      gi_wp2
      have hBR : Blk ((((W.setCell ⟨w.heap.size, 1, none⟩ (.int .i64 ((a : Int) + ((k : Int) + 1)))).setCell ⟨w.heap.size + 1, 0, none⟩ (.slice (some ad) (a + m) (a + cm))).setCell ⟨w.heap.size + 1, 1, none⟩ (.int .i64 ((a : Int) + ((k : Int) + 1)))).setCell ⟨w.heap.size + 1, 2, none⟩ (.int .i64 0)).drew (w.heap.size + 1) 252 #[.slice (some ad) (a + m) (a + cm), .int .i64 ((a : Int) + ((k : Int) + 1)), .int .i64 0] :=
        (((((C2.out.2.1.far (p := ⟨w.heap.size, 1, none⟩) (by simp) _).set_ 0 _).set_ 1 _).set_ 2 _).drew)
      have hBW : Below w.heap.size w ((((W.setCell ⟨w.heap.size, 1, none⟩ (.int .i64 ((a : Int) + ((k : Int) + 1)))).setCell ⟨w.heap.size + 1, 0, none⟩ (.slice (some ad) (a + m) (a + cm))).setCell ⟨w.heap.size + 1, 1, none⟩ (.int .i64 ((a : Int) + ((k : Int) + 1)))).setCell ⟨w.heap.size + 1, 2, none⟩ (.int .i64 0)).drew :=
        ((((C2.out.2.2.setCell (by simp) _).setCell (by simp) _).setCell (by simp) _).setCell (by simp) _).drew
      have hK' : ((((W.setCell ⟨w.heap.size, 1, none⟩ (.int .i64 ((a : Int) + ((k : Int) + 1)))).setCell ⟨w.heap.size + 1, 0, none⟩ (.slice (some ad) (a + m) (a + cm))).setCell ⟨w.heap.size + 1, 1, none⟩ (.int .i64 ((a : Int) + ((k : Int) + 1)))).setCell ⟨w.heap.size + 1, 2, none⟩ (.int .i64 0)).drew.heap[D]? = some (.deferred (some [])) :=
        (Below.heap_setCell _ _ _ D (by simp; omega)).trans ((Below.heap_setCell _ _ _ D (by simp; omega)).trans ((Below.heap_setCell _ _ _ D (by simp; omega)).trans ((Below.heap_setCell _ _ _ D (by simp; omega)).trans hK)))
      refine ⟨by simp, .inl ⟨_, _, rfl, run_takeDeferred hK', ?_⟩⟩
      generalize ((((W.setCell ⟨w.heap.size, 1, none⟩ (.int .i64 ((a : Int) + ((k : Int) + 1)))).setCell ⟨w.heap.size + 1, 0, none⟩ (.slice (some ad) (a + m) (a + cm))).setCell ⟨w.heap.size + 1, 1, none⟩ (.int .i64 ((a : Int) + ((k : Int) + 1)))).setCell ⟨w.heap.size + 1, 2, none⟩ (.int .i64 0)).drew = W4 at *
      have hBz := belowK_b (n₀ := w1.heap.size) (w := w1) (Nat.le_refl _) W4 D (.deferred (some [])) (.deferred none) (by omega) hK' rfl rfl
      have hBR2 := hBR.below hBz hg2
      have q0 := hBR2.cell 0
      have q1 := hBR2.cell 1
      have q2 := hBR2.cell 2
      simp only [List.getElem?_toArray, List.getElem?_cons_zero, List.getElem?_cons_succ] at q0 q1 q2
      refine ⟨.tuple #[.agg #[.slice (some ad) (a + m) (a + cm), .int .i64 ((a : Int) + ((k : Int) + 1)), .int .i64 0], .int .u64 ((accB (upto (backF (List.take (k + 1) (List.drop a bs)) (k + 1)) (k + 1)) : Nat) : Int)], ?_, ?_, hBW.trans (hBz.mono C1.out.size)⟩
      · simp [results, Tryz.results176, go_sem, q0, q1, q2]
      · rw [HACC.out]
  case stop =>
    rintro D c pre W _ _ h _
    exact h.elim
end
section
set_option maxRecDepth 100000
open Go.RowKit
theorem Uint_nil (A : Option Addr) (a cm : Nat) (w : World) (hcx : a + cm ≤ 9223372036854775807) : Calls Tryz.prog 176 #[.agg #[.slice A a (a + cm), .int .i64 (a : Int), .int .i64 0]] w fun e w' => e = .returned (.tuple #[.agg #[.slice A a (a + cm), .int .i64 (a : Int), .int .i64 10], .int .u64 0]) ∧ Below w.heap.size w w' := by
  by_cases hc : cm = 0
  · subst hc
    rw [Nat.add_zero]
    go_enter Tryz.func176, Tryz.ntmps176
    go_wp2_with fail
    refine (right_yes A a a a _ (by omega) (by omega)).mono ?_
    rintro e w1 ⟨rfl, hb⟩
    have C1 := Lib.hid ((Cu.start w #[.slice A a a, .int .i64 a, .int .i64 0] #[.slice none 0 0, .int .i64 0, .int .i64 0]).next hb)
    clear hb
    obtain ⟨k0, k1, k2, r0, r1, r2, f0, f1, f2, g0, g1, g2⟩ := C1.out.cells
    go_wp2_with fail
    refine (IndexFuncB_at _ 0 _ 0 [] _ (-1) rfl Reads.none_ (by omega)).mono ?_
    rintro e w2 ⟨rfl, rfl⟩
    go_wp2_with fail
    clear k0 k1 k2 r0 r1 r2 f0 f1 f2 g0 g1 g2
    refine (stay_ok A a a a 10 _).mono ?_
    rintro e w2 ⟨rfl, hb2⟩
    have C2 := Lib.hid (C1.out.next hb2)
    clear hb2
    obtain ⟨k0, k1, k2, r0, r1, r2, f0, f1, f2, g0, g1, g2⟩ := C2.out.cells
    go_wp2
    have hbe := C2.out.2.2
    exact bodyPost_ret (v := .tuple #[.agg #[.slice A a a, .int .i64 (a : Int), .int .i64 10], .int .u64 0]) (by simp [results, Tryz.results176, go_sem, r0, r1, r2]) rfl ⟨rfl, (by repeat (first | exact ((Below.refl _ _).alloc (Nat.le_refl _) _).alloc (by simp) _ | assumption | refine below_drewN ?_ _ | refine Below.setCell ?_ (by simp) _ | refine Below.drew ?_))⟩
  · rcases A with _ | ad
    · go_enter Tryz.func176, Tryz.ntmps176
      go_wp2_with fail
      refine (right_yes none a (a + cm) a _ (by omega) (by omega)).mono ?_
      rintro e w1 ⟨rfl, hb⟩
      have C1 := Lib.hid ((Cu.start w #[.slice none a (a + cm), .int .i64 a, .int .i64 0] #[.slice none 0 0, .int .i64 0, .int .i64 0]).next hb)
      clear hb
      obtain ⟨k0, k1, k2, r0, r1, r2, f0, f1, f2, g0, g1, g2⟩ := C1.out.cells
      go_wp2_with fail
      refine (IndexFuncB_at _ 0 _ 0 [] _ (-1) rfl Reads.none_ (by omega)).mono ?_
      rintro e w2 ⟨rfl, rfl⟩
      go_wp2_with fail
      clear k0 k1 k2 r0 r1 r2 f0 f1 f2 g0 g1 g2
      refine (stay_ok none a (a + cm) a 10 _).mono ?_
      rintro e w2 ⟨rfl, hb2⟩
      have C2 := Lib.hid (C1.out.next hb2)
      clear hb2
      obtain ⟨k0, k1, k2, r0, r1, r2, f0, f1, f2, g0, g1, g2⟩ := C2.out.cells
      go_wp2
      have hbe := C2.out.2.2
      exact bodyPost_ret (v := .tuple #[.agg #[.slice none a (a + cm), .int .i64 (a : Int), .int .i64 10], .int .u64 0]) (by simp [results, Tryz.results176, go_sem, r0, r1, r2]) rfl ⟨rfl, (by repeat (first | exact ((Below.refl _ _).alloc (Nat.le_refl _) _).alloc (by simp) _ | assumption | refine below_drewN ?_ _ | refine Below.setCell ?_ (by simp) _ | refine Below.drew ?_))⟩
    · go_enter Tryz.func176, Tryz.ntmps176
      go_wp2_with fail
      refine (right_yes (some ad) a (a + cm) a _ (by omega) (by omega)).mono ?_
      rintro e w1 ⟨rfl, hb⟩
      have C1 := Lib.hid ((Cu.start w #[.slice (some ad) a (a + cm), .int .i64 a, .int .i64 0] #[.slice none 0 0, .int .i64 0, .int .i64 0]).next hb)
      clear hb
      obtain ⟨k0, k1, k2, r0, r1, r2, f0, f1, f2, g0, g1, g2⟩ := C1.out.cells
      go_wp2_with fail
      refine (IndexFuncB_at _ 0 _ 0 [] _ (-1) rfl Reads.none_ (by omega)).mono ?_
      rintro e w2 ⟨rfl, rfl⟩
      go_wp2_with fail
      clear k0 k1 k2 r0 r1 r2 f0 f1 f2 g0 g1 g2
      refine (stay_ok (some ad) a (a + cm) a 10 _).mono ?_
      rintro e w2 ⟨rfl, hb2⟩
      have C2 := Lib.hid (C1.out.next hb2)
      clear hb2
      obtain ⟨k0, k1, k2, r0, r1, r2, f0, f1, f2, g0, g1, g2⟩ := C2.out.cells
      go_wp2
      have hbe := C2.out.2.2
      exact bodyPost_ret (v := .tuple #[.agg #[.slice (some ad) a (a + cm), .int .i64 (a : Int), .int .i64 10], .int .u64 0]) (by simp [results, Tryz.results176, go_sem, r0, r1, r2]) rfl ⟨rfl, (by repeat (first | exact ((Below.refl _ _).alloc (Nat.le_refl _) _).alloc (by simp) _ | assumption | refine below_drewN ?_ _ | refine Below.setCell ?_ (by simp) _ | refine Below.drew ?_))⟩
def uRes (bs : List UInt8) (at_ err : Int) : Int × Int × Nat :=
  if 0 ≤ at_ ∧ at_ ≤ (bs.length : Int) ∧ err = 0 then
    if (uread 0 (natB (bs.drop at_.toNat))).1 = 0 then (at_ + ((uread 0 (natB (bs.drop at_.toNat))).2.2 : Nat), 0, (uread 0 (natB (bs.drop at_.toNat))).2.1)
    else (at_, ((uread 0 (natB (bs.drop at_.toNat))).1 : Nat), 0)
  else (at_, if err = 0 then 1 else err, 0)
theorem uRes_err (bs : List UInt8) (at_ err : Int) (h : err ≠ 0) : uRes bs at_ err = (at_, err, 0) := by
  unfold uRes; rw [if_neg (by omega), if_neg h]
theorem uRes_arg (bs : List UInt8) (at_ : Int) (h : at_ < 0 ∨ (bs.length : Int) < at_) : uRes bs at_ 0 = (at_, 1, 0) := by
  unfold uRes; rw [if_neg (by omega), if_pos rfl]
theorem uRes_at (bs : List UInt8) (a : Nat) (h : a ≤ bs.length) : uRes bs (a : Int) 0 = if (uread 0 (natB (bs.drop a))).1 = 0 then ((a : Int) + ((uread 0 (natB (bs.drop a))).2.2 : Nat), 0, (uread 0 (natB (bs.drop a))).2.1) else ((a : Int), (((uread 0 (natB (bs.drop a))).1 : Nat) : Int), 0) := by
  unfold uRes; rw [if_pos (by omega), Int.toNat_natCast]
theorem natB_getElem? (l : List UInt8) (j : Nat) : (natB l)[j]? = l[j]?.map UInt8.toNat := by simp [natB]
theorem Uint_c (A : Option Addr) (n c : Nat) (at_ err : Int) (bs : List UInt8) (B : Nat) (w : World) (hr : Reads w B 1 A n (byteCells bs)) (hB : B ≤ w.heap.size) (hnc : n ≤ c) (hcm : c ≤ 9223372036854775807) (hn : n ≤ 10000) :
    Calls Tryz.prog 176 #[.agg #[.slice A n c, .int .i64 at_, .int .i64 err]] w fun e w' => e = .returned (.tuple #[.agg #[.slice A n c, .int .i64 (uRes bs at_ err).1, .int .i64 (uRes bs at_ err).2.1], .int .u64 ((uRes bs at_ err).2.2 : Int)]) ∧ Below w.heap.size w w' := by
  have hl := hr.lenB
  by_cases he : err = 0
  · subst he
    by_cases h0 : at_ < 0 ∨ (n : Int) < at_
    · rw [uRes_arg bs at_ (by omega)]
      exact Uint_arg0 A n c at_ w h0
    · obtain ⟨a, rfl⟩ : ∃ a : Nat, at_ = (a : Int) := ⟨at_.toNat, by omega⟩
      obtain ⟨m, rfl⟩ : ∃ m, n = a + m := ⟨n - a, by omega⟩
      obtain ⟨cm, rfl⟩ : ∃ cm, c = a + cm := ⟨c - a, by omega⟩
      rw [uRes_at bs a (by omega)]
      by_cases hm0 : m = 0
      · subst hm0
        have hnil : bs.drop a = [] := List.drop_eq_nil_iff.2 (by omega)
        rw [hnil]
        exact Uint_nil A a cm w hcm
      · obtain ⟨ad, rfl, _⟩ := hr.2 (by omega)
        obtain ⟨q, hq⟩ : ∃ q, q = if m < 10 then m else 10 := ⟨_, rfl⟩
        have hqm : q ≤ m := by rw [hq]; split <;> omega
        have hq10 : q ≤ 10 := by rw [hq]; split <;> omega
        have hld : (bs.drop a).length = m := by rw [List.length_drop]; omega
        have hlq : ((bs.drop a).take q).length = q := by rw [List.length_take, hld, Nat.min_eq_left hqm]
        by_cases hnone : firstIdx lowB ((bs.drop a).take q) = -1
        · have hall : ∀ (j : Nat) x, j < q → (natB (bs.drop a))[j]? = some x → 128 ≤ x := by
            intro j x hj hx
            rw [natB_getElem?, Option.map_eq_some_iff] at hx
            obtain ⟨y, hy, rfl⟩ := hx
            have hg := firstIdx_any lowB ((bs.drop a).take q)
            rw [hnone] at hg
            have hlo : lowB y = false := by
              have h1 : ((bs.drop a).take q).any lowB = false := hg.symm
              rw [List.any_eq_false] at h1
              have h2 := h1 y (List.mem_of_getElem? (i := j) (by rw [List.getElem?_take, if_pos hj]; exact hy))
              simpa using h2
            unfold lowB at hlo
            simpa using hlo
          by_cases h10 : m < 10
          · have hqe : q = m := by rw [hq, if_pos h10]
            rw [uread_short (natB (bs.drop a)) 0 (fun x hx => by
              obtain ⟨j, hj, e⟩ := List.mem_iff_getElem.1 hx
              exact hall j x (by rw [natB_length, hld] at hj; omega) (by rw [List.getElem?_eq_getElem hj, e])) (by rw [natB_length, hld]; omega)]
            exact Uint_short ad a m cm bs B w hr hB (by omega) (by omega) (by omega) hcm q hq h10 hnone
          · have hqe : q = 10 := by rw [hq, if_neg h10]
            rw [uread_long (natB (bs.drop a)) 0 (by omega) (fun j x hj hx => hall j x (by omega) hx) (by rw [natB_length, hld]; omega)]
            exact Uint_long ad a m cm bs B w hr hB (by omega) (by omega) (by omega) hcm q hq (by omega) hnone
        · obtain ⟨k, hk⟩ : ∃ k : Nat, firstIdx lowB ((bs.drop a).take q) = (k : Int) := ⟨(firstIdx lowB ((bs.drop a).take q)).toNat, by have := firstIdx_ge lowB ((bs.drop a).take q); omega⟩
          obtain ⟨x, hx, hxl, hbef⟩ := firstIdx_at lowB _ k hk
          have hkq : k < q := by have h := (List.getElem?_eq_some_iff.1 hx).1; rw [hlq] at h; exact h
          have hx1 : (bs.drop a)[k]? = some x := by rw [List.getElem?_take, if_pos hkq] at hx; exact hx
          have hx2 : bs[a + k]? = some x := by rw [List.getElem?_drop] at hx1; exact hx1
          have hx128 : x.toNat < 128 := by unfold lowB at hxl; simpa using hxl
          have hu := uread_hit (natB (bs.drop a)) (natB_lt _) 0 k x.toNat (by omega) (fun j y hj hy => by
            rw [natB_getElem?, Option.map_eq_some_iff] at hy
            obtain ⟨z, hz, rfl⟩ := hy
            have h1 := hbef j z hj (by rw [List.getElem?_take, if_pos (by omega)]; exact hz)
            unfold lowB at h1
            simpa using h1) (by rw [natB_getElem?, hx1]; rfl) hx128
          rw [Nat.zero_add] at hu
          by_cases hf : (k = 9 ∧ 1 < x.toNat) ∨ (0 < k ∧ x.toNat = 0)
          · rw [hu, if_pos hf]
            exact Uint_form ad a m cm bs B w hr hB (by omega) (by omega) (by omega) hcm q hq k x hkq hx2 hk hf
          · rw [hu, if_neg hf, ← natB_take]
            rcases (by omega : m < 10 ∨ m = 10 ∨ 10 < m) with h10 | h10 | h10
            · have hq9 : q = m := by rw [hq, if_pos h10]
              by_cases hk0 : k = 0
              · exact Uint_ltz ad a m cm bs B w hr hB (by omega) (by omega) (by omega) hcm q hq h10 k x hk0 hkq hx2 hk hf
              · exact Uint_ltp ad a m cm bs B w hr hB (by omega) (by omega) (by omega) hcm q hq h10 k x (by omega) (by omega) hkq hx2 hk hf
            · by_cases hk0 : k = 0
              · exact Uint_eqz ad a m cm bs B w hr hB (by omega) (by omega) (by omega) hcm q hq h10 k x hk0 hkq hx2 hk hf
              · by_cases hk9 : k = 9
                · exact Uint_eqn ad a m cm bs B w hr hB (by omega) (by omega) (by omega) hcm q hq h10 k x hk9 hkq hx2 hk hf
                · exact Uint_eqp ad a m cm bs B w hr hB (by omega) (by omega) (by omega) hcm q hq h10 k x (by omega) hk9 hkq hx2 hk hf
            · by_cases hk0 : k = 0
              · exact Uint_gtz ad a m cm bs B w hr hB (by omega) (by omega) (by omega) hcm q hq h10 k x hk0 hkq hx2 hk hf
              · by_cases hk9 : k = 9
                · exact Uint_gtn ad a m cm bs B w hr hB (by omega) (by omega) (by omega) hcm q hq h10 k x hk9 hkq hx2 hk hf
                · exact Uint_gtp ad a m cm bs B w hr hB (by omega) (by omega) (by omega) hcm q hq h10 k x (by omega) hk9 hkq hx2 hk hf
  · rw [uRes_err bs at_ err he]
    exact Uint_err A n c at_ err w he
end
section
set_option maxRecDepth 100000
open Go.RowKit
def upRes (bs : List UInt8) (at_ err : Int) (most : Nat) : Int × Int × Nat :=
  if most < (uRes bs at_ err).2.2 then ((uRes bs at_ err).1, 11, 0) else uRes bs at_ err
theorem upRes_le (bs : List UInt8) (at_ err : Int) (most : Nat) : (upRes bs at_ err most).2.2 ≤ most := by
  unfold upRes
  by_cases h : most < (uRes bs at_ err).2.2
  · rw [if_pos h]; exact Nat.zero_le _
  · rw [if_neg h]; omega
theorem res_up {W : World} {g : Nat} {x0 x1 x2 u : Value} (h : Blk W g 252 #[x0, x1, x2]) (tmps : Array Value) (ht : tmps[4]?.getD undef = .pointer (some ⟨g, 0, none⟩)) (hu : tmps[5]?.getD undef = u) : (results Tryz.f260 tmps).run Tryz.prog W = .ok (.tuple #[.agg #[x0, x1, x2], u]) W := by
  have c0 : W.cell? ⟨g, 0, none⟩ = some x0 := h.cell 0
  have c1 : W.cell? ⟨g, 1, none⟩ = some x1 := h.cell 1
  have c2 : W.cell? ⟨g, 2, none⟩ = some x2 := h.cell 2
  simp [results, Tryz.results260, go_sem, ht, hu, c0, c1, c2]
set_option maxHeartbeats 2000000 in
theorem upTo_c (A : Option Addr) (n c : Nat) (at_ err : Int) (bs : List UInt8) (B : Nat) (w : World) (hr : Reads w B 1 A n (byteCells bs)) (hB : B ≤ w.heap.size) (hnc : n ≤ c) (hcm : c ≤ 9223372036854775807) (hn : n ≤ 10000) (most : Nat) (hm : most ≤ 1099511627776) :
    Calls Tryz.prog 260 #[.agg #[.slice A n c, .int .i64 at_, .int .i64 err], .int .u64 (most : Int)] w fun e w' => e = .returned (.tuple #[.agg #[.slice A n c, .int .i64 (upRes bs at_ err most).1, .int .i64 (upRes bs at_ err most).2.1], .int .i64 ((upRes bs at_ err most).2.2 : Int)]) ∧ Below w.heap.size w w' := by
  have hX : XOk [] w := fun _ h => by cases h
  have HU := fun W => Lib.hid (Uint_c A n c at_ err bs B W)
  have HE := Lib.hid (show upRes bs at_ err most = if most < (uRes bs at_ err).2.2 then ((uRes bs at_ err).1, 11, 0) else uRes bs at_ err from rfl)
  have HR := Lib.hid hr
  generalize upRes bs at_ err most = r at HE ⊢
  generalize uRes bs at_ err = u at HU HE
  obtain ⟨x, y, v⟩ := u
  simp only at HU HE
  clear hr
  have HK1 := Lib.hid (show Held w [] [] ((w.alloc (.cells #[.slice A n c, .int .i64 at_, .int .i64 err] 252)).alloc (.cells #[.slice none 0 0, .int .i64 0, .int .i64 0] 252)) [.box (w.heap.size + 1) 252 #[.slice none 0 0, .int .i64 0, .int .i64 0], .box (w.heap.size) 252 #[.slice A n c, .int .i64 at_, .int .i64 err]] [] from (((Held.start w hX).alloc_at 252 #[.slice A n c, .int .i64 at_, .int .i64 err] (w.heap.size) (by simp)).alloc_at 252 #[.slice none 0 0, .int .i64 0, .int .i64 0] (w.heap.size + 1) (by simp)))
  by_cases hv : most < v
  · skip
    rw [if_pos hv] at HE
    have HE' := HE.out
    subst HE'
    clear HE
    have hv2 : (most : Int) < (v : Int) := by omega
    go_enter Tryz.func260, Tryz.ntmps260
    go_wp2_with fail
    with_reducible refine ((HU _).out (HR.out.below (HK1.out.below.mono hB)) (Nat.le_trans hB HK1.out.size) hnc hcm hn).mono ?_
    rintro e w1 ⟨rfl, hb1⟩
    have HK2 := Lib.hid (show Held w [] [] w1 [.box (w.heap.size + 1) 252 #[.slice none 0 0, .int .i64 0, .int .i64 0], .box (w.heap.size) 252 #[.slice A n c, .int .i64 at_, .int .i64 err]] [] from (HK1.out.on hb1))
    clear HK1
    clear hb1
    have c_c_0_3 : w1.cell? ⟨w.heap.size, 0, none⟩ = some (.slice A n c) := HK2.out.cell 1 rfl 0
    have z_c_0_4 : w1.frozen? ⟨w.heap.size, 0, none⟩ = false := HK2.out.frozen 1 rfl 0
    have c_c_1_5 : w1.cell? ⟨w.heap.size, 1, none⟩ = some (.int .i64 at_) := HK2.out.cell 1 rfl 1
    have z_c_1_6 : w1.frozen? ⟨w.heap.size, 1, none⟩ = false := HK2.out.frozen 1 rfl 1
    have c_c_2_7 : w1.cell? ⟨w.heap.size, 2, none⟩ = some (.int .i64 err) := HK2.out.cell 1 rfl 2
    have z_c_2_8 : w1.frozen? ⟨w.heap.size, 2, none⟩ = false := HK2.out.frozen 1 rfl 2
    have c_r_0_9 : w1.cell? ⟨w.heap.size + 1, 0, none⟩ = some (.slice none 0 0) := HK2.out.cell 0 rfl 0
    have z_r_0_10 : w1.frozen? ⟨w.heap.size + 1, 0, none⟩ = false := HK2.out.frozen 0 rfl 0
    have c_r_1_11 : w1.cell? ⟨w.heap.size + 1, 1, none⟩ = some (.int .i64 0) := HK2.out.cell 0 rfl 1
    have z_r_1_12 : w1.frozen? ⟨w.heap.size + 1, 1, none⟩ = false := HK2.out.frozen 0 rfl 1
    have c_r_2_13 : w1.cell? ⟨w.heap.size + 1, 2, none⟩ = some (.int .i64 0) := HK2.out.cell 0 rfl 2
    have z_r_2_14 : w1.frozen? ⟨w.heap.size + 1, 2, none⟩ = false := HK2.out.frozen 0 rfl 2
    go_upto_region 3 with (fail)
    clear c_c_0_3 z_c_0_4 c_c_1_5 z_c_1_6 c_c_2_7 z_c_2_8 c_r_0_9 z_r_0_10 c_r_1_11 z_r_1_12 c_r_2_13 z_r_2_14
    have HK15 := Lib.hid (show Held w [] [] (((w1.setCell ⟨w.heap.size, 0, none⟩ (.slice A n c)).setCell ⟨w.heap.size, 1, none⟩ (.int .i64 x)).setCell ⟨w.heap.size, 2, none⟩ (.int .i64 y)) [.box (w.heap.size + 1) 252 #[.slice none 0 0, .int .i64 0, .int .i64 0], .box (w.heap.size) 252 #[.slice A n c, .int .i64 x, .int .i64 y]] [] from (((HK2.out.set_ 1 rfl 0 (.slice A n c)).set_ 1 rfl 1 (.int .i64 x)).set_ 1 rfl 2 (.int .i64 y)))
    clear HK2
    generalize ((w1.setCell ⟨w.heap.size, 0, none⟩ (.slice A n c)).setCell ⟨w.heap.size, 1, none⟩ (.int .i64 x)).setCell ⟨w.heap.size, 2, none⟩ (.int .i64 y) = w2 at HK15 ⊢
    have c_c_0_16 : w2.cell? ⟨w.heap.size, 0, none⟩ = some (.slice A n c) := HK15.out.cell 1 rfl 0
    have z_c_0_17 : w2.frozen? ⟨w.heap.size, 0, none⟩ = false := HK15.out.frozen 1 rfl 0
    have c_c_1_18 : w2.cell? ⟨w.heap.size, 1, none⟩ = some (.int .i64 x) := HK15.out.cell 1 rfl 1
    have z_c_1_19 : w2.frozen? ⟨w.heap.size, 1, none⟩ = false := HK15.out.frozen 1 rfl 1
    have c_c_2_20 : w2.cell? ⟨w.heap.size, 2, none⟩ = some (.int .i64 y) := HK15.out.cell 1 rfl 2
    have z_c_2_21 : w2.frozen? ⟨w.heap.size, 2, none⟩ = false := HK15.out.frozen 1 rfl 2
    have c_r_0_22 : w2.cell? ⟨w.heap.size + 1, 0, none⟩ = some (.slice none 0 0) := HK15.out.cell 0 rfl 0
    have z_r_0_23 : w2.frozen? ⟨w.heap.size + 1, 0, none⟩ = false := HK15.out.frozen 0 rfl 0
    have c_r_1_24 : w2.cell? ⟨w.heap.size + 1, 1, none⟩ = some (.int .i64 0) := HK15.out.cell 0 rfl 1
    have z_r_1_25 : w2.frozen? ⟨w.heap.size + 1, 1, none⟩ = false := HK15.out.frozen 0 rfl 1
    have c_r_2_26 : w2.cell? ⟨w.heap.size + 1, 2, none⟩ = some (.int .i64 0) := HK15.out.cell 0 rfl 2
    have z_r_2_27 : w2.frozen? ⟨w.heap.size + 1, 2, none⟩ = false := HK15.out.frozen 0 rfl 2
    go_wp2
    clear c_c_0_16 z_c_0_17 c_c_1_18 z_c_1_19 c_c_2_20 z_c_2_21 c_r_0_22 z_r_0_23 c_r_1_24 z_r_1_25 c_r_2_26 z_r_2_27
    have HK28 := Lib.hid (show Held w [] [] (w2.setCell ⟨w.heap.size, 2, none⟩ (.int .i64 11)) [.box (w.heap.size + 1) 252 #[.slice none 0 0, .int .i64 0, .int .i64 0], .box (w.heap.size) 252 #[.slice A n c, .int .i64 x, .int .i64 11]] [] from HK15.out.set_ 1 rfl 2 (.int .i64 11))
    clear HK15
    have HK29 := Lib.hid (show Held w [] [] ((((w2.setCell ⟨w.heap.size, 2, none⟩ (.int .i64 11)).setCell ⟨w.heap.size + 1, 0, none⟩ (.slice A n c)).setCell ⟨w.heap.size + 1, 1, none⟩ (.int .i64 x)).setCell ⟨w.heap.size + 1, 2, none⟩ (.int .i64 11)) [.box (w.heap.size + 1) 252 #[.slice A n c, .int .i64 x, .int .i64 11], .box (w.heap.size) 252 #[.slice A n c, .int .i64 x, .int .i64 11]] [] from (((HK28.out.set_ 0 rfl 0 (.slice A n c)).set_ 0 rfl 1 (.int .i64 x)).set_ 0 rfl 2 (.int .i64 11)))
    clear HK28
    exact bodyPost_ret (res_up (HK29.out.blk 0 rfl) _ rfl rfl) rfl ⟨rfl, HK29.out.below⟩
  · skip
    rw [if_neg hv] at HE
    have HE' := HE.out
    subst HE'
    clear HE
    have hv2 : ¬ (most : Int) < (v : Int) := by omega
    have hv3 : (v : Int) ≤ (most : Int) := by omega
    have hw : IntKind.i64.wrap (v : Int) = (v : Int) := IntWalk.i64_in _ (by omega)
    go_enter Tryz.func260, Tryz.ntmps260
    go_wp2_with fail
    with_reducible refine ((HU _).out (HR.out.below (HK1.out.below.mono hB)) (Nat.le_trans hB HK1.out.size) hnc hcm hn).mono ?_
    rintro e w1 ⟨rfl, hb1⟩
    have HK2 := Lib.hid (show Held w [] [] w1 [.box (w.heap.size + 1) 252 #[.slice none 0 0, .int .i64 0, .int .i64 0], .box (w.heap.size) 252 #[.slice A n c, .int .i64 at_, .int .i64 err]] [] from (HK1.out.on hb1))
    clear HK1
    clear hb1
    have c_c_0_3 : w1.cell? ⟨w.heap.size, 0, none⟩ = some (.slice A n c) := HK2.out.cell 1 rfl 0
    have z_c_0_4 : w1.frozen? ⟨w.heap.size, 0, none⟩ = false := HK2.out.frozen 1 rfl 0
    have c_c_1_5 : w1.cell? ⟨w.heap.size, 1, none⟩ = some (.int .i64 at_) := HK2.out.cell 1 rfl 1
    have z_c_1_6 : w1.frozen? ⟨w.heap.size, 1, none⟩ = false := HK2.out.frozen 1 rfl 1
    have c_c_2_7 : w1.cell? ⟨w.heap.size, 2, none⟩ = some (.int .i64 err) := HK2.out.cell 1 rfl 2
    have z_c_2_8 : w1.frozen? ⟨w.heap.size, 2, none⟩ = false := HK2.out.frozen 1 rfl 2
    have c_r_0_9 : w1.cell? ⟨w.heap.size + 1, 0, none⟩ = some (.slice none 0 0) := HK2.out.cell 0 rfl 0
    have z_r_0_10 : w1.frozen? ⟨w.heap.size + 1, 0, none⟩ = false := HK2.out.frozen 0 rfl 0
    have c_r_1_11 : w1.cell? ⟨w.heap.size + 1, 1, none⟩ = some (.int .i64 0) := HK2.out.cell 0 rfl 1
    have z_r_1_12 : w1.frozen? ⟨w.heap.size + 1, 1, none⟩ = false := HK2.out.frozen 0 rfl 1
    have c_r_2_13 : w1.cell? ⟨w.heap.size + 1, 2, none⟩ = some (.int .i64 0) := HK2.out.cell 0 rfl 2
    have z_r_2_14 : w1.frozen? ⟨w.heap.size + 1, 2, none⟩ = false := HK2.out.frozen 0 rfl 2
    go_wp2
    clear c_c_0_3 z_c_0_4 c_c_1_5 z_c_1_6 c_c_2_7 z_c_2_8 c_r_0_9 z_r_0_10 c_r_1_11 z_r_1_12 c_r_2_13 z_r_2_14
    have HK15 := Lib.hid (show Held w [] [] (((w1.setCell ⟨w.heap.size, 0, none⟩ (.slice A n c)).setCell ⟨w.heap.size, 1, none⟩ (.int .i64 x)).setCell ⟨w.heap.size, 2, none⟩ (.int .i64 y)) [.box (w.heap.size + 1) 252 #[.slice none 0 0, .int .i64 0, .int .i64 0], .box (w.heap.size) 252 #[.slice A n c, .int .i64 x, .int .i64 y]] [] from (((HK2.out.set_ 1 rfl 0 (.slice A n c)).set_ 1 rfl 1 (.int .i64 x)).set_ 1 rfl 2 (.int .i64 y)))
    clear HK2
    have HK16 := Lib.hid (show Held w [] [] ((((((w1.setCell ⟨w.heap.size, 0, none⟩ (.slice A n c)).setCell ⟨w.heap.size, 1, none⟩ (.int .i64 x)).setCell ⟨w.heap.size, 2, none⟩ (.int .i64 y)).setCell ⟨w.heap.size + 1, 0, none⟩ (.slice A n c)).setCell ⟨w.heap.size + 1, 1, none⟩ (.int .i64 x)).setCell ⟨w.heap.size + 1, 2, none⟩ (.int .i64 y)) [.box (w.heap.size + 1) 252 #[.slice A n c, .int .i64 x, .int .i64 y], .box (w.heap.size) 252 #[.slice A n c, .int .i64 x, .int .i64 y]] [] from (((HK15.out.set_ 0 rfl 0 (.slice A n c)).set_ 0 rfl 1 (.int .i64 x)).set_ 0 rfl 2 (.int .i64 y)))
    clear HK15
    exact bodyPost_ret (res_up (HK16.out.blk 0 rfl) _ rfl rfl) rfl ⟨rfl, HK16.out.below⟩
end
section
set_option maxRecDepth 100000
open Go.RowKit
theorem uRes_lt (bs : List UInt8) (at_ err : Int) : (uRes bs at_ err).2.2 < 18446744073709551616 := by
  unfold uRes
  split
  · split
    · rename_i h
      have hb := uread_back (natB (bs.drop at_.toNat)) (natB_lt _) 0 (uread 0 (natB (bs.drop at_.toNat))).2.1 (uread 0 (natB (bs.drop at_.toNat))).2.2 (by omega) (Prod.ext h rfl)
      simpa using hb.2.2.1
    · simp
  · simp
theorem Cu.set {w W : World} {a b c a' b' c' : Value} {rs : Array Value} (h : Cu w W #[a, b, c] rs) : Cu w (((W.setCell ⟨w.heap.size, 0, none⟩ a').setCell ⟨w.heap.size, 1, none⟩ b').setCell ⟨w.heap.size, 2, none⟩ c') #[a', b', c'] rs :=
  ⟨((h.1.set_ 0 a').set_ 1 b').set_ 2 c', ((h.2.1.far (by simp) _).far (by simp) _).far (by simp) _, ((h.2.2.setCell (by simp) _).setCell (by simp) _).setCell (by simp) _⟩
end
section
set_option maxRecDepth 100000
open Go.RowKit
set_option maxRecDepth 100000 in
theorem Take_some (ad : Addr) (a m cm k : Nat) (bs : List UInt8) (B : Nat) (w : World) (hr : Reads w B 1 (some ad) (a + m) (byteCells bs)) (hB : B ≤ w.heap.size) (hmc : m ≤ cm) (hcx : a + cm ≤ 9223372036854775807) (hk : 0 < k) (hkm : k ≤ m) : Calls Tryz.prog 278 #[.agg #[.slice (some ad) (a + m) (a + cm), .int .i64 (a : Int), .int .i64 0], .int .i64 k] w fun e w' => e = .returned (.tuple #[.agg #[.slice (some ad) (a + m) (a + cm), .int .i64 ((a : Int) + (k : Int)), .int .i64 0], .slice (some (ad.add a)) k k]) ∧ Below w.heap.size w w' := by
  have j1 : (a : Int) + (k : Int) ≤ (a : Int) + (cm : Int) := by omega
  have j2 : (0 : Int) ≤ (a : Int) + (k : Int) := by omega
  have j3 : ((a : Int) + (k : Int)).toNat = a + k := by omega
  have j4 : a + k - a = k := by omega
  have j5 : ¬ k = 0 := by omega
  have j6 : (a : Int) ≤ (a : Int) + (k : Int) := by omega
  go_enter Tryz.func278, Tryz.ntmps278
  go_wp2_with fail
  refine (right_yes (some ad) _ (a + cm) a _ (by omega) (by omega)).mono ?_
  rintro e w1 ⟨rfl, hb⟩
  have C1 := Lib.hid ((Cu.start w #[.slice (some ad) _ (a + cm), .int .i64 a, .int .i64 0] #[.slice none 0 0, .int .i64 0, .int .i64 0]).next hb)
  clear hb
  obtain ⟨k0, k1, k2, r0, r1, r2, f0, f1, f2, g0, g1, g2⟩ := C1.out.cells
  go_wp2_with fail
  clear k0 k1 k2 r0 r1 r2 f0 f1 f2 g0 g1 g2
  refine (Left_yes (some ad) _ (a + cm) a _ (by omega) (by omega) (by omega)).mono ?_
  rintro e w2 ⟨rfl, hb⟩
  have C2 := Lib.hid (C1.out.next hb)
  clear hb
  obtain ⟨k0, k1, k2, r0, r1, r2, f0, f1, f2, g0, g1, g2⟩ := C2.out.cells
  have hk1 : (((a + m : Nat) : Int)) - (a : Int) = (m : Int) := by omega
  have hk2 : decide ((m : Int) < (k : Int)) = false := by simp; omega
  have hk3 : decide ((k : Int) < 0) = false := by simp
  go_wp2
  clear k0 k1 k2 r0 r1 r2 f0 f1 f2 g0 g1 g2
  have C3 := Lib.hid (show Cu w (w2.setCell ⟨w.heap.size, 1, none⟩ (.int .i64 ((a : Int) + (k : Int)))) #[.slice (some ad) (a + m) (a + cm), .int .i64 ((a : Int) + (k : Int)), .int .i64 0] #[.slice none 0 0, .int .i64 0, .int .i64 0] from ⟨C2.out.1.set_ 1 _, C2.out.2.1.far (by simp) _, C2.out.2.2.setCell (by simp) _⟩)
  generalize w2.setCell ⟨w.heap.size, 1, none⟩ (.int .i64 ((a : Int) + (k : Int))) = w3 at *
  obtain ⟨k0, k1, k2, r0, r1, r2, f0, f1, f2, g0, g1, g2⟩ := C3.out.cells
  go_region_held3 (fun w' => w'.cell? ⟨w.heap.size, 0, none⟩ = some (.slice (some ad) (a + m) (a + cm)) ∧ w'.cell? ⟨w.heap.size, 1, none⟩ = some (.int .i64 ((a : Int) + (k : Int))) ∧ w'.cell? ⟨w.heap.size, 2, none⟩ = some (.int .i64 0)) (go_keep) (fail)
  go_wp2
  have hbe := C3.out.2.2
  exact bodyPost_ret (v := .tuple #[.agg #[.slice (some ad) (a + m) (a + cm), .int .i64 ((a : Int) + (k : Int)), .int .i64 0], .slice (some (ad.add a)) k k]) (by simp [results, Tryz.results278, go_sem, r0, r1, r2]) rfl ⟨rfl, (by repeat (first | refine Below.setCell ?_ (by simp) _ | refine Below.drew ?_ | refine below_drewN ?_ _ | exact hbe))⟩
set_option maxRecDepth 100000 in
theorem Take_zero (A : Option Addr) (a m cm : Nat) (bs : List UInt8) (B : Nat) (w : World) (hr : Reads w B 1 A (a + m) (byteCells bs)) (hB : B ≤ w.heap.size) (hmc : m ≤ cm) (hcx : a + cm ≤ 9223372036854775807) : Calls Tryz.prog 278 #[.agg #[.slice A (a + m) (a + cm), .int .i64 (a : Int), .int .i64 0], .int .i64 0] w fun e w' => e = .returned (.tuple #[.agg #[.slice A (a + m) (a + cm), .int .i64 (a : Int), .int .i64 0], .slice A 0 0]) ∧ Below w.heap.size w w' := by
  have j1 : (a : Int) ≤ (a : Int) + (cm : Int) := by omega
  rcases A with _ | ad
  · go_enter Tryz.func278, Tryz.ntmps278
    go_wp2_with fail
    refine (right_yes none _ (a + cm) a _ (by omega) (by omega)).mono ?_
    rintro e w1 ⟨rfl, hb⟩
    have C1 := Lib.hid ((Cu.start w #[.slice none _ (a + cm), .int .i64 a, .int .i64 0] #[.slice none 0 0, .int .i64 0, .int .i64 0]).next hb)
    clear hb
    obtain ⟨k0, k1, k2, r0, r1, r2, f0, f1, f2, g0, g1, g2⟩ := C1.out.cells
    go_wp2_with fail
    clear k0 k1 k2 r0 r1 r2 f0 f1 f2 g0 g1 g2
    refine (Left_yes none _ (a + cm) a _ (by omega) (by omega) (by omega)).mono ?_
    rintro e w2 ⟨rfl, hb⟩
    have C2 := Lib.hid (C1.out.next hb)
    clear hb
    obtain ⟨k0, k1, k2, r0, r1, r2, f0, f1, f2, g0, g1, g2⟩ := C2.out.cells
    have hk1 : (((a + m : Nat) : Int)) - (a : Int) = (m : Int) := by omega
    have hk2 : decide ((m : Int) < 0) = false := by simp
    go_wp2
    clear k0 k1 k2 r0 r1 r2 f0 f1 f2 g0 g1 g2
    have C3 := Lib.hid (show Cu w (w2.setCell ⟨w.heap.size, 1, none⟩ (.int .i64 (a : Int))) #[.slice none (a + m) (a + cm), .int .i64 (a : Int), .int .i64 0] #[.slice none 0 0, .int .i64 0, .int .i64 0] from ⟨C2.out.1.set_ 1 _, C2.out.2.1.far (by simp) _, C2.out.2.2.setCell (by simp) _⟩)
    generalize w2.setCell ⟨w.heap.size, 1, none⟩ (.int .i64 (a : Int)) = w3 at *
    obtain ⟨k0, k1, k2, r0, r1, r2, f0, f1, f2, g0, g1, g2⟩ := C3.out.cells
    go_region_held3 (fun w' => w'.cell? ⟨w.heap.size, 0, none⟩ = some (.slice none (a + m) (a + cm)) ∧ w'.cell? ⟨w.heap.size, 1, none⟩ = some (.int .i64 (a : Int)) ∧ w'.cell? ⟨w.heap.size, 2, none⟩ = some (.int .i64 0)) (go_keep) (fail)
    go_wp2
    have hbe := C3.out.2.2
    exact bodyPost_ret (v := .tuple #[.agg #[.slice none (a + m) (a + cm), .int .i64 (a : Int), .int .i64 0], .slice none 0 0]) (by simp [results, Tryz.results278, go_sem, r0, r1, r2]) rfl ⟨rfl, (by repeat (first | refine Below.setCell ?_ (by simp) _ | refine Below.drew ?_ | refine below_drewN ?_ _ | exact hbe))⟩
  · go_enter Tryz.func278, Tryz.ntmps278
    go_wp2_with fail
    refine (right_yes (some ad) _ (a + cm) a _ (by omega) (by omega)).mono ?_
    rintro e w1 ⟨rfl, hb⟩
    have C1 := Lib.hid ((Cu.start w #[.slice (some ad) _ (a + cm), .int .i64 a, .int .i64 0] #[.slice none 0 0, .int .i64 0, .int .i64 0]).next hb)
    clear hb
    obtain ⟨k0, k1, k2, r0, r1, r2, f0, f1, f2, g0, g1, g2⟩ := C1.out.cells
    go_wp2_with fail
    clear k0 k1 k2 r0 r1 r2 f0 f1 f2 g0 g1 g2
    refine (Left_yes (some ad) _ (a + cm) a _ (by omega) (by omega) (by omega)).mono ?_
    rintro e w2 ⟨rfl, hb⟩
    have C2 := Lib.hid (C1.out.next hb)
    clear hb
    obtain ⟨k0, k1, k2, r0, r1, r2, f0, f1, f2, g0, g1, g2⟩ := C2.out.cells
    have hk1 : (((a + m : Nat) : Int)) - (a : Int) = (m : Int) := by omega
    have hk2 : decide ((m : Int) < 0) = false := by simp
    go_wp2
    clear k0 k1 k2 r0 r1 r2 f0 f1 f2 g0 g1 g2
    have C3 := Lib.hid (show Cu w (w2.setCell ⟨w.heap.size, 1, none⟩ (.int .i64 (a : Int))) #[.slice (some ad) (a + m) (a + cm), .int .i64 (a : Int), .int .i64 0] #[.slice none 0 0, .int .i64 0, .int .i64 0] from ⟨C2.out.1.set_ 1 _, C2.out.2.1.far (by simp) _, C2.out.2.2.setCell (by simp) _⟩)
    generalize w2.setCell ⟨w.heap.size, 1, none⟩ (.int .i64 (a : Int)) = w3 at *
    obtain ⟨k0, k1, k2, r0, r1, r2, f0, f1, f2, g0, g1, g2⟩ := C3.out.cells
    go_region_held3 (fun w' => w'.cell? ⟨w.heap.size, 0, none⟩ = some (.slice (some ad) (a + m) (a + cm)) ∧ w'.cell? ⟨w.heap.size, 1, none⟩ = some (.int .i64 (a : Int)) ∧ w'.cell? ⟨w.heap.size, 2, none⟩ = some (.int .i64 0)) (go_keep) (fail)
    go_wp2
    have hbe := C3.out.2.2
    exact bodyPost_ret (v := .tuple #[.agg #[.slice (some ad) (a + m) (a + cm), .int .i64 (a : Int), .int .i64 0], .slice (some ad) 0 0]) (by simp [results, Tryz.results278, go_sem, r0, r1, r2]) rfl ⟨rfl, (by repeat (first | refine Below.setCell ?_ (by simp) _ | refine Below.drew ?_ | refine below_drewN ?_ _ | exact hbe))⟩
end
section
set_option maxRecDepth 100000
open Go.RowKit
theorem Take_c (A : Option Addr) (n c a k : Nat) (bs : List UInt8) (B : Nat) (w : World) (hr : Reads w B 1 A n (byteCells bs)) (hB : B ≤ w.heap.size) (hnc : n ≤ c) (hcm : c ≤ 9223372036854775807) (hak : a + k ≤ n) :
    Calls Tryz.prog 278 #[.agg #[.slice A n c, .int .i64 (a : Int), .int .i64 0], .int .i64 k] w fun e w' => ∃ A', e = .returned (.tuple #[.agg #[.slice A n c, .int .i64 ((a : Int) + (k : Int)), .int .i64 0], .slice A' k k]) ∧ Reads w' B 1 A' k (byteCells ((bs.drop a).take k)) ∧ Below w.heap.size w w' := by
  obtain ⟨m, rfl⟩ : ∃ m, n = a + m := ⟨n - a, by omega⟩
  obtain ⟨cm, rfl⟩ : ∃ cm, c = a + cm := ⟨c - a, by omega⟩
  rcases Nat.eq_zero_or_pos k with rfl | hk
  · refine (Take_zero A a m cm bs B w hr hB (by omega) hcm).mono ?_
    rintro e w' ⟨rfl, hb⟩
    exact ⟨A, by simp, by simpa [byteCells] using Reads.none_, hb⟩
  · obtain ⟨ad, rfl, _⟩ := hr.2 (by omega)
    refine (Take_some ad a m cm k bs B w hr hB (by omega) hcm hk (by omega)).mono ?_
    rintro e w' ⟨rfl, hb⟩
    refine ⟨_, rfl, ?_, hb⟩
    have h := ((hr.below (hb.mono hB)).sufB (k := a) (cap := a + cm) (by omega) (by omega)).preB (k := k) (by omega)
    rw [if_neg (by omega), Option.map_some] at h
    exact h
def xRes (bs : List UInt8) (at_ err most : Int) : Int × Int × List UInt8 :=
  if (uRes bs at_ err).2.1 ≠ 0 then ((uRes bs at_ err).1, (uRes bs at_ err).2.1, [])
  else if most < 0 ∨ most < ((uRes bs at_ err).2.2 : Int) then (at_, 9, [])
  else if (bs.length : Int) - (uRes bs at_ err).1 < ((uRes bs at_ err).2.2 : Int) then (at_, 10, [])
  else ((uRes bs at_ err).1 + ((uRes bs at_ err).2.2 : Nat), 0, (bs.drop (uRes bs at_ err).1.toNat).take (uRes bs at_ err).2.2)
theorem uRes_ok (bs : List UInt8) (at_ err x : Int) (v : Nat) (h : uRes bs at_ err = (x, 0, v)) : err = 0 ∧ 0 ≤ x ∧ x ≤ (bs.length : Int) ∧ 0 ≤ at_ ∧ at_ ≤ x := by
  unfold uRes at h
  split at h
  · rename_i hr
    split at h
    · rename_i h0
      have hb := uread_back (natB (bs.drop at_.toNat)) (natB_lt _) 0 (uread 0 (natB (bs.drop at_.toNat))).2.1 (uread 0 (natB (bs.drop at_.toNat))).2.2 (by omega) (Prod.ext h0 rfl)
      have hl := hb.1
      rw [natB_length, List.length_drop] at hl
      simp only [Prod.mk.injEq] at h
      omega
    · rename_i h0
      simp only [Prod.mk.injEq] at h
      omega
  · simp only [Prod.mk.injEq] at h
    split at h <;> omega
set_option maxRecDepth 100000 in
set_option maxHeartbeats 1000000 in
theorem Text_bad (A : Option Addr) (n c : Nat) (at_ err : Int) (bs : List UInt8) (B : Nat) (w : World) (hr : Reads w B 1 A n (byteCells bs)) (hB : B ≤ w.heap.size) (hnc : n ≤ c) (hcm : c ≤ 9223372036854775807) (hn : n ≤ 10000) (most : Int) (x y : Int) (v : Nat) (hu : uRes bs at_ err = (x, y, v)) (hy : y ≠ 0) :
    Calls Tryz.prog 261 #[.agg #[.slice A n c, .int .i64 at_, .int .i64 err], .int .i64 most] w fun e w' => e = .returned (.tuple #[.agg #[.slice A n c, .int .i64 x, .int .i64 y], .string ⟨#[]⟩]) ∧ Below w.heap.size w w' := by
  have hv := uRes_lt bs at_ err
  have hll := hr.lenB
  have HU := Lib.hid (fun W (h : Reads W B 1 A n (byteCells bs)) (h' : B ≤ W.heap.size) => Uint_c A n c at_ err bs B W h h' hnc hcm hn)
  have HR := Lib.hid hr
  rw [hu] at HU hv
  simp only at HU hv
  have dy : (y != 0) = true := by rw [bne_iff_ne]; exact hy
  have HUU := Lib.hid hu
  clear hr hu
  go_enter Tryz.func261, Tryz.ntmps261
  go_wp2_with fail
  have C0 := Lib.hid (Cu.start w #[.slice A n c, .int .i64 at_, .int .i64 err] #[.slice none 0 0, .int .i64 0, .int .i64 0])
  refine (HU.out _ (C0.out.reads HR.out hB) (by simp; omega)).mono ?_
  rintro e w1 ⟨rfl, hb⟩
  have C1 := Lib.hid (C0.out.next hb)
  clear hb C0
  obtain ⟨k0, k1, k2, r0, r1, r2, f0, f1, f2, g0, g1, g2⟩ := C1.out.cells
  have hg1 := C1.out.1.lt
  have hg2 := C1.out.2.1.lt
  have hsz := C1.out.size
  go_wp2
  have hbe := C1.out.2.2
  exact bodyPost_ret (v := .tuple #[.agg #[.slice A n c, .int .i64 x, .int .i64 y], .string ⟨#[]⟩]) (by simp [results, Tryz.results261, go_sem, r0, r1, r2, hg2]) rfl ⟨rfl, (by repeat (first | refine Below.setCell ?_ (by simp; try omega) _ | refine Below.drew ?_ | refine below_drewN ?_ _ | refine Below.alloc ?_ (by simp; try omega) _ | exact hbe))⟩
set_option maxRecDepth 100000 in
set_option maxHeartbeats 1000000 in
theorem Text_neg (A : Option Addr) (n c : Nat) (at_ : Int) (bs : List UInt8) (B : Nat) (w : World) (hr : Reads w B 1 A n (byteCells bs)) (hB : B ≤ w.heap.size) (hnc : n ≤ c) (hcm : c ≤ 9223372036854775807) (hn : n ≤ 10000) (most : Int) (hmm : most ≤ 9223372036854775807) (x : Int) (v : Nat) (hu : uRes bs at_ 0 = (x, 0, v)) (hm : most < 0) :
    Calls Tryz.prog 261 #[.agg #[.slice A n c, .int .i64 at_, .int .i64 0], .int .i64 most] w fun e w' => e = .returned (.tuple #[.agg #[.slice A n c, .int .i64 at_, .int .i64 9], .string ⟨#[]⟩]) ∧ Below w.heap.size w w' := by
  have hv := uRes_lt bs at_ 0
  have hll := hr.lenB
  obtain ⟨_, hx0, hxn, _, _⟩ := uRes_ok bs at_ 0 x v hu
  rw [hll] at hxn
  have HU := Lib.hid (fun W (h : Reads W B 1 A n (byteCells bs)) (h' : B ≤ W.heap.size) => Uint_c A n c at_ 0 bs B W h h' hnc hcm hn)
  have HR := Lib.hid hr
  rw [hu] at HU hv
  simp only at HU hv
  have dm : decide (most < 0) = true := by simpa using hm
  have HUU := Lib.hid hu
  have HLL := Lib.hid hll
  clear hr hu hll
  go_enter Tryz.func261, Tryz.ntmps261
  go_wp2_with fail
  have C0 := Lib.hid (Cu.start w #[.slice A n c, .int .i64 at_, .int .i64 0] #[.slice none 0 0, .int .i64 0, .int .i64 0])
  refine (HU.out _ (C0.out.reads HR.out hB) (by simp; omega)).mono ?_
  rintro e w1 ⟨rfl, hb⟩
  have C1 := Lib.hid (C0.out.next hb)
  clear hb C0
  obtain ⟨k0, k1, k2, r0, r1, r2, f0, f1, f2, g0, g1, g2⟩ := C1.out.cells
  have hg1 := C1.out.1.lt
  have hg2 := C1.out.2.1.lt
  have hsz := C1.out.size
  have C2 := Lib.hid (C1.out.next ((Below.refl _ w1).alloc (Nat.le_refl _) (.cells #[.slice A n c, .int .i64 x, .int .i64 0] 252)))
  go_wp2_with fail
  clear k0 k1 k2 r0 r1 r2 f0 f1 f2 g0 g1 g2
  refine (stay_ok A n c at_ 9 _).mono ?_
  rintro e w2 ⟨rfl, hb2⟩
  have C3 := Lib.hid (C2.out.next hb2)
  clear hb2
  obtain ⟨k0, k1, k2, r0, r1, r2, f0, f1, f2, g0, g1, g2⟩ := C3.out.cells
  go_wp2
  have hbe := C3.out.2.2
  exact bodyPost_ret (v := .tuple #[.agg #[.slice A n c, .int .i64 at_, .int .i64 9], .string ⟨#[]⟩]) (by simp [results, Tryz.results261, go_sem, r0, r1, r2]) rfl ⟨rfl, (by repeat (first | refine Below.setCell ?_ (by simp; try omega) _ | refine Below.drew ?_ | refine below_drewN ?_ _ | refine Below.alloc ?_ (by simp; try omega) _ | exact hbe))⟩
set_option maxRecDepth 100000 in
set_option maxHeartbeats 1000000 in
theorem Text_many (A : Option Addr) (n c : Nat) (at_ : Int) (bs : List UInt8) (B : Nat) (w : World) (hr : Reads w B 1 A n (byteCells bs)) (hB : B ≤ w.heap.size) (hnc : n ≤ c) (hcm : c ≤ 9223372036854775807) (hn : n ≤ 10000) (most : Int) (hmm : most ≤ 9223372036854775807) (x : Int) (v : Nat) (hu : uRes bs at_ 0 = (x, 0, v)) (hm : 0 ≤ most) (hmv : most < (v : Int)) :
    Calls Tryz.prog 261 #[.agg #[.slice A n c, .int .i64 at_, .int .i64 0], .int .i64 most] w fun e w' => e = .returned (.tuple #[.agg #[.slice A n c, .int .i64 at_, .int .i64 9], .string ⟨#[]⟩]) ∧ Below w.heap.size w w' := by
  have hv := uRes_lt bs at_ 0
  have hll := hr.lenB
  obtain ⟨_, hx0, hxn, _, _⟩ := uRes_ok bs at_ 0 x v hu
  rw [hll] at hxn
  have HU := Lib.hid (fun W (h : Reads W B 1 A n (byteCells bs)) (h' : B ≤ W.heap.size) => Uint_c A n c at_ 0 bs B W h h' hnc hcm hn)
  have HR := Lib.hid hr
  rw [hu] at HU hv
  simp only at HU hv
  have dm : decide (most < 0) = false := by simpa using hm
  have dv : decide (most < (v : Int)) = true := by simpa using hmv
  have HUU := Lib.hid hu
  have HLL := Lib.hid hll
  clear hr hu hll
  go_enter Tryz.func261, Tryz.ntmps261
  go_wp2_with fail
  have C0 := Lib.hid (Cu.start w #[.slice A n c, .int .i64 at_, .int .i64 0] #[.slice none 0 0, .int .i64 0, .int .i64 0])
  refine (HU.out _ (C0.out.reads HR.out hB) (by simp; omega)).mono ?_
  rintro e w1 ⟨rfl, hb⟩
  have C1 := Lib.hid (C0.out.next hb)
  clear hb C0
  obtain ⟨k0, k1, k2, r0, r1, r2, f0, f1, f2, g0, g1, g2⟩ := C1.out.cells
  have hg1 := C1.out.1.lt
  have hg2 := C1.out.2.1.lt
  have hsz := C1.out.size
  have C2 := Lib.hid (C1.out.next ((Below.refl _ w1).alloc (Nat.le_refl _) (.cells #[.slice A n c, .int .i64 x, .int .i64 0] 252)))
  go_wp2_with fail
  clear k0 k1 k2 r0 r1 r2 f0 f1 f2 g0 g1 g2
  refine (stay_ok A n c at_ 9 _).mono ?_
  rintro e w2 ⟨rfl, hb2⟩
  have C3 := Lib.hid (C2.out.next hb2)
  clear hb2
  obtain ⟨k0, k1, k2, r0, r1, r2, f0, f1, f2, g0, g1, g2⟩ := C3.out.cells
  go_wp2
  have hbe := C3.out.2.2
  exact bodyPost_ret (v := .tuple #[.agg #[.slice A n c, .int .i64 at_, .int .i64 9], .string ⟨#[]⟩]) (by simp [results, Tryz.results261, go_sem, r0, r1, r2]) rfl ⟨rfl, (by repeat (first | refine Below.setCell ?_ (by simp; try omega) _ | refine Below.drew ?_ | refine below_drewN ?_ _ | refine Below.alloc ?_ (by simp; try omega) _ | exact hbe))⟩
set_option maxRecDepth 100000 in
set_option maxHeartbeats 1000000 in
theorem Text_short (A : Option Addr) (n c : Nat) (at_ : Int) (bs : List UInt8) (B : Nat) (w : World) (hr : Reads w B 1 A n (byteCells bs)) (hB : B ≤ w.heap.size) (hnc : n ≤ c) (hcm : c ≤ 9223372036854775807) (hn : n ≤ 10000) (most : Int) (hmm : most ≤ 9223372036854775807) (x : Int) (v : Nat) (hu : uRes bs at_ 0 = (x, 0, v)) (hm : 0 ≤ most) (hmv : (v : Int) ≤ most) (hvn : (n : Int) - x < (v : Int)) :
    Calls Tryz.prog 261 #[.agg #[.slice A n c, .int .i64 at_, .int .i64 0], .int .i64 most] w fun e w' => e = .returned (.tuple #[.agg #[.slice A n c, .int .i64 at_, .int .i64 10], .string ⟨#[]⟩]) ∧ Below w.heap.size w w' := by
  have hv := uRes_lt bs at_ 0
  have hll := hr.lenB
  obtain ⟨_, hx0, hxn, _, _⟩ := uRes_ok bs at_ 0 x v hu
  rw [hll] at hxn
  have HU := Lib.hid (fun W (h : Reads W B 1 A n (byteCells bs)) (h' : B ≤ W.heap.size) => Uint_c A n c at_ 0 bs B W h h' hnc hcm hn)
  have HR := Lib.hid hr
  rw [hu] at HU hv
  simp only at HU hv
  have dm : decide (most < 0) = false := by simpa using hm
  have dv : decide (most < (v : Int)) = false := by simpa using hmv
  have dl : decide ((n : Int) - x < (v : Int)) = true := by simp; omega
  have HUU := Lib.hid hu
  have HLL := Lib.hid hll
  clear hr hu hll
  go_enter Tryz.func261, Tryz.ntmps261
  go_wp2_with fail
  have C0 := Lib.hid (Cu.start w #[.slice A n c, .int .i64 at_, .int .i64 0] #[.slice none 0 0, .int .i64 0, .int .i64 0])
  refine (HU.out _ (C0.out.reads HR.out hB) (by simp; omega)).mono ?_
  rintro e w1 ⟨rfl, hb⟩
  have C1 := Lib.hid (C0.out.next hb)
  clear hb C0
  obtain ⟨k0, k1, k2, r0, r1, r2, f0, f1, f2, g0, g1, g2⟩ := C1.out.cells
  have hg1 := C1.out.1.lt
  have hg2 := C1.out.2.1.lt
  have hsz := C1.out.size
  have C2 := Lib.hid (C1.out.next ((Below.refl _ w1).alloc (Nat.le_refl _) (.cells #[.slice A n c, .int .i64 x, .int .i64 0] 252)))
  go_wp2_with fail
  clear k0 k1 k2 r0 r1 r2 f0 f1 f2 g0 g1 g2
  refine (Left_yes A n c x _ hx0 hxn (by omega)).mono ?_
  rintro e w1' ⟨rfl, hb'⟩
  have C2' := Lib.hid (C2.out.next hb')
  clear hb'
  obtain ⟨k0, k1, k2, r0, r1, r2, f0, f1, f2, g0, g1, g2⟩ := C2'.out.cells
  go_wp2_with fail
  clear k0 k1 k2 r0 r1 r2 f0 f1 f2 g0 g1 g2
  refine (stay_ok A n c at_ 10 _).mono ?_
  rintro e w2 ⟨rfl, hb2⟩
  have C3 := Lib.hid (C2'.out.next hb2)
  clear hb2
  obtain ⟨k0, k1, k2, r0, r1, r2, f0, f1, f2, g0, g1, g2⟩ := C3.out.cells
  go_wp2
  have hbe := C3.out.2.2
  exact bodyPost_ret (v := .tuple #[.agg #[.slice A n c, .int .i64 at_, .int .i64 10], .string ⟨#[]⟩]) (by simp [results, Tryz.results261, go_sem, r0, r1, r2]) rfl ⟨rfl, (by repeat (first | refine Below.setCell ?_ (by simp; try omega) _ | refine Below.drew ?_ | refine below_drewN ?_ _ | refine Below.alloc ?_ (by simp; try omega) _ | exact hbe))⟩
end
section
set_option maxRecDepth 100000
open Go.RowKit
set_option maxRecDepth 100000 in
set_option maxHeartbeats 2000000 in
theorem Text_ok (A : Option Addr) (n c : Nat) (at_ : Int) (bs : List UInt8) (B : Nat) (w : World) (hr : Reads w B 1 A n (byteCells bs)) (hB : B ≤ w.heap.size) (hnc : n ≤ c) (hcm : c ≤ 9223372036854775807) (hn : n ≤ 10000) (most : Int) (hmm : most ≤ 9223372036854775807) (a v : Nat) (hu : uRes bs at_ 0 = ((a : Int), 0, v)) (hm : 0 ≤ most) (hmv : (v : Int) ≤ most) (hvn : a + v ≤ n) :
    Calls Tryz.prog 261 #[.agg #[.slice A n c, .int .i64 at_, .int .i64 0], .int .i64 most] w fun e w' => e = .returned (.tuple #[.agg #[.slice A n c, .int .i64 ((a : Int) + (v : Int)), .int .i64 0], .string ⟨((bs.drop a).take v).toArray⟩]) ∧ Below w.heap.size w w' := by
  have hv := uRes_lt bs at_ 0
  have hx0 : (0 : Int) ≤ (a : Int) := by omega
  have hxn : (a : Int) ≤ (n : Int) := by omega
  have HU := Lib.hid (fun W (h : Reads W B 1 A n (byteCells bs)) (h' : B ≤ W.heap.size) => Uint_c A n c at_ 0 bs B W h h' hnc hcm hn)
  have HR := Lib.hid hr
  rw [hu] at HU hv
  simp only at HU hv
  have dm : decide (most < 0) = false := by simpa using hm
  have dv : decide (most < (v : Int)) = false := by simpa using hmv
  have dl : decide ((n : Int) - (a : Int) < (v : Int)) = false := by simp; omega
  clear hr hu
  go_enter Tryz.func261, Tryz.ntmps261
  go_wp2_with fail
  have C0 := Lib.hid (Cu.start w #[.slice A n c, .int .i64 at_, .int .i64 0] #[.slice none 0 0, .int .i64 0, .int .i64 0])
  refine (HU.out _ (C0.out.reads HR.out hB) (by simp; omega)).mono ?_
  rintro e w1 ⟨rfl, hb⟩
  have C1 := Lib.hid (C0.out.next hb)
  clear hb C0
  obtain ⟨k0, k1, k2, r0, r1, r2, f0, f1, f2, g0, g1, g2⟩ := C1.out.cells
  have hg1 := C1.out.1.lt
  have hg2 := C1.out.2.1.lt
  have hsz := C1.out.size
  have C2 := Lib.hid (C1.out.next ((Below.refl _ w1).alloc (Nat.le_refl _) (.cells #[.slice A n c, .int .i64 (a : Int), .int .i64 0] 252)))
  have HH := Lib.hid (Blk.new w1 252 #[.slice A n c, .int .i64 (a : Int), .int .i64 0])
  go_wp2_with fail
  clear k0 k1 k2 r0 r1 r2 f0 f1 f2 g0 g1 g2
  refine (Left_yes A n c a _ hx0 hxn (by omega)).mono ?_
  rintro e w1' ⟨rfl, hb'⟩
  have C2' := Lib.hid (C2.out.next hb')
  have HH' := Lib.hid (HH.out.below hb' HH.out.lt)
  clear hb'
  obtain ⟨k0, k1, k2, r0, r1, r2, f0, f1, f2, g0, g1, g2⟩ := C2'.out.cells
  obtain ⟨q0, q1, q2, t0, t1, t2⟩ : w1'.cell? ⟨w1.heap.size, 0, none⟩ = some (.slice A n c) ∧ w1'.cell? ⟨w1.heap.size, 1, none⟩ = some (.int .i64 (a : Int)) ∧ w1'.cell? ⟨w1.heap.size, 2, none⟩ = some (.int .i64 0) ∧ w1'.frozen? ⟨w1.heap.size, 0, none⟩ = false ∧ w1'.frozen? ⟨w1.heap.size, 1, none⟩ = false ∧ w1'.frozen? ⟨w1.heap.size, 2, none⟩ = false := ⟨HH'.out.cell 0, HH'.out.cell 1, HH'.out.cell 2, HH'.out.frozen 0, HH'.out.frozen 1, HH'.out.frozen 2⟩
  go_wp2_with fail
  clear k0 k1 k2 r0 r1 r2 f0 f1 f2 g0 g1 g2
  clear q0 q1 q2 t0 t1 t2
  refine (Take_c A n c a v bs B _ (C2'.out.reads HR.out hB) (Nat.le_trans hB C2'.out.size) hnc hcm hvn).mono ?_
  rintro e w2 ⟨A', rfl, hR2, hb2⟩
  have C3 := Lib.hid (C2'.out.next hb2)
  have HH2 := Lib.hid (HH'.out.below hb2 HH'.out.lt)
  have HR2 := Lib.hid hR2
  clear hb2 hR2
  obtain ⟨k0, k1, k2, r0, r1, r2, f0, f1, f2, g0, g1, g2⟩ := C3.out.cells
  obtain ⟨q0, q1, q2, t0, t1, t2⟩ : w2.cell? ⟨w1.heap.size, 0, none⟩ = some (.slice A n c) ∧ w2.cell? ⟨w1.heap.size, 1, none⟩ = some (.int .i64 (a : Int)) ∧ w2.cell? ⟨w1.heap.size, 2, none⟩ = some (.int .i64 0) ∧ w2.frozen? ⟨w1.heap.size, 0, none⟩ = false ∧ w2.frozen? ⟨w1.heap.size, 1, none⟩ = false ∧ w2.frozen? ⟨w1.heap.size, 2, none⟩ = false := ⟨HH2.out.cell 0, HH2.out.cell 1, HH2.out.cell 2, HH2.out.frozen 0, HH2.out.frozen 1, HH2.out.frozen 2⟩
  go_wp2_with fail
  clear k0 k1 k2 r0 r1 r2 f0 f1 f2 g0 g1 g2
  clear q0 q1 q2 t0 t1 t2
  have C4 := Lib.hid (show Cu w (((w2.setCell ⟨w1.heap.size, 0, none⟩ (.slice A n c)).setCell ⟨w1.heap.size, 1, none⟩ (.int .i64 ((a : Int) + (v : Int)))).setCell ⟨w1.heap.size, 2, none⟩ (.int .i64 0)) #[.slice A n c, .int .i64 at_, .int .i64 0] #[.slice none 0 0, .int .i64 0, .int .i64 0] from ⟨((C3.out.1.far (by simp; omega) _).far (by simp; omega) _).far (by simp; omega) _, ((C3.out.2.1.far (by simp; omega) _).far (by simp; omega) _).far (by simp; omega) _, ((C3.out.2.2.setCell (by simp; omega) _).setCell (by simp; omega) _).setCell (by simp; omega) _⟩)
  have HH4 := Lib.hid (show Blk (((w2.setCell ⟨w1.heap.size, 0, none⟩ (.slice A n c)).setCell ⟨w1.heap.size, 1, none⟩ (.int .i64 ((a : Int) + (v : Int)))).setCell ⟨w1.heap.size, 2, none⟩ (.int .i64 0)) w1.heap.size 252 #[.slice A n c, .int .i64 ((a : Int) + (v : Int)), .int .i64 0] from ((HH2.out.set_ 0 _).set_ 1 _).set_ 2 _)
  have HR4 := Lib.hid (show Reads (((w2.setCell ⟨w1.heap.size, 0, none⟩ (.slice A n c)).setCell ⟨w1.heap.size, 1, none⟩ (.int .i64 ((a : Int) + (v : Int)))).setCell ⟨w1.heap.size, 2, none⟩ (.int .i64 0)) B 1 A' v (byteCells ((bs.drop a).take v)) from ((HR2.out.setCell (by simp; omega) _).setCell (by simp; omega) _).setCell (by simp; omega) _)
  generalize ((w2.setCell ⟨w1.heap.size, 0, none⟩ (.slice A n c)).setCell ⟨w1.heap.size, 1, none⟩ (.int .i64 ((a : Int) + (v : Int)))).setCell ⟨w1.heap.size, 2, none⟩ (.int .i64 0) = w4 at C4 HH4 HR4 ⊢
  obtain ⟨k0, k1, k2, r0, r1, r2, f0, f1, f2, g0, g1, g2⟩ := C4.out.cells
  refine wp_region_noPanic ?_
  refine wp_region_held_drew (S := fun W => Blk W w1.heap.size 252 #[.slice A n c, .int .i64 ((a : Int) + (v : Int)), .int .i64 0] ∧ Reads W B 1 A' v (byteCells ((bs.drop a).take v))) (by kernel_rfl) ⟨HH4.out.drew, HR4.out.drew⟩ (fun hHeld => ?_)
  refine takeH 0 (v := ?v0u1) rfl (by kernel_rfl) (by kernel_rfl) (by kernel_rfl) rfl (fun _ _ _ h => h) (Or.inl ⟨by rfl, ?y0u1⟩) hHeld ?r0u1
  case y0u1 => (intro W hSW; (try dsimp only at hSW); have q0 := hSW.1.cell 0; have q1 := hSW.1.cell 1; have q2 := hSW.1.cell 2; simp only [List.getElem?_toArray, List.getElem?_cons_zero, List.getElem?_cons_succ] at q0 q1 q2; go_simp; try with_reducible rfl)
  simp only [Act.put, sI, sZ, sS]
  refine takeH 1 (v := ?v1u2) rfl (by kernel_rfl) (by kernel_rfl) (by kernel_rfl) rfl (fun _ _ _ h => h) (Or.inl ⟨by rfl, ?y1u2⟩) hHeld ?r1u2
  case y1u2 => (intro W hSW; (try dsimp only at hSW); go_simp; try with_reducible rfl)
  simp only [Act.put, sI, sZ, sS]
  refine takeH 2 (v := ?v2u3) rfl (by kernel_rfl) (by kernel_rfl) (by kernel_rfl) rfl (fun _ _ _ h => h) (Or.inl ⟨by rfl, ?y2u3⟩) hHeld ?r2u3
  case y2u3 => (intro W hSW; (try dsimp only at hSW); have hcv := conv_reads hSW.2 v; go_simp; try with_reducible rfl)
  simp only [Act.put, sI, sZ, sS]
  refine wpAnyH_ready (rs := [3]) (by kernel_rfl) (by simp) ?_
  refine AllReadyH.cons rfl (fun K hK => ?_) AllReadyH.nil
  go_simp
  refine hK.out _ _ (by refine ⟨?_, ?_⟩ <;> repeat (first | exact hHeld.1 | exact hHeld.2 | refine Blk.drew ?_ | refine Blk.far ?_ (by simp; omega) _ | refine Reads.drew ?_ | refine Reads.setCell ?_ (by simp; omega) _)) (fun hHeld => ?_)
  clear hK K
  try simp only [Act.put, sI, sZ, sS]
  refine takeH 4 (v := ?v4u4) rfl (by kernel_rfl) (by kernel_rfl) (by kernel_rfl) rfl (fun _ _ _ h => h) (Or.inl ⟨by rfl, ?y4u4⟩) hHeld ?r4u4
  case y4u4 => (intro W hSW; (try dsimp only at hSW); go_simp; try with_reducible rfl)
  simp only [Act.put, sI, sZ, sS]
  refine wpAnyH_done (by kernel_rfl) ?_ _
  refine NoPanic.normal ?_
  go_wp2
  have hbe := C4.out.2.2
  exact bodyPost_ret (v := .tuple #[.agg #[.slice A n c, .int .i64 ((a : Int) + (v : Int)), .int .i64 0], .string ⟨((bs.drop a).take v).toArray⟩]) (by simp [results, Tryz.results261, go_sem, r0, r1, r2]) rfl ⟨rfl, (by repeat (first | refine Below.setCell ?_ (by simp; try omega) _ | refine Below.drew ?_ | refine below_drewN ?_ _ | refine Below.alloc ?_ (by simp; try omega) _ | exact hbe))⟩
end
section
set_option maxRecDepth 100000
open Go.RowKit
theorem Text_c (A : Option Addr) (n c : Nat) (at_ err : Int) (bs : List UInt8) (B : Nat) (w : World) (hr : Reads w B 1 A n (byteCells bs)) (hB : B ≤ w.heap.size) (hnc : n ≤ c) (hcm : c ≤ 9223372036854775807) (hn : n ≤ 10000) (most : Int) (hmm : most ≤ 9223372036854775807) :
    Calls Tryz.prog 261 #[.agg #[.slice A n c, .int .i64 at_, .int .i64 err], .int .i64 most] w fun e w' => e = .returned (.tuple #[.agg #[.slice A n c, .int .i64 (xRes bs at_ err most).1, .int .i64 (xRes bs at_ err most).2.1], .string ⟨(xRes bs at_ err most).2.2.toArray⟩]) ∧ Below w.heap.size w w' := by
  have hll := hr.lenB
  obtain ⟨⟨x, y, v⟩, hu⟩ : ∃ r, uRes bs at_ err = r := ⟨_, rfl⟩
  have hx : xRes bs at_ err most = if y ≠ 0 then (x, y, []) else if most < 0 ∨ most < (v : Int) then (at_, 9, []) else if (bs.length : Int) - x < (v : Int) then (at_, 10, []) else (x + (v : Nat), 0, (bs.drop x.toNat).take v) := by unfold xRes; rw [hu]
  rw [hx]
  by_cases hy : y = 0
  · subst hy
    obtain ⟨rfl, hx0, hxn, _, _⟩ := uRes_ok bs at_ err x v hu
    rw [if_neg (by simp)]
    by_cases h1 : most < 0 ∨ most < (v : Int)
    · rw [if_pos h1]
      by_cases h2 : most < 0
      · exact Text_neg A n c at_ bs B w hr hB hnc hcm hn most hmm x v hu h2
      · exact Text_many A n c at_ bs B w hr hB hnc hcm hn most hmm x v hu (by omega) (by omega)
    · rw [if_neg h1]
      by_cases h2 : (bs.length : Int) - x < (v : Int)
      · rw [if_pos h2]
        exact Text_short A n c at_ bs B w hr hB hnc hcm hn most hmm x v hu (by omega) (by omega) (by omega)
      · rw [if_neg h2]
        obtain ⟨a, rfl⟩ : ∃ a : Nat, x = (a : Int) := ⟨x.toNat, by omega⟩
        rw [Int.toNat_natCast]
        exact Text_ok A n c at_ bs B w hr hB hnc hcm hn most hmm a v hu (by omega) (by omega) (by omega)
  · rw [if_pos hy]
    exact Text_bad A n c at_ err bs B w hr hB hnc hcm hn most x y v hu hy
def b6 : List UInt8 := [172, 2, 1, 2, 97, 98]
end
section
set_option maxRecDepth 100000
open Go.RowKit
def numsR (bs : List UInt8) (a e : Int) : Nat → Int × Int × List Int
  | 0 => (a, e, [])
  | k + 1 => ((upRes bs (numsR bs a e k).1 (numsR bs a e k).2.1 2147483647).1, (upRes bs (numsR bs a e k).1 (numsR bs a e k).2.1 2147483647).2.1, (numsR bs a e k).2.2 ++ [((upRes bs (numsR bs a e k).1 (numsR bs a e k).2.1 2147483647).2.2 : Int)])
theorem numsR_length (bs : List UInt8) (a e : Int) : ∀ k, (numsR bs a e k).2.2.length = k
  | 0 => rfl
  | k + 1 => by unfold numsR; simp [numsR_length bs a e k]
def readC (c : Cx) (bs : List UInt8) : Evt × Bool :=
  let r1 := upRes bs 0 0 10
  let r2 := upRes bs r1.1 r1.2.1 4294967296
  let r3 := upRes bs r2.1 r2.2.1 1099511627776
  let r4 := upRes bs r3.1 r3.2.1 32
  let t := if r4.2.2 = 0 then xRes bs r4.1 r4.2.1 24 else (r4.1, r4.2.1, (c.ns[r4.2.2 - 1]?).getD [])
  let l := numsR bs t.1 t.2.1 (manyE (r1.2.2 : Int))
  (fillE ⟨c.q + (r2.2.2 : Int), c.a + (r3.2.2 : Int), (r1.2.2 : Int), strB t.2.2, 0, 0, 0⟩ l.2.2, decide (l.2.1 = 0))
theorem res_read {W : World} {g : Nat} {x0 x1 x2 x3 x4 x5 x6 u : Value} (h : Blk W g 44 #[x0, x1, x2, x3, x4, x5, x6]) (tmps : Array Value) (ht : tmps[4]?.getD undef = .pointer (some ⟨g, 0, none⟩)) (hu : tmps[5]?.getD undef = u) : (results Tryz.f233 tmps).run Tryz.prog W = .ok (.tuple #[.agg #[x0, x1, x2, x3, x4, x5, x6], u]) W := by
  have c0 : W.cell? ⟨g, 0, none⟩ = some x0 := h.cell 0
  have c1 : W.cell? ⟨g, 1, none⟩ = some x1 := h.cell 1
  have c2 : W.cell? ⟨g, 2, none⟩ = some x2 := h.cell 2
  have c3 : W.cell? ⟨g, 3, none⟩ = some x3 := h.cell 3
  have c4 : W.cell? ⟨g, 4, none⟩ = some x4 := h.cell 4
  have c5 : W.cell? ⟨g, 5, none⟩ = some x5 := h.cell 5
  have c6 : W.cell? ⟨g, 6, none⟩ = some x6 := h.cell 6
  simp [results, Tryz.results233, go_sem, ht, hu, c0, c1, c2, c3, c4, c5, c6]
theorem upTo_l (A : Option Addr) (n c : Nat) (at_ err : Int) (bs : List UInt8) (B : Nat) (w : World) (hr : Reads w B 1 A n (byteCells bs)) (hB : B ≤ w.heap.size) (hnc : n ≤ c) (hcm : c ≤ 9223372036854775807) (hn : n ≤ 10000) (most : Nat) (hm : most ≤ 1099511627776) (mo : Int) (hmo : (most : Int) = mo) :
    Calls Tryz.prog 260 #[.agg #[.slice A n c, .int .i64 at_, .int .i64 err], .int .u64 mo] w fun e w' => e = .returned (.tuple #[.agg #[.slice A n c, .int .i64 (upRes bs at_ err most).1, .int .i64 (upRes bs at_ err most).2.1], .int .i64 ((upRes bs at_ err most).2.2 : Int)]) ∧ Below w.heap.size w w' := by
  subst hmo
  exact upTo_c A n c at_ err bs B w hr hB hnc hcm hn most hm
theorem appInt : AppOk Tryz.prog 278 2 1 8 := appOk Tryz.underlying278 (z := .int .i64 0) (by kernel_rfl) rfl (by omega)
set_option maxHeartbeats 8000000 in
theorem read_s (q a : Int) (ns : List (List UInt8)) (An : Option Addr) (nn cn : Nat) (A : Option Addr) (n c : Nat) (bs : List UInt8) (X : List Nat) (w : World) (hX : XOk X w) (hs : Sl nameSh w X An nn cn ns) (B : Nat) (hr : Reads w B 1 A n (byteCells bs)) (hB : B ≤ w.heap.size) (hnc : n ≤ c) (hcm : c ≤ 9223372036854775807)
    (hnn : nn ≤ 1000) (hn : n ≤ 10000) (hq0 : 0 ≤ q) (hq1 : q ≤ 4294967296) (ha0 : 0 ≤ a) (ha1 : a ≤ 1099511627776) :
    Calls Tryz.prog 233 #[.agg #[.int .i64 q, .int .i64 a, .slice An nn cn], .slice A n c] w fun e w' => e = .returned (.tuple #[.agg (evA (readC ⟨q, a, ns⟩ bs).1), .bool (readC ⟨q, a, ns⟩ bs).2]) ∧ Below w.heap.size w w' := by
  have HNL := Lib.hid hs.len
  have HR := Lib.hid hr
  obtain ⟨⟨x1, y1, v1⟩, h1⟩ : ∃ r, upRes bs 0 0 10 = r := ⟨_, rfl⟩
  obtain ⟨⟨x2, y2, v2⟩, h2⟩ : ∃ r, upRes bs x1 y1 4294967296 = r := ⟨_, rfl⟩
  obtain ⟨⟨x3, y3, v3⟩, h3⟩ : ∃ r, upRes bs x2 y2 1099511627776 = r := ⟨_, rfl⟩
  obtain ⟨⟨x4, y4, v4⟩, h4⟩ : ∃ r, upRes bs x3 y3 32 = r := ⟨_, rfl⟩
  have l1 := upRes_le bs 0 0 10
  have l2 := upRes_le bs x1 y1 4294967296
  have l3 := upRes_le bs x2 y2 1099511627776
  have l4 := upRes_le bs x3 y3 32
  rw [h1] at l1; rw [h2] at l2; rw [h3] at l3; rw [h4] at l4
  simp only at l1 l2 l3 l4
  have HE := Lib.hid (show readC ⟨q, a, ns⟩ bs = (fillE ⟨q + (v2 : Int), a + (v3 : Int), (v1 : Int), strB (if v4 = 0 then xRes bs x4 y4 24 else (x4, y4, (ns[v4 - 1]?).getD [])).2.2, 0, 0, 0⟩ (numsR bs (if v4 = 0 then xRes bs x4 y4 24 else (x4, y4, (ns[v4 - 1]?).getD [])).1 (if v4 = 0 then xRes bs x4 y4 24 else (x4, y4, (ns[v4 - 1]?).getD [])).2.1 (manyE (v1 : Int))).2.2, decide ((numsR bs (if v4 = 0 then xRes bs x4 y4 24 else (x4, y4, (ns[v4 - 1]?).getD [])).1 (if v4 = 0 then xRes bs x4 y4 24 else (x4, y4, (ns[v4 - 1]?).getD [])).2.1 (manyE (v1 : Int))).2.1 = 0)) from by
    unfold readC; simp only [h1, h2, h3, h4])
  have H1 := Lib.hid h1
  have H2 := Lib.hid h2
  have H3 := Lib.hid h3
  have H4 := Lib.hid h4
  clear h1 h2 h3 h4
  generalize readC ⟨q, a, ns⟩ bs = r at HE ⊢
  have wq : IntKind.i64.wrap (q + (v2 : Int)) = q + (v2 : Int) := IntWalk.i64_in _ (by omega)
  have wa : IntKind.i64.wrap (a + (v3 : Int)) = a + (v3 : Int) := IntWalk.i64_in _ (by omega)
  have hm3 := manyE_le (v1 : Int)
  have HM := fun W => Lib.hid (Many_c (v1 : Int) W)
  generalize manyE (v1 : Int) = m at HM HE hm3
  have HK1 := Lib.hid (show Held w [] X ((w.alloc (.cells #[.int .i64 q, .int .i64 a, .slice An nn cn] 34)).alloc (.cells #[.int .i64 0, .int .i64 0, .int .i64 0, .string ⟨#[]⟩, .int .i64 0, .int .i64 0, .int .i64 0] 44)) [.box (w.heap.size + 1) 44 #[.int .i64 0, .int .i64 0, .int .i64 0, .string ⟨#[]⟩, .int .i64 0, .int .i64 0, .int .i64 0], .box (w.heap.size) 34 #[.int .i64 q, .int .i64 a, .slice An nn cn]] [Sl.fact nameSh An nn cn ns] from ((((Held.start w hX).alloc_at 34 #[.int .i64 q, .int .i64 a, .slice An nn cn] (w.heap.size) (by simp)).alloc_at 44 #[.int .i64 0, .int .i64 0, .int .i64 0, .string ⟨#[]⟩, .int .i64 0, .int .i64 0, .int .i64 0] (w.heap.size + 1) (by simp)).know0 (Sl.fact nameSh An nn cn ns) hs))
  clear hs hr
  go_enter Tryz.func233, Tryz.ntmps233
  go_wp2_with fail
  with_reducible refine (Start_c A n c _ hnc).mono ?_
  rintro e w1 ⟨rfl, hb⟩
  have HK2 := Lib.hid (show Held w [] X w1 [.box (w.heap.size + 1) 44 #[.int .i64 0, .int .i64 0, .int .i64 0, .string ⟨#[]⟩, .int .i64 0, .int .i64 0, .int .i64 0], .box (w.heap.size) 34 #[.int .i64 q, .int .i64 a, .slice An nn cn]] [Sl.fact nameSh An nn cn ns] from (HK1.out.on hb))
  clear HK1
  clear hb
  have c_c_0_3 : w1.cell? ⟨w.heap.size, 0, none⟩ = some (.int .i64 q) := HK2.out.cell 1 rfl 0
  have c_c_1_4 : w1.cell? ⟨w.heap.size, 1, none⟩ = some (.int .i64 a) := HK2.out.cell 1 rfl 1
  have c_c_2_5 : w1.cell? ⟨w.heap.size, 2, none⟩ = some (.slice An nn cn) := HK2.out.cell 1 rfl 2
  go_wp2_with fail
  with_reducible refine (upTo_l A n n 0 0 bs _ _ (HR.out.below (HK2.out.below.mono hB)) (Nat.le_trans hB HK2.out.size) (Nat.le_refl _) (by omega) hn 10 (by omega) 10 rfl).mono ?_
  rw [H1.out]
  rintro e w2 ⟨rfl, hb⟩
  clear c_c_0_3 c_c_1_4 c_c_2_5
  have HK6 := Lib.hid (show Held w [] X w2 [.box (w.heap.size + 1) 44 #[.int .i64 0, .int .i64 0, .int .i64 0, .string ⟨#[]⟩, .int .i64 0, .int .i64 0, .int .i64 0], .box (w.heap.size) 34 #[.int .i64 q, .int .i64 a, .slice An nn cn]] [Sl.fact nameSh An nn cn ns] from (HK2.out.on hb))
  clear HK2
  clear hb
  have HK7 := Lib.hid (show Held w [] X (w2.alloc (.cells #[.slice A n n, .int .i64 x1, .int .i64 y1] 252)) [.box (w2.heap.size) 252 #[.slice A n n, .int .i64 x1, .int .i64 y1], .box (w.heap.size + 1) 44 #[.int .i64 0, .int .i64 0, .int .i64 0, .string ⟨#[]⟩, .int .i64 0, .int .i64 0, .int .i64 0], .box (w.heap.size) 34 #[.int .i64 q, .int .i64 a, .slice An nn cn]] [Sl.fact nameSh An nn cn ns] from HK6.out.alloc_at 252 #[.slice A n n, .int .i64 x1, .int .i64 y1] (w2.heap.size) (by simp))
  clear HK6
  go_wp2_with fail
  with_reducible refine (upTo_l A n n x1 y1 bs _ _ (HR.out.below (HK7.out.below.mono hB)) (Nat.le_trans hB HK7.out.size) (Nat.le_refl _) (by omega) hn 4294967296 (by omega) 4294967296 rfl).mono ?_
  rw [H2.out]
  rintro e w3 ⟨rfl, hb⟩
  have HK8 := Lib.hid (show Held w [] X w3 [.box (w2.heap.size) 252 #[.slice A n n, .int .i64 x1, .int .i64 y1], .box (w.heap.size + 1) 44 #[.int .i64 0, .int .i64 0, .int .i64 0, .string ⟨#[]⟩, .int .i64 0, .int .i64 0, .int .i64 0], .box (w.heap.size) 34 #[.int .i64 q, .int .i64 a, .slice An nn cn]] [Sl.fact nameSh An nn cn ns] from (HK7.out.on hb))
  clear HK7
  clear hb
  generalize w2.heap.size = gk at HK8 ⊢
  have c_k_0_9 : w3.cell? ⟨gk, 0, none⟩ = some (.slice A n n) := HK8.out.cell 0 rfl 0
  have z_k_0_10 : w3.frozen? ⟨gk, 0, none⟩ = false := HK8.out.frozen 0 rfl 0
  have c_k_1_11 : w3.cell? ⟨gk, 1, none⟩ = some (.int .i64 x1) := HK8.out.cell 0 rfl 1
  have z_k_1_12 : w3.frozen? ⟨gk, 1, none⟩ = false := HK8.out.frozen 0 rfl 1
  have c_k_2_13 : w3.cell? ⟨gk, 2, none⟩ = some (.int .i64 y1) := HK8.out.cell 0 rfl 2
  have z_k_2_14 : w3.frozen? ⟨gk, 2, none⟩ = false := HK8.out.frozen 0 rfl 2
  go_wp2_with fail
  have HK15 := Lib.hid (show Held w [] X (((w3.setCell ⟨gk, 0, none⟩ (.slice A n n)).setCell ⟨gk, 1, none⟩ (.int .i64 x2)).setCell ⟨gk, 2, none⟩ (.int .i64 y2)) [.box (gk) 252 #[.slice A n n, .int .i64 x2, .int .i64 y2], .box (w.heap.size + 1) 44 #[.int .i64 0, .int .i64 0, .int .i64 0, .string ⟨#[]⟩, .int .i64 0, .int .i64 0, .int .i64 0], .box (w.heap.size) 34 #[.int .i64 q, .int .i64 a, .slice An nn cn]] [Sl.fact nameSh An nn cn ns] from (((HK8.out.set_ 0 rfl 0 (.slice A n n)).set_ 0 rfl 1 (.int .i64 x2)).set_ 0 rfl 2 (.int .i64 y2)))
  clear HK8
  with_reducible refine (upTo_l A n n x2 y2 bs _ _ (HR.out.below (HK15.out.below.mono hB)) (Nat.le_trans hB HK15.out.size) (Nat.le_refl _) (by omega) hn 1099511627776 (by omega) 1099511627776 rfl).mono ?_
  rw [H3.out]
  rintro e w4 ⟨rfl, hb⟩
  clear c_k_0_9 z_k_0_10 c_k_1_11 z_k_1_12 c_k_2_13 z_k_2_14
  have HK16 := Lib.hid (show Held w [] X w4 [.box (gk) 252 #[.slice A n n, .int .i64 x2, .int .i64 y2], .box (w.heap.size + 1) 44 #[.int .i64 0, .int .i64 0, .int .i64 0, .string ⟨#[]⟩, .int .i64 0, .int .i64 0, .int .i64 0], .box (w.heap.size) 34 #[.int .i64 q, .int .i64 a, .slice An nn cn]] [Sl.fact nameSh An nn cn ns] from (HK15.out.on hb))
  clear HK15
  clear hb
  have c_k_0_17 : w4.cell? ⟨gk, 0, none⟩ = some (.slice A n n) := HK16.out.cell 0 rfl 0
  have z_k_0_18 : w4.frozen? ⟨gk, 0, none⟩ = false := HK16.out.frozen 0 rfl 0
  have c_k_1_19 : w4.cell? ⟨gk, 1, none⟩ = some (.int .i64 x2) := HK16.out.cell 0 rfl 1
  have z_k_1_20 : w4.frozen? ⟨gk, 1, none⟩ = false := HK16.out.frozen 0 rfl 1
  have c_k_2_21 : w4.cell? ⟨gk, 2, none⟩ = some (.int .i64 y2) := HK16.out.cell 0 rfl 2
  have z_k_2_22 : w4.frozen? ⟨gk, 2, none⟩ = false := HK16.out.frozen 0 rfl 2
  go_wp2_with fail
  have HK23 := Lib.hid (show Held w [] X (((w4.setCell ⟨gk, 0, none⟩ (.slice A n n)).setCell ⟨gk, 1, none⟩ (.int .i64 x3)).setCell ⟨gk, 2, none⟩ (.int .i64 y3)) [.box (gk) 252 #[.slice A n n, .int .i64 x3, .int .i64 y3], .box (w.heap.size + 1) 44 #[.int .i64 0, .int .i64 0, .int .i64 0, .string ⟨#[]⟩, .int .i64 0, .int .i64 0, .int .i64 0], .box (w.heap.size) 34 #[.int .i64 q, .int .i64 a, .slice An nn cn]] [Sl.fact nameSh An nn cn ns] from (((HK16.out.set_ 0 rfl 0 (.slice A n n)).set_ 0 rfl 1 (.int .i64 x3)).set_ 0 rfl 2 (.int .i64 y3)))
  clear HK16
  with_reducible refine (upTo_l A n n x3 y3 bs _ _ (HR.out.below (HK23.out.below.mono hB)) (Nat.le_trans hB HK23.out.size) (Nat.le_refl _) (by omega) hn 32 (by omega) 32 rfl).mono ?_
  rw [H4.out]
  rintro e w5 ⟨rfl, hb⟩
  clear c_k_0_17 z_k_0_18 c_k_1_19 z_k_1_20 c_k_2_21 z_k_2_22
  have HK24 := Lib.hid (show Held w [] X w5 [.box (gk) 252 #[.slice A n n, .int .i64 x3, .int .i64 y3], .box (w.heap.size + 1) 44 #[.int .i64 0, .int .i64 0, .int .i64 0, .string ⟨#[]⟩, .int .i64 0, .int .i64 0, .int .i64 0], .box (w.heap.size) 34 #[.int .i64 q, .int .i64 a, .slice An nn cn]] [Sl.fact nameSh An nn cn ns] from (HK23.out.on hb))
  clear HK23
  clear hb
  by_cases hp : v4 = 0
  · obtain ⟨⟨x5, y5, nm⟩, h5⟩ : ∃ r, xRes bs x4 y4 24 = r := ⟨_, rfl⟩
    have H5 := Lib.hid h5
    subst hp
    rw [if_pos rfl, h5] at HE
    clear h5
    simp only at HE
    have c_c_0_25 : w5.cell? ⟨w.heap.size, 0, none⟩ = some (.int .i64 q) := HK24.out.cell 2 rfl 0
    have c_c_1_26 : w5.cell? ⟨w.heap.size, 1, none⟩ = some (.int .i64 a) := HK24.out.cell 2 rfl 1
    have c_c_2_27 : w5.cell? ⟨w.heap.size, 2, none⟩ = some (.slice An nn cn) := HK24.out.cell 2 rfl 2
    have c_k_0_28 : w5.cell? ⟨gk, 0, none⟩ = some (.slice A n n) := HK24.out.cell 0 rfl 0
    have z_k_0_29 : w5.frozen? ⟨gk, 0, none⟩ = false := HK24.out.frozen 0 rfl 0
    have c_k_1_30 : w5.cell? ⟨gk, 1, none⟩ = some (.int .i64 x3) := HK24.out.cell 0 rfl 1
    have z_k_1_31 : w5.frozen? ⟨gk, 1, none⟩ = false := HK24.out.frozen 0 rfl 1
    have c_k_2_32 : w5.cell? ⟨gk, 2, none⟩ = some (.int .i64 y3) := HK24.out.cell 0 rfl 2
    have z_k_2_33 : w5.frozen? ⟨gk, 2, none⟩ = false := HK24.out.frozen 0 rfl 2
    have ne_34 : ¬ (gk = w.heap.size) := HK24.out.ne 0 2 (by decide) rfl rfl
    have ne_35 : ¬ (w.heap.size = gk) := HK24.out.ne 2 0 (by decide) rfl rfl
    have HK36 := Lib.hid (show Held w [] X (((w5.setCell ⟨gk, 0, none⟩ (.slice A n n)).setCell ⟨gk, 1, none⟩ (.int .i64 x4)).setCell ⟨gk, 2, none⟩ (.int .i64 y4)) [.box (gk) 252 #[.slice A n n, .int .i64 x4, .int .i64 y4], .box (w.heap.size + 1) 44 #[.int .i64 0, .int .i64 0, .int .i64 0, .string ⟨#[]⟩, .int .i64 0, .int .i64 0, .int .i64 0], .box (w.heap.size) 34 #[.int .i64 q, .int .i64 a, .slice An nn cn]] [Sl.fact nameSh An nn cn ns] from (((HK24.out.set_ 0 rfl 0 (.slice A n n)).set_ 0 rfl 1 (.int .i64 x4)).set_ 0 rfl 2 (.int .i64 y4)))
    clear HK24
    have HK37 := Lib.hid (show Held w [] X ((((w5.setCell ⟨gk, 0, none⟩ (.slice A n n)).setCell ⟨gk, 1, none⟩ (.int .i64 x4)).setCell ⟨gk, 2, none⟩ (.int .i64 y4)).alloc (.cells #[.int .i64 (q + (v2 : Int)), .int .i64 (a + (v3 : Int)), .int .i64 (v1 : Int), .string ⟨#[]⟩, .int .i64 0, .int .i64 0, .int .i64 0] 44)) [.box (w5.heap.size) 44 #[.int .i64 (q + (v2 : Int)), .int .i64 (a + (v3 : Int)), .int .i64 (v1 : Int), .string ⟨#[]⟩, .int .i64 0, .int .i64 0, .int .i64 0], .box (gk) 252 #[.slice A n n, .int .i64 x4, .int .i64 y4], .box (w.heap.size + 1) 44 #[.int .i64 0, .int .i64 0, .int .i64 0, .string ⟨#[]⟩, .int .i64 0, .int .i64 0, .int .i64 0], .box (w.heap.size) 34 #[.int .i64 q, .int .i64 a, .slice An nn cn]] [Sl.fact nameSh An nn cn ns] from HK36.out.alloc_at 44 #[.int .i64 (q + (v2 : Int)), .int .i64 (a + (v3 : Int)), .int .i64 (v1 : Int), .string ⟨#[]⟩, .int .i64 0, .int .i64 0, .int .i64 0] (w5.heap.size) (by simp))
    clear HK36
    go_upto_region 6 with (fail)
    clear c_c_0_25 c_c_1_26 c_c_2_27 c_k_0_28 z_k_0_29 c_k_1_30 z_k_1_31 c_k_2_32 z_k_2_33 ne_34 ne_35
    generalize (((w5.setCell ⟨gk, 0, none⟩ (.slice A n n)).setCell ⟨gk, 1, none⟩ (.int .i64 x4)).setCell ⟨gk, 2, none⟩ (.int .i64 y4)).alloc (.cells #[.int .i64 (q + (v2 : Int)), .int .i64 (a + (v3 : Int)), .int .i64 (v1 : Int), .string ⟨#[]⟩, .int .i64 0, .int .i64 0, .int .i64 0] 44) = w6 at HK37 ⊢
    generalize w5.heap.size = ge at HK37 ⊢
    have c_c_0_38 : w6.cell? ⟨w.heap.size, 0, none⟩ = some (.int .i64 q) := HK37.out.cell 3 rfl 0
    have c_c_1_39 : w6.cell? ⟨w.heap.size, 1, none⟩ = some (.int .i64 a) := HK37.out.cell 3 rfl 1
    have c_c_2_40 : w6.cell? ⟨w.heap.size, 2, none⟩ = some (.slice An nn cn) := HK37.out.cell 3 rfl 2
    have c_k_0_41 : w6.cell? ⟨gk, 0, none⟩ = some (.slice A n n) := HK37.out.cell 1 rfl 0
    have z_k_0_42 : w6.frozen? ⟨gk, 0, none⟩ = false := HK37.out.frozen 1 rfl 0
    have c_k_1_43 : w6.cell? ⟨gk, 1, none⟩ = some (.int .i64 x4) := HK37.out.cell 1 rfl 1
    have z_k_1_44 : w6.frozen? ⟨gk, 1, none⟩ = false := HK37.out.frozen 1 rfl 1
    have c_k_2_45 : w6.cell? ⟨gk, 2, none⟩ = some (.int .i64 y4) := HK37.out.cell 1 rfl 2
    have z_k_2_46 : w6.frozen? ⟨gk, 2, none⟩ = false := HK37.out.frozen 1 rfl 2
    have c_e_0_47 : w6.cell? ⟨ge, 0, none⟩ = some (.int .i64 (q + (v2 : Int))) := HK37.out.cell 0 rfl 0
    have z_e_0_48 : w6.frozen? ⟨ge, 0, none⟩ = false := HK37.out.frozen 0 rfl 0
    have c_e_1_49 : w6.cell? ⟨ge, 1, none⟩ = some (.int .i64 (a + (v3 : Int))) := HK37.out.cell 0 rfl 1
    have z_e_1_50 : w6.frozen? ⟨ge, 1, none⟩ = false := HK37.out.frozen 0 rfl 1
    have c_e_2_51 : w6.cell? ⟨ge, 2, none⟩ = some (.int .i64 (v1 : Int)) := HK37.out.cell 0 rfl 2
    have z_e_2_52 : w6.frozen? ⟨ge, 2, none⟩ = false := HK37.out.frozen 0 rfl 2
    have c_e_3_53 : w6.cell? ⟨ge, 3, none⟩ = some (.string ⟨#[]⟩) := HK37.out.cell 0 rfl 3
    have z_e_3_54 : w6.frozen? ⟨ge, 3, none⟩ = false := HK37.out.frozen 0 rfl 3
    have c_e_4_55 : w6.cell? ⟨ge, 4, none⟩ = some (.int .i64 0) := HK37.out.cell 0 rfl 4
    have z_e_4_56 : w6.frozen? ⟨ge, 4, none⟩ = false := HK37.out.frozen 0 rfl 4
    have c_e_5_57 : w6.cell? ⟨ge, 5, none⟩ = some (.int .i64 0) := HK37.out.cell 0 rfl 5
    have z_e_5_58 : w6.frozen? ⟨ge, 5, none⟩ = false := HK37.out.frozen 0 rfl 5
    have c_e_6_59 : w6.cell? ⟨ge, 6, none⟩ = some (.int .i64 0) := HK37.out.cell 0 rfl 6
    have z_e_6_60 : w6.frozen? ⟨ge, 6, none⟩ = false := HK37.out.frozen 0 rfl 6
    go_wp2_with fail
    with_reducible refine (Text_c A n n x4 y4 bs _ _ (HR.out.below (HK37.out.below.mono hB)) (Nat.le_trans hB HK37.out.size) (Nat.le_refl _) (by omega) hn 24 (by omega)).mono ?_
    rw [H5.out]
    rintro e w7 ⟨rfl, hb⟩
    clear c_c_0_38 c_c_1_39 c_c_2_40 c_k_0_41 z_k_0_42 c_k_1_43 z_k_1_44 c_k_2_45 z_k_2_46 c_e_0_47 z_e_0_48 c_e_1_49 z_e_1_50 c_e_2_51 z_e_2_52 c_e_3_53 z_e_3_54 c_e_4_55 z_e_4_56 c_e_5_57 z_e_5_58 c_e_6_59 z_e_6_60
    have HK61 := Lib.hid (show Held w [] X w7 [.box (ge) 44 #[.int .i64 (q + (v2 : Int)), .int .i64 (a + (v3 : Int)), .int .i64 (v1 : Int), .string ⟨#[]⟩, .int .i64 0, .int .i64 0, .int .i64 0], .box (gk) 252 #[.slice A n n, .int .i64 x4, .int .i64 y4], .box (w.heap.size + 1) 44 #[.int .i64 0, .int .i64 0, .int .i64 0, .string ⟨#[]⟩, .int .i64 0, .int .i64 0, .int .i64 0], .box (w.heap.size) 34 #[.int .i64 q, .int .i64 a, .slice An nn cn]] [Sl.fact nameSh An nn cn ns] from (HK37.out.on hb))
    clear HK37
    clear hb
    have c_e_0_62 : w7.cell? ⟨ge, 0, none⟩ = some (.int .i64 (q + (v2 : Int))) := HK61.out.cell 0 rfl 0
    have z_e_0_63 : w7.frozen? ⟨ge, 0, none⟩ = false := HK61.out.frozen 0 rfl 0
    have c_e_1_64 : w7.cell? ⟨ge, 1, none⟩ = some (.int .i64 (a + (v3 : Int))) := HK61.out.cell 0 rfl 1
    have z_e_1_65 : w7.frozen? ⟨ge, 1, none⟩ = false := HK61.out.frozen 0 rfl 1
    have c_e_2_66 : w7.cell? ⟨ge, 2, none⟩ = some (.int .i64 (v1 : Int)) := HK61.out.cell 0 rfl 2
    have z_e_2_67 : w7.frozen? ⟨ge, 2, none⟩ = false := HK61.out.frozen 0 rfl 2
    have c_e_3_68 : w7.cell? ⟨ge, 3, none⟩ = some (.string ⟨#[]⟩) := HK61.out.cell 0 rfl 3
    have z_e_3_69 : w7.frozen? ⟨ge, 3, none⟩ = false := HK61.out.frozen 0 rfl 3
    have c_e_4_70 : w7.cell? ⟨ge, 4, none⟩ = some (.int .i64 0) := HK61.out.cell 0 rfl 4
    have z_e_4_71 : w7.frozen? ⟨ge, 4, none⟩ = false := HK61.out.frozen 0 rfl 4
    have c_e_5_72 : w7.cell? ⟨ge, 5, none⟩ = some (.int .i64 0) := HK61.out.cell 0 rfl 5
    have z_e_5_73 : w7.frozen? ⟨ge, 5, none⟩ = false := HK61.out.frozen 0 rfl 5
    have c_e_6_74 : w7.cell? ⟨ge, 6, none⟩ = some (.int .i64 0) := HK61.out.cell 0 rfl 6
    have z_e_6_75 : w7.frozen? ⟨ge, 6, none⟩ = false := HK61.out.frozen 0 rfl 6
    have c_k_0_76 : w7.cell? ⟨gk, 0, none⟩ = some (.slice A n n) := HK61.out.cell 1 rfl 0
    have z_k_0_77 : w7.frozen? ⟨gk, 0, none⟩ = false := HK61.out.frozen 1 rfl 0
    have c_k_1_78 : w7.cell? ⟨gk, 1, none⟩ = some (.int .i64 x4) := HK61.out.cell 1 rfl 1
    have z_k_1_79 : w7.frozen? ⟨gk, 1, none⟩ = false := HK61.out.frozen 1 rfl 1
    have c_k_2_80 : w7.cell? ⟨gk, 2, none⟩ = some (.int .i64 y4) := HK61.out.cell 1 rfl 2
    have z_k_2_81 : w7.frozen? ⟨gk, 2, none⟩ = false := HK61.out.frozen 1 rfl 2
    have ne_82 : ¬ (ge = gk) := HK61.out.ne 0 1 (by decide) rfl rfl
    have ne_83 : ¬ (gk = ge) := HK61.out.ne 1 0 (by decide) rfl rfl
    go_upto_region 11 with (fail)
    clear c_e_0_62 z_e_0_63 c_e_1_64 z_e_1_65 c_e_2_66 z_e_2_67 c_e_3_68 z_e_3_69 c_e_4_70 z_e_4_71 c_e_5_72 z_e_5_73 c_e_6_74 z_e_6_75 c_k_0_76 z_k_0_77 c_k_1_78 z_k_1_79 c_k_2_80 z_k_2_81 ne_82 ne_83
    have HK84 := Lib.hid (show Held w [] X (((w7.setCell ⟨gk, 0, none⟩ (.slice A n n)).setCell ⟨gk, 1, none⟩ (.int .i64 x5)).setCell ⟨gk, 2, none⟩ (.int .i64 y5)) [.box (ge) 44 #[.int .i64 (q + (v2 : Int)), .int .i64 (a + (v3 : Int)), .int .i64 (v1 : Int), .string ⟨#[]⟩, .int .i64 0, .int .i64 0, .int .i64 0], .box (gk) 252 #[.slice A n n, .int .i64 x5, .int .i64 y5], .box (w.heap.size + 1) 44 #[.int .i64 0, .int .i64 0, .int .i64 0, .string ⟨#[]⟩, .int .i64 0, .int .i64 0, .int .i64 0], .box (w.heap.size) 34 #[.int .i64 q, .int .i64 a, .slice An nn cn]] [Sl.fact nameSh An nn cn ns] from (((HK61.out.set_ 1 rfl 0 (.slice A n n)).set_ 1 rfl 1 (.int .i64 x5)).set_ 1 rfl 2 (.int .i64 y5)))
    clear HK61
    have HK85 := Lib.hid (show Held w [] X ((((w7.setCell ⟨gk, 0, none⟩ (.slice A n n)).setCell ⟨gk, 1, none⟩ (.int .i64 x5)).setCell ⟨gk, 2, none⟩ (.int .i64 y5)).setCell ⟨ge, 3, none⟩ (.string (strB nm))) [.box (ge) 44 #[.int .i64 (q + (v2 : Int)), .int .i64 (a + (v3 : Int)), .int .i64 (v1 : Int), .string (strB nm), .int .i64 0, .int .i64 0, .int .i64 0], .box (gk) 252 #[.slice A n n, .int .i64 x5, .int .i64 y5], .box (w.heap.size + 1) 44 #[.int .i64 0, .int .i64 0, .int .i64 0, .string ⟨#[]⟩, .int .i64 0, .int .i64 0, .int .i64 0], .box (w.heap.size) 34 #[.int .i64 q, .int .i64 a, .slice An nn cn]] [Sl.fact nameSh An nn cn ns] from HK84.out.set_ 0 rfl 3 (.string (strB nm)))
    clear HK84
    generalize (((w7.setCell ⟨gk, 0, none⟩ (.slice A n n)).setCell ⟨gk, 1, none⟩ (.int .i64 x5)).setCell ⟨gk, 2, none⟩ (.int .i64 y5)).setCell ⟨ge, 3, none⟩ (.string (strB nm)) = w8 at HK85 ⊢
    have c_e_0_86 : w8.cell? ⟨ge, 0, none⟩ = some (.int .i64 (q + (v2 : Int))) := HK85.out.cell 0 rfl 0
    have c_e_1_87 : w8.cell? ⟨ge, 1, none⟩ = some (.int .i64 (a + (v3 : Int))) := HK85.out.cell 0 rfl 1
    have c_e_2_88 : w8.cell? ⟨ge, 2, none⟩ = some (.int .i64 (v1 : Int)) := HK85.out.cell 0 rfl 2
    have c_e_3_89 : w8.cell? ⟨ge, 3, none⟩ = some (.string (strB nm)) := HK85.out.cell 0 rfl 3
    have c_e_4_90 : w8.cell? ⟨ge, 4, none⟩ = some (.int .i64 0) := HK85.out.cell 0 rfl 4
    have c_e_5_91 : w8.cell? ⟨ge, 5, none⟩ = some (.int .i64 0) := HK85.out.cell 0 rfl 5
    have c_e_6_92 : w8.cell? ⟨ge, 6, none⟩ = some (.int .i64 0) := HK85.out.cell 0 rfl 6
    have c_k_0_93 : w8.cell? ⟨gk, 0, none⟩ = some (.slice A n n) := HK85.out.cell 1 rfl 0
    have c_k_1_94 : w8.cell? ⟨gk, 1, none⟩ = some (.int .i64 x5) := HK85.out.cell 1 rfl 1
    have c_k_2_95 : w8.cell? ⟨gk, 2, none⟩ = some (.int .i64 y5) := HK85.out.cell 1 rfl 2
    go_wp2_with (go_at_call 57; refine ((HM _).out).mono ?_; rintro e w' ⟨rfl, rfl⟩)
    clear c_e_0_86 c_e_1_87 c_e_2_88 c_e_3_89 c_e_4_90 c_e_5_91 c_e_6_92 c_k_0_93 c_k_1_94 c_k_2_95
    have HK96 := Lib.hid (show Held w [] X w8 [.row 2 1 (.slice none 0 0) (0) ([]), .box (ge) 44 #[.int .i64 (q + (v2 : Int)), .int .i64 (a + (v3 : Int)), .int .i64 (v1 : Int), .string (strB nm), .int .i64 0, .int .i64 0, .int .i64 0], .box (gk) 252 #[.slice A n n, .int .i64 x5, .int .i64 y5], .box (w.heap.size + 1) 44 #[.int .i64 0, .int .i64 0, .int .i64 0, .string ⟨#[]⟩, .int .i64 0, .int .i64 0, .int .i64 0], .box (w.heap.size) 34 #[.int .i64 q, .int .i64 a, .slice An nn cn]] [Sl.fact nameSh An nn cn ns] from HK85.out.nil_row 2 1)
    clear HK85
    go_loopw [14, 69] (fun l0 i wr => ∃ (j : Nat) (l : Value), l = l0 ∧ j ≤ m ∧ i = .int .i64 j ∧ Hid (Held w [] X wr [.row 2 1 (l) (j) ((numsR bs (x5) (y5) j).2.2.map (Value.int .i64)), .box (ge) 44 #[.int .i64 (q + (v2 : Int)), .int .i64 (a + (v3 : Int)), .int .i64 (v1 : Int), .string (strB nm), .int .i64 0, .int .i64 0, .int .i64 0], .box (gk) 252 #[.slice A n n, .int .i64 (numsR bs (x5) (y5) j).1, .int .i64 (numsR bs (x5) (y5) j).2.1], .box (w.heap.size + 1) 44 #[.int .i64 0, .int .i64 0, .int .i64 0, .string ⟨#[]⟩, .int .i64 0, .int .i64 0, .int .i64 0], .box (w.heap.size) 34 #[.int .i64 q, .int .i64 a, .slice An nn cn]] [Sl.fact nameSh An nn cn ns])) (fun _ i _ => m - (intOf i).toNat)
    case atStart => exact ⟨0, _, rfl, Nat.zero_le _, rfl, HK96⟩
    case round =>
      clear HK96
      obtain ⟨j, l, rfl, hj, rfl, HKl⟩ := hrel
      by_cases hlt : j < m
      · skip
        obtain ⟨⟨x6, y6, v6⟩, h6⟩ : ∃ r, upRes bs (numsR bs (x5) (y5) j).1 (numsR bs (x5) (y5) j).2.1 2147483647 = r := ⟨_, rfl⟩
        have HN := Lib.hid (show numsR bs (x5) (y5) (j + 1) = (x6, y6, (numsR bs (x5) (y5) j).2.2 ++ [(v6 : Int)]) from by rw [numsR, h6])
        have H6 := Lib.hid h6
        clear h6
        have HL := Lib.hid (numsR_length bs (x5) (y5) j)
        generalize hst : numsR bs (x5) (y5) j = st at HKl H6 HN HL
        clear hst
        obtain ⟨sx, sy, sl⟩ := st
        simp only at HKl H6 HN HL
        have c_k_0_97 : wr.cell? ⟨gk, 0, none⟩ = some (.slice A n n) := HKl.out.cell 2 rfl 0
        have z_k_0_98 : wr.frozen? ⟨gk, 0, none⟩ = false := HKl.out.frozen 2 rfl 0
        have c_k_1_99 : wr.cell? ⟨gk, 1, none⟩ = some (.int .i64 sx) := HKl.out.cell 2 rfl 1
        have z_k_1_100 : wr.frozen? ⟨gk, 1, none⟩ = false := HKl.out.frozen 2 rfl 1
        have c_k_2_101 : wr.cell? ⟨gk, 2, none⟩ = some (.int .i64 sy) := HKl.out.cell 2 rfl 2
        have z_k_2_102 : wr.frozen? ⟨gk, 2, none⟩ = false := HKl.out.frozen 2 rfl 2
        go_wp2_with fail
        with_reducible refine (upTo_l A n n sx sy bs _ _ (HR.out.below (HKl.out.below.mono hB)) (Nat.le_trans hB HKl.out.size) (Nat.le_refl _) (by omega) hn 2147483647 (by omega) 2147483647 rfl).mono ?_
        rw [H6.out]
        rintro e w7 ⟨rfl, hb⟩
        clear c_k_0_97 z_k_0_98 c_k_1_99 z_k_1_100 c_k_2_101 z_k_2_102
        have HK103 := Lib.hid (show Held w [] X w7 [.row 2 1 (l) (j) (sl.map (Value.int .i64)), .box (ge) 44 #[.int .i64 (q + (v2 : Int)), .int .i64 (a + (v3 : Int)), .int .i64 (v1 : Int), .string (strB nm), .int .i64 0, .int .i64 0, .int .i64 0], .box (gk) 252 #[.slice A n n, .int .i64 sx, .int .i64 sy], .box (w.heap.size + 1) 44 #[.int .i64 0, .int .i64 0, .int .i64 0, .string ⟨#[]⟩, .int .i64 0, .int .i64 0, .int .i64 0], .box (w.heap.size) 34 #[.int .i64 q, .int .i64 a, .slice An nn cn]] [Sl.fact nameSh An nn cn ns] from (HKl.out.on hb))
        clear HKl
        clear hb
        have c_k_0_104 : w7.cell? ⟨gk, 0, none⟩ = some (.slice A n n) := HK103.out.cell 2 rfl 0
        have z_k_0_105 : w7.frozen? ⟨gk, 0, none⟩ = false := HK103.out.frozen 2 rfl 0
        have c_k_1_106 : w7.cell? ⟨gk, 1, none⟩ = some (.int .i64 sx) := HK103.out.cell 2 rfl 1
        have z_k_1_107 : w7.frozen? ⟨gk, 1, none⟩ = false := HK103.out.frozen 2 rfl 1
        have c_k_2_108 : w7.cell? ⟨gk, 2, none⟩ = some (.int .i64 sy) := HK103.out.cell 2 rfl 2
        have z_k_2_109 : w7.frozen? ⟨gk, 2, none⟩ = false := HK103.out.frozen 2 rfl 2
        go_upto_region 16 with (fail)
        clear c_k_0_104 z_k_0_105 c_k_1_106 z_k_1_107 c_k_2_108 z_k_2_109
        have HK110 := Lib.hid (show Held w [] X (((w7.setCell ⟨gk, 0, none⟩ (.slice A n n)).setCell ⟨gk, 1, none⟩ (.int .i64 x6)).setCell ⟨gk, 2, none⟩ (.int .i64 y6)) [.row 2 1 (l) (j) (sl.map (Value.int .i64)), .box (ge) 44 #[.int .i64 (q + (v2 : Int)), .int .i64 (a + (v3 : Int)), .int .i64 (v1 : Int), .string (strB nm), .int .i64 0, .int .i64 0, .int .i64 0], .box (gk) 252 #[.slice A n n, .int .i64 x6, .int .i64 y6], .box (w.heap.size + 1) 44 #[.int .i64 0, .int .i64 0, .int .i64 0, .string ⟨#[]⟩, .int .i64 0, .int .i64 0, .int .i64 0], .box (w.heap.size) 34 #[.int .i64 q, .int .i64 a, .slice An nn cn]] [Sl.fact nameSh An nn cn ns] from (((HK103.out.set_ 2 rfl 0 (.slice A n n)).set_ 2 rfl 1 (.int .i64 x6)).set_ 2 rfl 2 (.int .i64 y6)))
        clear HK103
        generalize ((w7.setCell ⟨gk, 0, none⟩ (.slice A n n)).setCell ⟨gk, 1, none⟩ (.int .i64 x6)).setCell ⟨gk, 2, none⟩ (.int .i64 y6) = w70 at HK110 ⊢
        go_wp2_with (at_builtin; go_must (refine wpList_append_new HK110.out 0 rfl (.tmp 76) (.tmp 78) 278 rfl appInt rfl rfl (cs := #[.int .i64 (v6 : Int)]) rfl rfl (by simp [Value.oneCell']) (by unfold maxLen; omega) (by omega) ?_); intro l2 w8 hk8)
        have HK8 := Lib.hid hk8
        clear hk8
        exact ⟨⟨j + 1, l2, rfl, by omega, by go_num, Lib.hid (by rw [HN.out]; simp only [List.map_append, List.map_cons, List.map_nil]; exact HK8.out)⟩, by simp [intOf]; omega⟩
      · obtain rfl : m = j := by omega
        have HL := Lib.hid (numsR_length bs (x5) (y5) m)
        generalize hst : numsR bs (x5) (y5) m = st at HKl HL HE
        clear hst
        obtain ⟨sx, sy, sl⟩ := st
        simp only at HKl HL HE
        have HO := own_reads (HKl.out.row 0 rfl)
        obtain ⟨Al, cl, rfl, -, -, -, hrl⟩ := HO
        have HRl := Lib.hid hrl
        clear hrl
        have HD := Lib.hid (show (sy == 0) = r.2 from by rw [HE.out]; rfl)
        have HFl := Lib.hid (show fillE ⟨q + (v2 : Int), a + (v3 : Int), (v1 : Int), strB nm, 0, 0, 0⟩ sl = r.1 from by rw [HE.out])
        go_wp2_with fail
        refine wp_region_noPanic ?_
        refine wp_region_held_drew (S := fun W' => HeldBut w [] X W' [.row 2 1 (.slice Al m cl) (m) (sl.map (Value.int .i64)), .box (ge) 44 #[.int .i64 (q + (v2 : Int)), .int .i64 (a + (v3 : Int)), .int .i64 (v1 : Int), .string (strB nm), .int .i64 0, .int .i64 0, .int .i64 0], .box (gk) 252 #[.slice A n n, .int .i64 sx, .int .i64 sy], .box (w.heap.size + 1) 44 #[.int .i64 0, .int .i64 0, .int .i64 0, .string ⟨#[]⟩, .int .i64 0, .int .i64 0, .int .i64 0], .box (w.heap.size) 34 #[.int .i64 q, .int .i64 a, .slice An nn cn]] [Sl.fact nameSh An nn cn ns] 3 (w.heap.size + 1) 44) (by kernel_rfl) (HKl.out.but 3 rfl).drew (fun hHeld => ?_)
        have c_r_0_97 : wr.cell? ⟨w.heap.size + 1, 0, none⟩ = some (.int .i64 0) := HKl.out.cell 3 rfl 0
        have z_r_0_98 : wr.frozen? ⟨w.heap.size + 1, 0, none⟩ = false := HKl.out.frozen 3 rfl 0
        have c_r_1_99 : wr.cell? ⟨w.heap.size + 1, 1, none⟩ = some (.int .i64 0) := HKl.out.cell 3 rfl 1
        have z_r_1_100 : wr.frozen? ⟨w.heap.size + 1, 1, none⟩ = false := HKl.out.frozen 3 rfl 1
        have c_r_2_101 : wr.cell? ⟨w.heap.size + 1, 2, none⟩ = some (.int .i64 0) := HKl.out.cell 3 rfl 2
        have z_r_2_102 : wr.frozen? ⟨w.heap.size + 1, 2, none⟩ = false := HKl.out.frozen 3 rfl 2
        have c_r_3_103 : wr.cell? ⟨w.heap.size + 1, 3, none⟩ = some (.string ⟨#[]⟩) := HKl.out.cell 3 rfl 3
        have z_r_3_104 : wr.frozen? ⟨w.heap.size + 1, 3, none⟩ = false := HKl.out.frozen 3 rfl 3
        have c_r_4_105 : wr.cell? ⟨w.heap.size + 1, 4, none⟩ = some (.int .i64 0) := HKl.out.cell 3 rfl 4
        have z_r_4_106 : wr.frozen? ⟨w.heap.size + 1, 4, none⟩ = false := HKl.out.frozen 3 rfl 4
        have c_r_5_107 : wr.cell? ⟨w.heap.size + 1, 5, none⟩ = some (.int .i64 0) := HKl.out.cell 3 rfl 5
        have z_r_5_108 : wr.frozen? ⟨w.heap.size + 1, 5, none⟩ = false := HKl.out.frozen 3 rfl 5
        have c_r_6_109 : wr.cell? ⟨w.heap.size + 1, 6, none⟩ = some (.int .i64 0) := HKl.out.cell 3 rfl 6
        have z_r_6_110 : wr.frozen? ⟨w.heap.size + 1, 6, none⟩ = false := HKl.out.frozen 3 rfl 6
        refine takeH 0 (v := ?v0u1) rfl (by kernel_rfl) (by kernel_rfl) (by kernel_rfl) rfl (fun _ _ _ h => h) (Or.inl ⟨by rfl, ?y0u1⟩) hHeld ?r0u1
        case y0u1 => (intro W hSW; (try dsimp only at hSW); have q0 : W.cell? ⟨ge, 0, none⟩ = some (.int .i64 (q + (v2 : Int))) := hSW.cell 1 rfl (by decide) 0; have q1 : W.cell? ⟨ge, 1, none⟩ = some (.int .i64 (a + (v3 : Int))) := hSW.cell 1 rfl (by decide) 1; have q2 : W.cell? ⟨ge, 2, none⟩ = some (.int .i64 (v1 : Int)) := hSW.cell 1 rfl (by decide) 2; have q3 : W.cell? ⟨ge, 3, none⟩ = some (.string (strB nm)) := hSW.cell 1 rfl (by decide) 3; have q4 : W.cell? ⟨ge, 4, none⟩ = some (.int .i64 0) := hSW.cell 1 rfl (by decide) 4; have q5 : W.cell? ⟨ge, 5, none⟩ = some (.int .i64 0) := hSW.cell 1 rfl (by decide) 5; have q6 : W.cell? ⟨ge, 6, none⟩ = some (.int .i64 0) := hSW.cell 1 rfl (by decide) 6; go_simp; try with_reducible rfl)
        simp only [Act.put, sI, sZ, sS]
        refine takeH 1 (v := ?v1u2) rfl (by kernel_rfl) (by kernel_rfl) (by kernel_rfl) rfl (fun _ _ _ h => h) (Or.inl ⟨by rfl, ?y1u2⟩) hHeld ?r1u2
        case y1u2 => (intro W hSW; (try dsimp only at hSW); go_simp; try with_reducible rfl)
        simp only [Act.put, sI, sZ, sS]
        refine takeH 3 (v := ?v3u3) rfl (by kernel_rfl) (by kernel_rfl) (by kernel_rfl) rfl (fun _ _ _ h => h) (Or.inl ⟨by rfl, ?y3u3⟩) hHeld ?r3u3
        case y3u3 => (intro W hSW; (try dsimp only at hSW); go_simp; try with_reducible rfl)
        simp only [Act.put, sI, sZ, sS]
        refine takeH 4 (v := ?v4u4) rfl (by kernel_rfl) (by kernel_rfl) (by kernel_rfl) rfl (fun _ _ _ h => h) (Or.inl ⟨by rfl, ?y4u4⟩) hHeld ?r4u4
        case y4u4 => (intro W hSW; (try dsimp only at hSW); have q2 : W.cell? ⟨gk, 2, none⟩ = some (.int .i64 sy) := hSW.cell 2 rfl (by decide) 2; go_simp; try with_reducible rfl)
        simp only [Act.put, sI, sZ, sS]
        refine takeH 5 (v := ?v5u5) rfl (by kernel_rfl) (by kernel_rfl) (by kernel_rfl) rfl (fun _ _ _ h => h) (Or.inl ⟨by rfl, ?y5u5⟩) hHeld ?r5u5
        case y5u5 => (intro W hSW; (try dsimp only at hSW); go_simp; try with_reducible rfl)
        simp only [Act.put, sI, sZ, sS]
        have HKd := Lib.hid HKl.out.drew
        refine wpAnyH_ready (rs := [2]) (by kernel_rfl) (by simp) ?_
        refine AllReadyH.cons rfl (fun K hK => ?_) AllReadyH.nil
        go_simp
        refine (Fill_c ⟨q + (v2 : Int), a + (v3 : Int), (v1 : Int), strB nm, 0, 0, 0⟩ Al m cl wr.heap.size sl wr.drew HRl.out.drew (Nat.le_refl _) hm3).mono ?_
        rw [HFl.out]
        rintro e w9 ⟨rfl, hb9⟩
        have HK9 := Lib.hid (HKd.out.on hb9)
        have hkn := hHeld.on hb9
        clear hb9
        refine hK.out _ _ hkn (fun hHeld => ?_)
        clear hK K
        try simp only [Act.put, sI, sZ, sS]
        obtain ⟨⟨rq, ra, rk, rcm, rx, ry, rz⟩, rb⟩ := r
        simp only at HD
        clear c_r_0_97 z_r_0_98 c_r_1_99 z_r_1_100 c_r_2_101 z_r_2_102 c_r_3_103 z_r_3_104 c_r_4_105 z_r_4_106 c_r_5_107 z_r_5_108 c_r_6_109 z_r_6_110
        have c_r_0_111 : w9.cell? ⟨w.heap.size + 1, 0, none⟩ = some (.int .i64 0) := HK9.out.cell 3 rfl 0
        have z_r_0_112 : w9.frozen? ⟨w.heap.size + 1, 0, none⟩ = false := HK9.out.frozen 3 rfl 0
        have c_r_1_113 : w9.cell? ⟨w.heap.size + 1, 1, none⟩ = some (.int .i64 0) := HK9.out.cell 3 rfl 1
        have z_r_1_114 : w9.frozen? ⟨w.heap.size + 1, 1, none⟩ = false := HK9.out.frozen 3 rfl 1
        have c_r_2_115 : w9.cell? ⟨w.heap.size + 1, 2, none⟩ = some (.int .i64 0) := HK9.out.cell 3 rfl 2
        have z_r_2_116 : w9.frozen? ⟨w.heap.size + 1, 2, none⟩ = false := HK9.out.frozen 3 rfl 2
        have c_r_3_117 : w9.cell? ⟨w.heap.size + 1, 3, none⟩ = some (.string ⟨#[]⟩) := HK9.out.cell 3 rfl 3
        have z_r_3_118 : w9.frozen? ⟨w.heap.size + 1, 3, none⟩ = false := HK9.out.frozen 3 rfl 3
        have c_r_4_119 : w9.cell? ⟨w.heap.size + 1, 4, none⟩ = some (.int .i64 0) := HK9.out.cell 3 rfl 4
        have z_r_4_120 : w9.frozen? ⟨w.heap.size + 1, 4, none⟩ = false := HK9.out.frozen 3 rfl 4
        have c_r_5_121 : w9.cell? ⟨w.heap.size + 1, 5, none⟩ = some (.int .i64 0) := HK9.out.cell 3 rfl 5
        have z_r_5_122 : w9.frozen? ⟨w.heap.size + 1, 5, none⟩ = false := HK9.out.frozen 3 rfl 5
        have c_r_6_123 : w9.cell? ⟨w.heap.size + 1, 6, none⟩ = some (.int .i64 0) := HK9.out.cell 3 rfl 6
        have z_r_6_124 : w9.frozen? ⟨w.heap.size + 1, 6, none⟩ = false := HK9.out.frozen 3 rfl 6
        refine wpAnyH_ready (rs := [6]) (by kernel_rfl) (by simp) ?_
        refine AllReadyH.cons rfl (fun K hK => ?_) AllReadyH.nil
        go_simp
        refine hK.out _ _ (((((((hHeld.set_ (by simp) 0 (.int .i64 rq)).set_ (by simp) 1 (.int .i64 ra)).set_ (by simp) 2 (.int .i64 rk)).set_ (by simp) 3 (.string rcm)).set_ (by simp) 4 (.int .i64 rx)).set_ (by simp) 5 (.int .i64 ry)).set_ (by simp) 6 (.int .i64 rz)) (fun hHeld => ?_)
        clear hK K
        try simp only [Act.put, sI, sZ, sS]
        refine takeH 7 (v := ?v7u6) rfl (by kernel_rfl) (by kernel_rfl) (by kernel_rfl) rfl (fun _ _ _ h => h) (Or.inl ⟨by rfl, ?y7u6⟩) hHeld ?r7u6
        case y7u6 => (intro W hSW; (try dsimp only at hSW); go_simp; try with_reducible rfl)
        simp only [Act.put, sI, sZ, sS]
        refine wpAnyH_done (by kernel_rfl) ?_ _
        refine NoPanic.normal ?_
        clear c_r_0_111 z_r_0_112 c_r_1_113 z_r_1_114 c_r_2_115 z_r_2_116 c_r_3_117 z_r_3_118 c_r_4_119 z_r_4_120 c_r_5_121 z_r_5_122 c_r_6_123 z_r_6_124
        have HK125 := Lib.hid (show Held w [] X (((((((w9.setCell ⟨w.heap.size + 1, 0, none⟩ (.int .i64 rq)).setCell ⟨w.heap.size + 1, 1, none⟩ (.int .i64 ra)).setCell ⟨w.heap.size + 1, 2, none⟩ (.int .i64 rk)).setCell ⟨w.heap.size + 1, 3, none⟩ (.string rcm)).setCell ⟨w.heap.size + 1, 4, none⟩ (.int .i64 rx)).setCell ⟨w.heap.size + 1, 5, none⟩ (.int .i64 ry)).setCell ⟨w.heap.size + 1, 6, none⟩ (.int .i64 rz)) [.row 2 1 (.slice Al m cl) (m) (sl.map (Value.int .i64)), .box (ge) 44 #[.int .i64 (q + (v2 : Int)), .int .i64 (a + (v3 : Int)), .int .i64 (v1 : Int), .string (strB nm), .int .i64 0, .int .i64 0, .int .i64 0], .box (gk) 252 #[.slice A n n, .int .i64 sx, .int .i64 sy], .box (w.heap.size + 1) 44 #[.int .i64 rq, .int .i64 ra, .int .i64 rk, .string rcm, .int .i64 rx, .int .i64 ry, .int .i64 rz], .box (w.heap.size) 34 #[.int .i64 q, .int .i64 a, .slice An nn cn]] [Sl.fact nameSh An nn cn ns] from (((((((HK9.out.set_ 3 rfl 0 (.int .i64 rq)).set_ 3 rfl 1 (.int .i64 ra)).set_ 3 rfl 2 (.int .i64 rk)).set_ 3 rfl 3 (.string rcm)).set_ 3 rfl 4 (.int .i64 rx)).set_ 3 rfl 5 (.int .i64 ry)).set_ 3 rfl 6 (.int .i64 rz)))
        clear HK9
        go_wp2
        exact bodyPost_ret (res_read (HK125.out.blk 3 rfl) (u := .bool (sy == 0)) _ rfl rfl) rfl ⟨by rw [HD.out], HK125.out.below⟩
  have p0 : (((v4 : Int)) == 0) = false := by rw [beq_eq_false_iff_ne]; omega
  have p1 : (v4 == 0) = false := by rw [beq_eq_false_iff_ne]; omega
  rw [if_neg hp] at HE
  simp only at HE
  by_cases hin : v4 ≤ nn
  · obtain ⟨nm, hnm⟩ : ∃ nm, ns[v4 - 1]? = some nm := ⟨_, List.getElem?_eq_getElem (by have := HNL.out; omega)⟩
    rw [hnm, Option.getD_some] at HE
    have HNm := Lib.hid (show (ns.map strB)[v4 - 1]? = some (strB nm) from by rw [List.getElem?_map, hnm]; rfl)
    have HP := Lib.hid (show (((v4 - 1 : Nat) : Int) + 1) = (v4 : Int) from by omega)
    clear hnm hp
    have c_c_0_25 : w5.cell? ⟨w.heap.size, 0, none⟩ = some (.int .i64 q) := HK24.out.cell 2 rfl 0
    have c_c_1_26 : w5.cell? ⟨w.heap.size, 1, none⟩ = some (.int .i64 a) := HK24.out.cell 2 rfl 1
    have c_c_2_27 : w5.cell? ⟨w.heap.size, 2, none⟩ = some (.slice An nn cn) := HK24.out.cell 2 rfl 2
    have c_k_0_28 : w5.cell? ⟨gk, 0, none⟩ = some (.slice A n n) := HK24.out.cell 0 rfl 0
    have z_k_0_29 : w5.frozen? ⟨gk, 0, none⟩ = false := HK24.out.frozen 0 rfl 0
    have c_k_1_30 : w5.cell? ⟨gk, 1, none⟩ = some (.int .i64 x3) := HK24.out.cell 0 rfl 1
    have z_k_1_31 : w5.frozen? ⟨gk, 1, none⟩ = false := HK24.out.frozen 0 rfl 1
    have c_k_2_32 : w5.cell? ⟨gk, 2, none⟩ = some (.int .i64 y3) := HK24.out.cell 0 rfl 2
    have z_k_2_33 : w5.frozen? ⟨gk, 2, none⟩ = false := HK24.out.frozen 0 rfl 2
    have ne_34 : ¬ (gk = w.heap.size) := HK24.out.ne 0 2 (by decide) rfl rfl
    have ne_35 : ¬ (w.heap.size = gk) := HK24.out.ne 2 0 (by decide) rfl rfl
    have HK36 := Lib.hid (show Held w [] X (((w5.setCell ⟨gk, 0, none⟩ (.slice A n n)).setCell ⟨gk, 1, none⟩ (.int .i64 x4)).setCell ⟨gk, 2, none⟩ (.int .i64 y4)) [.box (gk) 252 #[.slice A n n, .int .i64 x4, .int .i64 y4], .box (w.heap.size + 1) 44 #[.int .i64 0, .int .i64 0, .int .i64 0, .string ⟨#[]⟩, .int .i64 0, .int .i64 0, .int .i64 0], .box (w.heap.size) 34 #[.int .i64 q, .int .i64 a, .slice An nn cn]] [Sl.fact nameSh An nn cn ns] from (((HK24.out.set_ 0 rfl 0 (.slice A n n)).set_ 0 rfl 1 (.int .i64 x4)).set_ 0 rfl 2 (.int .i64 y4)))
    clear HK24
    have HK37 := Lib.hid (show Held w [] X ((((w5.setCell ⟨gk, 0, none⟩ (.slice A n n)).setCell ⟨gk, 1, none⟩ (.int .i64 x4)).setCell ⟨gk, 2, none⟩ (.int .i64 y4)).alloc (.cells #[.int .i64 (q + (v2 : Int)), .int .i64 (a + (v3 : Int)), .int .i64 (v1 : Int), .string ⟨#[]⟩, .int .i64 0, .int .i64 0, .int .i64 0] 44)) [.box (w5.heap.size) 44 #[.int .i64 (q + (v2 : Int)), .int .i64 (a + (v3 : Int)), .int .i64 (v1 : Int), .string ⟨#[]⟩, .int .i64 0, .int .i64 0, .int .i64 0], .box (gk) 252 #[.slice A n n, .int .i64 x4, .int .i64 y4], .box (w.heap.size + 1) 44 #[.int .i64 0, .int .i64 0, .int .i64 0, .string ⟨#[]⟩, .int .i64 0, .int .i64 0, .int .i64 0], .box (w.heap.size) 34 #[.int .i64 q, .int .i64 a, .slice An nn cn]] [Sl.fact nameSh An nn cn ns] from HK36.out.alloc_at 44 #[.int .i64 (q + (v2 : Int)), .int .i64 (a + (v3 : Int)), .int .i64 (v1 : Int), .string ⟨#[]⟩, .int .i64 0, .int .i64 0, .int .i64 0] (w5.heap.size) (by simp))
    clear HK36
    go_upto_region 6 with (fail)
    clear c_c_0_25 c_c_1_26 c_c_2_27 c_k_0_28 z_k_0_29 c_k_1_30 z_k_1_31 c_k_2_32 z_k_2_33 ne_34 ne_35
    generalize (((w5.setCell ⟨gk, 0, none⟩ (.slice A n n)).setCell ⟨gk, 1, none⟩ (.int .i64 x4)).setCell ⟨gk, 2, none⟩ (.int .i64 y4)).alloc (.cells #[.int .i64 (q + (v2 : Int)), .int .i64 (a + (v3 : Int)), .int .i64 (v1 : Int), .string ⟨#[]⟩, .int .i64 0, .int .i64 0, .int .i64 0] 44) = w6 at HK37 ⊢
    generalize w5.heap.size = ge at HK37 ⊢
    have c_c_0_38 : w6.cell? ⟨w.heap.size, 0, none⟩ = some (.int .i64 q) := HK37.out.cell 3 rfl 0
    have c_c_1_39 : w6.cell? ⟨w.heap.size, 1, none⟩ = some (.int .i64 a) := HK37.out.cell 3 rfl 1
    have c_c_2_40 : w6.cell? ⟨w.heap.size, 2, none⟩ = some (.slice An nn cn) := HK37.out.cell 3 rfl 2
    have c_k_0_41 : w6.cell? ⟨gk, 0, none⟩ = some (.slice A n n) := HK37.out.cell 1 rfl 0
    have c_k_1_42 : w6.cell? ⟨gk, 1, none⟩ = some (.int .i64 x4) := HK37.out.cell 1 rfl 1
    have c_k_2_43 : w6.cell? ⟨gk, 2, none⟩ = some (.int .i64 y4) := HK37.out.cell 1 rfl 2
    have c_e_0_44 : w6.cell? ⟨ge, 0, none⟩ = some (.int .i64 (q + (v2 : Int))) := HK37.out.cell 0 rfl 0
    have z_e_0_45 : w6.frozen? ⟨ge, 0, none⟩ = false := HK37.out.frozen 0 rfl 0
    have c_e_1_46 : w6.cell? ⟨ge, 1, none⟩ = some (.int .i64 (a + (v3 : Int))) := HK37.out.cell 0 rfl 1
    have z_e_1_47 : w6.frozen? ⟨ge, 1, none⟩ = false := HK37.out.frozen 0 rfl 1
    have c_e_2_48 : w6.cell? ⟨ge, 2, none⟩ = some (.int .i64 (v1 : Int)) := HK37.out.cell 0 rfl 2
    have z_e_2_49 : w6.frozen? ⟨ge, 2, none⟩ = false := HK37.out.frozen 0 rfl 2
    have c_e_3_50 : w6.cell? ⟨ge, 3, none⟩ = some (.string ⟨#[]⟩) := HK37.out.cell 0 rfl 3
    have z_e_3_51 : w6.frozen? ⟨ge, 3, none⟩ = false := HK37.out.frozen 0 rfl 3
    have c_e_4_52 : w6.cell? ⟨ge, 4, none⟩ = some (.int .i64 0) := HK37.out.cell 0 rfl 4
    have z_e_4_53 : w6.frozen? ⟨ge, 4, none⟩ = false := HK37.out.frozen 0 rfl 4
    have c_e_5_54 : w6.cell? ⟨ge, 5, none⟩ = some (.int .i64 0) := HK37.out.cell 0 rfl 5
    have z_e_5_55 : w6.frozen? ⟨ge, 5, none⟩ = false := HK37.out.frozen 0 rfl 5
    have c_e_6_56 : w6.cell? ⟨ge, 6, none⟩ = some (.int .i64 0) := HK37.out.cell 0 rfl 6
    have z_e_6_57 : w6.frozen? ⟨ge, 6, none⟩ = false := HK37.out.frozen 0 rfl 6
    go_wp2_with fail
    rw [← HP.out]
    with_reducible refine (At_yes An nn cn _ (v4 - 1) (ns.map strB) (strB nm) _ (HK37.out.sl 0 rfl).names.1 (by omega) HNm.out).mono ?_
    rintro e w7 ⟨rfl, rfl⟩
    go_upto_region 11 with (fail)
    clear c_c_0_38 c_c_1_39 c_c_2_40 c_k_0_41 c_k_1_42 c_k_2_43 c_e_0_44 z_e_0_45 c_e_1_46 z_e_1_47 c_e_2_48 z_e_2_49 c_e_3_50 z_e_3_51 c_e_4_52 z_e_4_53 c_e_5_54 z_e_5_55 c_e_6_56 z_e_6_57
    have HK58 := Lib.hid (show Held w [] X (w6.setCell ⟨ge, 3, none⟩ (.string (strB nm))) [.box (ge) 44 #[.int .i64 (q + (v2 : Int)), .int .i64 (a + (v3 : Int)), .int .i64 (v1 : Int), .string (strB nm), .int .i64 0, .int .i64 0, .int .i64 0], .box (gk) 252 #[.slice A n n, .int .i64 x4, .int .i64 y4], .box (w.heap.size + 1) 44 #[.int .i64 0, .int .i64 0, .int .i64 0, .string ⟨#[]⟩, .int .i64 0, .int .i64 0, .int .i64 0], .box (w.heap.size) 34 #[.int .i64 q, .int .i64 a, .slice An nn cn]] [Sl.fact nameSh An nn cn ns] from HK37.out.set_ 0 rfl 3 (.string (strB nm)))
    clear HK37
    generalize w6.setCell ⟨ge, 3, none⟩ (.string (strB nm)) = w8 at HK58 ⊢
    have c_e_0_59 : w8.cell? ⟨ge, 0, none⟩ = some (.int .i64 (q + (v2 : Int))) := HK58.out.cell 0 rfl 0
    have c_e_1_60 : w8.cell? ⟨ge, 1, none⟩ = some (.int .i64 (a + (v3 : Int))) := HK58.out.cell 0 rfl 1
    have c_e_2_61 : w8.cell? ⟨ge, 2, none⟩ = some (.int .i64 (v1 : Int)) := HK58.out.cell 0 rfl 2
    have c_e_3_62 : w8.cell? ⟨ge, 3, none⟩ = some (.string (strB nm)) := HK58.out.cell 0 rfl 3
    have c_e_4_63 : w8.cell? ⟨ge, 4, none⟩ = some (.int .i64 0) := HK58.out.cell 0 rfl 4
    have c_e_5_64 : w8.cell? ⟨ge, 5, none⟩ = some (.int .i64 0) := HK58.out.cell 0 rfl 5
    have c_e_6_65 : w8.cell? ⟨ge, 6, none⟩ = some (.int .i64 0) := HK58.out.cell 0 rfl 6
    have c_k_0_66 : w8.cell? ⟨gk, 0, none⟩ = some (.slice A n n) := HK58.out.cell 1 rfl 0
    have c_k_1_67 : w8.cell? ⟨gk, 1, none⟩ = some (.int .i64 x4) := HK58.out.cell 1 rfl 1
    have c_k_2_68 : w8.cell? ⟨gk, 2, none⟩ = some (.int .i64 y4) := HK58.out.cell 1 rfl 2
    go_wp2_with (go_at_call 57; refine ((HM _).out).mono ?_; rintro e w' ⟨rfl, rfl⟩)
    clear c_e_0_59 c_e_1_60 c_e_2_61 c_e_3_62 c_e_4_63 c_e_5_64 c_e_6_65 c_k_0_66 c_k_1_67 c_k_2_68
    have HK69 := Lib.hid (show Held w [] X w8 [.row 2 1 (.slice none 0 0) (0) ([]), .box (ge) 44 #[.int .i64 (q + (v2 : Int)), .int .i64 (a + (v3 : Int)), .int .i64 (v1 : Int), .string (strB nm), .int .i64 0, .int .i64 0, .int .i64 0], .box (gk) 252 #[.slice A n n, .int .i64 x4, .int .i64 y4], .box (w.heap.size + 1) 44 #[.int .i64 0, .int .i64 0, .int .i64 0, .string ⟨#[]⟩, .int .i64 0, .int .i64 0, .int .i64 0], .box (w.heap.size) 34 #[.int .i64 q, .int .i64 a, .slice An nn cn]] [Sl.fact nameSh An nn cn ns] from HK58.out.nil_row 2 1)
    clear HK58
    go_loopw [14, 69] (fun l0 i wr => ∃ (j : Nat) (l : Value), l = l0 ∧ j ≤ m ∧ i = .int .i64 j ∧ Hid (Held w [] X wr [.row 2 1 (l) (j) ((numsR bs (x4) (y4) j).2.2.map (Value.int .i64)), .box (ge) 44 #[.int .i64 (q + (v2 : Int)), .int .i64 (a + (v3 : Int)), .int .i64 (v1 : Int), .string (strB nm), .int .i64 0, .int .i64 0, .int .i64 0], .box (gk) 252 #[.slice A n n, .int .i64 (numsR bs (x4) (y4) j).1, .int .i64 (numsR bs (x4) (y4) j).2.1], .box (w.heap.size + 1) 44 #[.int .i64 0, .int .i64 0, .int .i64 0, .string ⟨#[]⟩, .int .i64 0, .int .i64 0, .int .i64 0], .box (w.heap.size) 34 #[.int .i64 q, .int .i64 a, .slice An nn cn]] [Sl.fact nameSh An nn cn ns])) (fun _ i _ => m - (intOf i).toNat)
    case atStart => exact ⟨0, _, rfl, Nat.zero_le _, rfl, HK69⟩
    case round =>
      clear HK69
      obtain ⟨j, l, rfl, hj, rfl, HKl⟩ := hrel
      by_cases hlt : j < m
      · skip
        obtain ⟨⟨x6, y6, v6⟩, h6⟩ : ∃ r, upRes bs (numsR bs (x4) (y4) j).1 (numsR bs (x4) (y4) j).2.1 2147483647 = r := ⟨_, rfl⟩
        have HN := Lib.hid (show numsR bs (x4) (y4) (j + 1) = (x6, y6, (numsR bs (x4) (y4) j).2.2 ++ [(v6 : Int)]) from by rw [numsR, h6])
        have H6 := Lib.hid h6
        clear h6
        have HL := Lib.hid (numsR_length bs (x4) (y4) j)
        generalize hst : numsR bs (x4) (y4) j = st at HKl H6 HN HL
        clear hst
        obtain ⟨sx, sy, sl⟩ := st
        simp only at HKl H6 HN HL
        have c_k_0_70 : wr.cell? ⟨gk, 0, none⟩ = some (.slice A n n) := HKl.out.cell 2 rfl 0
        have z_k_0_71 : wr.frozen? ⟨gk, 0, none⟩ = false := HKl.out.frozen 2 rfl 0
        have c_k_1_72 : wr.cell? ⟨gk, 1, none⟩ = some (.int .i64 sx) := HKl.out.cell 2 rfl 1
        have z_k_1_73 : wr.frozen? ⟨gk, 1, none⟩ = false := HKl.out.frozen 2 rfl 1
        have c_k_2_74 : wr.cell? ⟨gk, 2, none⟩ = some (.int .i64 sy) := HKl.out.cell 2 rfl 2
        have z_k_2_75 : wr.frozen? ⟨gk, 2, none⟩ = false := HKl.out.frozen 2 rfl 2
        go_wp2_with fail
        with_reducible refine (upTo_l A n n sx sy bs _ _ (HR.out.below (HKl.out.below.mono hB)) (Nat.le_trans hB HKl.out.size) (Nat.le_refl _) (by omega) hn 2147483647 (by omega) 2147483647 rfl).mono ?_
        rw [H6.out]
        rintro e w7 ⟨rfl, hb⟩
        clear c_k_0_70 z_k_0_71 c_k_1_72 z_k_1_73 c_k_2_74 z_k_2_75
        have HK76 := Lib.hid (show Held w [] X w7 [.row 2 1 (l) (j) (sl.map (Value.int .i64)), .box (ge) 44 #[.int .i64 (q + (v2 : Int)), .int .i64 (a + (v3 : Int)), .int .i64 (v1 : Int), .string (strB nm), .int .i64 0, .int .i64 0, .int .i64 0], .box (gk) 252 #[.slice A n n, .int .i64 sx, .int .i64 sy], .box (w.heap.size + 1) 44 #[.int .i64 0, .int .i64 0, .int .i64 0, .string ⟨#[]⟩, .int .i64 0, .int .i64 0, .int .i64 0], .box (w.heap.size) 34 #[.int .i64 q, .int .i64 a, .slice An nn cn]] [Sl.fact nameSh An nn cn ns] from (HKl.out.on hb))
        clear HKl
        clear hb
        have c_k_0_77 : w7.cell? ⟨gk, 0, none⟩ = some (.slice A n n) := HK76.out.cell 2 rfl 0
        have z_k_0_78 : w7.frozen? ⟨gk, 0, none⟩ = false := HK76.out.frozen 2 rfl 0
        have c_k_1_79 : w7.cell? ⟨gk, 1, none⟩ = some (.int .i64 sx) := HK76.out.cell 2 rfl 1
        have z_k_1_80 : w7.frozen? ⟨gk, 1, none⟩ = false := HK76.out.frozen 2 rfl 1
        have c_k_2_81 : w7.cell? ⟨gk, 2, none⟩ = some (.int .i64 sy) := HK76.out.cell 2 rfl 2
        have z_k_2_82 : w7.frozen? ⟨gk, 2, none⟩ = false := HK76.out.frozen 2 rfl 2
        go_upto_region 16 with (fail)
        clear c_k_0_77 z_k_0_78 c_k_1_79 z_k_1_80 c_k_2_81 z_k_2_82
        have HK83 := Lib.hid (show Held w [] X (((w7.setCell ⟨gk, 0, none⟩ (.slice A n n)).setCell ⟨gk, 1, none⟩ (.int .i64 x6)).setCell ⟨gk, 2, none⟩ (.int .i64 y6)) [.row 2 1 (l) (j) (sl.map (Value.int .i64)), .box (ge) 44 #[.int .i64 (q + (v2 : Int)), .int .i64 (a + (v3 : Int)), .int .i64 (v1 : Int), .string (strB nm), .int .i64 0, .int .i64 0, .int .i64 0], .box (gk) 252 #[.slice A n n, .int .i64 x6, .int .i64 y6], .box (w.heap.size + 1) 44 #[.int .i64 0, .int .i64 0, .int .i64 0, .string ⟨#[]⟩, .int .i64 0, .int .i64 0, .int .i64 0], .box (w.heap.size) 34 #[.int .i64 q, .int .i64 a, .slice An nn cn]] [Sl.fact nameSh An nn cn ns] from (((HK76.out.set_ 2 rfl 0 (.slice A n n)).set_ 2 rfl 1 (.int .i64 x6)).set_ 2 rfl 2 (.int .i64 y6)))
        clear HK76
        generalize ((w7.setCell ⟨gk, 0, none⟩ (.slice A n n)).setCell ⟨gk, 1, none⟩ (.int .i64 x6)).setCell ⟨gk, 2, none⟩ (.int .i64 y6) = w70 at HK83 ⊢
        go_wp2_with (at_builtin; go_must (refine wpList_append_new HK83.out 0 rfl (.tmp 76) (.tmp 78) 278 rfl appInt rfl rfl (cs := #[.int .i64 (v6 : Int)]) rfl rfl (by simp [Value.oneCell']) (by unfold maxLen; omega) (by omega) ?_); intro l2 w8 hk8)
        have HK8 := Lib.hid hk8
        clear hk8
        exact ⟨⟨j + 1, l2, rfl, by omega, by go_num, Lib.hid (by rw [HN.out]; simp only [List.map_append, List.map_cons, List.map_nil]; exact HK8.out)⟩, by simp [intOf]; omega⟩
      · obtain rfl : m = j := by omega
        have HL := Lib.hid (numsR_length bs (x4) (y4) m)
        generalize hst : numsR bs (x4) (y4) m = st at HKl HL HE
        clear hst
        obtain ⟨sx, sy, sl⟩ := st
        simp only at HKl HL HE
        have HO := own_reads (HKl.out.row 0 rfl)
        obtain ⟨Al, cl, rfl, -, -, -, hrl⟩ := HO
        have HRl := Lib.hid hrl
        clear hrl
        have HD := Lib.hid (show (sy == 0) = r.2 from by rw [HE.out]; rfl)
        have HFl := Lib.hid (show fillE ⟨q + (v2 : Int), a + (v3 : Int), (v1 : Int), strB nm, 0, 0, 0⟩ sl = r.1 from by rw [HE.out])
        go_wp2_with fail
        refine wp_region_noPanic ?_
        refine wp_region_held_drew (S := fun W' => HeldBut w [] X W' [.row 2 1 (.slice Al m cl) (m) (sl.map (Value.int .i64)), .box (ge) 44 #[.int .i64 (q + (v2 : Int)), .int .i64 (a + (v3 : Int)), .int .i64 (v1 : Int), .string (strB nm), .int .i64 0, .int .i64 0, .int .i64 0], .box (gk) 252 #[.slice A n n, .int .i64 sx, .int .i64 sy], .box (w.heap.size + 1) 44 #[.int .i64 0, .int .i64 0, .int .i64 0, .string ⟨#[]⟩, .int .i64 0, .int .i64 0, .int .i64 0], .box (w.heap.size) 34 #[.int .i64 q, .int .i64 a, .slice An nn cn]] [Sl.fact nameSh An nn cn ns] 3 (w.heap.size + 1) 44) (by kernel_rfl) (HKl.out.but 3 rfl).drew (fun hHeld => ?_)
        have c_r_0_70 : wr.cell? ⟨w.heap.size + 1, 0, none⟩ = some (.int .i64 0) := HKl.out.cell 3 rfl 0
        have z_r_0_71 : wr.frozen? ⟨w.heap.size + 1, 0, none⟩ = false := HKl.out.frozen 3 rfl 0
        have c_r_1_72 : wr.cell? ⟨w.heap.size + 1, 1, none⟩ = some (.int .i64 0) := HKl.out.cell 3 rfl 1
        have z_r_1_73 : wr.frozen? ⟨w.heap.size + 1, 1, none⟩ = false := HKl.out.frozen 3 rfl 1
        have c_r_2_74 : wr.cell? ⟨w.heap.size + 1, 2, none⟩ = some (.int .i64 0) := HKl.out.cell 3 rfl 2
        have z_r_2_75 : wr.frozen? ⟨w.heap.size + 1, 2, none⟩ = false := HKl.out.frozen 3 rfl 2
        have c_r_3_76 : wr.cell? ⟨w.heap.size + 1, 3, none⟩ = some (.string ⟨#[]⟩) := HKl.out.cell 3 rfl 3
        have z_r_3_77 : wr.frozen? ⟨w.heap.size + 1, 3, none⟩ = false := HKl.out.frozen 3 rfl 3
        have c_r_4_78 : wr.cell? ⟨w.heap.size + 1, 4, none⟩ = some (.int .i64 0) := HKl.out.cell 3 rfl 4
        have z_r_4_79 : wr.frozen? ⟨w.heap.size + 1, 4, none⟩ = false := HKl.out.frozen 3 rfl 4
        have c_r_5_80 : wr.cell? ⟨w.heap.size + 1, 5, none⟩ = some (.int .i64 0) := HKl.out.cell 3 rfl 5
        have z_r_5_81 : wr.frozen? ⟨w.heap.size + 1, 5, none⟩ = false := HKl.out.frozen 3 rfl 5
        have c_r_6_82 : wr.cell? ⟨w.heap.size + 1, 6, none⟩ = some (.int .i64 0) := HKl.out.cell 3 rfl 6
        have z_r_6_83 : wr.frozen? ⟨w.heap.size + 1, 6, none⟩ = false := HKl.out.frozen 3 rfl 6
        refine takeH 0 (v := ?v0u7) rfl (by kernel_rfl) (by kernel_rfl) (by kernel_rfl) rfl (fun _ _ _ h => h) (Or.inl ⟨by rfl, ?y0u7⟩) hHeld ?r0u7
        case y0u7 => (intro W hSW; (try dsimp only at hSW); have q0 : W.cell? ⟨ge, 0, none⟩ = some (.int .i64 (q + (v2 : Int))) := hSW.cell 1 rfl (by decide) 0; have q1 : W.cell? ⟨ge, 1, none⟩ = some (.int .i64 (a + (v3 : Int))) := hSW.cell 1 rfl (by decide) 1; have q2 : W.cell? ⟨ge, 2, none⟩ = some (.int .i64 (v1 : Int)) := hSW.cell 1 rfl (by decide) 2; have q3 : W.cell? ⟨ge, 3, none⟩ = some (.string (strB nm)) := hSW.cell 1 rfl (by decide) 3; have q4 : W.cell? ⟨ge, 4, none⟩ = some (.int .i64 0) := hSW.cell 1 rfl (by decide) 4; have q5 : W.cell? ⟨ge, 5, none⟩ = some (.int .i64 0) := hSW.cell 1 rfl (by decide) 5; have q6 : W.cell? ⟨ge, 6, none⟩ = some (.int .i64 0) := hSW.cell 1 rfl (by decide) 6; go_simp; try with_reducible rfl)
        simp only [Act.put, sI, sZ, sS]
        refine takeH 1 (v := ?v1u8) rfl (by kernel_rfl) (by kernel_rfl) (by kernel_rfl) rfl (fun _ _ _ h => h) (Or.inl ⟨by rfl, ?y1u8⟩) hHeld ?r1u8
        case y1u8 => (intro W hSW; (try dsimp only at hSW); go_simp; try with_reducible rfl)
        simp only [Act.put, sI, sZ, sS]
        refine takeH 3 (v := ?v3u9) rfl (by kernel_rfl) (by kernel_rfl) (by kernel_rfl) rfl (fun _ _ _ h => h) (Or.inl ⟨by rfl, ?y3u9⟩) hHeld ?r3u9
        case y3u9 => (intro W hSW; (try dsimp only at hSW); go_simp; try with_reducible rfl)
        simp only [Act.put, sI, sZ, sS]
        refine takeH 4 (v := ?v4u10) rfl (by kernel_rfl) (by kernel_rfl) (by kernel_rfl) rfl (fun _ _ _ h => h) (Or.inl ⟨by rfl, ?y4u10⟩) hHeld ?r4u10
        case y4u10 => (intro W hSW; (try dsimp only at hSW); have q2 : W.cell? ⟨gk, 2, none⟩ = some (.int .i64 sy) := hSW.cell 2 rfl (by decide) 2; go_simp; try with_reducible rfl)
        simp only [Act.put, sI, sZ, sS]
        refine takeH 5 (v := ?v5u11) rfl (by kernel_rfl) (by kernel_rfl) (by kernel_rfl) rfl (fun _ _ _ h => h) (Or.inl ⟨by rfl, ?y5u11⟩) hHeld ?r5u11
        case y5u11 => (intro W hSW; (try dsimp only at hSW); go_simp; try with_reducible rfl)
        simp only [Act.put, sI, sZ, sS]
        have HKd := Lib.hid HKl.out.drew
        refine wpAnyH_ready (rs := [2]) (by kernel_rfl) (by simp) ?_
        refine AllReadyH.cons rfl (fun K hK => ?_) AllReadyH.nil
        go_simp
        refine (Fill_c ⟨q + (v2 : Int), a + (v3 : Int), (v1 : Int), strB nm, 0, 0, 0⟩ Al m cl wr.heap.size sl wr.drew HRl.out.drew (Nat.le_refl _) hm3).mono ?_
        rw [HFl.out]
        rintro e w9 ⟨rfl, hb9⟩
        have HK9 := Lib.hid (HKd.out.on hb9)
        have hkn := hHeld.on hb9
        clear hb9
        refine hK.out _ _ hkn (fun hHeld => ?_)
        clear hK K
        try simp only [Act.put, sI, sZ, sS]
        obtain ⟨⟨rq, ra, rk, rcm, rx, ry, rz⟩, rb⟩ := r
        simp only at HD
        clear c_r_0_70 z_r_0_71 c_r_1_72 z_r_1_73 c_r_2_74 z_r_2_75 c_r_3_76 z_r_3_77 c_r_4_78 z_r_4_79 c_r_5_80 z_r_5_81 c_r_6_82 z_r_6_83
        have c_r_0_84 : w9.cell? ⟨w.heap.size + 1, 0, none⟩ = some (.int .i64 0) := HK9.out.cell 3 rfl 0
        have z_r_0_85 : w9.frozen? ⟨w.heap.size + 1, 0, none⟩ = false := HK9.out.frozen 3 rfl 0
        have c_r_1_86 : w9.cell? ⟨w.heap.size + 1, 1, none⟩ = some (.int .i64 0) := HK9.out.cell 3 rfl 1
        have z_r_1_87 : w9.frozen? ⟨w.heap.size + 1, 1, none⟩ = false := HK9.out.frozen 3 rfl 1
        have c_r_2_88 : w9.cell? ⟨w.heap.size + 1, 2, none⟩ = some (.int .i64 0) := HK9.out.cell 3 rfl 2
        have z_r_2_89 : w9.frozen? ⟨w.heap.size + 1, 2, none⟩ = false := HK9.out.frozen 3 rfl 2
        have c_r_3_90 : w9.cell? ⟨w.heap.size + 1, 3, none⟩ = some (.string ⟨#[]⟩) := HK9.out.cell 3 rfl 3
        have z_r_3_91 : w9.frozen? ⟨w.heap.size + 1, 3, none⟩ = false := HK9.out.frozen 3 rfl 3
        have c_r_4_92 : w9.cell? ⟨w.heap.size + 1, 4, none⟩ = some (.int .i64 0) := HK9.out.cell 3 rfl 4
        have z_r_4_93 : w9.frozen? ⟨w.heap.size + 1, 4, none⟩ = false := HK9.out.frozen 3 rfl 4
        have c_r_5_94 : w9.cell? ⟨w.heap.size + 1, 5, none⟩ = some (.int .i64 0) := HK9.out.cell 3 rfl 5
        have z_r_5_95 : w9.frozen? ⟨w.heap.size + 1, 5, none⟩ = false := HK9.out.frozen 3 rfl 5
        have c_r_6_96 : w9.cell? ⟨w.heap.size + 1, 6, none⟩ = some (.int .i64 0) := HK9.out.cell 3 rfl 6
        have z_r_6_97 : w9.frozen? ⟨w.heap.size + 1, 6, none⟩ = false := HK9.out.frozen 3 rfl 6
        refine wpAnyH_ready (rs := [6]) (by kernel_rfl) (by simp) ?_
        refine AllReadyH.cons rfl (fun K hK => ?_) AllReadyH.nil
        go_simp
        refine hK.out _ _ (((((((hHeld.set_ (by simp) 0 (.int .i64 rq)).set_ (by simp) 1 (.int .i64 ra)).set_ (by simp) 2 (.int .i64 rk)).set_ (by simp) 3 (.string rcm)).set_ (by simp) 4 (.int .i64 rx)).set_ (by simp) 5 (.int .i64 ry)).set_ (by simp) 6 (.int .i64 rz)) (fun hHeld => ?_)
        clear hK K
        try simp only [Act.put, sI, sZ, sS]
        refine takeH 7 (v := ?v7u12) rfl (by kernel_rfl) (by kernel_rfl) (by kernel_rfl) rfl (fun _ _ _ h => h) (Or.inl ⟨by rfl, ?y7u12⟩) hHeld ?r7u12
        case y7u12 => (intro W hSW; (try dsimp only at hSW); go_simp; try with_reducible rfl)
        simp only [Act.put, sI, sZ, sS]
        refine wpAnyH_done (by kernel_rfl) ?_ _
        refine NoPanic.normal ?_
        clear c_r_0_84 z_r_0_85 c_r_1_86 z_r_1_87 c_r_2_88 z_r_2_89 c_r_3_90 z_r_3_91 c_r_4_92 z_r_4_93 c_r_5_94 z_r_5_95 c_r_6_96 z_r_6_97
        have HK98 := Lib.hid (show Held w [] X (((((((w9.setCell ⟨w.heap.size + 1, 0, none⟩ (.int .i64 rq)).setCell ⟨w.heap.size + 1, 1, none⟩ (.int .i64 ra)).setCell ⟨w.heap.size + 1, 2, none⟩ (.int .i64 rk)).setCell ⟨w.heap.size + 1, 3, none⟩ (.string rcm)).setCell ⟨w.heap.size + 1, 4, none⟩ (.int .i64 rx)).setCell ⟨w.heap.size + 1, 5, none⟩ (.int .i64 ry)).setCell ⟨w.heap.size + 1, 6, none⟩ (.int .i64 rz)) [.row 2 1 (.slice Al m cl) (m) (sl.map (Value.int .i64)), .box (ge) 44 #[.int .i64 (q + (v2 : Int)), .int .i64 (a + (v3 : Int)), .int .i64 (v1 : Int), .string (strB nm), .int .i64 0, .int .i64 0, .int .i64 0], .box (gk) 252 #[.slice A n n, .int .i64 sx, .int .i64 sy], .box (w.heap.size + 1) 44 #[.int .i64 rq, .int .i64 ra, .int .i64 rk, .string rcm, .int .i64 rx, .int .i64 ry, .int .i64 rz], .box (w.heap.size) 34 #[.int .i64 q, .int .i64 a, .slice An nn cn]] [Sl.fact nameSh An nn cn ns] from (((((((HK9.out.set_ 3 rfl 0 (.int .i64 rq)).set_ 3 rfl 1 (.int .i64 ra)).set_ 3 rfl 2 (.int .i64 rk)).set_ 3 rfl 3 (.string rcm)).set_ 3 rfl 4 (.int .i64 rx)).set_ 3 rfl 5 (.int .i64 ry)).set_ 3 rfl 6 (.int .i64 rz)))
        clear HK9
        go_wp2
        exact bodyPost_ret (res_read (HK98.out.blk 3 rfl) (u := .bool (sy == 0)) _ rfl rfl) rfl ⟨by rw [HD.out], HK98.out.below⟩
  · rw [List.getElem?_eq_none (by have := HNL.out; omega), Option.getD_none] at HE
    clear hp
    have c_c_0_25 : w5.cell? ⟨w.heap.size, 0, none⟩ = some (.int .i64 q) := HK24.out.cell 2 rfl 0
    have c_c_1_26 : w5.cell? ⟨w.heap.size, 1, none⟩ = some (.int .i64 a) := HK24.out.cell 2 rfl 1
    have c_c_2_27 : w5.cell? ⟨w.heap.size, 2, none⟩ = some (.slice An nn cn) := HK24.out.cell 2 rfl 2
    have c_k_0_28 : w5.cell? ⟨gk, 0, none⟩ = some (.slice A n n) := HK24.out.cell 0 rfl 0
    have z_k_0_29 : w5.frozen? ⟨gk, 0, none⟩ = false := HK24.out.frozen 0 rfl 0
    have c_k_1_30 : w5.cell? ⟨gk, 1, none⟩ = some (.int .i64 x3) := HK24.out.cell 0 rfl 1
    have z_k_1_31 : w5.frozen? ⟨gk, 1, none⟩ = false := HK24.out.frozen 0 rfl 1
    have c_k_2_32 : w5.cell? ⟨gk, 2, none⟩ = some (.int .i64 y3) := HK24.out.cell 0 rfl 2
    have z_k_2_33 : w5.frozen? ⟨gk, 2, none⟩ = false := HK24.out.frozen 0 rfl 2
    have ne_34 : ¬ (gk = w.heap.size) := HK24.out.ne 0 2 (by decide) rfl rfl
    have ne_35 : ¬ (w.heap.size = gk) := HK24.out.ne 2 0 (by decide) rfl rfl
    have HK36 := Lib.hid (show Held w [] X (((w5.setCell ⟨gk, 0, none⟩ (.slice A n n)).setCell ⟨gk, 1, none⟩ (.int .i64 x4)).setCell ⟨gk, 2, none⟩ (.int .i64 y4)) [.box (gk) 252 #[.slice A n n, .int .i64 x4, .int .i64 y4], .box (w.heap.size + 1) 44 #[.int .i64 0, .int .i64 0, .int .i64 0, .string ⟨#[]⟩, .int .i64 0, .int .i64 0, .int .i64 0], .box (w.heap.size) 34 #[.int .i64 q, .int .i64 a, .slice An nn cn]] [Sl.fact nameSh An nn cn ns] from (((HK24.out.set_ 0 rfl 0 (.slice A n n)).set_ 0 rfl 1 (.int .i64 x4)).set_ 0 rfl 2 (.int .i64 y4)))
    clear HK24
    have HK37 := Lib.hid (show Held w [] X ((((w5.setCell ⟨gk, 0, none⟩ (.slice A n n)).setCell ⟨gk, 1, none⟩ (.int .i64 x4)).setCell ⟨gk, 2, none⟩ (.int .i64 y4)).alloc (.cells #[.int .i64 (q + (v2 : Int)), .int .i64 (a + (v3 : Int)), .int .i64 (v1 : Int), .string ⟨#[]⟩, .int .i64 0, .int .i64 0, .int .i64 0] 44)) [.box (w5.heap.size) 44 #[.int .i64 (q + (v2 : Int)), .int .i64 (a + (v3 : Int)), .int .i64 (v1 : Int), .string ⟨#[]⟩, .int .i64 0, .int .i64 0, .int .i64 0], .box (gk) 252 #[.slice A n n, .int .i64 x4, .int .i64 y4], .box (w.heap.size + 1) 44 #[.int .i64 0, .int .i64 0, .int .i64 0, .string ⟨#[]⟩, .int .i64 0, .int .i64 0, .int .i64 0], .box (w.heap.size) 34 #[.int .i64 q, .int .i64 a, .slice An nn cn]] [Sl.fact nameSh An nn cn ns] from HK36.out.alloc_at 44 #[.int .i64 (q + (v2 : Int)), .int .i64 (a + (v3 : Int)), .int .i64 (v1 : Int), .string ⟨#[]⟩, .int .i64 0, .int .i64 0, .int .i64 0] (w5.heap.size) (by simp))
    clear HK36
    go_upto_region 6 with (fail)
    clear c_c_0_25 c_c_1_26 c_c_2_27 c_k_0_28 z_k_0_29 c_k_1_30 z_k_1_31 c_k_2_32 z_k_2_33 ne_34 ne_35
    generalize (((w5.setCell ⟨gk, 0, none⟩ (.slice A n n)).setCell ⟨gk, 1, none⟩ (.int .i64 x4)).setCell ⟨gk, 2, none⟩ (.int .i64 y4)).alloc (.cells #[.int .i64 (q + (v2 : Int)), .int .i64 (a + (v3 : Int)), .int .i64 (v1 : Int), .string ⟨#[]⟩, .int .i64 0, .int .i64 0, .int .i64 0] 44) = w6 at HK37 ⊢
    generalize w5.heap.size = ge at HK37 ⊢
    have c_c_0_38 : w6.cell? ⟨w.heap.size, 0, none⟩ = some (.int .i64 q) := HK37.out.cell 3 rfl 0
    have c_c_1_39 : w6.cell? ⟨w.heap.size, 1, none⟩ = some (.int .i64 a) := HK37.out.cell 3 rfl 1
    have c_c_2_40 : w6.cell? ⟨w.heap.size, 2, none⟩ = some (.slice An nn cn) := HK37.out.cell 3 rfl 2
    have c_k_0_41 : w6.cell? ⟨gk, 0, none⟩ = some (.slice A n n) := HK37.out.cell 1 rfl 0
    have c_k_1_42 : w6.cell? ⟨gk, 1, none⟩ = some (.int .i64 x4) := HK37.out.cell 1 rfl 1
    have c_k_2_43 : w6.cell? ⟨gk, 2, none⟩ = some (.int .i64 y4) := HK37.out.cell 1 rfl 2
    have c_e_0_44 : w6.cell? ⟨ge, 0, none⟩ = some (.int .i64 (q + (v2 : Int))) := HK37.out.cell 0 rfl 0
    have z_e_0_45 : w6.frozen? ⟨ge, 0, none⟩ = false := HK37.out.frozen 0 rfl 0
    have c_e_1_46 : w6.cell? ⟨ge, 1, none⟩ = some (.int .i64 (a + (v3 : Int))) := HK37.out.cell 0 rfl 1
    have z_e_1_47 : w6.frozen? ⟨ge, 1, none⟩ = false := HK37.out.frozen 0 rfl 1
    have c_e_2_48 : w6.cell? ⟨ge, 2, none⟩ = some (.int .i64 (v1 : Int)) := HK37.out.cell 0 rfl 2
    have z_e_2_49 : w6.frozen? ⟨ge, 2, none⟩ = false := HK37.out.frozen 0 rfl 2
    have c_e_3_50 : w6.cell? ⟨ge, 3, none⟩ = some (.string ⟨#[]⟩) := HK37.out.cell 0 rfl 3
    have z_e_3_51 : w6.frozen? ⟨ge, 3, none⟩ = false := HK37.out.frozen 0 rfl 3
    have c_e_4_52 : w6.cell? ⟨ge, 4, none⟩ = some (.int .i64 0) := HK37.out.cell 0 rfl 4
    have z_e_4_53 : w6.frozen? ⟨ge, 4, none⟩ = false := HK37.out.frozen 0 rfl 4
    have c_e_5_54 : w6.cell? ⟨ge, 5, none⟩ = some (.int .i64 0) := HK37.out.cell 0 rfl 5
    have z_e_5_55 : w6.frozen? ⟨ge, 5, none⟩ = false := HK37.out.frozen 0 rfl 5
    have c_e_6_56 : w6.cell? ⟨ge, 6, none⟩ = some (.int .i64 0) := HK37.out.cell 0 rfl 6
    have z_e_6_57 : w6.frozen? ⟨ge, 6, none⟩ = false := HK37.out.frozen 0 rfl 6
    go_wp2_with fail
    with_reducible refine (At_no An nn cn (v4 : Int) _ (by omega) (by omega)).mono ?_
    rintro e w7 ⟨rfl, rfl⟩
    go_upto_region 11 with (fail)
    clear c_c_0_38 c_c_1_39 c_c_2_40 c_k_0_41 c_k_1_42 c_k_2_43 c_e_0_44 z_e_0_45 c_e_1_46 z_e_1_47 c_e_2_48 z_e_2_49 c_e_3_50 z_e_3_51 c_e_4_52 z_e_4_53 c_e_5_54 z_e_5_55 c_e_6_56 z_e_6_57
    have c_e_0_58 : w6.cell? ⟨ge, 0, none⟩ = some (.int .i64 (q + (v2 : Int))) := HK37.out.cell 0 rfl 0
    have c_e_1_59 : w6.cell? ⟨ge, 1, none⟩ = some (.int .i64 (a + (v3 : Int))) := HK37.out.cell 0 rfl 1
    have c_e_2_60 : w6.cell? ⟨ge, 2, none⟩ = some (.int .i64 (v1 : Int)) := HK37.out.cell 0 rfl 2
    have c_e_3_61 : w6.cell? ⟨ge, 3, none⟩ = some (.string ⟨#[]⟩) := HK37.out.cell 0 rfl 3
    have c_e_4_62 : w6.cell? ⟨ge, 4, none⟩ = some (.int .i64 0) := HK37.out.cell 0 rfl 4
    have c_e_5_63 : w6.cell? ⟨ge, 5, none⟩ = some (.int .i64 0) := HK37.out.cell 0 rfl 5
    have c_e_6_64 : w6.cell? ⟨ge, 6, none⟩ = some (.int .i64 0) := HK37.out.cell 0 rfl 6
    have c_k_0_65 : w6.cell? ⟨gk, 0, none⟩ = some (.slice A n n) := HK37.out.cell 1 rfl 0
    have c_k_1_66 : w6.cell? ⟨gk, 1, none⟩ = some (.int .i64 x4) := HK37.out.cell 1 rfl 1
    have c_k_2_67 : w6.cell? ⟨gk, 2, none⟩ = some (.int .i64 y4) := HK37.out.cell 1 rfl 2
    go_wp2_with (go_at_call 57; refine ((HM _).out).mono ?_; rintro e w' ⟨rfl, rfl⟩)
    clear c_e_0_58 c_e_1_59 c_e_2_60 c_e_3_61 c_e_4_62 c_e_5_63 c_e_6_64 c_k_0_65 c_k_1_66 c_k_2_67
    have HK68 := Lib.hid (show Held w [] X w6 [.row 2 1 (.slice none 0 0) (0) ([]), .box (ge) 44 #[.int .i64 (q + (v2 : Int)), .int .i64 (a + (v3 : Int)), .int .i64 (v1 : Int), .string ⟨#[]⟩, .int .i64 0, .int .i64 0, .int .i64 0], .box (gk) 252 #[.slice A n n, .int .i64 x4, .int .i64 y4], .box (w.heap.size + 1) 44 #[.int .i64 0, .int .i64 0, .int .i64 0, .string ⟨#[]⟩, .int .i64 0, .int .i64 0, .int .i64 0], .box (w.heap.size) 34 #[.int .i64 q, .int .i64 a, .slice An nn cn]] [Sl.fact nameSh An nn cn ns] from HK37.out.nil_row 2 1)
    clear HK37
    go_loopw [14, 69] (fun l0 i wr => ∃ (j : Nat) (l : Value), l = l0 ∧ j ≤ m ∧ i = .int .i64 j ∧ Hid (Held w [] X wr [.row 2 1 (l) (j) ((numsR bs (x4) (y4) j).2.2.map (Value.int .i64)), .box (ge) 44 #[.int .i64 (q + (v2 : Int)), .int .i64 (a + (v3 : Int)), .int .i64 (v1 : Int), .string ⟨#[]⟩, .int .i64 0, .int .i64 0, .int .i64 0], .box (gk) 252 #[.slice A n n, .int .i64 (numsR bs (x4) (y4) j).1, .int .i64 (numsR bs (x4) (y4) j).2.1], .box (w.heap.size + 1) 44 #[.int .i64 0, .int .i64 0, .int .i64 0, .string ⟨#[]⟩, .int .i64 0, .int .i64 0, .int .i64 0], .box (w.heap.size) 34 #[.int .i64 q, .int .i64 a, .slice An nn cn]] [Sl.fact nameSh An nn cn ns])) (fun _ i _ => m - (intOf i).toNat)
    case atStart => exact ⟨0, _, rfl, Nat.zero_le _, rfl, HK68⟩
    case round =>
      clear HK68
      obtain ⟨j, l, rfl, hj, rfl, HKl⟩ := hrel
      by_cases hlt : j < m
      · skip
        obtain ⟨⟨x6, y6, v6⟩, h6⟩ : ∃ r, upRes bs (numsR bs (x4) (y4) j).1 (numsR bs (x4) (y4) j).2.1 2147483647 = r := ⟨_, rfl⟩
        have HN := Lib.hid (show numsR bs (x4) (y4) (j + 1) = (x6, y6, (numsR bs (x4) (y4) j).2.2 ++ [(v6 : Int)]) from by rw [numsR, h6])
        have H6 := Lib.hid h6
        clear h6
        have HL := Lib.hid (numsR_length bs (x4) (y4) j)
        generalize hst : numsR bs (x4) (y4) j = st at HKl H6 HN HL
        clear hst
        obtain ⟨sx, sy, sl⟩ := st
        simp only at HKl H6 HN HL
        have c_k_0_69 : wr.cell? ⟨gk, 0, none⟩ = some (.slice A n n) := HKl.out.cell 2 rfl 0
        have z_k_0_70 : wr.frozen? ⟨gk, 0, none⟩ = false := HKl.out.frozen 2 rfl 0
        have c_k_1_71 : wr.cell? ⟨gk, 1, none⟩ = some (.int .i64 sx) := HKl.out.cell 2 rfl 1
        have z_k_1_72 : wr.frozen? ⟨gk, 1, none⟩ = false := HKl.out.frozen 2 rfl 1
        have c_k_2_73 : wr.cell? ⟨gk, 2, none⟩ = some (.int .i64 sy) := HKl.out.cell 2 rfl 2
        have z_k_2_74 : wr.frozen? ⟨gk, 2, none⟩ = false := HKl.out.frozen 2 rfl 2
        go_wp2_with fail
        with_reducible refine (upTo_l A n n sx sy bs _ _ (HR.out.below (HKl.out.below.mono hB)) (Nat.le_trans hB HKl.out.size) (Nat.le_refl _) (by omega) hn 2147483647 (by omega) 2147483647 rfl).mono ?_
        rw [H6.out]
        rintro e w7 ⟨rfl, hb⟩
        clear c_k_0_69 z_k_0_70 c_k_1_71 z_k_1_72 c_k_2_73 z_k_2_74
        have HK75 := Lib.hid (show Held w [] X w7 [.row 2 1 (l) (j) (sl.map (Value.int .i64)), .box (ge) 44 #[.int .i64 (q + (v2 : Int)), .int .i64 (a + (v3 : Int)), .int .i64 (v1 : Int), .string ⟨#[]⟩, .int .i64 0, .int .i64 0, .int .i64 0], .box (gk) 252 #[.slice A n n, .int .i64 sx, .int .i64 sy], .box (w.heap.size + 1) 44 #[.int .i64 0, .int .i64 0, .int .i64 0, .string ⟨#[]⟩, .int .i64 0, .int .i64 0, .int .i64 0], .box (w.heap.size) 34 #[.int .i64 q, .int .i64 a, .slice An nn cn]] [Sl.fact nameSh An nn cn ns] from (HKl.out.on hb))
        clear HKl
        clear hb
        have c_k_0_76 : w7.cell? ⟨gk, 0, none⟩ = some (.slice A n n) := HK75.out.cell 2 rfl 0
        have z_k_0_77 : w7.frozen? ⟨gk, 0, none⟩ = false := HK75.out.frozen 2 rfl 0
        have c_k_1_78 : w7.cell? ⟨gk, 1, none⟩ = some (.int .i64 sx) := HK75.out.cell 2 rfl 1
        have z_k_1_79 : w7.frozen? ⟨gk, 1, none⟩ = false := HK75.out.frozen 2 rfl 1
        have c_k_2_80 : w7.cell? ⟨gk, 2, none⟩ = some (.int .i64 sy) := HK75.out.cell 2 rfl 2
        have z_k_2_81 : w7.frozen? ⟨gk, 2, none⟩ = false := HK75.out.frozen 2 rfl 2
        go_upto_region 16 with (fail)
        clear c_k_0_76 z_k_0_77 c_k_1_78 z_k_1_79 c_k_2_80 z_k_2_81
        have HK82 := Lib.hid (show Held w [] X (((w7.setCell ⟨gk, 0, none⟩ (.slice A n n)).setCell ⟨gk, 1, none⟩ (.int .i64 x6)).setCell ⟨gk, 2, none⟩ (.int .i64 y6)) [.row 2 1 (l) (j) (sl.map (Value.int .i64)), .box (ge) 44 #[.int .i64 (q + (v2 : Int)), .int .i64 (a + (v3 : Int)), .int .i64 (v1 : Int), .string ⟨#[]⟩, .int .i64 0, .int .i64 0, .int .i64 0], .box (gk) 252 #[.slice A n n, .int .i64 x6, .int .i64 y6], .box (w.heap.size + 1) 44 #[.int .i64 0, .int .i64 0, .int .i64 0, .string ⟨#[]⟩, .int .i64 0, .int .i64 0, .int .i64 0], .box (w.heap.size) 34 #[.int .i64 q, .int .i64 a, .slice An nn cn]] [Sl.fact nameSh An nn cn ns] from (((HK75.out.set_ 2 rfl 0 (.slice A n n)).set_ 2 rfl 1 (.int .i64 x6)).set_ 2 rfl 2 (.int .i64 y6)))
        clear HK75
        generalize ((w7.setCell ⟨gk, 0, none⟩ (.slice A n n)).setCell ⟨gk, 1, none⟩ (.int .i64 x6)).setCell ⟨gk, 2, none⟩ (.int .i64 y6) = w70 at HK82 ⊢
        go_wp2_with (at_builtin; go_must (refine wpList_append_new HK82.out 0 rfl (.tmp 76) (.tmp 78) 278 rfl appInt rfl rfl (cs := #[.int .i64 (v6 : Int)]) rfl rfl (by simp [Value.oneCell']) (by unfold maxLen; omega) (by omega) ?_); intro l2 w8 hk8)
        have HK8 := Lib.hid hk8
        clear hk8
        exact ⟨⟨j + 1, l2, rfl, by omega, by go_num, Lib.hid (by rw [HN.out]; simp only [List.map_append, List.map_cons, List.map_nil]; exact HK8.out)⟩, by simp [intOf]; omega⟩
      · obtain rfl : m = j := by omega
        have HL := Lib.hid (numsR_length bs (x4) (y4) m)
        generalize hst : numsR bs (x4) (y4) m = st at HKl HL HE
        clear hst
        obtain ⟨sx, sy, sl⟩ := st
        simp only at HKl HL HE
        have HO := own_reads (HKl.out.row 0 rfl)
        obtain ⟨Al, cl, rfl, -, -, -, hrl⟩ := HO
        have HRl := Lib.hid hrl
        clear hrl
        have HD := Lib.hid (show (sy == 0) = r.2 from by rw [HE.out]; rfl)
        have HFl := Lib.hid (show fillE ⟨q + (v2 : Int), a + (v3 : Int), (v1 : Int), strB [], 0, 0, 0⟩ sl = r.1 from by rw [HE.out])
        go_wp2_with fail
        refine wp_region_noPanic ?_
        refine wp_region_held_drew (S := fun W' => HeldBut w [] X W' [.row 2 1 (.slice Al m cl) (m) (sl.map (Value.int .i64)), .box (ge) 44 #[.int .i64 (q + (v2 : Int)), .int .i64 (a + (v3 : Int)), .int .i64 (v1 : Int), .string ⟨#[]⟩, .int .i64 0, .int .i64 0, .int .i64 0], .box (gk) 252 #[.slice A n n, .int .i64 sx, .int .i64 sy], .box (w.heap.size + 1) 44 #[.int .i64 0, .int .i64 0, .int .i64 0, .string ⟨#[]⟩, .int .i64 0, .int .i64 0, .int .i64 0], .box (w.heap.size) 34 #[.int .i64 q, .int .i64 a, .slice An nn cn]] [Sl.fact nameSh An nn cn ns] 3 (w.heap.size + 1) 44) (by kernel_rfl) (HKl.out.but 3 rfl).drew (fun hHeld => ?_)
        have c_r_0_69 : wr.cell? ⟨w.heap.size + 1, 0, none⟩ = some (.int .i64 0) := HKl.out.cell 3 rfl 0
        have z_r_0_70 : wr.frozen? ⟨w.heap.size + 1, 0, none⟩ = false := HKl.out.frozen 3 rfl 0
        have c_r_1_71 : wr.cell? ⟨w.heap.size + 1, 1, none⟩ = some (.int .i64 0) := HKl.out.cell 3 rfl 1
        have z_r_1_72 : wr.frozen? ⟨w.heap.size + 1, 1, none⟩ = false := HKl.out.frozen 3 rfl 1
        have c_r_2_73 : wr.cell? ⟨w.heap.size + 1, 2, none⟩ = some (.int .i64 0) := HKl.out.cell 3 rfl 2
        have z_r_2_74 : wr.frozen? ⟨w.heap.size + 1, 2, none⟩ = false := HKl.out.frozen 3 rfl 2
        have c_r_3_75 : wr.cell? ⟨w.heap.size + 1, 3, none⟩ = some (.string ⟨#[]⟩) := HKl.out.cell 3 rfl 3
        have z_r_3_76 : wr.frozen? ⟨w.heap.size + 1, 3, none⟩ = false := HKl.out.frozen 3 rfl 3
        have c_r_4_77 : wr.cell? ⟨w.heap.size + 1, 4, none⟩ = some (.int .i64 0) := HKl.out.cell 3 rfl 4
        have z_r_4_78 : wr.frozen? ⟨w.heap.size + 1, 4, none⟩ = false := HKl.out.frozen 3 rfl 4
        have c_r_5_79 : wr.cell? ⟨w.heap.size + 1, 5, none⟩ = some (.int .i64 0) := HKl.out.cell 3 rfl 5
        have z_r_5_80 : wr.frozen? ⟨w.heap.size + 1, 5, none⟩ = false := HKl.out.frozen 3 rfl 5
        have c_r_6_81 : wr.cell? ⟨w.heap.size + 1, 6, none⟩ = some (.int .i64 0) := HKl.out.cell 3 rfl 6
        have z_r_6_82 : wr.frozen? ⟨w.heap.size + 1, 6, none⟩ = false := HKl.out.frozen 3 rfl 6
        refine takeH 0 (v := ?v0u13) rfl (by kernel_rfl) (by kernel_rfl) (by kernel_rfl) rfl (fun _ _ _ h => h) (Or.inl ⟨by rfl, ?y0u13⟩) hHeld ?r0u13
        case y0u13 => (intro W hSW; (try dsimp only at hSW); have q0 : W.cell? ⟨ge, 0, none⟩ = some (.int .i64 (q + (v2 : Int))) := hSW.cell 1 rfl (by decide) 0; have q1 : W.cell? ⟨ge, 1, none⟩ = some (.int .i64 (a + (v3 : Int))) := hSW.cell 1 rfl (by decide) 1; have q2 : W.cell? ⟨ge, 2, none⟩ = some (.int .i64 (v1 : Int)) := hSW.cell 1 rfl (by decide) 2; have q3 : W.cell? ⟨ge, 3, none⟩ = some (.string ⟨#[]⟩) := hSW.cell 1 rfl (by decide) 3; have q4 : W.cell? ⟨ge, 4, none⟩ = some (.int .i64 0) := hSW.cell 1 rfl (by decide) 4; have q5 : W.cell? ⟨ge, 5, none⟩ = some (.int .i64 0) := hSW.cell 1 rfl (by decide) 5; have q6 : W.cell? ⟨ge, 6, none⟩ = some (.int .i64 0) := hSW.cell 1 rfl (by decide) 6; go_simp; try with_reducible rfl)
        simp only [Act.put, sI, sZ, sS]
        refine takeH 1 (v := ?v1u14) rfl (by kernel_rfl) (by kernel_rfl) (by kernel_rfl) rfl (fun _ _ _ h => h) (Or.inl ⟨by rfl, ?y1u14⟩) hHeld ?r1u14
        case y1u14 => (intro W hSW; (try dsimp only at hSW); go_simp; try with_reducible rfl)
        simp only [Act.put, sI, sZ, sS]
        refine takeH 3 (v := ?v3u15) rfl (by kernel_rfl) (by kernel_rfl) (by kernel_rfl) rfl (fun _ _ _ h => h) (Or.inl ⟨by rfl, ?y3u15⟩) hHeld ?r3u15
        case y3u15 => (intro W hSW; (try dsimp only at hSW); go_simp; try with_reducible rfl)
        simp only [Act.put, sI, sZ, sS]
        refine takeH 4 (v := ?v4u16) rfl (by kernel_rfl) (by kernel_rfl) (by kernel_rfl) rfl (fun _ _ _ h => h) (Or.inl ⟨by rfl, ?y4u16⟩) hHeld ?r4u16
        case y4u16 => (intro W hSW; (try dsimp only at hSW); have q2 : W.cell? ⟨gk, 2, none⟩ = some (.int .i64 sy) := hSW.cell 2 rfl (by decide) 2; go_simp; try with_reducible rfl)
        simp only [Act.put, sI, sZ, sS]
        refine takeH 5 (v := ?v5u17) rfl (by kernel_rfl) (by kernel_rfl) (by kernel_rfl) rfl (fun _ _ _ h => h) (Or.inl ⟨by rfl, ?y5u17⟩) hHeld ?r5u17
        case y5u17 => (intro W hSW; (try dsimp only at hSW); go_simp; try with_reducible rfl)
        simp only [Act.put, sI, sZ, sS]
        have HKd := Lib.hid HKl.out.drew
        refine wpAnyH_ready (rs := [2]) (by kernel_rfl) (by simp) ?_
        refine AllReadyH.cons rfl (fun K hK => ?_) AllReadyH.nil
        go_simp
        refine (Fill_c ⟨q + (v2 : Int), a + (v3 : Int), (v1 : Int), strB [], 0, 0, 0⟩ Al m cl wr.heap.size sl wr.drew HRl.out.drew (Nat.le_refl _) hm3).mono ?_
        rw [HFl.out]
        rintro e w9 ⟨rfl, hb9⟩
        have HK9 := Lib.hid (HKd.out.on hb9)
        have hkn := hHeld.on hb9
        clear hb9
        refine hK.out _ _ hkn (fun hHeld => ?_)
        clear hK K
        try simp only [Act.put, sI, sZ, sS]
        obtain ⟨⟨rq, ra, rk, rcm, rx, ry, rz⟩, rb⟩ := r
        simp only at HD
        clear c_r_0_69 z_r_0_70 c_r_1_71 z_r_1_72 c_r_2_73 z_r_2_74 c_r_3_75 z_r_3_76 c_r_4_77 z_r_4_78 c_r_5_79 z_r_5_80 c_r_6_81 z_r_6_82
        have c_r_0_83 : w9.cell? ⟨w.heap.size + 1, 0, none⟩ = some (.int .i64 0) := HK9.out.cell 3 rfl 0
        have z_r_0_84 : w9.frozen? ⟨w.heap.size + 1, 0, none⟩ = false := HK9.out.frozen 3 rfl 0
        have c_r_1_85 : w9.cell? ⟨w.heap.size + 1, 1, none⟩ = some (.int .i64 0) := HK9.out.cell 3 rfl 1
        have z_r_1_86 : w9.frozen? ⟨w.heap.size + 1, 1, none⟩ = false := HK9.out.frozen 3 rfl 1
        have c_r_2_87 : w9.cell? ⟨w.heap.size + 1, 2, none⟩ = some (.int .i64 0) := HK9.out.cell 3 rfl 2
        have z_r_2_88 : w9.frozen? ⟨w.heap.size + 1, 2, none⟩ = false := HK9.out.frozen 3 rfl 2
        have c_r_3_89 : w9.cell? ⟨w.heap.size + 1, 3, none⟩ = some (.string ⟨#[]⟩) := HK9.out.cell 3 rfl 3
        have z_r_3_90 : w9.frozen? ⟨w.heap.size + 1, 3, none⟩ = false := HK9.out.frozen 3 rfl 3
        have c_r_4_91 : w9.cell? ⟨w.heap.size + 1, 4, none⟩ = some (.int .i64 0) := HK9.out.cell 3 rfl 4
        have z_r_4_92 : w9.frozen? ⟨w.heap.size + 1, 4, none⟩ = false := HK9.out.frozen 3 rfl 4
        have c_r_5_93 : w9.cell? ⟨w.heap.size + 1, 5, none⟩ = some (.int .i64 0) := HK9.out.cell 3 rfl 5
        have z_r_5_94 : w9.frozen? ⟨w.heap.size + 1, 5, none⟩ = false := HK9.out.frozen 3 rfl 5
        have c_r_6_95 : w9.cell? ⟨w.heap.size + 1, 6, none⟩ = some (.int .i64 0) := HK9.out.cell 3 rfl 6
        have z_r_6_96 : w9.frozen? ⟨w.heap.size + 1, 6, none⟩ = false := HK9.out.frozen 3 rfl 6
        refine wpAnyH_ready (rs := [6]) (by kernel_rfl) (by simp) ?_
        refine AllReadyH.cons rfl (fun K hK => ?_) AllReadyH.nil
        go_simp
        refine hK.out _ _ (((((((hHeld.set_ (by simp) 0 (.int .i64 rq)).set_ (by simp) 1 (.int .i64 ra)).set_ (by simp) 2 (.int .i64 rk)).set_ (by simp) 3 (.string rcm)).set_ (by simp) 4 (.int .i64 rx)).set_ (by simp) 5 (.int .i64 ry)).set_ (by simp) 6 (.int .i64 rz)) (fun hHeld => ?_)
        clear hK K
        try simp only [Act.put, sI, sZ, sS]
        refine takeH 7 (v := ?v7u18) rfl (by kernel_rfl) (by kernel_rfl) (by kernel_rfl) rfl (fun _ _ _ h => h) (Or.inl ⟨by rfl, ?y7u18⟩) hHeld ?r7u18
        case y7u18 => (intro W hSW; (try dsimp only at hSW); go_simp; try with_reducible rfl)
        simp only [Act.put, sI, sZ, sS]
        refine wpAnyH_done (by kernel_rfl) ?_ _
        refine NoPanic.normal ?_
        clear c_r_0_83 z_r_0_84 c_r_1_85 z_r_1_86 c_r_2_87 z_r_2_88 c_r_3_89 z_r_3_90 c_r_4_91 z_r_4_92 c_r_5_93 z_r_5_94 c_r_6_95 z_r_6_96
        have HK97 := Lib.hid (show Held w [] X (((((((w9.setCell ⟨w.heap.size + 1, 0, none⟩ (.int .i64 rq)).setCell ⟨w.heap.size + 1, 1, none⟩ (.int .i64 ra)).setCell ⟨w.heap.size + 1, 2, none⟩ (.int .i64 rk)).setCell ⟨w.heap.size + 1, 3, none⟩ (.string rcm)).setCell ⟨w.heap.size + 1, 4, none⟩ (.int .i64 rx)).setCell ⟨w.heap.size + 1, 5, none⟩ (.int .i64 ry)).setCell ⟨w.heap.size + 1, 6, none⟩ (.int .i64 rz)) [.row 2 1 (.slice Al m cl) (m) (sl.map (Value.int .i64)), .box (ge) 44 #[.int .i64 (q + (v2 : Int)), .int .i64 (a + (v3 : Int)), .int .i64 (v1 : Int), .string ⟨#[]⟩, .int .i64 0, .int .i64 0, .int .i64 0], .box (gk) 252 #[.slice A n n, .int .i64 sx, .int .i64 sy], .box (w.heap.size + 1) 44 #[.int .i64 rq, .int .i64 ra, .int .i64 rk, .string rcm, .int .i64 rx, .int .i64 ry, .int .i64 rz], .box (w.heap.size) 34 #[.int .i64 q, .int .i64 a, .slice An nn cn]] [Sl.fact nameSh An nn cn ns] from (((((((HK9.out.set_ 3 rfl 0 (.int .i64 rq)).set_ 3 rfl 1 (.int .i64 ra)).set_ 3 rfl 2 (.int .i64 rk)).set_ 3 rfl 3 (.string rcm)).set_ 3 rfl 4 (.int .i64 rx)).set_ 3 rfl 5 (.int .i64 ry)).set_ 3 rfl 6 (.int .i64 rz)))
        clear HK9
        go_wp2
        exact bodyPost_ret (res_read (HK97.out.blk 3 rfl) (u := .bool (sy == 0)) _ rfl rfl) rfl ⟨by rw [HD.out], HK97.out.below⟩
end
end Go.Proofs.YtpokkciheejeiaaGreatDoor
