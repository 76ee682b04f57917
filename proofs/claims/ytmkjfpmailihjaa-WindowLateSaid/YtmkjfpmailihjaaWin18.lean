/- The walk of WindowLate. -/
import Derived.Test.YtmkjfpmailihjaaWin17
namespace Go.Proofs.Ytmkjfpmailihjaa
set_option linter.unusedVariables false
open Go.RowKit Go.ChangeShapes

def timesL (st : List Int) (k : Nat) : List Int := (List.range k).map (fun (j : Nat) => timeK st (j + 1))
theorem timesL_succ (st : List Int) (k : Nat) : timesL st (k + 1) = timesL st k ++ [timeK st (k + 1)] := by simp [timesL, List.range_succ]
theorem timesL_get (st : List Int) (k j : Nat) (h : j < k) : (timesL st k)[j]? = some (timeK st (j + 1)) := by rw [timesL, List.getElem?_map, List.getElem?_range h, Option.map_some]
section
variable {w w' : World} {G G' : List Nat} {A : Option Addr} {n : Nat} {cs : List (Int × Int)}
theorem WinAt.sub (h : WinAt w G A n cs) (hs : ∀ g ∈ G', g ∈ G) : WinAt w G' A n cs := ⟨h.1, fun hn ad e hm => h.2.1 hn ad e (hs _ hm), fun g hg => h.2.2 g (hs g hg)⟩
theorem WinAt.drew (h : WinAt w G A n cs) : WinAt w.drew G A n cs := h
theorem WinAt.push {v v' : Value} (h : WinAt w (v.ownBlock.toList ++ G) A n cs) (hg : w.grownBy w' v.ownBlock) (hat : v'.ownBlock = v.ownBlock ∨ v'.ownBlock = some w.heap.size) (ho : ∀ g, v'.ownBlock = some g → g < w'.heap.size) : WinAt w' (v'.ownBlock.toList ++ G) A n cs := by
  obtain ⟨h1, h2, h3⟩ := h
  refine ⟨⟨h1.1, fun hn => ?_⟩, fun hn ad e hm => ?_, fun g hg' => ?_⟩
  · obtain ⟨ad, e, hb, hc⟩ := h1.2 hn
    refine ⟨ad, e, Nat.lt_of_lt_of_le hb hg.size, fun j u hu => ?_⟩
    rw [World.cell?_of_block (hg.block _ (by rw [block_of_add]; exact hb) (fun e' => h2 hn ad e (by rw [block_of_add] at e'; rw [← e']; simp)))]
    exact hc j u hu
  · rcases List.mem_append.1 hm with hm | hm
    · simp at hm
      rcases hat with h' | h'
      · rw [h'] at hm; exact h2 hn ad e (by rw [hm]; simp)
      · rw [hm] at h'; injection h' with h'; have := h1.lo hn ad e; omega
    · exact h2 hn ad e (List.mem_append_right _ hm)
  · rcases List.mem_append.1 hg' with hm | hm
    · simp at hm; exact ho g hm
    · exact Nat.lt_of_lt_of_le (h3 g (List.mem_append_right _ hm)) hg.size
end
theorem winAt_set {w : World} {G : List Nat} {A : Option Addr} {n g o : Nat} {cs : List (Int × Int)} (h : WinAt w G A n cs) (hg : g ∈ G) (u : Value) : WinAt (w.setCell ⟨g, o, none⟩ u) G A n cs := by
  refine ⟨?_, h.2.1, fun g' hg' => by simp only [World.size_setCell]; exact h.2.2 g' hg'⟩
  simp only [World.size_setCell]
  exact reads_set1 h.1 (fun hn ad e he => h.2.1 hn ad e (by rw [he]; exact hg)) u
theorem okB_in {bd : List Bool} {k : Nat} {b : Bool} (h : bd[k]? = some b) : okB bd k = !b := by unfold okB; rw [List.getD_eq_getElem?_getD, h]; rfl
theorem okB_out {bd : List Bool} {k : Nat} (h : bd.length ≤ k) : okB bd k = true := by unfold okB; rw [List.getD_eq_getElem?_getD, List.getElem?_eq_none h]; rfl

set_option maxRecDepth 100000 in
set_option maxHeartbeats 8000000 in
theorem WindowLate_walk (a0 a1 : Int) (As : Option Addr) (m cs0 : Nat) (st : List Int) (Ab : Option Addr) (nb cb : Nat) (bd : List Bool) (W : World) (hw0 : (Lit.int .u16 a0).wf = true) (hw1 : (Lit.int .u8 a1).wf = true) (hst : IntArg .u16 W As m cs0 st) (hbd : BoolArg W Ab nb cb bd) : Calls Try.prog 4 #[.int .u16 a0, .int .u8 a1, .slice As m cs0, .slice Ab nb cb] W fun e w' => e = .returned (.bool true) ∧ Below W.heap.size W w' := by
  have hb0 := bounds_u16 hw0
  have hb1 := bounds_u8 hw1
  have HRS := Lib.hid hst.1
  have HRB := Lib.hid hbd.1
  have hst' : ∀ x ∈ st, 0 ≤ x ∧ x ≤ 65535 := fun x hx => bounds_u16 (hst.2.2.2.2 x hx)
  have hml : st.length = m := by simpa using hst.1.1
  have hmc := hst.2.1
  have hmc2 := hst.2.2.1
  have hnc := hbd.2.1
  have hnc2 := hbd.2.2
  clear hst hbd hw0 hw1
  unfold maxLen at hmc2 hnc2
  have HST := Lib.hid hst'
  clear hst'
  obtain ⟨size, hsize⟩ : ∃ s, s = a0 + 1 := ⟨_, rfl⟩
  obtain ⟨n, hn⟩ : ∃ k : Nat, (k : Int) = a1 % 16 + 1 := ⟨(a1 % 16 + 1).toNat, by omega⟩
  have htm : a1.tmod 16 = a1 % 16 := Int.tmod_eq_emod_of_nonneg (by omega)
  have HK1 := Lib.hid (show Kept W W [] from (Kept.start W))
  go_enter Try.func4, Try.ntmps4
  go_wp2_with fail
  with_reducible refine (awake_c _).mono ?_
  rintro e w1 ⟨rfl, hb1⟩
  have HK2 := Lib.hid (show Kept W w1 [] from HK1.out.next hb1)
  clear HK1
  clear hb1
  by_cases h60 : 60 < m
  · have dl : decide ((60 : Int) < (m : Int)) = true := by simp; omega
    go_wp2
    go_ret
    exact ⟨rfl, HK2.out.bel⟩
  have dl : decide ((60 : Int) < (m : Int)) = false := by simp; omega
  go_wp2_with fail
  rw [← hsize, ← hn]
  have hs1 : 1 ≤ size := by omega
  have hs2 : size ≤ 65536 := by omega
  have hn1 : 1 ≤ n := by omega
  have hn2 : n ≤ 16 := by omega
  clear htm dl hsize hn hb0 hb1
  with_reducible refine (New_c size n 0 _).mono ?_
  rw [newR_cells size n hs1 (by omega) hn1 hn2]
  rintro e w2 ⟨A2, n2, c2, rfl, hr2, hb2, hlo2⟩
  dsimp only at hr2
  have hx2 : n2 = n := by have := hr2.cell_len; rw [cellsOf_length] at this; exact this.symm
  subst n2
  have HW3 := Lib.hid (show WinAt w2 [] A2 n (cellsOf [] 0 n) from WinAt.new (w := w1) (by simp) hb2.size hr2 hlo2)
  have HK4 := Lib.hid (show Kept W w2 [] from HK2.out.next hb2)
  clear HK2
  clear hb2
  clear hr2 hlo2
  go_wp2
  have HK5 := Lib.hid (show Kept W (w2.alloc (.cells #[.int .i64 size, .int .i64 0, .slice A2 n c2] 24)) [(w2.heap.size, 24, #[.int .i64 size, .int .i64 0, .slice A2 n c2])] from HK4.out.alloc 24 #[.int .i64 size, .int .i64 0, .slice A2 n c2])
  clear HK4
  have HW6 := Lib.hid (show WinAt (w2.alloc (.cells #[.int .i64 size, .int .i64 0, .slice A2 n c2] 24)) [w2.heap.size] A2 n (cellsOf [] 0 n) from HW3.out.alloc _)
  clear HW3
  generalize w2.alloc (.cells #[.int .i64 size, .int .i64 0, .slice A2 n c2] 24) = v2 at HK5 HW6 ⊢
  obtain ⟨i0, hi0, hz0, hz1, hz2⟩ := info_parts Try.infoI64
  have HSQ := Lib.hid (timeK_le st HST.out)
  have hz0k : timeK st 0 / size = 0 := by rw [timeK, Int.zero_ediv]
  have HK0 := Lib.hid (show Kept W v2 [(w2.heap.size, 24, #[.int .i64 size, .int .i64 (timeK st 0 / size), .slice A2 n c2])] from by rw [hz0k]; exact HK5.out)
  have HW0 := Lib.hid (show WinAt v2 ((Value.slice none 0 0).ownBlock.toList ++ [w2.heap.size]) A2 n (cellsOf (evK st bd size 0) (timeK st 0 / size) n) from by rw [hz0k]; exact HW6.out)
  have HO0 := Lib.hid (show v2.ownsRow (w2.heap.size + 1) 2 1 (.slice none 0 0) 0 ((timesL st 0).map (Value.int .i64)) from ⟨rfl, .inl ⟨rfl, rfl⟩⟩)
  clear hz0k HK5 HW6
  go_loopw [13, 14, 15] (fun tv av iv wr => ∃ (k : Nat) (A : Option Addr) (c : Nat), k ≤ m ∧ iv = .int .i64 k ∧ av = .int .i64 (timeK st k) ∧ Hid (wr.ownsRow (w2.heap.size + 1) 2 1 tv k ((timesL st k).map (Value.int .i64))) ∧ Hid (WinAt wr (tv.ownBlock.toList ++ [w2.heap.size]) A n (cellsOf (evK st bd size k) (timeK st k / size) n)) ∧ Hid (Kept W wr [(w2.heap.size, 24, #[.int .i64 size, .int .i64 (timeK st k / size), .slice A n c])])) (fun _ _ iv _ => m - (intOf iv).toNat)
  case atStart => exact ⟨0, A2, c2, Nat.zero_le _, rfl, rfl, HO0, HW0, HK0⟩
  case round =>
    clear HO0 HW0 HK0
    obtain ⟨k, A, c, hk, rfl, rfl, HO, HW, HK⟩ := hrel
    by_cases hlt : k < m
    · obtain ⟨ad, u, rfl, hadb, hx, hc⟩ := HRS.out.at_ hlt
      obtain ⟨x, hx', rfl⟩ : ∃ x, st[k]? = some x ∧ Value.int .u16 x = u := by simpa using hx
      have hc' : wr.cell? (ad.add k) = some (.int .u16 x) := (HK.out.bel.cell (by rw [block_of_add]; exact hadb)).trans hc
      have hxb := HST.out x (List.mem_of_getElem? hx')
      have HT := Lib.hid (show timeK st (k + 1) = timeK st k + x from by rw [timeK, List.getD_eq_getElem?_getD, hx']; rfl)
      obtain ⟨q1, q2, q3⟩ := HSQ.out k
      have hqa := (HSQ.out (k + 1)).2.1
      have j1 : (0 : Int) ≤ (k : Int) := by omega
      have j2 : (k : Int) < (m : Int) := by omega
      clear hx hx' hc
      have hgw := HK.out.lt 0 rfl
      have hqb : timeK st (k + 1) = timeK st k + x := HT.out
      have hadd : IntKind.i64.wrap (timeK st k + x) = timeK st (k + 1) := by rw [hqb]; exact IntWalk.i64_in _ (by omega)
      clear hqb
      go_wp2_with (at_builtin; go_must (refine wpList_append_any _ rfl _ _ 47 rfl (w2.heap.size + 1) 2 i0 _ 1 8 Try.underlying47 hi0 hz0 hz1 hz2 rfl (by omega) _ k ((timesL st k).map (Value.int .i64)) rfl (HO.out.alloc _) (wr.heap.size + 1) (some ⟨wr.heap.size, 0, none⟩) 1 1 [.int .i64 (timeK st (k + 1))] rfl (Reads.of_blk (Blk.new wr 2 #[.int .i64 (timeK st (k + 1))]) 1 _ rfl rfl) (by intro u hu; simp at hu; subst hu; rfl) (by unfold maxLen; omega) (by omega) (by simp; omega) ?_); intro tv' w4 hown4 hg4 hat4)
      have HO4 := Lib.hid (show w4.ownsRow (w2.heap.size + 1) 2 1 tv' (k + 1) ((timesL st (k + 1)).map (Value.int .i64)) from by rw [timesL_succ, List.map_append]; exact hown4)
      have HK4 := Lib.hid ((HK.out.alloc_off (.cells #[.int .i64 (timeK st (k + 1))] 2)).own hg4 (fun g e => by have := own_ge HO.out g e; have := HK.out.ge 0 rfl; exact ⟨by omega, fun y hy => by simp at hy; subst hy; simp; omega⟩))
      have HW4 := Lib.hid (((HW.out.alloc (.cells #[.int .i64 (timeK st (k + 1))] 2)).sub (G' := _ ++ [w2.heap.size]) (fun g hg => List.mem_cons_of_mem _ hg)).push hg4 hat4 (fun g e => (own_ge hown4 g e).2))
      clear hown4 hg4 hat4 HO HK HW
      have HADD := Lib.hid (addR_step size (timeK st k / size) (timeK st (k + 1)) (evK st bd size k) n (okB bd k) hs1 (by omega) (Int.ediv_nonneg q1 (by omega)) (Int.le_trans (Int.ediv_le_self size q1) (by omega)) (by rw [evK_length]; omega) hn1 hn2 (evK_le st bd size hs1 HST.out k) (by unfold timeB; rw [decide_eq_true_eq]; omega) (Int.ediv_le_ediv (by omega) q3))
      rw [← evK_succ] at HADD
      obtain ⟨s1, hs1'⟩ : ∃ s, timeK st (k + 1) / size = s := ⟨_, rfl⟩
      have HRW := Lib.hid (cells_rightW size (timeK st (k + 1) / size) (evK st bd size (k + 1)) n hs1 (by omega) (Int.ediv_nonneg (HSQ.out (k + 1)).1 (by omega)) (Int.le_trans (Int.ediv_le_self size (HSQ.out (k + 1)).1) (by omega)) (by rw [evK_length]; omega) hn1 hn2)
      rw [hs1'] at HADD HRW
      have HS1 := Lib.hid hs1'
      clear hs1'
      by_cases hkb : k < nb
      · obtain ⟨adb, ub, rfl, hbb, hbx, hbc⟩ := HRB.out.at_ hkb
        obtain ⟨b0, hb0, rfl⟩ : ∃ b, bd[k]? = some b ∧ Value.bool b = ub := by simpa using hbx
        have HOK := Lib.hid (okB_in hb0)
        rw [HOK.out] at HADD
        clear hbx hb0
        have dk : decide ((nb : Int) ≤ (k : Int)) = false := by simp; omega
        have j3 : (k : Int) < (nb : Int) := by omega
        refine wp_region_noPanic ?_
        refine wp_region_held_drew (S := fun W' => Kept W W' [(w2.heap.size, 24, #[.int .i64 size, .int .i64 (timeK st k / size), .slice A n c])]) (by kernel_rfl) HK4.out.drew (fun hHeld => ?_)
        have HOd := Lib.hid (show w4.drew.ownsRow (w2.heap.size + 1) 2 1 tv' (k + 1) ((timesL st (k + 1)).map (Value.int .i64)) from HO4.out)
        have HWd := Lib.hid HW4.out.drew
        clear HO4 HW4 HK4
        generalize w4.drew = wd at hHeld HOd HWd ⊢
        refine takeH 0 (v := ?v0u16) rfl (by kernel_rfl) (by kernel_rfl) (by kernel_rfl) rfl (fun _ _ _ h => h) (Or.inl ⟨by rfl, ?y0u16⟩) hHeld ?r0u16
        case y0u16 => (intro W hSW; (try dsimp only at hSW); have q0 := hSW.cell 0 rfl 0; have q1 := hSW.cell 0 rfl 1; have q2 := hSW.cell 0 rfl 2; simp only [List.getElem?_toArray, List.getElem?_cons_zero, List.getElem?_cons_succ] at q0 q1 q2; go_simp; try with_reducible rfl)
        simp only [Act.put, List.setIfInBounds_toArray, List.set_cons_zero, List.set_cons_succ]
        refine takeH 1 (v := ?v1u17) rfl (by kernel_rfl) (by kernel_rfl) (by kernel_rfl) rfl (fun _ _ _ h => h) (Or.inl ⟨by rfl, ?y1u17⟩) hHeld ?r1u17
        case y1u17 => (intro W hSW; (try dsimp only at hSW); go_simp; try with_reducible rfl)
        simp only [Act.put, List.setIfInBounds_toArray, List.set_cons_zero, List.set_cons_succ]
        refine takeH 2 (v := ?v2u18) rfl (by kernel_rfl) (by kernel_rfl) (by kernel_rfl) rfl (fun _ _ _ h => h) (Or.inl ⟨by rfl, ?y2u18⟩) hHeld ?r2u18
        case y2u18 => (intro W hSW; (try dsimp only at hSW); go_simp; try with_reducible rfl)
        simp only [Act.put, List.setIfInBounds_toArray, List.set_cons_zero, List.set_cons_succ]
        refine takeH 3 (v := ?v3u19) rfl (by kernel_rfl) (by kernel_rfl) (by kernel_rfl) rfl (fun _ _ _ h => h) (Or.inl ⟨by rfl, ?y3u19⟩) hHeld ?r3u19
        case y3u19 => (intro W hSW; (try dsimp only at hSW); go_simp; try with_reducible rfl)
        simp only [Act.put, List.setIfInBounds_toArray, List.set_cons_zero, List.set_cons_succ]
        refine takeH 4 (v := ?v4u20) rfl (by kernel_rfl) (by kernel_rfl) (by kernel_rfl) rfl (fun _ _ _ h => h) (Or.inl ⟨by rfl, ?y4u20⟩) hHeld ?r4u20
        case y4u20 => (intro W hSW; (try dsimp only at hSW); go_simp; try with_reducible rfl)
        simp only [Act.put, List.setIfInBounds_toArray, List.set_cons_zero, List.set_cons_succ]
        refine takeH 5 (v := .bool false) rfl (by kernel_rfl) (by kernel_rfl) (by kernel_rfl) rfl (fun _ _ _ h => h) (Or.inl ⟨by rfl, ?y5u21⟩) hHeld ?r5u21
        case y5u21 => (intro W hSW; (try dsimp only at hSW); go_simp; (try (first | omega | (simp; omega))))
        simp only [Act.put, List.setIfInBounds_toArray, List.set_cons_zero, List.set_cons_succ]
        refine takeH 6 (v := ?v6u22) rfl (by kernel_rfl) (by kernel_rfl) (by kernel_rfl) rfl (fun _ _ _ h => h) (Or.inl ⟨by rfl, ?y6u22⟩) hHeld ?r6u22
        case y6u22 => (intro W hSW; (try dsimp only at hSW); go_simp; try with_reducible rfl)
        simp only [Act.put, List.setIfInBounds_toArray, List.set_cons_zero, List.set_cons_succ]
        refine takeH 7 (v := ?v7u23) rfl (by kernel_rfl) (by kernel_rfl) (by kernel_rfl) rfl (fun _ _ _ h => h) (Or.inl ⟨by rfl, ?y7u23⟩) hHeld ?r7u23
        case y7u23 => (intro W hSW; (try dsimp only at hSW); go_simp; try with_reducible rfl)
        simp only [Act.put, List.setIfInBounds_toArray, List.set_cons_zero, List.set_cons_succ]
        refine takeH 8 (v := ?v8u24) rfl (by kernel_rfl) (by kernel_rfl) (by kernel_rfl) rfl (fun _ _ _ h => h) (Or.inl ⟨by rfl, ?y8u24⟩) hHeld ?r8u24
        case y8u24 => (intro W hSW; (try dsimp only at hSW); go_simp; try with_reducible rfl)
        simp only [Act.put, List.setIfInBounds_toArray, List.set_cons_zero, List.set_cons_succ]
        refine takeH 9 (v := ?v9u25) rfl (by kernel_rfl) (by kernel_rfl) (by kernel_rfl) rfl (fun _ _ _ h => h) (Or.inl ⟨by rfl, ?y9u25⟩) hHeld ?r9u25
        case y9u25 => (intro W hSW; (try dsimp only at hSW); go_simp; try with_reducible rfl)
        simp only [Act.put, List.setIfInBounds_toArray, List.set_cons_zero, List.set_cons_succ]
        refine takeH 10 (v := ?v10u26) rfl (by kernel_rfl) (by kernel_rfl) (by kernel_rfl) rfl (fun _ _ _ h => h) (Or.inl ⟨by rfl, ?y10u26⟩) hHeld ?r10u26
        case y10u26 => (intro W hSW; (try dsimp only at hSW); have q0 := (hSW.bel.cell (p := adb.add k) (by rw [block_of_add]; exact hbb)).trans hbc; go_simp; try with_reducible rfl)
        simp only [Act.put, List.setIfInBounds_toArray, List.set_cons_zero, List.set_cons_succ]
        refine takeH 11 (v := ?v11u27) rfl (by kernel_rfl) (by kernel_rfl) (by kernel_rfl) rfl (fun _ _ _ h => h) (Or.inl ⟨by rfl, ?y11u27⟩) hHeld ?r11u27
        case y11u27 => (intro W hSW; (try dsimp only at hSW); go_simp; try with_reducible rfl)
        simp only [Act.put, List.setIfInBounds_toArray, List.set_cons_zero, List.set_cons_succ]
        refine takeH 12 (v := ?v12u28) rfl (by kernel_rfl) (by kernel_rfl) (by kernel_rfl) rfl (fun _ _ _ h => h) (Or.inl ⟨by rfl, ?y12u28⟩) hHeld ?r12u28
        case y12u28 => (intro W hSW; (try dsimp only at hSW); go_simp; try with_reducible rfl)
        simp only [Act.put, List.setIfInBounds_toArray, List.set_cons_zero, List.set_cons_succ]
        refine wpAnyH_ready (rs := [13, 17]) (by kernel_rfl) (by simp) ?_
        refine AllReadyH.cons rfl (fun K hK => ?_) (AllReadyH.cons rfl (fun K hK => ?_) AllReadyH.nil)
        · go_simp
          with_reducible refine (Add_c size (timeK st k / size) A n c wd.heap.size (cellsOf (evK st bd size k) (timeK st k / size) n) (timeK st (k + 1)) (!b0) wd HWd.out.rd (Nat.le_refl _) (by omega)).mono ?_
          rw [HADD.out]
          rintro e' w5 ⟨A5, n5, c5, rfl, hr5, hb5, hlo5⟩
          dsimp only at hr5
          have hx5 : n5 = n := by have := hr5.cell_len; rw [cellsOf_length] at this; exact this.symm
          subst n5
          have HW5 := Lib.hid (HWd.out.res (cs := cellsOf (evK st bd size (k + 1)) s1 n) hb5.size hr5 hlo5 rfl)
          have HO5 := Lib.hid (own_below HOd.out hb5 (Nat.le_refl _))
          have hkn := hHeld.next hb5
          refine hK.out _ _ hkn (fun hHeld => ?_)
          clear hK K hb5 hr5 hlo5 HWd HOd hkn
          refine takeH 14 (v := ?v14u29) rfl (by kernel_rfl) (by kernel_rfl) (by kernel_rfl) rfl (fun _ _ _ h => h) (Or.inl ⟨by rfl, ?y14u29⟩) hHeld ?r14u29
          case y14u29 => (intro W hSW; (try dsimp only at hSW); go_simp; try with_reducible rfl)
          simp only [Act.put, List.setIfInBounds_toArray, List.set_cons_zero, List.set_cons_succ]
          refine takeH 15 (v := ?v15u30) rfl (by kernel_rfl) (by kernel_rfl) (by kernel_rfl) rfl (fun _ _ _ h => h) (Or.inl ⟨by rfl, ?y15u30⟩) hHeld ?r15u30
          case y15u30 => (intro W hSW; (try dsimp only at hSW); go_simp; try with_reducible rfl)
          simp only [Act.put, List.setIfInBounds_toArray, List.set_cons_zero, List.set_cons_succ]
          refine takeH 16 (v := ?v16u31) rfl (by kernel_rfl) (by kernel_rfl) (by kernel_rfl) rfl (fun _ _ _ h => h) (Or.inl ⟨by rfl, ?y16u31⟩) hHeld ?r16u31
          case y16u31 => (intro W hSW; (try dsimp only at hSW); go_simp; try with_reducible rfl)
          simp only [Act.put, List.setIfInBounds_toArray, List.set_cons_zero, List.set_cons_succ]
          have HKa := Lib.hid (hHeld.alloc_at 24 #[.int .i64 0, .int .i64 0, .slice none 0 0] w5.heap.size rfl)
          have HWa := Lib.hid (HW5.out.alloc (.cells #[.int .i64 0, .int .i64 0, .slice none 0 0] 24))
          have HOa := Lib.hid (HO5.out.alloc (.cells #[.int .i64 0, .int .i64 0, .slice none 0 0] 24))
          have hgv := (own_ge HO5.out)
          have hgw5 := hHeld.lt 0 rfl
          have hgw6 := hHeld.ge 0 rfl
          refine wpAnyH_ready (rs := [17]) (by kernel_rfl) (by simp) ?_
          refine AllReadyH.cons rfl (fun K hK => ?_) AllReadyH.nil
          go_simp
          refine hK.out _ _ (hHeld.alloc_off _) (fun hHeld => ?_)
          clear hK K
          generalize w5.alloc (.cells #[.int .i64 0, .int .i64 0, .slice none 0 0] 24) = wa at HKa HWa HOa hHeld ⊢
          generalize w5.heap.size = gv at HKa HWa hgv hgw5 ⊢
          clear HW5 HO5
          have z0 : wa.cell? ⟨gv, 0, none⟩ = some (.int .i64 0) := HKa.out.cell 0 rfl 0
          have zf0 : wa.frozen? ⟨gv, 0, none⟩ = false := HKa.out.frozen 0 rfl 0
          have z1 : wa.cell? ⟨gv, 1, none⟩ = some (.int .i64 0) := HKa.out.cell 0 rfl 1
          have zf1 : wa.frozen? ⟨gv, 1, none⟩ = false := HKa.out.frozen 0 rfl 1
          have z2 : wa.cell? ⟨gv, 2, none⟩ = some (.slice none 0 0) := HKa.out.cell 0 rfl 2
          have zf2 : wa.frozen? ⟨gv, 2, none⟩ = false := HKa.out.frozen 0 rfl 2
          have HKc := Lib.hid (show Kept W (((wa.setCell ⟨gv, 0, none⟩ (.int .i64 size)).setCell ⟨gv, 1, none⟩ (.int .i64 s1)).setCell ⟨gv, 2, none⟩ (.slice A5 n c5)) [(gv, 24, #[.int .i64 size, .int .i64 s1, .slice A5 n c5]), (w2.heap.size, 24, #[.int .i64 size, .int .i64 (timeK st k / size), .slice A n c])] from (((HKa.out.set_ 0 rfl 0 (.int .i64 size)).set_ 0 rfl 1 (.int .i64 s1)).set_ 0 rfl 2 (.slice A5 n c5)))
          have HWc := Lib.hid (show WinAt (((wa.setCell ⟨gv, 0, none⟩ (.int .i64 size)).setCell ⟨gv, 1, none⟩ (.int .i64 s1)).setCell ⟨gv, 2, none⟩ (.slice A5 n c5)) (gv :: (tv'.ownBlock.toList ++ [w2.heap.size])) A5 n (cellsOf (evK st bd size (k + 1)) s1 n) from HWa.out.put3 (by simp))
          have HOc := Lib.hid (show (((wa.setCell ⟨gv, 0, none⟩ (.int .i64 size)).setCell ⟨gv, 1, none⟩ (.int .i64 s1)).setCell ⟨gv, 2, none⟩ (.slice A5 n c5)).ownsRow (w2.heap.size + 1) 2 1 tv' (k + 1) ((timesL st (k + 1)).map (Value.int .i64)) from (own_setCell (own_setCell (own_setCell HOa.out (p := ⟨gv, 0, none⟩) (fun e => by have := hgv _ e; simp at this) (.int .i64 size)) (p := ⟨gv, 1, none⟩) (fun e => by have := hgv _ e; simp at this) (.int .i64 s1)) (p := ⟨gv, 2, none⟩) (fun e => by have := hgv _ e; simp at this) (.slice A5 n c5)))
          refine wpAnyH_ready (rs := [18]) (by kernel_rfl) (by simp) ?_
          refine AllReadyH.cons rfl (fun K hK => ?_) AllReadyH.nil
          go_simp
          refine hK.out _ _ (HKc.out.drop1) (fun hHeld => ?_)
          clear hK K
          try simp only [Act.put, List.setIfInBounds_toArray, List.set_cons_zero, List.set_cons_succ]
          generalize ((wa.setCell ⟨gv, 0, none⟩ (.int .i64 size)).setCell ⟨gv, 1, none⟩ (.int .i64 s1)).setCell ⟨gv, 2, none⟩ (.slice A5 n c5) = w6 at HKc HWc HOc hHeld ⊢
          clear z0 z1 z2 zf0 zf1 zf2 HKa HWa HOa
          refine takeH 19 (v := ?v19u32) rfl (by kernel_rfl) (by kernel_rfl) (by kernel_rfl) rfl (fun _ _ _ h => h) (Or.inl ⟨by rfl, ?y19u32⟩) hHeld ?r19u32
          case y19u32 => (intro W hSW; (try dsimp only at hSW); go_simp; try with_reducible rfl)
          simp only [Act.put, List.setIfInBounds_toArray, List.set_cons_zero, List.set_cons_succ]
          refine wpAnyH_done (by kernel_rfl) ?_ _
          refine NoPanic.normal ?_
          clear hHeld
          have c_v_0 : w6.cell? ⟨gv, 0, none⟩ = some (.int .i64 size) := HKc.out.cell 0 rfl 0
          have c_v_1 : w6.cell? ⟨gv, 1, none⟩ = some (.int .i64 s1) := HKc.out.cell 0 rfl 1
          have c_v_2 : w6.cell? ⟨gv, 2, none⟩ = some (.slice A5 n c5) := HKc.out.cell 0 rfl 2
          go_wp2_with fail
          with_reducible refine (wRight_c size s1 A5 n c5 w6.heap.size _ w6 HWc.out.rd (Nat.le_refl _) (by omega)).mono ?_
          rw [HRW.out]
          rintro e' w7 ⟨rfl, hb7⟩
          clear c_v_0 c_v_1 c_v_2
          have HWe := Lib.hid (HWc.out.next hb7)
          have HOe := Lib.hid (own_below HOc.out hb7 (Nat.le_refl _))
          clear HWc HOc
          have HK7 := Lib.hid (show Kept W w7 [(gv, 24, #[.int .i64 size, .int .i64 s1, .slice A5 n c5]), (w2.heap.size, 24, #[.int .i64 size, .int .i64 (timeK st k / size), .slice A n c])] from HKc.out.next hb7)
          clear HKc
          clear hb7
          have c_v_0 : w7.cell? ⟨gv, 0, none⟩ = some (.int .i64 size) := HK7.out.cell 0 rfl 0
          have c_v_1 : w7.cell? ⟨gv, 1, none⟩ = some (.int .i64 s1) := HK7.out.cell 0 rfl 1
          have c_v_2 : w7.cell? ⟨gv, 2, none⟩ = some (.slice A5 n c5) := HK7.out.cell 0 rfl 2
          have c_w_0 : w7.cell? ⟨w2.heap.size, 0, none⟩ = some (.int .i64 size) := HK7.out.cell 1 rfl 0
          have z_w_0 : w7.frozen? ⟨w2.heap.size, 0, none⟩ = false := HK7.out.frozen 1 rfl 0
          have c_w_1 : w7.cell? ⟨w2.heap.size, 1, none⟩ = some (.int .i64 (timeK st k / size)) := HK7.out.cell 1 rfl 1
          have z_w_1 : w7.frozen? ⟨w2.heap.size, 1, none⟩ = false := HK7.out.frozen 1 rfl 1
          have c_w_2 : w7.cell? ⟨w2.heap.size, 2, none⟩ = some (.slice A n c) := HK7.out.cell 1 rfl 2
          have z_w_2 : w7.frozen? ⟨w2.heap.size, 2, none⟩ = false := HK7.out.frozen 1 rfl 2
          have HKf := Lib.hid (show Kept W (((w7.setCell ⟨w2.heap.size, 0, none⟩ (.int .i64 size)).setCell ⟨w2.heap.size, 1, none⟩ (.int .i64 s1)).setCell ⟨w2.heap.size, 2, none⟩ (.slice A5 n c5)) [(w2.heap.size, 24, #[.int .i64 size, .int .i64 s1, .slice A5 n c5])] from (((HK7.out.set_ 1 rfl 0 (.int .i64 size)).set_ 1 rfl 1 (.int .i64 s1)).set_ 1 rfl 2 (.slice A5 n c5)).drop1)
          have HWf := Lib.hid (show WinAt (((w7.setCell ⟨w2.heap.size, 0, none⟩ (.int .i64 size)).setCell ⟨w2.heap.size, 1, none⟩ (.int .i64 s1)).setCell ⟨w2.heap.size, 2, none⟩ (.slice A5 n c5)) (tv'.ownBlock.toList ++ [w2.heap.size]) A5 n (cellsOf (evK st bd size (k + 1)) s1 n) from (HWe.out.put3 (by simp)).sub (fun g hg => List.mem_cons_of_mem _ hg))
          have HOf := Lib.hid (show (((w7.setCell ⟨w2.heap.size, 0, none⟩ (.int .i64 size)).setCell ⟨w2.heap.size, 1, none⟩ (.int .i64 s1)).setCell ⟨w2.heap.size, 2, none⟩ (.slice A5 n c5)).ownsRow (w2.heap.size + 1) 2 1 tv' (k + 1) ((timesL st (k + 1)).map (Value.int .i64)) from (own_setCell (own_setCell (own_setCell HOe.out (p := ⟨w2.heap.size, 0, none⟩) (fun e => by have := hgv _ e; simp at this; omega) (.int .i64 size)) (p := ⟨w2.heap.size, 1, none⟩) (fun e => by have := hgv _ e; simp at this; omega) (.int .i64 s1)) (p := ⟨w2.heap.size, 2, none⟩) (fun e => by have := hgv _ e; simp at this; omega) (.slice A5 n c5)))
          clear HWe HOe HK7
          go_wp2
          exact ⟨⟨k + 1, A5, c5, by omega, by go_num, rfl, HOf, by rw [HS1.out]; exact HWf, by rw [HS1.out]; exact HKf⟩, by simp [intOf]; omega⟩
        · have HKa := Lib.hid (hHeld.alloc_at 24 #[.int .i64 0, .int .i64 0, .slice none 0 0] wd.heap.size rfl)
          have HWz := Lib.hid (HWd.out.alloc (.cells #[.int .i64 0, .int .i64 0, .slice none 0 0] 24))
          have HOz := Lib.hid (HOd.out.alloc (.cells #[.int .i64 0, .int .i64 0, .slice none 0 0] 24))
          have hgv := (own_ge HOd.out)
          have hgw5 := hHeld.lt 0 rfl
          have hgw6 := hHeld.ge 0 rfl
          go_simp
          refine hK.out _ _ (hHeld.alloc_off _) (fun hHeld => ?_)
          clear hK K
          try simp only [Act.put, List.setIfInBounds_toArray, List.set_cons_zero, List.set_cons_succ]
          generalize wd.alloc (.cells #[.int .i64 0, .int .i64 0, .slice none 0 0] 24) = wz at HKa HWz HOz hHeld ⊢
          generalize wd.heap.size = gv at HKa HWz hgv hgw5 ⊢
          clear HWd HOd
          refine wpAnyH_ready (rs := [13]) (by kernel_rfl) (by simp) ?_
          refine AllReadyH.cons rfl (fun K hK => ?_) AllReadyH.nil
          go_simp
          with_reducible refine (Add_c size (timeK st k / size) A n c wz.heap.size (cellsOf (evK st bd size k) (timeK st k / size) n) (timeK st (k + 1)) (!b0) wz HWz.out.rd (Nat.le_refl _) (by omega)).mono ?_
          rw [HADD.out]
          rintro e' w5 ⟨A5, n5, c5, rfl, hr5, hb5, hlo5⟩
          dsimp only at hr5
          have hx5 : n5 = n := by have := hr5.cell_len; rw [cellsOf_length] at this; exact this.symm
          subst n5
          have HWa := Lib.hid (HWz.out.res (cs := cellsOf (evK st bd size (k + 1)) s1 n) hb5.size hr5 hlo5 rfl)
          have HOa := Lib.hid (own_below HOz.out hb5 (Nat.le_refl _))
          have HKb := Lib.hid (HKa.out.next hb5)
          have hkn := hHeld.next hb5
          refine hK.out _ _ hkn (fun hHeld => ?_)
          clear hK K hb5 hr5 hlo5 HWz HOz hkn HKa
          have HKa := HKb
          clear HKb
          generalize w5 = wa at HKa HWa HOa hHeld ⊢
          refine takeH 14 (v := ?v14u33) rfl (by kernel_rfl) (by kernel_rfl) (by kernel_rfl) rfl (fun _ _ _ h => h) (Or.inl ⟨by rfl, ?y14u33⟩) hHeld ?r14u33
          case y14u33 => (intro W hSW; (try dsimp only at hSW); go_simp; try with_reducible rfl)
          simp only [Act.put, List.setIfInBounds_toArray, List.set_cons_zero, List.set_cons_succ]
          refine takeH 15 (v := ?v15u34) rfl (by kernel_rfl) (by kernel_rfl) (by kernel_rfl) rfl (fun _ _ _ h => h) (Or.inl ⟨by rfl, ?y15u34⟩) hHeld ?r15u34
          case y15u34 => (intro W hSW; (try dsimp only at hSW); go_simp; try with_reducible rfl)
          simp only [Act.put, List.setIfInBounds_toArray, List.set_cons_zero, List.set_cons_succ]
          refine takeH 16 (v := ?v16u35) rfl (by kernel_rfl) (by kernel_rfl) (by kernel_rfl) rfl (fun _ _ _ h => h) (Or.inl ⟨by rfl, ?y16u35⟩) hHeld ?r16u35
          case y16u35 => (intro W hSW; (try dsimp only at hSW); go_simp; try with_reducible rfl)
          simp only [Act.put, List.setIfInBounds_toArray, List.set_cons_zero, List.set_cons_succ]
          have z0 : wa.cell? ⟨gv, 0, none⟩ = some (.int .i64 0) := HKa.out.cell 0 rfl 0
          have zf0 : wa.frozen? ⟨gv, 0, none⟩ = false := HKa.out.frozen 0 rfl 0
          have z1 : wa.cell? ⟨gv, 1, none⟩ = some (.int .i64 0) := HKa.out.cell 0 rfl 1
          have zf1 : wa.frozen? ⟨gv, 1, none⟩ = false := HKa.out.frozen 0 rfl 1
          have z2 : wa.cell? ⟨gv, 2, none⟩ = some (.slice none 0 0) := HKa.out.cell 0 rfl 2
          have zf2 : wa.frozen? ⟨gv, 2, none⟩ = false := HKa.out.frozen 0 rfl 2
          have HKc := Lib.hid (show Kept W (((wa.setCell ⟨gv, 0, none⟩ (.int .i64 size)).setCell ⟨gv, 1, none⟩ (.int .i64 s1)).setCell ⟨gv, 2, none⟩ (.slice A5 n c5)) [(gv, 24, #[.int .i64 size, .int .i64 s1, .slice A5 n c5]), (w2.heap.size, 24, #[.int .i64 size, .int .i64 (timeK st k / size), .slice A n c])] from (((HKa.out.set_ 0 rfl 0 (.int .i64 size)).set_ 0 rfl 1 (.int .i64 s1)).set_ 0 rfl 2 (.slice A5 n c5)))
          have HWc := Lib.hid (show WinAt (((wa.setCell ⟨gv, 0, none⟩ (.int .i64 size)).setCell ⟨gv, 1, none⟩ (.int .i64 s1)).setCell ⟨gv, 2, none⟩ (.slice A5 n c5)) (gv :: (tv'.ownBlock.toList ++ [w2.heap.size])) A5 n (cellsOf (evK st bd size (k + 1)) s1 n) from HWa.out.put3 (by simp))
          have HOc := Lib.hid (show (((wa.setCell ⟨gv, 0, none⟩ (.int .i64 size)).setCell ⟨gv, 1, none⟩ (.int .i64 s1)).setCell ⟨gv, 2, none⟩ (.slice A5 n c5)).ownsRow (w2.heap.size + 1) 2 1 tv' (k + 1) ((timesL st (k + 1)).map (Value.int .i64)) from (own_setCell (own_setCell (own_setCell HOa.out (p := ⟨gv, 0, none⟩) (fun e => by have := hgv _ e; simp at this) (.int .i64 size)) (p := ⟨gv, 1, none⟩) (fun e => by have := hgv _ e; simp at this) (.int .i64 s1)) (p := ⟨gv, 2, none⟩) (fun e => by have := hgv _ e; simp at this) (.slice A5 n c5)))
          refine wpAnyH_ready (rs := [18]) (by kernel_rfl) (by simp) ?_
          refine AllReadyH.cons rfl (fun K hK => ?_) AllReadyH.nil
          go_simp
          refine hK.out _ _ (HKc.out.drop1) (fun hHeld => ?_)
          clear hK K
          try simp only [Act.put, List.setIfInBounds_toArray, List.set_cons_zero, List.set_cons_succ]
          generalize ((wa.setCell ⟨gv, 0, none⟩ (.int .i64 size)).setCell ⟨gv, 1, none⟩ (.int .i64 s1)).setCell ⟨gv, 2, none⟩ (.slice A5 n c5) = w6 at HKc HWc HOc hHeld ⊢
          clear z0 z1 z2 zf0 zf1 zf2 HKa HWa HOa
          refine takeH 19 (v := ?v19u36) rfl (by kernel_rfl) (by kernel_rfl) (by kernel_rfl) rfl (fun _ _ _ h => h) (Or.inl ⟨by rfl, ?y19u36⟩) hHeld ?r19u36
          case y19u36 => (intro W hSW; (try dsimp only at hSW); go_simp; try with_reducible rfl)
          simp only [Act.put, List.setIfInBounds_toArray, List.set_cons_zero, List.set_cons_succ]
          refine wpAnyH_done (by kernel_rfl) ?_ _
          refine NoPanic.normal ?_
          clear hHeld
          have c_v_0 : w6.cell? ⟨gv, 0, none⟩ = some (.int .i64 size) := HKc.out.cell 0 rfl 0
          have c_v_1 : w6.cell? ⟨gv, 1, none⟩ = some (.int .i64 s1) := HKc.out.cell 0 rfl 1
          have c_v_2 : w6.cell? ⟨gv, 2, none⟩ = some (.slice A5 n c5) := HKc.out.cell 0 rfl 2
          go_wp2_with fail
          with_reducible refine (wRight_c size s1 A5 n c5 w6.heap.size _ w6 HWc.out.rd (Nat.le_refl _) (by omega)).mono ?_
          rw [HRW.out]
          rintro e' w7 ⟨rfl, hb7⟩
          clear c_v_0 c_v_1 c_v_2
          have HWe := Lib.hid (HWc.out.next hb7)
          have HOe := Lib.hid (own_below HOc.out hb7 (Nat.le_refl _))
          clear HWc HOc
          have HK7 := Lib.hid (show Kept W w7 [(gv, 24, #[.int .i64 size, .int .i64 s1, .slice A5 n c5]), (w2.heap.size, 24, #[.int .i64 size, .int .i64 (timeK st k / size), .slice A n c])] from HKc.out.next hb7)
          clear HKc
          clear hb7
          have c_v_0 : w7.cell? ⟨gv, 0, none⟩ = some (.int .i64 size) := HK7.out.cell 0 rfl 0
          have c_v_1 : w7.cell? ⟨gv, 1, none⟩ = some (.int .i64 s1) := HK7.out.cell 0 rfl 1
          have c_v_2 : w7.cell? ⟨gv, 2, none⟩ = some (.slice A5 n c5) := HK7.out.cell 0 rfl 2
          have c_w_0 : w7.cell? ⟨w2.heap.size, 0, none⟩ = some (.int .i64 size) := HK7.out.cell 1 rfl 0
          have z_w_0 : w7.frozen? ⟨w2.heap.size, 0, none⟩ = false := HK7.out.frozen 1 rfl 0
          have c_w_1 : w7.cell? ⟨w2.heap.size, 1, none⟩ = some (.int .i64 (timeK st k / size)) := HK7.out.cell 1 rfl 1
          have z_w_1 : w7.frozen? ⟨w2.heap.size, 1, none⟩ = false := HK7.out.frozen 1 rfl 1
          have c_w_2 : w7.cell? ⟨w2.heap.size, 2, none⟩ = some (.slice A n c) := HK7.out.cell 1 rfl 2
          have z_w_2 : w7.frozen? ⟨w2.heap.size, 2, none⟩ = false := HK7.out.frozen 1 rfl 2
          have HKf := Lib.hid (show Kept W (((w7.setCell ⟨w2.heap.size, 0, none⟩ (.int .i64 size)).setCell ⟨w2.heap.size, 1, none⟩ (.int .i64 s1)).setCell ⟨w2.heap.size, 2, none⟩ (.slice A5 n c5)) [(w2.heap.size, 24, #[.int .i64 size, .int .i64 s1, .slice A5 n c5])] from (((HK7.out.set_ 1 rfl 0 (.int .i64 size)).set_ 1 rfl 1 (.int .i64 s1)).set_ 1 rfl 2 (.slice A5 n c5)).drop1)
          have HWf := Lib.hid (show WinAt (((w7.setCell ⟨w2.heap.size, 0, none⟩ (.int .i64 size)).setCell ⟨w2.heap.size, 1, none⟩ (.int .i64 s1)).setCell ⟨w2.heap.size, 2, none⟩ (.slice A5 n c5)) (tv'.ownBlock.toList ++ [w2.heap.size]) A5 n (cellsOf (evK st bd size (k + 1)) s1 n) from (HWe.out.put3 (by simp)).sub (fun g hg => List.mem_cons_of_mem _ hg))
          have HOf := Lib.hid (show (((w7.setCell ⟨w2.heap.size, 0, none⟩ (.int .i64 size)).setCell ⟨w2.heap.size, 1, none⟩ (.int .i64 s1)).setCell ⟨w2.heap.size, 2, none⟩ (.slice A5 n c5)).ownsRow (w2.heap.size + 1) 2 1 tv' (k + 1) ((timesL st (k + 1)).map (Value.int .i64)) from (own_setCell (own_setCell (own_setCell HOe.out (p := ⟨w2.heap.size, 0, none⟩) (fun e => by have := hgv _ e; simp at this; omega) (.int .i64 size)) (p := ⟨w2.heap.size, 1, none⟩) (fun e => by have := hgv _ e; simp at this; omega) (.int .i64 s1)) (p := ⟨w2.heap.size, 2, none⟩) (fun e => by have := hgv _ e; simp at this; omega) (.slice A5 n c5)))
          clear HWe HOe HK7
          go_wp2
          exact ⟨⟨k + 1, A5, c5, by omega, by go_num, rfl, HOf, by rw [HS1.out]; exact HWf, by rw [HS1.out]; exact HKf⟩, by simp [intOf]; omega⟩
      · have HOK := Lib.hid (okB_out (bd := bd) (k := k) (by have := HRB.out.1; simp at this; omega))
        rw [HOK.out] at HADD
        have dk : decide ((nb : Int) ≤ (k : Int)) = true := by simp; omega
        refine wp_region_noPanic ?_
        refine wp_region_held_drew (S := fun W' => Kept W W' [(w2.heap.size, 24, #[.int .i64 size, .int .i64 (timeK st k / size), .slice A n c])]) (by kernel_rfl) HK4.out.drew (fun hHeld => ?_)
        have HOd := Lib.hid (show w4.drew.ownsRow (w2.heap.size + 1) 2 1 tv' (k + 1) ((timesL st (k + 1)).map (Value.int .i64)) from HO4.out)
        have HWd := Lib.hid HW4.out.drew
        clear HO4 HW4 HK4
        generalize w4.drew = wd at hHeld HOd HWd ⊢
        refine takeH 0 (v := ?v0u37) rfl (by kernel_rfl) (by kernel_rfl) (by kernel_rfl) rfl (fun _ _ _ h => h) (Or.inl ⟨by rfl, ?y0u37⟩) hHeld ?r0u37
        case y0u37 => (intro W hSW; (try dsimp only at hSW); have q0 := hSW.cell 0 rfl 0; have q1 := hSW.cell 0 rfl 1; have q2 := hSW.cell 0 rfl 2; simp only [List.getElem?_toArray, List.getElem?_cons_zero, List.getElem?_cons_succ] at q0 q1 q2; go_simp; try with_reducible rfl)
        simp only [Act.put, List.setIfInBounds_toArray, List.set_cons_zero, List.set_cons_succ]
        refine takeH 1 (v := ?v1u38) rfl (by kernel_rfl) (by kernel_rfl) (by kernel_rfl) rfl (fun _ _ _ h => h) (Or.inl ⟨by rfl, ?y1u38⟩) hHeld ?r1u38
        case y1u38 => (intro W hSW; (try dsimp only at hSW); go_simp; try with_reducible rfl)
        simp only [Act.put, List.setIfInBounds_toArray, List.set_cons_zero, List.set_cons_succ]
        refine takeH 2 (v := ?v2u39) rfl (by kernel_rfl) (by kernel_rfl) (by kernel_rfl) rfl (fun _ _ _ h => h) (Or.inl ⟨by rfl, ?y2u39⟩) hHeld ?r2u39
        case y2u39 => (intro W hSW; (try dsimp only at hSW); go_simp; try with_reducible rfl)
        simp only [Act.put, List.setIfInBounds_toArray, List.set_cons_zero, List.set_cons_succ]
        refine takeH 3 (v := ?v3u40) rfl (by kernel_rfl) (by kernel_rfl) (by kernel_rfl) rfl (fun _ _ _ h => h) (Or.inl ⟨by rfl, ?y3u40⟩) hHeld ?r3u40
        case y3u40 => (intro W hSW; (try dsimp only at hSW); go_simp; try with_reducible rfl)
        simp only [Act.put, List.setIfInBounds_toArray, List.set_cons_zero, List.set_cons_succ]
        refine takeH 4 (v := ?v4u41) rfl (by kernel_rfl) (by kernel_rfl) (by kernel_rfl) rfl (fun _ _ _ h => h) (Or.inl ⟨by rfl, ?y4u41⟩) hHeld ?r4u41
        case y4u41 => (intro W hSW; (try dsimp only at hSW); go_simp; try with_reducible rfl)
        simp only [Act.put, List.setIfInBounds_toArray, List.set_cons_zero, List.set_cons_succ]
        refine takeH 5 (v := .bool true) rfl (by kernel_rfl) (by kernel_rfl) (by kernel_rfl) rfl (fun _ _ _ h => h) (Or.inl ⟨by rfl, ?y5u42⟩) hHeld ?r5u42
        case y5u42 => (intro W hSW; (try dsimp only at hSW); go_simp; (try (first | omega | (simp; omega))))
        simp only [Act.put, List.setIfInBounds_toArray, List.set_cons_zero, List.set_cons_succ]
        refine takeH 6 (v := ?v6u43) rfl (by kernel_rfl) (by kernel_rfl) (by kernel_rfl) rfl (fun _ _ _ h => h) (Or.inl ⟨by rfl, ?y6u43⟩) hHeld ?r6u43
        case y6u43 => (intro W hSW; (try dsimp only at hSW); go_simp; try with_reducible rfl)
        simp only [Act.put, List.setIfInBounds_toArray, List.set_cons_zero, List.set_cons_succ]
        refine takeH 7 (v := undef) rfl (by kernel_rfl) (by kernel_rfl) (by kernel_rfl) rfl (fun _ _ _ h => h) (Or.inr ⟨by rfl, rfl⟩) hHeld ?_
        simp only [Act.put, List.setIfInBounds_toArray, List.set_cons_zero, List.set_cons_succ]
        refine takeH 8 (v := undef) rfl (by kernel_rfl) (by kernel_rfl) (by kernel_rfl) rfl (fun _ _ _ h => h) (Or.inr ⟨by rfl, rfl⟩) hHeld ?_
        simp only [Act.put, List.setIfInBounds_toArray, List.set_cons_zero, List.set_cons_succ]
        refine takeH 9 (v := undef) rfl (by kernel_rfl) (by kernel_rfl) (by kernel_rfl) rfl (fun _ _ _ h => h) (Or.inr ⟨by rfl, rfl⟩) hHeld ?_
        simp only [Act.put, List.setIfInBounds_toArray, List.set_cons_zero, List.set_cons_succ]
        refine takeH 10 (v := undef) rfl (by kernel_rfl) (by kernel_rfl) (by kernel_rfl) rfl (fun _ _ _ h => h) (Or.inr ⟨by rfl, rfl⟩) hHeld ?_
        simp only [Act.put, List.setIfInBounds_toArray, List.set_cons_zero, List.set_cons_succ]
        refine takeH 11 (v := undef) rfl (by kernel_rfl) (by kernel_rfl) (by kernel_rfl) rfl (fun _ _ _ h => h) (Or.inr ⟨by rfl, rfl⟩) hHeld ?_
        simp only [Act.put, List.setIfInBounds_toArray, List.set_cons_zero, List.set_cons_succ]
        refine takeH 12 (v := ?v12u44) rfl (by kernel_rfl) (by kernel_rfl) (by kernel_rfl) rfl (fun _ _ _ h => h) (Or.inl ⟨by rfl, ?y12u44⟩) hHeld ?r12u44
        case y12u44 => (intro W hSW; (try dsimp only at hSW); go_simp; try with_reducible rfl)
        simp only [Act.put, List.setIfInBounds_toArray, List.set_cons_zero, List.set_cons_succ]
        refine wpAnyH_ready (rs := [13, 17]) (by kernel_rfl) (by simp) ?_
        refine AllReadyH.cons rfl (fun K hK => ?_) (AllReadyH.cons rfl (fun K hK => ?_) AllReadyH.nil)
        · go_simp
          with_reducible refine (Add_c size (timeK st k / size) A n c wd.heap.size (cellsOf (evK st bd size k) (timeK st k / size) n) (timeK st (k + 1)) true wd HWd.out.rd (Nat.le_refl _) (by omega)).mono ?_
          rw [HADD.out]
          rintro e' w5 ⟨A5, n5, c5, rfl, hr5, hb5, hlo5⟩
          dsimp only at hr5
          have hx5 : n5 = n := by have := hr5.cell_len; rw [cellsOf_length] at this; exact this.symm
          subst n5
          have HW5 := Lib.hid (HWd.out.res (cs := cellsOf (evK st bd size (k + 1)) s1 n) hb5.size hr5 hlo5 rfl)
          have HO5 := Lib.hid (own_below HOd.out hb5 (Nat.le_refl _))
          have hkn := hHeld.next hb5
          refine hK.out _ _ hkn (fun hHeld => ?_)
          clear hK K hb5 hr5 hlo5 HWd HOd hkn
          refine takeH 14 (v := ?v14u45) rfl (by kernel_rfl) (by kernel_rfl) (by kernel_rfl) rfl (fun _ _ _ h => h) (Or.inl ⟨by rfl, ?y14u45⟩) hHeld ?r14u45
          case y14u45 => (intro W hSW; (try dsimp only at hSW); go_simp; try with_reducible rfl)
          simp only [Act.put, List.setIfInBounds_toArray, List.set_cons_zero, List.set_cons_succ]
          refine takeH 15 (v := ?v15u46) rfl (by kernel_rfl) (by kernel_rfl) (by kernel_rfl) rfl (fun _ _ _ h => h) (Or.inl ⟨by rfl, ?y15u46⟩) hHeld ?r15u46
          case y15u46 => (intro W hSW; (try dsimp only at hSW); go_simp; try with_reducible rfl)
          simp only [Act.put, List.setIfInBounds_toArray, List.set_cons_zero, List.set_cons_succ]
          refine takeH 16 (v := ?v16u47) rfl (by kernel_rfl) (by kernel_rfl) (by kernel_rfl) rfl (fun _ _ _ h => h) (Or.inl ⟨by rfl, ?y16u47⟩) hHeld ?r16u47
          case y16u47 => (intro W hSW; (try dsimp only at hSW); go_simp; try with_reducible rfl)
          simp only [Act.put, List.setIfInBounds_toArray, List.set_cons_zero, List.set_cons_succ]
          have HKa := Lib.hid (hHeld.alloc_at 24 #[.int .i64 0, .int .i64 0, .slice none 0 0] w5.heap.size rfl)
          have HWa := Lib.hid (HW5.out.alloc (.cells #[.int .i64 0, .int .i64 0, .slice none 0 0] 24))
          have HOa := Lib.hid (HO5.out.alloc (.cells #[.int .i64 0, .int .i64 0, .slice none 0 0] 24))
          have hgv := (own_ge HO5.out)
          have hgw5 := hHeld.lt 0 rfl
          have hgw6 := hHeld.ge 0 rfl
          refine wpAnyH_ready (rs := [17]) (by kernel_rfl) (by simp) ?_
          refine AllReadyH.cons rfl (fun K hK => ?_) AllReadyH.nil
          go_simp
          refine hK.out _ _ (hHeld.alloc_off _) (fun hHeld => ?_)
          clear hK K
          generalize w5.alloc (.cells #[.int .i64 0, .int .i64 0, .slice none 0 0] 24) = wa at HKa HWa HOa hHeld ⊢
          generalize w5.heap.size = gv at HKa HWa hgv hgw5 ⊢
          clear HW5 HO5
          have z0 : wa.cell? ⟨gv, 0, none⟩ = some (.int .i64 0) := HKa.out.cell 0 rfl 0
          have zf0 : wa.frozen? ⟨gv, 0, none⟩ = false := HKa.out.frozen 0 rfl 0
          have z1 : wa.cell? ⟨gv, 1, none⟩ = some (.int .i64 0) := HKa.out.cell 0 rfl 1
          have zf1 : wa.frozen? ⟨gv, 1, none⟩ = false := HKa.out.frozen 0 rfl 1
          have z2 : wa.cell? ⟨gv, 2, none⟩ = some (.slice none 0 0) := HKa.out.cell 0 rfl 2
          have zf2 : wa.frozen? ⟨gv, 2, none⟩ = false := HKa.out.frozen 0 rfl 2
          have HKc := Lib.hid (show Kept W (((wa.setCell ⟨gv, 0, none⟩ (.int .i64 size)).setCell ⟨gv, 1, none⟩ (.int .i64 s1)).setCell ⟨gv, 2, none⟩ (.slice A5 n c5)) [(gv, 24, #[.int .i64 size, .int .i64 s1, .slice A5 n c5]), (w2.heap.size, 24, #[.int .i64 size, .int .i64 (timeK st k / size), .slice A n c])] from (((HKa.out.set_ 0 rfl 0 (.int .i64 size)).set_ 0 rfl 1 (.int .i64 s1)).set_ 0 rfl 2 (.slice A5 n c5)))
          have HWc := Lib.hid (show WinAt (((wa.setCell ⟨gv, 0, none⟩ (.int .i64 size)).setCell ⟨gv, 1, none⟩ (.int .i64 s1)).setCell ⟨gv, 2, none⟩ (.slice A5 n c5)) (gv :: (tv'.ownBlock.toList ++ [w2.heap.size])) A5 n (cellsOf (evK st bd size (k + 1)) s1 n) from HWa.out.put3 (by simp))
          have HOc := Lib.hid (show (((wa.setCell ⟨gv, 0, none⟩ (.int .i64 size)).setCell ⟨gv, 1, none⟩ (.int .i64 s1)).setCell ⟨gv, 2, none⟩ (.slice A5 n c5)).ownsRow (w2.heap.size + 1) 2 1 tv' (k + 1) ((timesL st (k + 1)).map (Value.int .i64)) from (own_setCell (own_setCell (own_setCell HOa.out (p := ⟨gv, 0, none⟩) (fun e => by have := hgv _ e; simp at this) (.int .i64 size)) (p := ⟨gv, 1, none⟩) (fun e => by have := hgv _ e; simp at this) (.int .i64 s1)) (p := ⟨gv, 2, none⟩) (fun e => by have := hgv _ e; simp at this) (.slice A5 n c5)))
          refine wpAnyH_ready (rs := [18]) (by kernel_rfl) (by simp) ?_
          refine AllReadyH.cons rfl (fun K hK => ?_) AllReadyH.nil
          go_simp
          refine hK.out _ _ (HKc.out.drop1) (fun hHeld => ?_)
          clear hK K
          try simp only [Act.put, List.setIfInBounds_toArray, List.set_cons_zero, List.set_cons_succ]
          generalize ((wa.setCell ⟨gv, 0, none⟩ (.int .i64 size)).setCell ⟨gv, 1, none⟩ (.int .i64 s1)).setCell ⟨gv, 2, none⟩ (.slice A5 n c5) = w6 at HKc HWc HOc hHeld ⊢
          clear z0 z1 z2 zf0 zf1 zf2 HKa HWa HOa
          refine takeH 19 (v := ?v19u48) rfl (by kernel_rfl) (by kernel_rfl) (by kernel_rfl) rfl (fun _ _ _ h => h) (Or.inl ⟨by rfl, ?y19u48⟩) hHeld ?r19u48
          case y19u48 => (intro W hSW; (try dsimp only at hSW); go_simp; try with_reducible rfl)
          simp only [Act.put, List.setIfInBounds_toArray, List.set_cons_zero, List.set_cons_succ]
          refine wpAnyH_done (by kernel_rfl) ?_ _
          refine NoPanic.normal ?_
          clear hHeld
          have c_v_0 : w6.cell? ⟨gv, 0, none⟩ = some (.int .i64 size) := HKc.out.cell 0 rfl 0
          have c_v_1 : w6.cell? ⟨gv, 1, none⟩ = some (.int .i64 s1) := HKc.out.cell 0 rfl 1
          have c_v_2 : w6.cell? ⟨gv, 2, none⟩ = some (.slice A5 n c5) := HKc.out.cell 0 rfl 2
          go_wp2_with fail
          with_reducible refine (wRight_c size s1 A5 n c5 w6.heap.size _ w6 HWc.out.rd (Nat.le_refl _) (by omega)).mono ?_
          rw [HRW.out]
          rintro e' w7 ⟨rfl, hb7⟩
          clear c_v_0 c_v_1 c_v_2
          have HWe := Lib.hid (HWc.out.next hb7)
          have HOe := Lib.hid (own_below HOc.out hb7 (Nat.le_refl _))
          clear HWc HOc
          have HK7 := Lib.hid (show Kept W w7 [(gv, 24, #[.int .i64 size, .int .i64 s1, .slice A5 n c5]), (w2.heap.size, 24, #[.int .i64 size, .int .i64 (timeK st k / size), .slice A n c])] from HKc.out.next hb7)
          clear HKc
          clear hb7
          have c_v_0 : w7.cell? ⟨gv, 0, none⟩ = some (.int .i64 size) := HK7.out.cell 0 rfl 0
          have c_v_1 : w7.cell? ⟨gv, 1, none⟩ = some (.int .i64 s1) := HK7.out.cell 0 rfl 1
          have c_v_2 : w7.cell? ⟨gv, 2, none⟩ = some (.slice A5 n c5) := HK7.out.cell 0 rfl 2
          have c_w_0 : w7.cell? ⟨w2.heap.size, 0, none⟩ = some (.int .i64 size) := HK7.out.cell 1 rfl 0
          have z_w_0 : w7.frozen? ⟨w2.heap.size, 0, none⟩ = false := HK7.out.frozen 1 rfl 0
          have c_w_1 : w7.cell? ⟨w2.heap.size, 1, none⟩ = some (.int .i64 (timeK st k / size)) := HK7.out.cell 1 rfl 1
          have z_w_1 : w7.frozen? ⟨w2.heap.size, 1, none⟩ = false := HK7.out.frozen 1 rfl 1
          have c_w_2 : w7.cell? ⟨w2.heap.size, 2, none⟩ = some (.slice A n c) := HK7.out.cell 1 rfl 2
          have z_w_2 : w7.frozen? ⟨w2.heap.size, 2, none⟩ = false := HK7.out.frozen 1 rfl 2
          have HKf := Lib.hid (show Kept W (((w7.setCell ⟨w2.heap.size, 0, none⟩ (.int .i64 size)).setCell ⟨w2.heap.size, 1, none⟩ (.int .i64 s1)).setCell ⟨w2.heap.size, 2, none⟩ (.slice A5 n c5)) [(w2.heap.size, 24, #[.int .i64 size, .int .i64 s1, .slice A5 n c5])] from (((HK7.out.set_ 1 rfl 0 (.int .i64 size)).set_ 1 rfl 1 (.int .i64 s1)).set_ 1 rfl 2 (.slice A5 n c5)).drop1)
          have HWf := Lib.hid (show WinAt (((w7.setCell ⟨w2.heap.size, 0, none⟩ (.int .i64 size)).setCell ⟨w2.heap.size, 1, none⟩ (.int .i64 s1)).setCell ⟨w2.heap.size, 2, none⟩ (.slice A5 n c5)) (tv'.ownBlock.toList ++ [w2.heap.size]) A5 n (cellsOf (evK st bd size (k + 1)) s1 n) from (HWe.out.put3 (by simp)).sub (fun g hg => List.mem_cons_of_mem _ hg))
          have HOf := Lib.hid (show (((w7.setCell ⟨w2.heap.size, 0, none⟩ (.int .i64 size)).setCell ⟨w2.heap.size, 1, none⟩ (.int .i64 s1)).setCell ⟨w2.heap.size, 2, none⟩ (.slice A5 n c5)).ownsRow (w2.heap.size + 1) 2 1 tv' (k + 1) ((timesL st (k + 1)).map (Value.int .i64)) from (own_setCell (own_setCell (own_setCell HOe.out (p := ⟨w2.heap.size, 0, none⟩) (fun e => by have := hgv _ e; simp at this; omega) (.int .i64 size)) (p := ⟨w2.heap.size, 1, none⟩) (fun e => by have := hgv _ e; simp at this; omega) (.int .i64 s1)) (p := ⟨w2.heap.size, 2, none⟩) (fun e => by have := hgv _ e; simp at this; omega) (.slice A5 n c5)))
          clear HWe HOe HK7
          go_wp2
          exact ⟨⟨k + 1, A5, c5, by omega, by go_num, rfl, HOf, by rw [HS1.out]; exact HWf, by rw [HS1.out]; exact HKf⟩, by simp [intOf]; omega⟩
        · have HKa := Lib.hid (hHeld.alloc_at 24 #[.int .i64 0, .int .i64 0, .slice none 0 0] wd.heap.size rfl)
          have HWz := Lib.hid (HWd.out.alloc (.cells #[.int .i64 0, .int .i64 0, .slice none 0 0] 24))
          have HOz := Lib.hid (HOd.out.alloc (.cells #[.int .i64 0, .int .i64 0, .slice none 0 0] 24))
          have hgv := (own_ge HOd.out)
          have hgw5 := hHeld.lt 0 rfl
          have hgw6 := hHeld.ge 0 rfl
          go_simp
          refine hK.out _ _ (hHeld.alloc_off _) (fun hHeld => ?_)
          clear hK K
          try simp only [Act.put, List.setIfInBounds_toArray, List.set_cons_zero, List.set_cons_succ]
          generalize wd.alloc (.cells #[.int .i64 0, .int .i64 0, .slice none 0 0] 24) = wz at HKa HWz HOz hHeld ⊢
          generalize wd.heap.size = gv at HKa HWz hgv hgw5 ⊢
          clear HWd HOd
          refine wpAnyH_ready (rs := [13]) (by kernel_rfl) (by simp) ?_
          refine AllReadyH.cons rfl (fun K hK => ?_) AllReadyH.nil
          go_simp
          with_reducible refine (Add_c size (timeK st k / size) A n c wz.heap.size (cellsOf (evK st bd size k) (timeK st k / size) n) (timeK st (k + 1)) true wz HWz.out.rd (Nat.le_refl _) (by omega)).mono ?_
          rw [HADD.out]
          rintro e' w5 ⟨A5, n5, c5, rfl, hr5, hb5, hlo5⟩
          dsimp only at hr5
          have hx5 : n5 = n := by have := hr5.cell_len; rw [cellsOf_length] at this; exact this.symm
          subst n5
          have HWa := Lib.hid (HWz.out.res (cs := cellsOf (evK st bd size (k + 1)) s1 n) hb5.size hr5 hlo5 rfl)
          have HOa := Lib.hid (own_below HOz.out hb5 (Nat.le_refl _))
          have HKb := Lib.hid (HKa.out.next hb5)
          have hkn := hHeld.next hb5
          refine hK.out _ _ hkn (fun hHeld => ?_)
          clear hK K hb5 hr5 hlo5 HWz HOz hkn HKa
          have HKa := HKb
          clear HKb
          generalize w5 = wa at HKa HWa HOa hHeld ⊢
          refine takeH 14 (v := ?v14u49) rfl (by kernel_rfl) (by kernel_rfl) (by kernel_rfl) rfl (fun _ _ _ h => h) (Or.inl ⟨by rfl, ?y14u49⟩) hHeld ?r14u49
          case y14u49 => (intro W hSW; (try dsimp only at hSW); go_simp; try with_reducible rfl)
          simp only [Act.put, List.setIfInBounds_toArray, List.set_cons_zero, List.set_cons_succ]
          refine takeH 15 (v := ?v15u50) rfl (by kernel_rfl) (by kernel_rfl) (by kernel_rfl) rfl (fun _ _ _ h => h) (Or.inl ⟨by rfl, ?y15u50⟩) hHeld ?r15u50
          case y15u50 => (intro W hSW; (try dsimp only at hSW); go_simp; try with_reducible rfl)
          simp only [Act.put, List.setIfInBounds_toArray, List.set_cons_zero, List.set_cons_succ]
          refine takeH 16 (v := ?v16u51) rfl (by kernel_rfl) (by kernel_rfl) (by kernel_rfl) rfl (fun _ _ _ h => h) (Or.inl ⟨by rfl, ?y16u51⟩) hHeld ?r16u51
          case y16u51 => (intro W hSW; (try dsimp only at hSW); go_simp; try with_reducible rfl)
          simp only [Act.put, List.setIfInBounds_toArray, List.set_cons_zero, List.set_cons_succ]
          have z0 : wa.cell? ⟨gv, 0, none⟩ = some (.int .i64 0) := HKa.out.cell 0 rfl 0
          have zf0 : wa.frozen? ⟨gv, 0, none⟩ = false := HKa.out.frozen 0 rfl 0
          have z1 : wa.cell? ⟨gv, 1, none⟩ = some (.int .i64 0) := HKa.out.cell 0 rfl 1
          have zf1 : wa.frozen? ⟨gv, 1, none⟩ = false := HKa.out.frozen 0 rfl 1
          have z2 : wa.cell? ⟨gv, 2, none⟩ = some (.slice none 0 0) := HKa.out.cell 0 rfl 2
          have zf2 : wa.frozen? ⟨gv, 2, none⟩ = false := HKa.out.frozen 0 rfl 2
          have HKc := Lib.hid (show Kept W (((wa.setCell ⟨gv, 0, none⟩ (.int .i64 size)).setCell ⟨gv, 1, none⟩ (.int .i64 s1)).setCell ⟨gv, 2, none⟩ (.slice A5 n c5)) [(gv, 24, #[.int .i64 size, .int .i64 s1, .slice A5 n c5]), (w2.heap.size, 24, #[.int .i64 size, .int .i64 (timeK st k / size), .slice A n c])] from (((HKa.out.set_ 0 rfl 0 (.int .i64 size)).set_ 0 rfl 1 (.int .i64 s1)).set_ 0 rfl 2 (.slice A5 n c5)))
          have HWc := Lib.hid (show WinAt (((wa.setCell ⟨gv, 0, none⟩ (.int .i64 size)).setCell ⟨gv, 1, none⟩ (.int .i64 s1)).setCell ⟨gv, 2, none⟩ (.slice A5 n c5)) (gv :: (tv'.ownBlock.toList ++ [w2.heap.size])) A5 n (cellsOf (evK st bd size (k + 1)) s1 n) from HWa.out.put3 (by simp))
          have HOc := Lib.hid (show (((wa.setCell ⟨gv, 0, none⟩ (.int .i64 size)).setCell ⟨gv, 1, none⟩ (.int .i64 s1)).setCell ⟨gv, 2, none⟩ (.slice A5 n c5)).ownsRow (w2.heap.size + 1) 2 1 tv' (k + 1) ((timesL st (k + 1)).map (Value.int .i64)) from (own_setCell (own_setCell (own_setCell HOa.out (p := ⟨gv, 0, none⟩) (fun e => by have := hgv _ e; simp at this) (.int .i64 size)) (p := ⟨gv, 1, none⟩) (fun e => by have := hgv _ e; simp at this) (.int .i64 s1)) (p := ⟨gv, 2, none⟩) (fun e => by have := hgv _ e; simp at this) (.slice A5 n c5)))
          refine wpAnyH_ready (rs := [18]) (by kernel_rfl) (by simp) ?_
          refine AllReadyH.cons rfl (fun K hK => ?_) AllReadyH.nil
          go_simp
          refine hK.out _ _ (HKc.out.drop1) (fun hHeld => ?_)
          clear hK K
          try simp only [Act.put, List.setIfInBounds_toArray, List.set_cons_zero, List.set_cons_succ]
          generalize ((wa.setCell ⟨gv, 0, none⟩ (.int .i64 size)).setCell ⟨gv, 1, none⟩ (.int .i64 s1)).setCell ⟨gv, 2, none⟩ (.slice A5 n c5) = w6 at HKc HWc HOc hHeld ⊢
          clear z0 z1 z2 zf0 zf1 zf2 HKa HWa HOa
          refine takeH 19 (v := ?v19u52) rfl (by kernel_rfl) (by kernel_rfl) (by kernel_rfl) rfl (fun _ _ _ h => h) (Or.inl ⟨by rfl, ?y19u52⟩) hHeld ?r19u52
          case y19u52 => (intro W hSW; (try dsimp only at hSW); go_simp; try with_reducible rfl)
          simp only [Act.put, List.setIfInBounds_toArray, List.set_cons_zero, List.set_cons_succ]
          refine wpAnyH_done (by kernel_rfl) ?_ _
          refine NoPanic.normal ?_
          clear hHeld
          have c_v_0 : w6.cell? ⟨gv, 0, none⟩ = some (.int .i64 size) := HKc.out.cell 0 rfl 0
          have c_v_1 : w6.cell? ⟨gv, 1, none⟩ = some (.int .i64 s1) := HKc.out.cell 0 rfl 1
          have c_v_2 : w6.cell? ⟨gv, 2, none⟩ = some (.slice A5 n c5) := HKc.out.cell 0 rfl 2
          go_wp2_with fail
          with_reducible refine (wRight_c size s1 A5 n c5 w6.heap.size _ w6 HWc.out.rd (Nat.le_refl _) (by omega)).mono ?_
          rw [HRW.out]
          rintro e' w7 ⟨rfl, hb7⟩
          clear c_v_0 c_v_1 c_v_2
          have HWe := Lib.hid (HWc.out.next hb7)
          have HOe := Lib.hid (own_below HOc.out hb7 (Nat.le_refl _))
          clear HWc HOc
          have HK7 := Lib.hid (show Kept W w7 [(gv, 24, #[.int .i64 size, .int .i64 s1, .slice A5 n c5]), (w2.heap.size, 24, #[.int .i64 size, .int .i64 (timeK st k / size), .slice A n c])] from HKc.out.next hb7)
          clear HKc
          clear hb7
          have c_v_0 : w7.cell? ⟨gv, 0, none⟩ = some (.int .i64 size) := HK7.out.cell 0 rfl 0
          have c_v_1 : w7.cell? ⟨gv, 1, none⟩ = some (.int .i64 s1) := HK7.out.cell 0 rfl 1
          have c_v_2 : w7.cell? ⟨gv, 2, none⟩ = some (.slice A5 n c5) := HK7.out.cell 0 rfl 2
          have c_w_0 : w7.cell? ⟨w2.heap.size, 0, none⟩ = some (.int .i64 size) := HK7.out.cell 1 rfl 0
          have z_w_0 : w7.frozen? ⟨w2.heap.size, 0, none⟩ = false := HK7.out.frozen 1 rfl 0
          have c_w_1 : w7.cell? ⟨w2.heap.size, 1, none⟩ = some (.int .i64 (timeK st k / size)) := HK7.out.cell 1 rfl 1
          have z_w_1 : w7.frozen? ⟨w2.heap.size, 1, none⟩ = false := HK7.out.frozen 1 rfl 1
          have c_w_2 : w7.cell? ⟨w2.heap.size, 2, none⟩ = some (.slice A n c) := HK7.out.cell 1 rfl 2
          have z_w_2 : w7.frozen? ⟨w2.heap.size, 2, none⟩ = false := HK7.out.frozen 1 rfl 2
          have HKf := Lib.hid (show Kept W (((w7.setCell ⟨w2.heap.size, 0, none⟩ (.int .i64 size)).setCell ⟨w2.heap.size, 1, none⟩ (.int .i64 s1)).setCell ⟨w2.heap.size, 2, none⟩ (.slice A5 n c5)) [(w2.heap.size, 24, #[.int .i64 size, .int .i64 s1, .slice A5 n c5])] from (((HK7.out.set_ 1 rfl 0 (.int .i64 size)).set_ 1 rfl 1 (.int .i64 s1)).set_ 1 rfl 2 (.slice A5 n c5)).drop1)
          have HWf := Lib.hid (show WinAt (((w7.setCell ⟨w2.heap.size, 0, none⟩ (.int .i64 size)).setCell ⟨w2.heap.size, 1, none⟩ (.int .i64 s1)).setCell ⟨w2.heap.size, 2, none⟩ (.slice A5 n c5)) (tv'.ownBlock.toList ++ [w2.heap.size]) A5 n (cellsOf (evK st bd size (k + 1)) s1 n) from (HWe.out.put3 (by simp)).sub (fun g hg => List.mem_cons_of_mem _ hg))
          have HOf := Lib.hid (show (((w7.setCell ⟨w2.heap.size, 0, none⟩ (.int .i64 size)).setCell ⟨w2.heap.size, 1, none⟩ (.int .i64 s1)).setCell ⟨w2.heap.size, 2, none⟩ (.slice A5 n c5)).ownsRow (w2.heap.size + 1) 2 1 tv' (k + 1) ((timesL st (k + 1)).map (Value.int .i64)) from (own_setCell (own_setCell (own_setCell HOe.out (p := ⟨w2.heap.size, 0, none⟩) (fun e => by have := hgv _ e; simp at this; omega) (.int .i64 size)) (p := ⟨w2.heap.size, 1, none⟩) (fun e => by have := hgv _ e; simp at this; omega) (.int .i64 s1)) (p := ⟨w2.heap.size, 2, none⟩) (fun e => by have := hgv _ e; simp at this; omega) (.slice A5 n c5)))
          clear HWe HOe HK7
          go_wp2
          exact ⟨⟨k + 1, A5, c5, by omega, by go_num, rfl, HOf, by rw [HS1.out]; exact HWf, by rw [HS1.out]; exact HKf⟩, by simp [intOf]; omega⟩
    · obtain rfl : m = k := by omega
      clear hlt hk
      obtain ⟨AT, cT, rfl, -, -, -, hrt⟩ := own_reads HO.out
      obtain ⟨q1, q2, -⟩ := HSQ.out m
      have HRT := Lib.hid (hrt.alloc (Nat.le_refl _) (.cells #[.int .i64 0, .int .i64 0] 40))
      clear hrt HO
      have HWo := Lib.hid ((HW.out.alloc (.cells #[.int .i64 0, .int .i64 0] 40)).sub (G' := [wr.heap.size, w2.heap.size]) (fun g hg => by simp at hg ⊢; rcases hg with rfl | rfl <;> simp))
      have HKo := Lib.hid (show Kept W (wr.alloc (.cells #[.int .i64 0, .int .i64 0] 40)) [(wr.heap.size, 40, #[.int .i64 0, .int .i64 0]), (w2.heap.size, 24, #[.int .i64 size, .int .i64 (timeK st m / size), .slice A n c])] from HK.out.alloc_at 40 #[.int .i64 0, .int .i64 0] wr.heap.size rfl)
      have hgo := HK.out.lt 0 rfl
      clear HW HK
      go_wp2
      generalize wr.alloc (.cells #[.int .i64 0, .int .i64 0] 40) = wv at HRT HWo HKo ⊢
      generalize wr.heap.size = go at HRT HWo HKo hgo ⊢
      obtain ⟨s, hs⟩ : ∃ s, timeK st m / size = s := ⟨_, rfl⟩
      have hsl : 0 ≤ s := by rw [← hs]; exact Int.ediv_nonneg q1 (by omega)
      have hsh : s ≤ 65535 * 60 := by rw [← hs]; exact Int.le_trans (Int.ediv_le_self size q1) (by omega)
      have HSM := Lib.hid hs
      rw [hs] at HWo HKo
      have HEV := Lib.hid (show ∀ e ∈ evK st bd size m, e.1 ≤ s from by rw [← hs]; exact evK_le st bd size hs1 HST.out m)
      have hqm := quo_in (a := timeK st m) (wd := size) q1 (by omega) hs1
      rw [hs] at hqm
      clear hs
      go_loopw [19] (fun iv wr => ∃ (j : Nat) (x y : Int), j ≤ m ∧ iv = .int .i64 j ∧ Hid (wantS (evK st bd size j) (s - (n : Int)) = (x, y)) ∧ Hid (Reads wr go 1 AT m ((timesL st m).map (Value.int .i64))) ∧ Hid (WinAt wr [go, w2.heap.size] A n (cellsOf (evK st bd size m) s n)) ∧ Hid (Kept W wr [(go, 40, #[.int .i64 x, .int .i64 y]), (w2.heap.size, 24, #[.int .i64 size, .int .i64 s, .slice A n c])])) (fun iv _ => m - (intOf iv).toNat)
      case atStart => exact ⟨0, 0, 0, Nat.zero_le _, rfl, Lib.hid rfl, HRT, HWo, HKo⟩
      case round =>
        clear HRT HWo HKo
        obtain ⟨j, x, y, hj, rfl, HS, HRT, HW, HK⟩ := hrel
        by_cases hlt : j < m
        · obtain ⟨ad2, u, rfl, hadb, hx, hc⟩ := HRT.out.at_ hlt
          obtain ⟨t, ht, rfl⟩ : ∃ t, (timesL st m)[j]? = some t ∧ Value.int .i64 t = u := by simpa using hx
          have htt : t = timeK st (j + 1) := by rw [timesL_get st m j hlt] at ht; exact (Option.some.inj ht).symm
          obtain ⟨t1, t2, -⟩ := HSQ.out (j + 1)
          have htm : timeK st (j + 1) ≤ 65535 * 60 := by omega
          have HEV1 := Lib.hid (evK_succ st bd size j)
          rw [← htt] at t1 t2 htm HEV1
          clear hx ht htt
          have hqt := quo_in (a := t) (wd := size) t1 (by omega) hs1
          have hqs : t / size ≤ 65535 * 60 := Int.le_trans (Int.ediv_le_self size t1) htm
          have hqs0 : 0 ≤ t / size := Int.ediv_nonneg t1 (by omega)
          generalize t / size = q at hqt hqs hqs0 HEV1
          have hbx := cnt_bound (fun e => decide (s - (n : Int) < e.1) && e.2) (evK st bd size j)
          have hby := cnt_bound (fun e => decide (s - (n : Int) < e.1) && !e.2) (evK st bd size j)
          rw [evK_length] at hbx hby
          have HS0 := HS.out
          unfold wantS at HS0
          simp only [Prod.mk.injEq] at HS0
          rw [HS0.1] at hbx
          rw [HS0.2] at hby
          clear HS0
          have hw0 : ¬ size = 0 := by omega
          have hq0 : (size == 0) = false := by rw [beq_eq_false_iff_ne]; omega
          have j1 : (0 : Int) ≤ (j : Int) := by omega
          have j2 : (j : Int) < (m : Int) := by omega
          have hwn := wantS_snoc (evK st bd size j) (q, okB bd j) (s - (n : Int))
          rw [← HEV1.out, HS.out] at hwn
          dsimp only at hwn
          have HWN := Lib.hid hwn
          clear hwn HEV1 HS
          go_wp2_with fail
          refine wp_region_noPanic ?_
          refine wp_region_held_drew (S := fun W' => Kept W W' [(go, 40, #[.int .i64 x, .int .i64 y]), (w2.heap.size, 24, #[.int .i64 size, .int .i64 s, .slice A n c])] ∧ W'.cell? (ad2.add j) = some (.int .i64 t)) (by kernel_rfl) ⟨HK.out.drew, hc⟩ (fun hHeld => ?_)
          have HWd := Lib.hid HW.out.drew
          have HRd := Lib.hid HRT.out.drew
          clear HK HW HRT hc
          generalize wr.drew = wz at hHeld HWd HRd ⊢
          refine takeH 0 (v := ?v0u53) rfl (by kernel_rfl) (by kernel_rfl) (by kernel_rfl) rfl (fun _ _ _ h => h) (Or.inl ⟨by rfl, ?y0u53⟩) hHeld ?r0u53
          case y0u53 => (intro W hSW; (try dsimp only at hSW); go_simp; try with_reducible rfl)
          simp only [Act.put, List.setIfInBounds_toArray, List.set_cons_zero, List.set_cons_succ]
          refine takeH 1 (v := ?v1u54) rfl (by kernel_rfl) (by kernel_rfl) (by kernel_rfl) rfl (fun _ _ _ h => h) (Or.inl ⟨by rfl, ?y1u54⟩) hHeld ?r1u54
          case y1u54 => (intro W hSW; (try dsimp only at hSW); go_simp; try with_reducible rfl)
          simp only [Act.put, List.setIfInBounds_toArray, List.set_cons_zero, List.set_cons_succ]
          refine takeH 2 (v := ?v2u55) rfl (by kernel_rfl) (by kernel_rfl) (by kernel_rfl) rfl (fun _ _ _ h => h) (Or.inl ⟨by rfl, ?y2u55⟩) hHeld ?r2u55
          case y2u55 => (intro W hSW; (try dsimp only at hSW); go_simp; try with_reducible rfl)
          simp only [Act.put, List.setIfInBounds_toArray, List.set_cons_zero, List.set_cons_succ]
          refine takeH 3 (v := ?v3u56) rfl (by kernel_rfl) (by kernel_rfl) (by kernel_rfl) rfl (fun _ _ _ h => h) (Or.inl ⟨by rfl, ?y3u56⟩) hHeld ?r3u56
          case y3u56 => (intro W hSW; (try dsimp only at hSW); have q0 := hSW.2; go_simp; try with_reducible rfl)
          simp only [Act.put, List.setIfInBounds_toArray, List.set_cons_zero, List.set_cons_succ]
          refine takeH 4 (v := ?v4u57) rfl (by kernel_rfl) (by kernel_rfl) (by kernel_rfl) rfl (fun _ _ _ h => h) (Or.inl ⟨by rfl, ?y4u57⟩) hHeld ?r4u57
          case y4u57 => (intro W hSW; (try dsimp only at hSW); go_simp; try with_reducible rfl)
          simp only [Act.put, List.setIfInBounds_toArray, List.set_cons_zero, List.set_cons_succ]
          refine takeH 5 (v := .int .i64 q) rfl (by kernel_rfl) (by kernel_rfl) (by kernel_rfl) rfl (fun _ _ _ h => h) (Or.inl ⟨by rfl, ?y5u58⟩) hHeld ?r5u58
          case y5u58 => (intro W hSW; (try dsimp only at hSW); go_simp)
          simp only [Act.put, List.setIfInBounds_toArray, List.set_cons_zero, List.set_cons_succ]
          refine takeH 6 (v := ?v6u59) rfl (by kernel_rfl) (by kernel_rfl) (by kernel_rfl) rfl (fun _ _ _ h => h) (Or.inl ⟨by rfl, ?y6u59⟩) hHeld ?r6u59
          case y6u59 => (intro W hSW; (try dsimp only at hSW); go_simp; try with_reducible rfl)
          simp only [Act.put, List.setIfInBounds_toArray, List.set_cons_zero, List.set_cons_succ]
          refine takeH 7 (v := ?v7u60) rfl (by kernel_rfl) (by kernel_rfl) (by kernel_rfl) rfl (fun _ _ _ h => h) (Or.inl ⟨by rfl, ?y7u60⟩) hHeld ?r7u60
          case y7u60 => (intro W hSW; (try dsimp only at hSW); go_simp; try with_reducible rfl)
          simp only [Act.put, List.setIfInBounds_toArray, List.set_cons_zero, List.set_cons_succ]
          refine takeH 8 (v := .int .i64 s) rfl (by kernel_rfl) (by kernel_rfl) (by kernel_rfl) rfl (fun _ _ _ h => h) (Or.inl ⟨by rfl, ?y8u61⟩) hHeld ?r8u61
          case y8u61 => (intro W hSW; (try dsimp only at hSW); go_simp)
          simp only [Act.put, List.setIfInBounds_toArray, List.set_cons_zero, List.set_cons_succ]
          refine takeH 9 (v := ?v9u62) rfl (by kernel_rfl) (by kernel_rfl) (by kernel_rfl) rfl (fun _ _ _ h => h) (Or.inl ⟨by rfl, ?y9u62⟩) hHeld ?r9u62
          case y9u62 => (intro W hSW; (try dsimp only at hSW); go_simp; try with_reducible rfl)
          simp only [Act.put, List.setIfInBounds_toArray, List.set_cons_zero, List.set_cons_succ]
          have hsn : IntKind.i64.wrap (s - (n : Int)) = s - (n : Int) := IntWalk.i64_in _ (by omega)
          refine takeH 10 (v := ?v10u63) rfl (by kernel_rfl) (by kernel_rfl) (by kernel_rfl) rfl (fun _ _ _ h => h) (Or.inl ⟨by rfl, ?y10u63⟩) hHeld ?r10u63
          case y10u63 => (intro W hSW; (try dsimp only at hSW); go_simp; try with_reducible rfl)
          simp only [Act.put, List.setIfInBounds_toArray, List.set_cons_zero, List.set_cons_succ]
          by_cases hle : q ≤ s - (n : Int)
          · refine takeH 11 (v := .bool true) rfl (by kernel_rfl) (by kernel_rfl) (by kernel_rfl) rfl (fun _ _ _ h => h) (Or.inl ⟨by rfl, ?y11u64⟩) hHeld ?r11u64
            case y11u64 => (intro W hSW; (try dsimp only at hSW); go_simp; (try (first | omega | (simp; omega))))
            simp only [Act.put, List.setIfInBounds_toArray, List.set_cons_zero, List.set_cons_succ]
            refine wpAnyH_done (by kernel_rfl) ?_ _
            refine NoPanic.normal ?_
            have HKz := Lib.hid hHeld.1
            clear hHeld
            have HSn := Lib.hid (show wantS (evK st bd size (j + 1)) (s - (n : Int)) = (x, y) from by rw [HWN.out, if_neg (by omega), if_neg (by omega)]; simp)
            go_wp2
            exact ⟨⟨j + 1, x, y, by omega, by go_num, HSn, HRd, HWd, HKz⟩, by simp [intOf]; omega⟩
          · refine takeH 11 (v := .bool false) rfl (by kernel_rfl) (by kernel_rfl) (by kernel_rfl) rfl (fun _ _ _ h => h) (Or.inl ⟨by rfl, ?y11u65⟩) hHeld ?r11u65
            case y11u65 => (intro W hSW; (try dsimp only at hSW); go_simp; (try (first | omega | (simp; omega))))
            simp only [Act.put, List.setIfInBounds_toArray, List.set_cons_zero, List.set_cons_succ]
            refine wpAnyH_done (by kernel_rfl) ?_ _
            refine NoPanic.normal ?_
            have HKz := Lib.hid hHeld.1
            clear hHeld
            have hlo : s - (n : Int) < q := by omega
            have HWM := Lib.hid (show wantS (evK st bd size (j + 1)) (s - (n : Int)) = (x + (oneOf (okB bd j)).1, y + (oneOf (okB bd j)).2) from by rw [HWN.out, if_pos hlo, if_pos hlo])
            clear HWN hlo hle
            by_cases hkb : j < nb
            · obtain ⟨adb, ub, rfl, hbb, hbx2, hbc⟩ := HRB.out.at_ hkb
              obtain ⟨b0, hb0, rfl⟩ : ∃ b, bd[j]? = some b ∧ Value.bool b = ub := by simpa using hbx2
              rw [okB_in hb0] at HWM
              have hbz : wz.cell? (adb.add j) = some (.bool b0) := (HKz.out.bel.cell (by rw [block_of_add]; exact hbb)).trans hbc
              clear hbx2 hb0 hbc
              have dk : decide ((nb : Int) ≤ (j : Int)) = false := by simp; omega
              have j3 : (j : Int) < (nb : Int) := by omega
              cases b0
              · have HSn := Lib.hid (show wantS (evK st bd size (j + 1)) (s - (n : Int)) = (x + 1, y) from by rw [HWM.out]; simp [oneOf])
                have c_o_0 : wz.cell? ⟨go, 0, none⟩ = some (.int .i64 x) := HKz.out.cell 0 rfl 0
                have z_o_0 : wz.frozen? ⟨go, 0, none⟩ = false := HKz.out.frozen 0 rfl 0
                have c_o_1 : wz.cell? ⟨go, 1, none⟩ = some (.int .i64 y) := HKz.out.cell 0 rfl 1
                have z_o_1 : wz.frozen? ⟨go, 1, none⟩ = false := HKz.out.frozen 0 rfl 1
                go_wp2
                exact ⟨⟨j + 1, x + 1, y, by omega, by go_num, HSn, Lib.hid (HRd.out.setCell (Nat.le_refl _) _), Lib.hid (winAt_set (g := go) (o := 0) HWd.out (by simp) _), Lib.hid (HKz.out.set_ 0 rfl 0 _)⟩, by simp [intOf]; omega⟩
              · have HSn := Lib.hid (show wantS (evK st bd size (j + 1)) (s - (n : Int)) = (x, y + 1) from by rw [HWM.out]; simp [oneOf])
                have c_o_0 : wz.cell? ⟨go, 0, none⟩ = some (.int .i64 x) := HKz.out.cell 0 rfl 0
                have z_o_0 : wz.frozen? ⟨go, 0, none⟩ = false := HKz.out.frozen 0 rfl 0
                have c_o_1 : wz.cell? ⟨go, 1, none⟩ = some (.int .i64 y) := HKz.out.cell 0 rfl 1
                have z_o_1 : wz.frozen? ⟨go, 1, none⟩ = false := HKz.out.frozen 0 rfl 1
                go_wp2
                exact ⟨⟨j + 1, x, y + 1, by omega, by go_num, HSn, Lib.hid (HRd.out.setCell (Nat.le_refl _) _), Lib.hid (winAt_set (g := go) (o := 1) HWd.out (by simp) _), Lib.hid (HKz.out.set_ 0 rfl 1 _)⟩, by simp [intOf]; omega⟩
            · rw [okB_out (bd := bd) (k := j) (by have := HRB.out.1; simp at this; omega)] at HWM
              have dk : decide ((nb : Int) ≤ (j : Int)) = true := by simp; omega
              have HSn := Lib.hid (show wantS (evK st bd size (j + 1)) (s - (n : Int)) = (x + 1, y) from by rw [HWM.out]; simp [oneOf])
              have c_o_0 : wz.cell? ⟨go, 0, none⟩ = some (.int .i64 x) := HKz.out.cell 0 rfl 0
              have z_o_0 : wz.frozen? ⟨go, 0, none⟩ = false := HKz.out.frozen 0 rfl 0
              have c_o_1 : wz.cell? ⟨go, 1, none⟩ = some (.int .i64 y) := HKz.out.cell 0 rfl 1
              have z_o_1 : wz.frozen? ⟨go, 1, none⟩ = false := HKz.out.frozen 0 rfl 1
              go_wp2
              exact ⟨⟨j + 1, x + 1, y, by omega, by go_num, HSn, Lib.hid (HRd.out.setCell (Nat.le_refl _) _), Lib.hid (winAt_set (g := go) (o := 0) HWd.out (by simp) _), Lib.hid (HKz.out.set_ 0 rfl 0 _)⟩, by simp [intOf]; omega⟩
        · obtain rfl : m = j := by omega
          clear HRT hlt hj
          have hrw := cells_rightW size s (evK st bd size m) n hs1 (by omega) hsl (by omega) (by rw [evK_length]; omega) hn1 hn2
          have hsum : sumW size s (cellsOf (evK st bd size m) s n) = (x, y) := by unfold sumW; rw [if_pos hrw, sum_cells s n hn1 m _ (evK_length ..) HEV.out, HS.out]
          have hbs := sumW_held size s (cellsOf (evK st bd size m) s n)
          rw [hsum] at hbs
          have hpb := partW_bounds (x, y) hbs.1 hbs.2.2.1
          have HSUM := Lib.hid hsum
          have hat : (timeK st m + size * (n : Int)) / size = s + n := by rw [Int.add_mul_ediv_left _ _ (by omega), HSM.out]
          have hmul : 0 ≤ size * (n : Int) ∧ size * (n : Int) ≤ 65536 * 16 := ⟨Int.mul_nonneg (by omega) (by omega), Int.mul_le_mul hs2 (by omega) (by omega) (by omega)⟩
          have HMV := Lib.hid (show moveR size s (cellsOf (evK st bd size m) s n) (timeK st m + size * (n : Int)) = ⟨size, s + n, List.replicate n (0, 0), 0⟩ from by rw [moveR_on hrw (by unfold timeB; rw [decide_eq_true_eq]; omega) (by rw [hat]; omega), hat, cellsOf_moved _ _ _ _ HEV.out (by omega) hn1, cellsOf_far _ _ _ HEV.out hn1])
          clear hsum hrw hat hbs HS HSM
          have c_w_0 : wr.cell? ⟨w2.heap.size, 0, none⟩ = some (.int .i64 size) := HK.out.cell 1 rfl 0
          have c_w_1 : wr.cell? ⟨w2.heap.size, 1, none⟩ = some (.int .i64 s) := HK.out.cell 1 rfl 1
          have c_w_2 : wr.cell? ⟨w2.heap.size, 2, none⟩ = some (.slice A n c) := HK.out.cell 1 rfl 2
          go_wp2_with fail
          with_reducible refine (wPart_c size s A n c wr.heap.size (cellsOf (evK st bd size m) s n) wr HW.out.rd (Nat.le_refl _) (by omega)).mono ?_
          rw [HSUM.out]
          rintro e w11 ⟨rfl, hb11⟩
          have HW7 := Lib.hid (show WinAt w11 [go, w2.heap.size] A n (cellsOf (evK st bd size m) s n) from HW.out.next hb11)
          clear HW
          clear c_w_0 c_w_1 c_w_2
          have HK8 := Lib.hid (show Kept W w11 [(go, 40, #[.int .i64 x, .int .i64 y]), (w2.heap.size, 24, #[.int .i64 size, .int .i64 s, .slice A n c])] from HK.out.next hb11)
          clear HK
          clear hb11
          have c_w_0 : w11.cell? ⟨w2.heap.size, 0, none⟩ = some (.int .i64 size) := HK8.out.cell 1 rfl 0
          have c_w_1 : w11.cell? ⟨w2.heap.size, 1, none⟩ = some (.int .i64 s) := HK8.out.cell 1 rfl 1
          have c_w_2 : w11.cell? ⟨w2.heap.size, 2, none⟩ = some (.slice A n c) := HK8.out.cell 1 rfl 2
          have hmw : IntKind.i64.wrap (size * (n : Int)) = size * (n : Int) := IntWalk.i64_in _ (by omega)
          have haw : IntKind.i64.wrap (timeK st m + size * (n : Int)) = timeK st m + size * (n : Int) := IntWalk.i64_in _ (by omega)
          go_wp2_with fail
          with_reducible refine (Move_c size s A n c w11.heap.size (cellsOf (evK st bd size m) s n) _ w11 HW7.out.rd (Nat.le_refl _) (by omega)).mono ?_
          rw [HMV.out]
          rintro e w12 ⟨A7, n7, c7, rfl, hr7, hb12, hlo7⟩
          dsimp only at hr7
          have hx7 : n7 = n := by have := hr7.cell_len; rw [List.length_replicate] at this; exact this.symm
          subst n7
          have HN7 := Lib.hid (show WinAt w12 [go, w2.heap.size] A7 n (List.replicate n (0, 0)) from HW7.out.res hb12.size hr7 hlo7 rfl)
          clear hr7 hlo7
          have HW9 := Lib.hid (show WinAt w12 [go, w2.heap.size] A n (cellsOf (evK st bd size m) s n) from HW7.out.next hb12)
          clear HW7
          clear c_w_0 c_w_1 c_w_2
          have HK10 := Lib.hid (show Kept W w12 [(go, 40, #[.int .i64 x, .int .i64 y]), (w2.heap.size, 24, #[.int .i64 size, .int .i64 s, .slice A n c])] from HK8.out.next hb12)
          clear HK8
          clear hb12
          have hlt120 := HK10.out.lt 0 rfl
          have hlt121 := HK10.out.lt 1 rfl
          have c_w_0 : w12.cell? ⟨w2.heap.size, 0, none⟩ = some (.int .i64 size) := HK10.out.cell 1 rfl 0
          have c_w_1 : w12.cell? ⟨w2.heap.size, 1, none⟩ = some (.int .i64 s) := HK10.out.cell 1 rfl 1
          have c_w_2 : w12.cell? ⟨w2.heap.size, 2, none⟩ = some (.slice A n c) := HK10.out.cell 1 rfl 2
          have c_o_0 : w12.cell? ⟨go, 0, none⟩ = some (.int .i64 x) := HK10.out.cell 0 rfl 0
          have c_o_1 : w12.cell? ⟨go, 1, none⟩ = some (.int .i64 y) := HK10.out.cell 0 rfl 1
          go_wp2_with fail
          clear c_w_0 c_w_1 c_w_2 c_o_0 c_o_1
          have HK11 := Lib.hid (show Kept W (w12.alloc (.cells #[.int .i64 size, .int .i64 (s + n), .slice A7 n c7] 24)) [(w12.heap.size, 24, #[.int .i64 size, .int .i64 (s + n), .slice A7 n c7]), (go, 40, #[.int .i64 x, .int .i64 y]), (w2.heap.size, 24, #[.int .i64 size, .int .i64 s, .slice A n c])] from HK10.out.alloc 24 #[.int .i64 size, .int .i64 (s + n), .slice A7 n c7])
          clear HK10
          have HW12 := Lib.hid (show WinAt (w12.alloc (.cells #[.int .i64 size, .int .i64 (s + n), .slice A7 n c7] 24)) [w12.heap.size, go, w2.heap.size] A n (cellsOf (evK st bd size m) s n) from HW9.out.alloc _)
          clear HW9
          have HW13 := Lib.hid (show WinAt (w12.alloc (.cells #[.int .i64 size, .int .i64 (s + n), .slice A7 n c7] 24)) [w12.heap.size, go, w2.heap.size] A7 n (List.replicate n (0, 0)) from HN7.out.alloc _)
          clear HN7
          generalize w12.alloc (.cells #[.int .i64 size, .int .i64 (s + n), .slice A7 n c7] 24) = v12 at HK11 HW12 HW13 ⊢
          clear hlt120 hlt121
          with_reducible refine (wBeat_c size (s + n) A7 n c7 v12.heap.size (List.replicate n (0, 0)) v12 HW13.out.rd (Nat.le_refl _) (by omega)).mono ?_
          rw [far_beat]
          rintro e w13 ⟨rfl, hb13⟩
          have HW14 := Lib.hid (show WinAt w13 [w12.heap.size, go, w2.heap.size] A n (cellsOf (evK st bd size m) s n) from HW12.out.next hb13)
          clear HW12
          have HW15 := Lib.hid (show WinAt w13 [w12.heap.size, go, w2.heap.size] A7 n (List.replicate n (0, 0)) from HW13.out.next hb13)
          clear HW13
          have HK16 := Lib.hid (show Kept W w13 [(w12.heap.size, 24, #[.int .i64 size, .int .i64 (s + n), .slice A7 n c7]), (go, 40, #[.int .i64 x, .int .i64 y]), (w2.heap.size, 24, #[.int .i64 size, .int .i64 s, .slice A n c])] from HK11.out.next hb13)
          clear HK11
          clear hb13
          have c_far_0 : w13.cell? ⟨w12.heap.size, 0, none⟩ = some (.int .i64 size) := HK16.out.cell 0 rfl 0
          have c_far_1 : w13.cell? ⟨w12.heap.size, 1, none⟩ = some (.int .i64 (s + n)) := HK16.out.cell 0 rfl 1
          have c_far_2 : w13.cell? ⟨w12.heap.size, 2, none⟩ = some (.slice A7 n c7) := HK16.out.cell 0 rfl 2
          have c_w_0 : w13.cell? ⟨w2.heap.size, 0, none⟩ = some (.int .i64 size) := HK16.out.cell 2 rfl 0
          have c_w_1 : w13.cell? ⟨w2.heap.size, 1, none⟩ = some (.int .i64 s) := HK16.out.cell 2 rfl 1
          have c_w_2 : w13.cell? ⟨w2.heap.size, 2, none⟩ = some (.slice A n c) := HK16.out.cell 2 rfl 2
          have c_o_0 : w13.cell? ⟨go, 0, none⟩ = some (.int .i64 x) := HK16.out.cell 1 rfl 0
          have c_o_1 : w13.cell? ⟨go, 1, none⟩ = some (.int .i64 y) := HK16.out.cell 1 rfl 1
          go_wp2_with fail
          clear c_far_0 c_far_1 c_far_2 c_w_0 c_w_1 c_w_2 c_o_0 c_o_1
          refine wp_region_noPanic ?_
          refine wp_region_held_drew (S := fun W' => Kept W W' [(w12.heap.size, 24, #[.int .i64 size, .int .i64 (s + n), .slice A7 n c7]), (go, 40, #[.int .i64 x, .int .i64 y]), (w2.heap.size, 24, #[.int .i64 size, .int .i64 s, .slice A n c])]) (by kernel_rfl) HK16.out.drew (fun hHeld => ?_)
          have HW17 := Lib.hid (show WinAt w13.drew [w12.heap.size, go, w2.heap.size] A n (cellsOf (evK st bd size m) s n) from HW14.out)
          clear HW14
          have HW18 := Lib.hid (show WinAt w13.drew [w12.heap.size, go, w2.heap.size] A7 n (List.replicate n (0, 0)) from HW15.out)
          clear HW15
          clear HK16
          generalize w13.drew = v14 at hHeld HW17 HW18 ⊢
          refine takeH 0 (v := ?v0u66) rfl (by kernel_rfl) (by kernel_rfl) (by kernel_rfl) rfl (fun _ _ _ h => h) (Or.inl ⟨by rfl, ?y0u66⟩) hHeld ?r0u66
          case y0u66 => (intro W hSW; (try dsimp only at hSW); have q0 := hSW.cell 2 rfl 0; have q1 := hSW.cell 2 rfl 1; have q2 := hSW.cell 2 rfl 2; simp only [List.getElem?_toArray, List.getElem?_cons_zero, List.getElem?_cons_succ] at q0 q1 q2; go_simp; try with_reducible rfl)
          simp only [Act.put, List.setIfInBounds_toArray, List.set_cons_zero, List.set_cons_succ]
          refine takeH 2 (v := ?v2u67) rfl (by kernel_rfl) (by kernel_rfl) (by kernel_rfl) rfl (fun _ _ _ h => h) (Or.inl ⟨by rfl, ?y2u67⟩) hHeld ?r2u67
          case y2u67 => (intro W hSW; (try dsimp only at hSW); have q0 := hSW.cell 1 rfl 0; have q1 := hSW.cell 1 rfl 1; simp only [List.getElem?_toArray, List.getElem?_cons_zero, List.getElem?_cons_succ] at q0 q1; go_simp; try with_reducible rfl)
          simp only [Act.put, List.setIfInBounds_toArray, List.set_cons_zero, List.set_cons_succ]
          refine wpAnyH_ready (rs := [1]) (by kernel_rfl) (by simp) ?_
          refine AllReadyH.cons rfl (fun K hK => ?_) AllReadyH.nil
          go_simp
          with_reducible refine (wSum_c size s A n c v14.heap.size (cellsOf (evK st bd size m) s n) _ HW17.out.rd (Nat.le_refl _) (by omega)).mono ?_
          rintro e' w15 ⟨rfl, hbn⟩
          rw [HSUM.out]
          have HW19 := Lib.hid (show WinAt w15 [w12.heap.size, go, w2.heap.size] A n (cellsOf (evK st bd size m) s n) from HW17.out.next hbn)
          clear HW17
          have HW20 := Lib.hid (show WinAt w15 [w12.heap.size, go, w2.heap.size] A7 n (List.replicate n (0, 0)) from HW18.out.next hbn)
          clear HW18
          have hkn := hHeld.next hbn
          clear hbn
          refine hK.out _ _ hkn (fun hHeld => ?_)
          clear hK K
          try simp only [Act.put, List.setIfInBounds_toArray, List.set_cons_zero, List.set_cons_succ]
          generalize partW (x, y) = pp at hpb ⊢
          obtain ⟨hp0, hp1⟩ := hpb
          refine takeH 3 (v := ?v3u68) rfl (by kernel_rfl) (by kernel_rfl) (by kernel_rfl) rfl (fun _ _ _ h => h) (Or.inl ⟨by rfl, ?y3u68⟩) hHeld ?r3u68
          case y3u68 => (intro W hSW; (try dsimp only at hSW); go_simp; try with_reducible rfl)
          simp only [Act.put, List.setIfInBounds_toArray, List.set_cons_zero, List.set_cons_succ]
          refine takeH 4 (v := ?v4u69) rfl (by kernel_rfl) (by kernel_rfl) (by kernel_rfl) rfl (fun _ _ _ h => h) (Or.inl ⟨by rfl, ?y4u69⟩) hHeld ?r4u69
          case y4u69 => (intro W hSW; (try dsimp only at hSW); go_simp; try with_reducible rfl)
          simp only [Act.put, List.setIfInBounds_toArray, List.set_cons_zero, List.set_cons_succ]
          refine takeH 5 (v := ?v5u70) rfl (by kernel_rfl) (by kernel_rfl) (by kernel_rfl) rfl (fun _ _ _ h => h) (Or.inl ⟨by rfl, ?y5u70⟩) hHeld ?r5u70
          case y5u70 => (intro W hSW; (try dsimp only at hSW); go_simp; try with_reducible rfl)
          simp only [Act.put, List.setIfInBounds_toArray, List.set_cons_zero, List.set_cons_succ]
          refine takeH 6 (v := .bool true) rfl (by kernel_rfl) (by kernel_rfl) (by kernel_rfl) rfl (fun _ _ _ h => h) (Or.inl ⟨by rfl, ?y6u71⟩) hHeld ?r6u71
          case y6u71 => (intro W hSW; (try dsimp only at hSW); go_simp; (try (first | omega | (simp; omega))))
          simp only [Act.put, List.setIfInBounds_toArray, List.set_cons_zero, List.set_cons_succ]
          refine takeH 7 (v := ?v7u72) rfl (by kernel_rfl) (by kernel_rfl) (by kernel_rfl) rfl (fun _ _ _ h => h) (Or.inl ⟨by rfl, ?y7u72⟩) hHeld ?r7u72
          case y7u72 => (intro W hSW; (try dsimp only at hSW); go_simp; try with_reducible rfl)
          simp only [Act.put, List.setIfInBounds_toArray, List.set_cons_zero, List.set_cons_succ]
          refine takeH 8 (v := ?v8u73) rfl (by kernel_rfl) (by kernel_rfl) (by kernel_rfl) rfl (fun _ _ _ h => h) (Or.inl ⟨by rfl, ?y8u73⟩) hHeld ?r8u73
          case y8u73 => (intro W hSW; (try dsimp only at hSW); go_simp; try with_reducible rfl)
          simp only [Act.put, List.setIfInBounds_toArray, List.set_cons_zero, List.set_cons_succ]
          refine takeH 9 (v := ?v9u74) rfl (by kernel_rfl) (by kernel_rfl) (by kernel_rfl) rfl (fun _ _ _ h => h) (Or.inl ⟨by rfl, ?y9u74⟩) hHeld ?r9u74
          case y9u74 => (intro W hSW; (try dsimp only at hSW); go_simp; try with_reducible rfl)
          simp only [Act.put, List.setIfInBounds_toArray, List.set_cons_zero, List.set_cons_succ]
          refine takeH 10 (v := .bool true) rfl (by kernel_rfl) (by kernel_rfl) (by kernel_rfl) rfl (fun _ _ _ h => h) (Or.inl ⟨by rfl, ?y10u75⟩) hHeld ?r10u75
          case y10u75 => (intro W hSW; (try dsimp only at hSW); go_simp; (try (first | omega | (simp; omega))))
          simp only [Act.put, List.setIfInBounds_toArray, List.set_cons_zero, List.set_cons_succ]
          refine takeH 11 (v := ?v11u76) rfl (by kernel_rfl) (by kernel_rfl) (by kernel_rfl) rfl (fun _ _ _ h => h) (Or.inl ⟨by rfl, ?y11u76⟩) hHeld ?r11u76
          case y11u76 => (intro W hSW; (try dsimp only at hSW); go_simp; try with_reducible rfl)
          simp only [Act.put, List.setIfInBounds_toArray, List.set_cons_zero, List.set_cons_succ]
          refine takeH 12 (v := ?v12u77) rfl (by kernel_rfl) (by kernel_rfl) (by kernel_rfl) rfl (fun _ _ _ h => h) (Or.inl ⟨by rfl, ?y12u77⟩) hHeld ?r12u77
          case y12u77 => (intro W hSW; (try dsimp only at hSW); go_simp; try with_reducible rfl)
          simp only [Act.put, List.setIfInBounds_toArray, List.set_cons_zero, List.set_cons_succ]
          refine takeH 13 (v := ?v13u78) rfl (by kernel_rfl) (by kernel_rfl) (by kernel_rfl) rfl (fun _ _ _ h => h) (Or.inl ⟨by rfl, ?y13u78⟩) hHeld ?r13u78
          case y13u78 => (intro W hSW; (try dsimp only at hSW); go_simp; try with_reducible rfl)
          simp only [Act.put, List.setIfInBounds_toArray, List.set_cons_zero, List.set_cons_succ]
          refine takeH 14 (v := ?v14u79) rfl (by kernel_rfl) (by kernel_rfl) (by kernel_rfl) rfl (fun _ _ _ h => h) (Or.inl ⟨by rfl, ?y14u79⟩) hHeld ?r14u79
          case y14u79 => (intro W hSW; (try dsimp only at hSW); go_simp; try with_reducible rfl)
          simp only [Act.put, List.setIfInBounds_toArray, List.set_cons_zero, List.set_cons_succ]
          refine takeH 15 (v := ?v15u80) rfl (by kernel_rfl) (by kernel_rfl) (by kernel_rfl) rfl (fun _ _ _ h => h) (Or.inl ⟨by rfl, ?y15u80⟩) hHeld ?r15u80
          case y15u80 => (intro W hSW; (try dsimp only at hSW); go_simp; try with_reducible rfl)
          simp only [Act.put, List.setIfInBounds_toArray, List.set_cons_zero, List.set_cons_succ]
          refine takeH 16 (v := ?v16u81) rfl (by kernel_rfl) (by kernel_rfl) (by kernel_rfl) rfl (fun _ _ _ h => h) (Or.inl ⟨by rfl, ?y16u81⟩) hHeld ?r16u81
          case y16u81 => (intro W hSW; (try dsimp only at hSW); go_simp; try with_reducible rfl)
          simp only [Act.put, List.setIfInBounds_toArray, List.set_cons_zero, List.set_cons_succ]
          refine takeH 17 (v := ?v17u82) rfl (by kernel_rfl) (by kernel_rfl) (by kernel_rfl) rfl (fun _ _ _ h => h) (Or.inl ⟨by rfl, ?y17u82⟩) hHeld ?r17u82
          case y17u82 => (intro W hSW; (try dsimp only at hSW); have q0 := hSW.cell 0 rfl 0; have q1 := hSW.cell 0 rfl 1; have q2 := hSW.cell 0 rfl 2; simp only [List.getElem?_toArray, List.getElem?_cons_zero, List.getElem?_cons_succ] at q0 q1 q2; go_simp; try with_reducible rfl)
          simp only [Act.put, List.setIfInBounds_toArray, List.set_cons_zero, List.set_cons_succ]
          refine takeH 19 (v := ?v19u83) rfl (by kernel_rfl) (by kernel_rfl) (by kernel_rfl) rfl (fun _ _ _ h => h) (Or.inl ⟨by rfl, ?y19u83⟩) hHeld ?r19u83
          case y19u83 => (intro W hSW; (try dsimp only at hSW); go_simp; try with_reducible rfl)
          simp only [Act.put, List.setIfInBounds_toArray, List.set_cons_zero, List.set_cons_succ]
          refine wpAnyH_ready (rs := [18]) (by kernel_rfl) (by simp) ?_
          refine AllReadyH.cons rfl (fun K hK => ?_) AllReadyH.nil
          go_simp
          with_reducible refine (wSum_c size (s + n) A7 n c7 w15.heap.size (List.replicate n (0, 0)) _ HW20.out.rd (Nat.le_refl _) (by omega)).mono ?_
          rintro e' w16 ⟨rfl, hbn⟩
          rw [far_sum]
          have HW21 := Lib.hid (show WinAt w16 [w12.heap.size, go, w2.heap.size] A n (cellsOf (evK st bd size m) s n) from HW19.out.next hbn)
          clear HW19
          have HW22 := Lib.hid (show WinAt w16 [w12.heap.size, go, w2.heap.size] A7 n (List.replicate n (0, 0)) from HW20.out.next hbn)
          clear HW20
          have hkn := hHeld.next hbn
          clear hbn
          refine hK.out _ _ hkn (fun hHeld => ?_)
          clear hK K
          try simp only [Act.put, List.setIfInBounds_toArray, List.set_cons_zero, List.set_cons_succ]
          refine takeH 20 (v := ?v20u84) rfl (by kernel_rfl) (by kernel_rfl) (by kernel_rfl) rfl (fun _ _ _ h => h) (Or.inl ⟨by rfl, ?y20u84⟩) hHeld ?r20u84
          case y20u84 => (intro W hSW; (try dsimp only at hSW); go_simp; try with_reducible rfl)
          simp only [Act.put, List.setIfInBounds_toArray, List.set_cons_zero, List.set_cons_succ]
          refine takeH 21 (v := ?v21u85) rfl (by kernel_rfl) (by kernel_rfl) (by kernel_rfl) rfl (fun _ _ _ h => h) (Or.inl ⟨by rfl, ?y21u85⟩) hHeld ?r21u85
          case y21u85 => (intro W hSW; (try dsimp only at hSW); go_simp; try with_reducible rfl)
          simp only [Act.put, List.setIfInBounds_toArray, List.set_cons_zero, List.set_cons_succ]
          refine takeH 22 (v := ?v22u86) rfl (by kernel_rfl) (by kernel_rfl) (by kernel_rfl) rfl (fun _ _ _ h => h) (Or.inl ⟨by rfl, ?y22u86⟩) hHeld ?r22u86
          case y22u86 => (intro W hSW; (try dsimp only at hSW); go_simp; try with_reducible rfl)
          simp only [Act.put, List.setIfInBounds_toArray, List.set_cons_zero, List.set_cons_succ]
          refine takeH 23 (v := ?v23u87) rfl (by kernel_rfl) (by kernel_rfl) (by kernel_rfl) rfl (fun _ _ _ h => h) (Or.inl ⟨by rfl, ?y23u87⟩) hHeld ?r23u87
          case y23u87 => (intro W hSW; (try dsimp only at hSW); go_simp; try with_reducible rfl)
          simp only [Act.put, List.setIfInBounds_toArray, List.set_cons_zero, List.set_cons_succ]
          refine takeH 24 (v := ?v24u88) rfl (by kernel_rfl) (by kernel_rfl) (by kernel_rfl) rfl (fun _ _ _ h => h) (Or.inl ⟨by rfl, ?y24u88⟩) hHeld ?r24u88
          case y24u88 => (intro W hSW; (try dsimp only at hSW); go_simp; try with_reducible rfl)
          simp only [Act.put, List.setIfInBounds_toArray, List.set_cons_zero, List.set_cons_succ]
          refine takeH 25 (v := ?v25u89) rfl (by kernel_rfl) (by kernel_rfl) (by kernel_rfl) rfl (fun _ _ _ h => h) (Or.inl ⟨by rfl, ?y25u89⟩) hHeld ?r25u89
          case y25u89 => (intro W hSW; (try dsimp only at hSW); go_simp; try with_reducible rfl)
          simp only [Act.put, List.setIfInBounds_toArray, List.set_cons_zero, List.set_cons_succ]
          refine takeH 26 (v := ?v26u90) rfl (by kernel_rfl) (by kernel_rfl) (by kernel_rfl) rfl (fun _ _ _ h => h) (Or.inl ⟨by rfl, ?y26u90⟩) hHeld ?r26u90
          case y26u90 => (intro W hSW; (try dsimp only at hSW); go_simp; try with_reducible rfl)
          simp only [Act.put, List.setIfInBounds_toArray, List.set_cons_zero, List.set_cons_succ]
          refine takeH 27 (v := ?v27u91) rfl (by kernel_rfl) (by kernel_rfl) (by kernel_rfl) rfl (fun _ _ _ h => h) (Or.inl ⟨by rfl, ?y27u91⟩) hHeld ?r27u91
          case y27u91 => (intro W hSW; (try dsimp only at hSW); go_simp; try with_reducible rfl)
          simp only [Act.put, List.setIfInBounds_toArray, List.set_cons_zero, List.set_cons_succ]
          refine takeH 28 (v := ?v28u92) rfl (by kernel_rfl) (by kernel_rfl) (by kernel_rfl) rfl (fun _ _ _ h => h) (Or.inl ⟨by rfl, ?y28u92⟩) hHeld ?r28u92
          case y28u92 => (intro W hSW; (try dsimp only at hSW); go_simp; try with_reducible rfl)
          simp only [Act.put, List.setIfInBounds_toArray, List.set_cons_zero, List.set_cons_succ]
          refine takeH 29 (v := ?v29u93) rfl (by kernel_rfl) (by kernel_rfl) (by kernel_rfl) rfl (fun _ _ _ h => h) (Or.inl ⟨by rfl, ?y29u93⟩) hHeld ?r29u93
          case y29u93 => (intro W hSW; (try dsimp only at hSW); go_simp; try with_reducible rfl)
          simp only [Act.put, List.setIfInBounds_toArray, List.set_cons_zero, List.set_cons_succ]
          refine takeH 30 (v := ?v30u94) rfl (by kernel_rfl) (by kernel_rfl) (by kernel_rfl) rfl (fun _ _ _ h => h) (Or.inl ⟨by rfl, ?y30u94⟩) hHeld ?r30u94
          case y30u94 => (intro W hSW; (try dsimp only at hSW); go_simp; try with_reducible rfl)
          simp only [Act.put, List.setIfInBounds_toArray, List.set_cons_zero, List.set_cons_succ]
          refine takeH 31 (v := ?v31u95) rfl (by kernel_rfl) (by kernel_rfl) (by kernel_rfl) rfl (fun _ _ _ h => h) (Or.inl ⟨by rfl, ?y31u95⟩) hHeld ?r31u95
          case y31u95 => (intro W hSW; (try dsimp only at hSW); have q0 := hSW.cell 0 rfl 0; have q1 := hSW.cell 0 rfl 1; have q2 := hSW.cell 0 rfl 2; simp only [List.getElem?_toArray, List.getElem?_cons_zero, List.getElem?_cons_succ] at q0 q1 q2; go_simp; try with_reducible rfl)
          simp only [Act.put, List.setIfInBounds_toArray, List.set_cons_zero, List.set_cons_succ]
          refine wpAnyH_ready (rs := [32]) (by kernel_rfl) (by simp) ?_
          refine AllReadyH.cons rfl (fun K hK => ?_) AllReadyH.nil
          go_simp
          with_reducible refine (wPart_c size (s + n) A7 n c7 w16.heap.size (List.replicate n (0, 0)) _ HW22.out.rd (Nat.le_refl _) (by omega)).mono ?_
          rintro e' w17 ⟨rfl, hbn⟩
          rw [far_sum, show partW (0, 0) = 0 from by decide]
          have HW23 := Lib.hid (show WinAt w17 [w12.heap.size, go, w2.heap.size] A n (cellsOf (evK st bd size m) s n) from HW21.out.next hbn)
          clear HW21
          have HW24 := Lib.hid (show WinAt w17 [w12.heap.size, go, w2.heap.size] A7 n (List.replicate n (0, 0)) from HW22.out.next hbn)
          clear HW22
          have hkn := hHeld.next hbn
          clear hbn
          refine hK.out _ _ hkn (fun hHeld => ?_)
          clear hK K
          try simp only [Act.put, List.setIfInBounds_toArray, List.set_cons_zero, List.set_cons_succ]
          refine takeH 33 (v := ?v33u96) rfl (by kernel_rfl) (by kernel_rfl) (by kernel_rfl) rfl (fun _ _ _ h => h) (Or.inl ⟨by rfl, ?y33u96⟩) hHeld ?r33u96
          case y33u96 => (intro W hSW; (try dsimp only at hSW); go_simp; try with_reducible rfl)
          simp only [Act.put, List.setIfInBounds_toArray, List.set_cons_zero, List.set_cons_succ]
          refine takeH 34 (v := ?v34u97) rfl (by kernel_rfl) (by kernel_rfl) (by kernel_rfl) rfl (fun _ _ _ h => h) (Or.inl ⟨by rfl, ?y34u97⟩) hHeld ?r34u97
          case y34u97 => (intro W hSW; (try dsimp only at hSW); go_simp; try with_reducible rfl)
          simp only [Act.put, List.setIfInBounds_toArray, List.set_cons_zero, List.set_cons_succ]
          refine takeH 35 (v := ?v35u98) rfl (by kernel_rfl) (by kernel_rfl) (by kernel_rfl) rfl (fun _ _ _ h => h) (Or.inl ⟨by rfl, ?y35u98⟩) hHeld ?r35u98
          case y35u98 => (intro W hSW; (try dsimp only at hSW); go_simp; try with_reducible rfl)
          simp only [Act.put, List.setIfInBounds_toArray, List.set_cons_zero, List.set_cons_succ]
          refine wpAnyH_done (by kernel_rfl) ?_ _
          refine NoPanic.normal ?_
          have HK25 := Lib.hid hHeld
          clear hHeld
          go_wp2
          go_ret
          exact ⟨rfl, HK25.out.bel⟩
end Go.Proofs.Ytmkjfpmailihjaa
