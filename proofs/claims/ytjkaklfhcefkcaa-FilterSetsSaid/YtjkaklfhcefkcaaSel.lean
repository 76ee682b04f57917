/- Contracts over lists of events: Names, Same. -/
import Derived.Test.YtjkaklfhcefkcaaEvs
import Derived.Test.YtjkaklfhcefkcaaMatch
namespace Go.Proofs.Ytjkaklfhcefkcaa
set_option linter.unusedVariables false
open Go.RowKit Go.ChangeShapes

def namesE (evs : List Evt) : Bool := evs.all (fun e => decide (e.cm.size ≤ 100))
theorem namesE_false {evs : List Evt} {k : Nat} {e : Evt} (h : evs[k]? = some e) (hs : 100 < e.cm.size) : namesE evs = false := by
  unfold namesE
  rw [List.all_eq_false]
  exact ⟨e, List.mem_of_getElem? h, by simp; omega⟩
theorem namesE_true {evs : List Evt} {n : Nat} (hl : evs.length = n) (h : ∀ (j : Nat) e, j < n → evs[j]? = some e → e.cm.size ≤ 100) : namesE evs = true := by
  unfold namesE
  rw [List.all_eq_true]
  intro e he
  obtain ⟨j, hj⟩ := List.mem_iff_getElem?.1 he
  have := h j e (by have := (List.getElem?_eq_some_iff.1 hj).1; omega) hj
  simpa using this

theorem Names_c (A : Option Addr) (n c B : Nat) (evs : List Evt) (W : World) (hr : Reads W B 7 A n (evCells evs)) (hB : B ≤ W.heap.size) (hn : n ≤ 9223372036854775807) : Calls Try.prog 8 #[.slice A n c] W fun e w' => e = .returned (.bool (namesE evs)) ∧ Below W.heap.size W w' := by
  have HR := Lib.hid hr
  have HL := Lib.hid hr.ev_len
  clear hr
  go_enter Try.func8, Try.ntmps8
  go_wp2
  go_loopw [3] (fun i wr => ∃ (k : Nat), k ≤ n ∧ i = .int .i64 k ∧ Hid (∀ (j : Nat) e, j < k → evs[j]? = some e → e.cm.size ≤ 100) ∧ W = wr) (fun i _ => n - (intOf i).toNat)
  case atStart => exact ⟨0, Nat.zero_le _, rfl, Lib.hid (fun j e hj => absurd hj (by omega)), rfl⟩
  case round =>
    obtain ⟨k, hk, rfl, HS, rfl⟩ := hrel
    by_cases hlt : k < n
    · obtain ⟨ad, e, rfl, hb, he, d0, d1, d2, d3, d4, d5, d6⟩ := ev_in HR.out hlt
      have HE := Lib.hid he
      have i1 : (0 : Int) ≤ (k : Int) := by omega
      have i2 : (k : Int) < (n : Int) := by omega
      clear he d0 d1 d2 d4 d5 d6
      by_cases hs : 100 < e.cm.size
      · have d : decide ((100 : Int) < (e.cm.size : Int)) = true := by simp; omega
        have HF := Lib.hid (namesE_false HE.out hs)
        go_wp2
        go_ret
        exact ⟨ret_bool HF.out.symm, Below.refl _ _⟩
      · have d : decide ((100 : Int) < (e.cm.size : Int)) = false := by simp; omega
        have HS2 := Lib.hid (show ∀ (j : Nat) e, j < k + 1 → evs[j]? = some e → e.cm.size ≤ 100 from fun j e' hj he' => by
          by_cases hjk : j < k
          · exact HS.out j e' hjk he'
          · obtain rfl : j = k := by omega
            rw [HE.out] at he'; injection he' with he'; subst he'; omega)
        clear hs
        go_wp2
        exact ⟨⟨k + 1, by omega, rfl, HS2, trivial⟩, by simp [intOf]; omega⟩
    · obtain rfl : n = k := by omega
      have HF := Lib.hid (namesE_true HL.out HS.out)
      go_wp2
      go_ret
      exact ⟨ret_bool HF.out.symm, Below.refl _ _⟩

theorem ev_ne (e1 e2 : Evt) (h : e1 ≠ e2) : e1.q = e2.q → e1.a = e2.a → e1.k = e2.k → e1.cm.toList = e2.cm.toList → e1.x = e2.x → e1.y = e2.y → ¬ e1.z = e2.z := by
  intro h1 h2 h3 h4 h5 h6 h7
  apply h
  rw [ByteArray.toList_eq, ByteArray.toList_eq] at h4
  have h4' : e1.cm = e2.cm := by cases hc : e1.cm; cases hd : e2.cm; rw [hc, hd] at h4; congr 1; exact Array.toList_inj.1 h4
  cases e1; cases e2; simp only at h1 h2 h3 h4' h5 h6 h7; subst h1 h2 h3 h4' h5 h6 h7; rfl
theorem EvSame_eq (A : Option Addr) (n c B : Nat) (xs : List Evt) (A2 : Option Addr) (c2 : Nat) (ys : List Evt) (W : World) (hr : Reads W B 7 A n (evCells xs)) (hr2 : Reads W B 7 A2 n (evCells ys)) (hB : B ≤ W.heap.size) (hn : n ≤ 9223372036854775807) : Calls Try.prog 15 #[.slice A n c, .slice A2 n c2] W fun e w' => ∃ r, e = .returned (.bool r) ∧ (r = true ↔ xs = ys) ∧ Below W.heap.size W w' := by
  have HR := Lib.hid hr
  have HR2 := Lib.hid hr2
  have HL := Lib.hid hr.ev_len
  have HL2 := Lib.hid hr2.ev_len
  clear hr hr2
  have x0 : ((n : Int) != (n : Int)) = false := by simp
  have HK0 := Lib.hid (Kept.start W)
  go_enter Try.func15, Try.ntmps15
  go_wp2
  clear x0
  go_loopw [5] (fun i wr => ∃ (k : Nat), k ≤ n ∧ i = .int .i64 k ∧ Hid (∀ (j : Nat) e, j < k → xs[j]? = some e → ys[j]? = some e) ∧ Hid (Kept W wr [])) (fun i _ => n - (intOf i).toNat)
  case atStart => exact ⟨0, Nat.zero_le _, rfl, Lib.hid (fun j e hj => absurd hj (by omega)), HK0⟩
  case round =>
    clear HK0
    obtain ⟨k, hk, rfl, HS, HK⟩ := hrel
    by_cases hlt : k < n
    · obtain ⟨ad, e1, rfl, hb1, he1, d0, d1, d2, d3, d4, d5, d6⟩ := ev_in HR.out hlt
      obtain ⟨ad2, e2, rfl, hb2, he2, d20, d21, d22, d23, d24, d25, d26⟩ := ev_in HR2.out hlt
      have HE1 := Lib.hid he1
      have HE2 := Lib.hid he2
      clear he1 he2
      have i1 : (0 : Int) ≤ (k : Int) := by omega
      have i2 : (k : Int) < (n : Int) := by omega
      have bl : (ad.add (k * 7)).block < W.heap.size := World.block_lt_of_cell? W _ d0
      have bl2 : (ad2.add (k * 7)).block < W.heap.size := World.block_lt_of_cell? W _ d20
      go_wp2_with fail
      refine wp_region_noPanic ?_
      refine wp_region_held_drew (S := fun W' => Kept W W' []) (by kernel_rfl) HK.out.drew (fun hHeld => ?_)
      refine takeH 0 (v := ?v0u6) rfl (by kernel_rfl) (by kernel_rfl) (by kernel_rfl) rfl (fun _ _ _ h => h) (Or.inl ⟨by rfl, ?y0u6⟩) hHeld ?r0u6
      case y0u6 => (intro W hSW; (try dsimp only at hSW); go_simp; try with_reducible rfl)
      simp only [Act.put, List.setIfInBounds_toArray, List.set_cons_zero, List.set_cons_succ]
      refine takeH 1 (v := ?v1u7) rfl (by kernel_rfl) (by kernel_rfl) (by kernel_rfl) rfl (fun _ _ _ h => h) (Or.inl ⟨by rfl, ?y1u7⟩) hHeld ?r1u7
      case y1u7 => (intro W hSW; (try dsimp only at hSW); go_simp; try with_reducible rfl)
      simp only [Act.put, List.setIfInBounds_toArray, List.set_cons_zero, List.set_cons_succ]
      refine takeH 2 (v := ?v2u8) rfl (by kernel_rfl) (by kernel_rfl) (by kernel_rfl) rfl (fun _ _ _ h => h) (Or.inl ⟨by rfl, ?y2u8⟩) hHeld ?r2u8
      case y2u8 => (intro W hSW; (try dsimp only at hSW); go_simp; try with_reducible rfl)
      simp only [Act.put, List.setIfInBounds_toArray, List.set_cons_zero, List.set_cons_succ]
      refine takeH 3 (v := ?v3u9) rfl (by kernel_rfl) (by kernel_rfl) (by kernel_rfl) rfl (fun _ _ _ h => h) (Or.inl ⟨by rfl, ?y3u9⟩) hHeld ?r3u9
      case y3u9 => (intro W hSW; (try dsimp only at hSW); have q0 := (hSW.bel.cell (p := (ad.add (k * 7))) bl).trans d0; have q1 := (hSW.bel.cell (p := ⟨(ad.add (k * 7)).block, (ad.add (k * 7)).off + 1, none⟩) bl).trans d1; have q2 := (hSW.bel.cell (p := ⟨(ad.add (k * 7)).block, (ad.add (k * 7)).off + 2, none⟩) bl).trans d2; have q3 := (hSW.bel.cell (p := ⟨(ad.add (k * 7)).block, (ad.add (k * 7)).off + 3, none⟩) bl).trans d3; have q4 := (hSW.bel.cell (p := ⟨(ad.add (k * 7)).block, (ad.add (k * 7)).off + 4, none⟩) bl).trans d4; have q5 := (hSW.bel.cell (p := ⟨(ad.add (k * 7)).block, (ad.add (k * 7)).off + 5, none⟩) bl).trans d5; have q6 := (hSW.bel.cell (p := ⟨(ad.add (k * 7)).block, (ad.add (k * 7)).off + 6, none⟩) bl).trans d6; go_simp; try with_reducible rfl)
      simp only [Act.put, List.setIfInBounds_toArray, List.set_cons_zero, List.set_cons_succ]
      refine takeH 4 (v := ?v4u10) rfl (by kernel_rfl) (by kernel_rfl) (by kernel_rfl) rfl (fun _ _ _ h => h) (Or.inl ⟨by rfl, ?y4u10⟩) hHeld ?r4u10
      case y4u10 => (intro W hSW; (try dsimp only at hSW); go_simp; try with_reducible rfl)
      simp only [Act.put, List.setIfInBounds_toArray, List.set_cons_zero, List.set_cons_succ]
      refine takeH 5 (v := ?v5u11) rfl (by kernel_rfl) (by kernel_rfl) (by kernel_rfl) rfl (fun _ _ _ h => h) (Or.inl ⟨by rfl, ?y5u11⟩) hHeld ?r5u11
      case y5u11 => (intro W hSW; (try dsimp only at hSW); go_simp; try with_reducible rfl)
      simp only [Act.put, List.setIfInBounds_toArray, List.set_cons_zero, List.set_cons_succ]
      refine takeH 6 (v := ?v6u12) rfl (by kernel_rfl) (by kernel_rfl) (by kernel_rfl) rfl (fun _ _ _ h => h) (Or.inl ⟨by rfl, ?y6u12⟩) hHeld ?r6u12
      case y6u12 => (intro W hSW; (try dsimp only at hSW); go_simp; try with_reducible rfl)
      simp only [Act.put, List.setIfInBounds_toArray, List.set_cons_zero, List.set_cons_succ]
      refine takeH 7 (v := ?v7u13) rfl (by kernel_rfl) (by kernel_rfl) (by kernel_rfl) rfl (fun _ _ _ h => h) (Or.inl ⟨by rfl, ?y7u13⟩) hHeld ?r7u13
      case y7u13 => (intro W hSW; (try dsimp only at hSW); have q0 := (hSW.bel.cell (p := (ad2.add (k * 7))) bl2).trans d20; have q1 := (hSW.bel.cell (p := ⟨(ad2.add (k * 7)).block, (ad2.add (k * 7)).off + 1, none⟩) bl2).trans d21; have q2 := (hSW.bel.cell (p := ⟨(ad2.add (k * 7)).block, (ad2.add (k * 7)).off + 2, none⟩) bl2).trans d22; have q3 := (hSW.bel.cell (p := ⟨(ad2.add (k * 7)).block, (ad2.add (k * 7)).off + 3, none⟩) bl2).trans d23; have q4 := (hSW.bel.cell (p := ⟨(ad2.add (k * 7)).block, (ad2.add (k * 7)).off + 4, none⟩) bl2).trans d24; have q5 := (hSW.bel.cell (p := ⟨(ad2.add (k * 7)).block, (ad2.add (k * 7)).off + 5, none⟩) bl2).trans d25; have q6 := (hSW.bel.cell (p := ⟨(ad2.add (k * 7)).block, (ad2.add (k * 7)).off + 6, none⟩) bl2).trans d26; go_simp; try with_reducible rfl)
      simp only [Act.put, List.setIfInBounds_toArray, List.set_cons_zero, List.set_cons_succ]
      by_cases hne : e1 = e2
      · subst hne
        refine takeH 8 (v := ?v8u14) rfl (by kernel_rfl) (by kernel_rfl) (by kernel_rfl) rfl (fun _ _ _ h => h) (Or.inl ⟨by rfl, ?y8u14⟩) hHeld ?r8u14
        case y8u14 => (intro W hSW; (try dsimp only at hSW); go_simp; try with_reducible rfl)
        simp only [Act.put, List.setIfInBounds_toArray, List.set_cons_zero, List.set_cons_succ]
        refine wpAnyH_done (by kernel_rfl) ?_ _
        refine NoPanic.normal ?_
        have HS2 := Lib.hid (show ∀ (j : Nat) e, j < k + 1 → xs[j]? = some e → ys[j]? = some e from fun j e hj he => by
          by_cases hjk : j < k
          · exact HS.out j e hjk he
          · obtain rfl : j = k := by omega
            rw [HE1.out] at he; injection he with he; subst he; exact HE2.out)
        have HKn := Lib.hid hHeld
        clear hHeld HK d0 d1 d2 d3 d4 d5 d6 d20 d21 d22 d23 d24 d25 d26
        go_wp2
        exact ⟨⟨k + 1, by omega, rfl, HS2, HKn⟩, by simp [intOf]; omega⟩
      · refine takeH 8 (v := .bool true) rfl (by kernel_rfl) (by kernel_rfl) (by kernel_rfl) rfl (fun _ _ _ h => h) (Or.inl ⟨by rfl, ?y8u15⟩) hHeld ?r8u15
        case y8u15 => (intro W hSW; (try dsimp only at hSW); go_simp; exact ev_ne e1 e2 hne)
        simp only [Act.put, List.setIfInBounds_toArray, List.set_cons_zero, List.set_cons_succ]
        refine wpAnyH_done (by kernel_rfl) ?_ _
        refine NoPanic.normal ?_
        clear HK d0 d1 d2 d3 d4 d5 d6 d20 d21 d22 d23 d24 d25 d26
        go_wp2
        go_ret
        exact ⟨false, rfl, by constructor; (intro h; cases h); (intro h; subst h; rw [HE1.out] at HE2; exact absurd (Option.some.inj HE2.out) hne), hHeld.bel⟩
    · obtain rfl : n = k := by omega
      have HE := Lib.hid (show xs = ys from by
        apply List.ext_getElem?
        intro j
        by_cases hj : j < n
        · rw [HS.out j _ hj (List.getElem?_eq_getElem (by rw [HL.out]; exact hj)), List.getElem?_eq_getElem (by rw [HL.out]; exact hj)]
        · rw [List.getElem?_eq_none (by rw [HL.out]; omega), List.getElem?_eq_none (by rw [HL2.out]; omega)])
      go_wp2
      go_ret
      exact ⟨true, rfl, ⟨fun _ => HE.out, fun _ => rfl⟩, HK.out.bel⟩

theorem EvSame_c (A : Option Addr) (n c B : Nat) (xs : List Evt) (A2 : Option Addr) (n2 c2 : Nat) (ys : List Evt) (W : World) (hr : Reads W B 7 A n (evCells xs)) (hr2 : Reads W B 7 A2 n2 (evCells ys)) (hB : B ≤ W.heap.size) (hn : n ≤ 9223372036854775807) (hn2 : n2 ≤ 9223372036854775807) : Calls Try.prog 15 #[.slice A n c, .slice A2 n2 c2] W fun e w' => ∃ r, e = .returned (.bool r) ∧ (r = true ↔ xs = ys) ∧ Below W.heap.size W w' := by
  by_cases h : n = n2
  · subst h
    exact EvSame_eq A n c B xs A2 c2 ys W hr hr2 hB hn
  · have x0 : ((n : Int) != (n2 : Int)) = true := by rw [bne_iff_ne]; omega
    have HE := Lib.hid (show ¬ xs = ys from by intro e; subst e; exact h (hr.ev_len.symm.trans hr2.ev_len))
    clear hr hr2
    go_enter Try.func15, Try.ntmps15
    go_wp2
    go_ret
    exact ⟨false, rfl, ⟨fun h => (by cases h), fun h => absurd h HE.out⟩, Below.refl _ _⟩
end Go.Proofs.Ytjkaklfhcefkcaa
