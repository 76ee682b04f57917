/- Contracts of span.joined, over the contracts of the kids. -/
import Derived.Test.YtgbcgkhcmellfaaSpan2
import Derived.Test.YtgbcgkhcmellfaaHeld
namespace Go.Proofs.Ytgbcgkhcmellfaa
set_option linter.unusedVariables false
open Go.RowKit Go.ChangeShapes

mutual
def ofF : FT → Sp
  | .mk op a b _ ks => Sp.norm (if op = 2 then ⟨0, 4294967296, a, b⟩ else if op = 3 then ⟨a, b, 0, 1099511627776⟩ else if op = 6 then foldM ks .whole else if op = 7 then foldL ks .empty else .whole)
def foldM : List FT → Sp → Sp
  | [], s => s
  | t :: ts, s => foldM ts (joinM s (ofF t))
def foldL : List FT → Sp → Sp
  | [], s => s
  | t :: ts, s => foldL ts (joinL s (ofF t))
end
def OfOk (t : FT) (W : World) (e : Ending) (w' : World) : Prop := e = .returned (.agg (spc (ofF t))) ∧ Below W.heap.size W w'
/-- what a walk keeps between two kids. -/
def JoinSt (W wr : World) (gr gp : Nat) (s : Sp) : Prop := Blk wr gr 28 #[.int .i64 0, .int .i64 0, .int .i64 0, .int .i64 0] ∧ Blk wr gp 28 (spc s) ∧ Below W.heap.size W wr
theorem JoinSt.next {W wr w' : World} {gr gp : Nat} {s : Sp} (h : JoinSt W wr gr gp s) (hb : Below wr.heap.size wr w') : JoinSt W w' gr gp s := ⟨h.1.below hb h.1.lt, h.2.1.below hb h.2.1.lt, h.2.2.trans (hb.mono h.2.2.size)⟩
theorem far4 {w : World} {g gp : Nat} {t : TypeId} {cs : Array Value} (h : Blk w g t cs) (hg : g ≠ gp) {a' b' c' d' : Value} : Blk ((((w.setCell ⟨gp, 0, none⟩ a').setCell ⟨gp, 1, none⟩ b').setCell ⟨gp, 2, none⟩ c').setCell ⟨gp, 3, none⟩ d') g t cs := (((h.far (by simpa using hg) _).far (by simpa using hg) _).far (by simpa using hg) _).far (by simpa using hg) _
theorem JoinSt.put {W wr : World} {gr gp : Nat} {s : Sp} (h : JoinSt W wr gr gp s) (hg : gr < gp) (hz : W.heap.size ≤ gp) (s' : Sp) : JoinSt W ((((wr.setCell ⟨gp, 0, none⟩ (.int .i64 s'.f)).setCell ⟨gp, 1, none⟩ (.int .i64 s'.l)).setCell ⟨gp, 2, none⟩ (.int .i64 s'.r)).setCell ⟨gp, 3, none⟩ (.int .i64 s'.t)) gr gp s' := ⟨far4 h.1 (by omega), put4 h.2.1, put4_below h.2.2 hz⟩
theorem joined_res {W : World} {g : Nat} {x0 x1 x2 x3 : Value} (h : Blk W g 28 #[x0, x1, x2, x3]) (tmps : Array Value) (ht : tmps[4]?.getD undef = .pointer (some ⟨g, 0, none⟩)) : (results Try.f27 tmps).run Try.prog W = .ok (.agg #[x0, x1, x2, x3]) W := by
  have c0 : W.cell? ⟨g, 0, none⟩ = some x0 := h.cell 0
  have c1 : W.cell? ⟨g, 1, none⟩ = some x1 := h.cell 1
  have c2 : W.cell? ⟨g, 2, none⟩ = some x2 := h.cell 2
  have c3 : W.cell? ⟨g, 3, none⟩ = some x3 := h.cell 3
  simp [results, Try.results27, go_sem, ht, c0, c1, c2, c3]

set_option maxHeartbeats 4000000 in
theorem joinedM_c {w : World} {B n : Nat} {A : Option Addr} {c : Nat} {vs : List (List Value)} {ks : List FT} (hn : ks.length = n) (hv : vs.length = n)
    (hr : 0 < n → ∃ ad, A = some ad ∧ ad.block < B ∧ ∀ i v, vs[i]? = some v → ∀ j u, v[j]? = some u → w.cell? ((ad.add (i * 5)).add j) = some u)
    (hk : ∀ (i : Nat) v t, vs[i]? = some v → ks[i]? = some t → FTr w B v t) (hcm : n ≤ 9223372036854775807)
    (ih : ∀ (i : Nat) v t, vs[i]? = some v → ks[i]? = some t → ∀ W, Below B w W → B ≤ W.heap.size → Calls Try.prog 18 #[.agg v.toArray] W (OfOk t W)) (W : World) (hB : Below B w W) (hBW : B ≤ W.heap.size) :
    Calls Try.prog 27 #[.iface 56 (.agg #[]), .slice A n c] W fun e w' => e = .returned (.agg (spc (foldM ks Sp.whole))) ∧ Below W.heap.size W w' := by
  have HN := Lib.hid hn
  have HKI := Lib.hid (fun (wr : World) (hw : Below B w wr) (i : Nat) (hi : i < n) => kid_in hn hv hr hk hw hi)
  have IH := Lib.hid ih
  have HB := Lib.hid hB
  clear hr hk ih hB hn hv
  have HR := Lib.hid (Blk.new W 28 #[.int .i64 0, .int .i64 0, .int .i64 0, .int .i64 0])
  have HW := Lib.hid ((Below.refl W.heap.size W).alloc (Nat.le_refl _) (.cells #[.int .i64 0, .int .i64 0, .int .i64 0, .int .i64 0] 28))
  go_enter Try.func27, Try.ntmps27
  go_wp2_with fail
  with_reducible refine (start_m _).mono ?_
  rintro e w1 ⟨rfl, hb1⟩
  have HJ := Lib.hid (show JoinSt W (w1.alloc (.cells (spc Sp.whole) 28)) W.heap.size w1.heap.size Sp.whole from ⟨(HR.out.below hb1 HR.out.lt).alloc _, Blk.new w1 _ _, ((HW.out.trans (hb1.mono HW.out.size)).alloc (by have := (HW.out.trans (hb1.mono HW.out.size)).size; omega) _)⟩)
  have hgp : W.heap.size < w1.heap.size := by have h1 := hb1.size; simp at h1; omega
  clear hb1 HR HW
  go_wp2
  generalize w1.heap.size = gp at HJ hgp ⊢
  go_loopw [12] (fun i wr => ∃ (k : Nat) (s : Sp), k ≤ n ∧ i = .int .i64 k ∧ Hid (foldM (ks.drop k) s = foldM ks Sp.whole) ∧ Hid (JoinSt W wr W.heap.size gp s)) (fun i _ => n - (intOf i).toNat)
  case atStart => exact ⟨0, Sp.whole, Nat.zero_le _, rfl, Lib.hid rfl, HJ⟩
  case round =>
    clear HJ
    obtain ⟨k, s, hk, rfl, HS, HJ⟩ := hrel
    have hz := HJ.out.2.2.size
    have hgl := HJ.out.2.1.lt
    by_cases hlt : k < n
    · obtain ⟨ad, op', a', b', name', A', n', c', t', v', rfl, hkt, hvt, hve, hft, d0, d1, d2, d3, d4⟩ := HKI.out wr (HB.out.trans (HJ.out.2.2.mono hBW)) k hlt
      have ihk := IH.out k v' t' hvt hkt
      subst hve
      have HIK := Lib.hid ihk
      have HKT := Lib.hid hkt
      have i1 : (0 : Int) ≤ (k : Int) := by omega
      have i2 : (k : Int) < (n : Int) := by omega
      clear hkt hvt ihk
      have HD := Lib.hid (show foldM (ks.drop (k + 1)) (joinM s (ofF t')) = foldM ks Sp.whole from by rw [← HS.out, drop_cons_of ks k t' HKT.out]; conv => rhs; unfold foldM)
      have HJ2 := Lib.hid (HJ.out.next ((Below.refl wr.heap.size wr).alloc (Nat.le_refl _) (.cells #[.int .i64 op', .int .i64 a', .int .i64 b', .string name', .slice A' n' c'] 24)))
      have HK2 := Lib.hid (Blk.new wr 24 #[.int .i64 op', .int .i64 a', .int .i64 b', .string name', .slice A' n' c'])
      have hz2 : (wr.alloc (.cells #[.int .i64 op', .int .i64 a', .int .i64 b', .string name', .slice A' n' c'] 24)).heap.size = wr.heap.size + 1 := by simp
      have HZ2 := Lib.hid hz2
      clear hz2
      go_wp2_with fail
      generalize wr.alloc (.cells #[.int .i64 op', .int .i64 a', .int .i64 b', .string name', .slice A' n' c'] 24) = w2 at HJ2 HK2 HZ2 ⊢
      clear d0 d1 d2 d3 d4
      have hgk := HK2.out.lt
      have n1 := fun W' => show (nilAhead 195 56 (.agg #[]) "fusebox/span.join").run Try.prog W' = .ok (some false) W' from by kernel_rfl
      have n2 := fun W' => show (method 195 56 (.agg #[]) "fusebox/span.join").run Try.prog W' = .ok (54, .agg #[]) W' from by kernel_rfl
      refine wp_region_noPanic ?_
      refine wp_region_held_drew (S := fun W' => Blk W' wr.heap.size 24 #[.int .i64 op', .int .i64 a', .int .i64 b', .string name', .slice A' n' c']) (by kernel_rfl) HK2.out.drew (fun hHeld => ?_)
      have HJ3 := Lib.hid (show JoinSt W w2.drew W.heap.size gp s from ⟨HJ2.out.1.drew, HJ2.out.2.1.drew, HJ2.out.2.2.drew⟩)
      generalize w2.drew = wd at HJ3 hHeld ⊢
      refine takeH 0 (v := ?v0u1) rfl (by kernel_rfl) (by kernel_rfl) (by kernel_rfl) rfl (fun _ _ _ h => h) (Or.inl ⟨by rfl, ?y0u1⟩) hHeld ?r0u1
      case y0u1 => (intro W hSW; (try dsimp only at hSW); go_simp; try with_reducible rfl)
      simp only [Act.put, List.setIfInBounds_toArray, List.set_cons_zero, List.set_cons_succ]
      refine takeH 2 (v := ?v2u2) rfl (by kernel_rfl) (by kernel_rfl) (by kernel_rfl) rfl (fun _ _ _ h => h) (Or.inl ⟨by rfl, ?y2u2⟩) hHeld ?r2u2
      case y2u2 => (intro W hSW; (try dsimp only at hSW); have q0 := hSW.cell 0; have q1 := hSW.cell 1; have q2 := hSW.cell 2; have q3 := hSW.cell 3; have q4 := hSW.cell 4; simp only [List.getElem?_toArray, List.getElem?_cons_zero, List.getElem?_cons_succ] at q0 q1 q2 q3 q4; go_simp; try with_reducible rfl)
      simp only [Act.put, List.setIfInBounds_toArray, List.set_cons_zero, List.set_cons_succ]
      refine takeH 4 (v := ?v4u3) rfl (by kernel_rfl) (by kernel_rfl) (by kernel_rfl) rfl (fun _ _ _ h => h) (Or.inl ⟨by rfl, ?y4u3⟩) hHeld ?r4u3
      case y4u3 => (intro W hSW; (try dsimp only at hSW); go_simp; try with_reducible rfl)
      simp only [Act.put, List.setIfInBounds_toArray, List.set_cons_zero, List.set_cons_succ]
      refine takeH 5 (v := ?v5u4) rfl (by kernel_rfl) (by kernel_rfl) (by kernel_rfl) rfl (fun _ _ _ h => h) (Or.inl ⟨by rfl, ?y5u4⟩) hHeld ?r5u4
      case y5u4 => (intro W hSW; (try dsimp only at hSW); go_simp; try with_reducible rfl)
      simp only [Act.put, List.setIfInBounds_toArray, List.set_cons_zero, List.set_cons_succ]
      refine takeH 6 (v := ?v6u5) rfl (by kernel_rfl) (by kernel_rfl) (by kernel_rfl) rfl (fun _ _ _ h => h) (Or.inl ⟨by rfl, ?y6u5⟩) hHeld ?r6u5
      case y6u5 => (intro W hSW; (try dsimp only at hSW); go_simp; try with_reducible rfl)
      simp only [Act.put, List.setIfInBounds_toArray, List.set_cons_zero, List.set_cons_succ]
      refine wpAnyH_ready (rs := [1, 3]) (by kernel_rfl) (by simp) ?_
      refine AllReadyH.cons rfl (fun K hK => ?_) (AllReadyH.cons rfl (fun K hK => ?_) AllReadyH.nil)
      · go_simp
        have HPc := Lib.hid HJ3.out.2.1
        have p0 : wd.cell? ⟨gp, 0, none⟩ = some ((.int .i64 s.f)) := HPc.out.cell 0
        have p1 : wd.cell? ⟨gp, 1, none⟩ = some ((.int .i64 s.l)) := HPc.out.cell 1
        have p2 : wd.cell? ⟨gp, 2, none⟩ = some ((.int .i64 s.r)) := HPc.out.cell 2
        have p3 : wd.cell? ⟨gp, 3, none⟩ = some ((.int .i64 s.t)) := HPc.out.cell 3
        go_simp
        refine hK.out _ _ hHeld (fun hHeld => ?_)
        clear hK K
        try simp only [Act.put, List.setIfInBounds_toArray, List.set_cons_zero, List.set_cons_succ]
        clear p0 p1 p2 p3 HPc
        refine wpAnyH_ready (rs := [3]) (by kernel_rfl) (by simp) ?_
        refine AllReadyH.cons rfl (fun K hK => ?_) AllReadyH.nil
        go_simp
        have hjb := HB.out.trans (HJ3.out.2.2.mono hBW)
        have hjz : B ≤ wd.heap.size := by have := HJ3.out.2.2.size; omega
        with_reducible refine (HIK.out _ hjb hjz).mono ?_
        rintro e w3 ⟨rfl, hb3⟩
        have HJ4 := Lib.hid (HJ3.out.next hb3)
        have hk3 := hHeld.below hb3 hHeld.lt
        clear hjb hjz hb3
        refine hK.out _ _ hk3 (fun hHeld => ?_)
        clear hK K
        try simp only [Act.put, List.setIfInBounds_toArray, List.set_cons_zero, List.set_cons_succ]
        clear HJ3 HJ2 HJ HK2
        refine wpAnyH_ready (rs := [7]) (by kernel_rfl) (by simp) ?_
        refine AllReadyH.cons rfl (fun K hK => ?_) AllReadyH.nil
        go_simp
        with_reducible refine (joinM_c s (ofF t') _).mono ?_
        rintro e w4 ⟨rfl, hb4⟩
        have HJ5 := Lib.hid (HJ4.out.next hb4)
        have hk4 := hHeld.below hb4 hHeld.lt
        clear hb4 HJ4
        refine hK.out _ _ hk4 (fun hHeld => ?_)
        clear hK K
        try simp only [Act.put, List.setIfInBounds_toArray, List.set_cons_zero, List.set_cons_succ]
        have HP5 := Lib.hid HJ5.out.2.1
        have p0 : w4.cell? ⟨gp, 0, none⟩ = some ((.int .i64 s.f)) := HP5.out.cell 0
        have pf0 : w4.frozen? ⟨gp, 0, none⟩ = false := HP5.out.frozen 0
        have p1 : w4.cell? ⟨gp, 1, none⟩ = some ((.int .i64 s.l)) := HP5.out.cell 1
        have pf1 : w4.frozen? ⟨gp, 1, none⟩ = false := HP5.out.frozen 1
        have p2 : w4.cell? ⟨gp, 2, none⟩ = some ((.int .i64 s.r)) := HP5.out.cell 2
        have pf2 : w4.frozen? ⟨gp, 2, none⟩ = false := HP5.out.frozen 2
        have p3 : w4.cell? ⟨gp, 3, none⟩ = some ((.int .i64 s.t)) := HP5.out.cell 3
        have pf3 : w4.frozen? ⟨gp, 3, none⟩ = false := HP5.out.frozen 3
        refine wpAnyH_ready (rs := [8]) (by kernel_rfl) (by simp) ?_
        refine AllReadyH.cons rfl (fun K hK => ?_) AllReadyH.nil
        go_simp
        refine hK.out _ _ (far4 hHeld (by omega)) (fun hHeld => ?_)
        clear hK K
        try simp only [Act.put, List.setIfInBounds_toArray, List.set_cons_zero, List.set_cons_succ]
        refine wpAnyH_done (by kernel_rfl) ?_ _
        refine NoPanic.normal ?_
        have HJ6 := Lib.hid (HJ5.out.put hgp (by omega) (joinM s (ofF t')))
        go_wp2
        exact ⟨⟨k + 1, joinM s (ofF t'), by omega, rfl, HD, HJ6⟩, by simp [intOf]; omega⟩
      · go_simp
        have hjb := HB.out.trans (HJ3.out.2.2.mono hBW)
        have hjz : B ≤ wd.heap.size := by have := HJ3.out.2.2.size; omega
        with_reducible refine (HIK.out _ hjb hjz).mono ?_
        rintro e w3 ⟨rfl, hb3⟩
        have HJ4 := Lib.hid (HJ3.out.next hb3)
        have hk3 := hHeld.below hb3 hHeld.lt
        clear hjb hjz hb3
        refine hK.out _ _ hk3 (fun hHeld => ?_)
        clear hK K
        try simp only [Act.put, List.setIfInBounds_toArray, List.set_cons_zero, List.set_cons_succ]
        refine wpAnyH_ready (rs := [1]) (by kernel_rfl) (by simp) ?_
        refine AllReadyH.cons rfl (fun K hK => ?_) AllReadyH.nil
        go_simp
        have HPc := Lib.hid HJ4.out.2.1
        have p0 : w3.cell? ⟨gp, 0, none⟩ = some ((.int .i64 s.f)) := HPc.out.cell 0
        have p1 : w3.cell? ⟨gp, 1, none⟩ = some ((.int .i64 s.l)) := HPc.out.cell 1
        have p2 : w3.cell? ⟨gp, 2, none⟩ = some ((.int .i64 s.r)) := HPc.out.cell 2
        have p3 : w3.cell? ⟨gp, 3, none⟩ = some ((.int .i64 s.t)) := HPc.out.cell 3
        go_simp
        refine hK.out _ _ hHeld (fun hHeld => ?_)
        clear hK K
        try simp only [Act.put, List.setIfInBounds_toArray, List.set_cons_zero, List.set_cons_succ]
        clear p0 p1 p2 p3 HPc
        clear HJ3 HJ2 HJ HK2
        refine wpAnyH_ready (rs := [7]) (by kernel_rfl) (by simp) ?_
        refine AllReadyH.cons rfl (fun K hK => ?_) AllReadyH.nil
        go_simp
        with_reducible refine (joinM_c s (ofF t') _).mono ?_
        rintro e w4 ⟨rfl, hb4⟩
        have HJ5 := Lib.hid (HJ4.out.next hb4)
        have hk4 := hHeld.below hb4 hHeld.lt
        clear hb4 HJ4
        refine hK.out _ _ hk4 (fun hHeld => ?_)
        clear hK K
        try simp only [Act.put, List.setIfInBounds_toArray, List.set_cons_zero, List.set_cons_succ]
        have HP5 := Lib.hid HJ5.out.2.1
        have p0 : w4.cell? ⟨gp, 0, none⟩ = some ((.int .i64 s.f)) := HP5.out.cell 0
        have pf0 : w4.frozen? ⟨gp, 0, none⟩ = false := HP5.out.frozen 0
        have p1 : w4.cell? ⟨gp, 1, none⟩ = some ((.int .i64 s.l)) := HP5.out.cell 1
        have pf1 : w4.frozen? ⟨gp, 1, none⟩ = false := HP5.out.frozen 1
        have p2 : w4.cell? ⟨gp, 2, none⟩ = some ((.int .i64 s.r)) := HP5.out.cell 2
        have pf2 : w4.frozen? ⟨gp, 2, none⟩ = false := HP5.out.frozen 2
        have p3 : w4.cell? ⟨gp, 3, none⟩ = some ((.int .i64 s.t)) := HP5.out.cell 3
        have pf3 : w4.frozen? ⟨gp, 3, none⟩ = false := HP5.out.frozen 3
        refine wpAnyH_ready (rs := [8]) (by kernel_rfl) (by simp) ?_
        refine AllReadyH.cons rfl (fun K hK => ?_) AllReadyH.nil
        go_simp
        refine hK.out _ _ (far4 hHeld (by omega)) (fun hHeld => ?_)
        clear hK K
        try simp only [Act.put, List.setIfInBounds_toArray, List.set_cons_zero, List.set_cons_succ]
        refine wpAnyH_done (by kernel_rfl) ?_ _
        refine NoPanic.normal ?_
        have HJ6 := Lib.hid (HJ5.out.put hgp (by omega) (joinM s (ofF t')))
        go_wp2
        exact ⟨⟨k + 1, joinM s (ofF t'), by omega, rfl, HD, HJ6⟩, by simp [intOf]; omega⟩
    · obtain rfl : n = k := by omega
      have HE := Lib.hid (show foldM ks Sp.whole = s from by rw [← HS.out, List.drop_of_length_le (by rw [HN.out]; exact Nat.le_refl _)]; unfold foldM; rfl)
      have HP := Lib.hid HJ.out.2.1
      have HR := Lib.hid HJ.out.1
      have p0 : wr.cell? ⟨gp, 0, none⟩ = some ((.int .i64 s.f)) := HP.out.cell 0
      have p1 : wr.cell? ⟨gp, 1, none⟩ = some ((.int .i64 s.l)) := HP.out.cell 1
      have p2 : wr.cell? ⟨gp, 2, none⟩ = some ((.int .i64 s.r)) := HP.out.cell 2
      have p3 : wr.cell? ⟨gp, 3, none⟩ = some ((.int .i64 s.t)) := HP.out.cell 3
      have z0 : wr.cell? ⟨W.heap.size, 0, none⟩ = some ((.int .i64 0)) := HR.out.cell 0
      have zf0 : wr.frozen? ⟨W.heap.size, 0, none⟩ = false := HR.out.frozen 0
      have z1 : wr.cell? ⟨W.heap.size, 1, none⟩ = some ((.int .i64 0)) := HR.out.cell 1
      have zf1 : wr.frozen? ⟨W.heap.size, 1, none⟩ = false := HR.out.frozen 1
      have z2 : wr.cell? ⟨W.heap.size, 2, none⟩ = some ((.int .i64 0)) := HR.out.cell 2
      have zf2 : wr.frozen? ⟨W.heap.size, 2, none⟩ = false := HR.out.frozen 2
      have z3 : wr.cell? ⟨W.heap.size, 3, none⟩ = some ((.int .i64 0)) := HR.out.cell 3
      have zf3 : wr.frozen? ⟨W.heap.size, 3, none⟩ = false := HR.out.frozen 3
      go_wp2
      exact bodyPost_ret (joined_res (put4 HR.out) _ rfl) rfl ⟨by rw [HE.out], put4_below HJ.out.2.2 (Nat.le_refl _)⟩

set_option maxHeartbeats 4000000 in
theorem joinedL_c {w : World} {B n : Nat} {A : Option Addr} {c : Nat} {vs : List (List Value)} {ks : List FT} (hn : ks.length = n) (hv : vs.length = n)
    (hr : 0 < n → ∃ ad, A = some ad ∧ ad.block < B ∧ ∀ i v, vs[i]? = some v → ∀ j u, v[j]? = some u → w.cell? ((ad.add (i * 5)).add j) = some u)
    (hk : ∀ (i : Nat) v t, vs[i]? = some v → ks[i]? = some t → FTr w B v t) (hcm : n ≤ 9223372036854775807)
    (ih : ∀ (i : Nat) v t, vs[i]? = some v → ks[i]? = some t → ∀ W, Below B w W → B ≤ W.heap.size → Calls Try.prog 18 #[.agg v.toArray] W (OfOk t W)) (W : World) (hB : Below B w W) (hBW : B ≤ W.heap.size) :
    Calls Try.prog 27 #[.iface 57 (.agg #[]), .slice A n c] W fun e w' => e = .returned (.agg (spc (foldL ks Sp.empty))) ∧ Below W.heap.size W w' := by
  have HN := Lib.hid hn
  have HKI := Lib.hid (fun (wr : World) (hw : Below B w wr) (i : Nat) (hi : i < n) => kid_in hn hv hr hk hw hi)
  have IH := Lib.hid ih
  have HB := Lib.hid hB
  clear hr hk ih hB hn hv
  have HR := Lib.hid (Blk.new W 28 #[.int .i64 0, .int .i64 0, .int .i64 0, .int .i64 0])
  have HW := Lib.hid ((Below.refl W.heap.size W).alloc (Nat.le_refl _) (.cells #[.int .i64 0, .int .i64 0, .int .i64 0, .int .i64 0] 28))
  go_enter Try.func27, Try.ntmps27
  go_wp2_with fail
  with_reducible refine (start_l _).mono ?_
  rintro e w1 ⟨rfl, hb1⟩
  have HJ := Lib.hid (show JoinSt W (w1.alloc (.cells (spc Sp.empty) 28)) W.heap.size w1.heap.size Sp.empty from ⟨(HR.out.below hb1 HR.out.lt).alloc _, Blk.new w1 _ _, ((HW.out.trans (hb1.mono HW.out.size)).alloc (by have := (HW.out.trans (hb1.mono HW.out.size)).size; omega) _)⟩)
  have hgp : W.heap.size < w1.heap.size := by have h1 := hb1.size; simp at h1; omega
  clear hb1 HR HW
  go_wp2
  generalize w1.heap.size = gp at HJ hgp ⊢
  go_loopw [12] (fun i wr => ∃ (k : Nat) (s : Sp), k ≤ n ∧ i = .int .i64 k ∧ Hid (foldL (ks.drop k) s = foldL ks Sp.empty) ∧ Hid (JoinSt W wr W.heap.size gp s)) (fun i _ => n - (intOf i).toNat)
  case atStart => exact ⟨0, Sp.empty, Nat.zero_le _, rfl, Lib.hid rfl, HJ⟩
  case round =>
    clear HJ
    obtain ⟨k, s, hk, rfl, HS, HJ⟩ := hrel
    have hz := HJ.out.2.2.size
    have hgl := HJ.out.2.1.lt
    by_cases hlt : k < n
    · obtain ⟨ad, op', a', b', name', A', n', c', t', v', rfl, hkt, hvt, hve, hft, d0, d1, d2, d3, d4⟩ := HKI.out wr (HB.out.trans (HJ.out.2.2.mono hBW)) k hlt
      have ihk := IH.out k v' t' hvt hkt
      subst hve
      have HIK := Lib.hid ihk
      have HKT := Lib.hid hkt
      have i1 : (0 : Int) ≤ (k : Int) := by omega
      have i2 : (k : Int) < (n : Int) := by omega
      clear hkt hvt ihk
      have HD := Lib.hid (show foldL (ks.drop (k + 1)) (joinL s (ofF t')) = foldL ks Sp.empty from by rw [← HS.out, drop_cons_of ks k t' HKT.out]; conv => rhs; unfold foldL)
      have HJ2 := Lib.hid (HJ.out.next ((Below.refl wr.heap.size wr).alloc (Nat.le_refl _) (.cells #[.int .i64 op', .int .i64 a', .int .i64 b', .string name', .slice A' n' c'] 24)))
      have HK2 := Lib.hid (Blk.new wr 24 #[.int .i64 op', .int .i64 a', .int .i64 b', .string name', .slice A' n' c'])
      have hz2 : (wr.alloc (.cells #[.int .i64 op', .int .i64 a', .int .i64 b', .string name', .slice A' n' c'] 24)).heap.size = wr.heap.size + 1 := by simp
      have HZ2 := Lib.hid hz2
      clear hz2
      go_wp2_with fail
      generalize wr.alloc (.cells #[.int .i64 op', .int .i64 a', .int .i64 b', .string name', .slice A' n' c'] 24) = w2 at HJ2 HK2 HZ2 ⊢
      clear d0 d1 d2 d3 d4
      have hgk := HK2.out.lt
      have n1 := fun W' => show (nilAhead 195 57 (.agg #[]) "fusebox/span.join").run Try.prog W' = .ok (some false) W' from by kernel_rfl
      have n2 := fun W' => show (method 195 57 (.agg #[]) "fusebox/span.join").run Try.prog W' = .ok (55, .agg #[]) W' from by kernel_rfl
      refine wp_region_noPanic ?_
      refine wp_region_held_drew (S := fun W' => Blk W' wr.heap.size 24 #[.int .i64 op', .int .i64 a', .int .i64 b', .string name', .slice A' n' c']) (by kernel_rfl) HK2.out.drew (fun hHeld => ?_)
      have HJ3 := Lib.hid (show JoinSt W w2.drew W.heap.size gp s from ⟨HJ2.out.1.drew, HJ2.out.2.1.drew, HJ2.out.2.2.drew⟩)
      generalize w2.drew = wd at HJ3 hHeld ⊢
      refine takeH 0 (v := ?v0u6) rfl (by kernel_rfl) (by kernel_rfl) (by kernel_rfl) rfl (fun _ _ _ h => h) (Or.inl ⟨by rfl, ?y0u6⟩) hHeld ?r0u6
      case y0u6 => (intro W hSW; (try dsimp only at hSW); go_simp; try with_reducible rfl)
      simp only [Act.put, List.setIfInBounds_toArray, List.set_cons_zero, List.set_cons_succ]
      refine takeH 2 (v := ?v2u7) rfl (by kernel_rfl) (by kernel_rfl) (by kernel_rfl) rfl (fun _ _ _ h => h) (Or.inl ⟨by rfl, ?y2u7⟩) hHeld ?r2u7
      case y2u7 => (intro W hSW; (try dsimp only at hSW); have q0 := hSW.cell 0; have q1 := hSW.cell 1; have q2 := hSW.cell 2; have q3 := hSW.cell 3; have q4 := hSW.cell 4; simp only [List.getElem?_toArray, List.getElem?_cons_zero, List.getElem?_cons_succ] at q0 q1 q2 q3 q4; go_simp; try with_reducible rfl)
      simp only [Act.put, List.setIfInBounds_toArray, List.set_cons_zero, List.set_cons_succ]
      refine takeH 4 (v := ?v4u8) rfl (by kernel_rfl) (by kernel_rfl) (by kernel_rfl) rfl (fun _ _ _ h => h) (Or.inl ⟨by rfl, ?y4u8⟩) hHeld ?r4u8
      case y4u8 => (intro W hSW; (try dsimp only at hSW); go_simp; try with_reducible rfl)
      simp only [Act.put, List.setIfInBounds_toArray, List.set_cons_zero, List.set_cons_succ]
      refine takeH 5 (v := ?v5u9) rfl (by kernel_rfl) (by kernel_rfl) (by kernel_rfl) rfl (fun _ _ _ h => h) (Or.inl ⟨by rfl, ?y5u9⟩) hHeld ?r5u9
      case y5u9 => (intro W hSW; (try dsimp only at hSW); go_simp; try with_reducible rfl)
      simp only [Act.put, List.setIfInBounds_toArray, List.set_cons_zero, List.set_cons_succ]
      refine takeH 6 (v := ?v6u10) rfl (by kernel_rfl) (by kernel_rfl) (by kernel_rfl) rfl (fun _ _ _ h => h) (Or.inl ⟨by rfl, ?y6u10⟩) hHeld ?r6u10
      case y6u10 => (intro W hSW; (try dsimp only at hSW); go_simp; try with_reducible rfl)
      simp only [Act.put, List.setIfInBounds_toArray, List.set_cons_zero, List.set_cons_succ]
      refine wpAnyH_ready (rs := [1, 3]) (by kernel_rfl) (by simp) ?_
      refine AllReadyH.cons rfl (fun K hK => ?_) (AllReadyH.cons rfl (fun K hK => ?_) AllReadyH.nil)
      · go_simp
        have HPc := Lib.hid HJ3.out.2.1
        have p0 : wd.cell? ⟨gp, 0, none⟩ = some ((.int .i64 s.f)) := HPc.out.cell 0
        have p1 : wd.cell? ⟨gp, 1, none⟩ = some ((.int .i64 s.l)) := HPc.out.cell 1
        have p2 : wd.cell? ⟨gp, 2, none⟩ = some ((.int .i64 s.r)) := HPc.out.cell 2
        have p3 : wd.cell? ⟨gp, 3, none⟩ = some ((.int .i64 s.t)) := HPc.out.cell 3
        go_simp
        refine hK.out _ _ hHeld (fun hHeld => ?_)
        clear hK K
        try simp only [Act.put, List.setIfInBounds_toArray, List.set_cons_zero, List.set_cons_succ]
        clear p0 p1 p2 p3 HPc
        refine wpAnyH_ready (rs := [3]) (by kernel_rfl) (by simp) ?_
        refine AllReadyH.cons rfl (fun K hK => ?_) AllReadyH.nil
        go_simp
        have hjb := HB.out.trans (HJ3.out.2.2.mono hBW)
        have hjz : B ≤ wd.heap.size := by have := HJ3.out.2.2.size; omega
        with_reducible refine (HIK.out _ hjb hjz).mono ?_
        rintro e w3 ⟨rfl, hb3⟩
        have HJ4 := Lib.hid (HJ3.out.next hb3)
        have hk3 := hHeld.below hb3 hHeld.lt
        clear hjb hjz hb3
        refine hK.out _ _ hk3 (fun hHeld => ?_)
        clear hK K
        try simp only [Act.put, List.setIfInBounds_toArray, List.set_cons_zero, List.set_cons_succ]
        clear HJ3 HJ2 HJ HK2
        refine wpAnyH_ready (rs := [7]) (by kernel_rfl) (by simp) ?_
        refine AllReadyH.cons rfl (fun K hK => ?_) AllReadyH.nil
        go_simp
        with_reducible refine (joinL_c s (ofF t') _).mono ?_
        rintro e w4 ⟨rfl, hb4⟩
        have HJ5 := Lib.hid (HJ4.out.next hb4)
        have hk4 := hHeld.below hb4 hHeld.lt
        clear hb4 HJ4
        refine hK.out _ _ hk4 (fun hHeld => ?_)
        clear hK K
        try simp only [Act.put, List.setIfInBounds_toArray, List.set_cons_zero, List.set_cons_succ]
        have HP5 := Lib.hid HJ5.out.2.1
        have p0 : w4.cell? ⟨gp, 0, none⟩ = some ((.int .i64 s.f)) := HP5.out.cell 0
        have pf0 : w4.frozen? ⟨gp, 0, none⟩ = false := HP5.out.frozen 0
        have p1 : w4.cell? ⟨gp, 1, none⟩ = some ((.int .i64 s.l)) := HP5.out.cell 1
        have pf1 : w4.frozen? ⟨gp, 1, none⟩ = false := HP5.out.frozen 1
        have p2 : w4.cell? ⟨gp, 2, none⟩ = some ((.int .i64 s.r)) := HP5.out.cell 2
        have pf2 : w4.frozen? ⟨gp, 2, none⟩ = false := HP5.out.frozen 2
        have p3 : w4.cell? ⟨gp, 3, none⟩ = some ((.int .i64 s.t)) := HP5.out.cell 3
        have pf3 : w4.frozen? ⟨gp, 3, none⟩ = false := HP5.out.frozen 3
        refine wpAnyH_ready (rs := [8]) (by kernel_rfl) (by simp) ?_
        refine AllReadyH.cons rfl (fun K hK => ?_) AllReadyH.nil
        go_simp
        refine hK.out _ _ (far4 hHeld (by omega)) (fun hHeld => ?_)
        clear hK K
        try simp only [Act.put, List.setIfInBounds_toArray, List.set_cons_zero, List.set_cons_succ]
        refine wpAnyH_done (by kernel_rfl) ?_ _
        refine NoPanic.normal ?_
        have HJ6 := Lib.hid (HJ5.out.put hgp (by omega) (joinL s (ofF t')))
        go_wp2
        exact ⟨⟨k + 1, joinL s (ofF t'), by omega, rfl, HD, HJ6⟩, by simp [intOf]; omega⟩
      · go_simp
        have hjb := HB.out.trans (HJ3.out.2.2.mono hBW)
        have hjz : B ≤ wd.heap.size := by have := HJ3.out.2.2.size; omega
        with_reducible refine (HIK.out _ hjb hjz).mono ?_
        rintro e w3 ⟨rfl, hb3⟩
        have HJ4 := Lib.hid (HJ3.out.next hb3)
        have hk3 := hHeld.below hb3 hHeld.lt
        clear hjb hjz hb3
        refine hK.out _ _ hk3 (fun hHeld => ?_)
        clear hK K
        try simp only [Act.put, List.setIfInBounds_toArray, List.set_cons_zero, List.set_cons_succ]
        refine wpAnyH_ready (rs := [1]) (by kernel_rfl) (by simp) ?_
        refine AllReadyH.cons rfl (fun K hK => ?_) AllReadyH.nil
        go_simp
        have HPc := Lib.hid HJ4.out.2.1
        have p0 : w3.cell? ⟨gp, 0, none⟩ = some ((.int .i64 s.f)) := HPc.out.cell 0
        have p1 : w3.cell? ⟨gp, 1, none⟩ = some ((.int .i64 s.l)) := HPc.out.cell 1
        have p2 : w3.cell? ⟨gp, 2, none⟩ = some ((.int .i64 s.r)) := HPc.out.cell 2
        have p3 : w3.cell? ⟨gp, 3, none⟩ = some ((.int .i64 s.t)) := HPc.out.cell 3
        go_simp
        refine hK.out _ _ hHeld (fun hHeld => ?_)
        clear hK K
        try simp only [Act.put, List.setIfInBounds_toArray, List.set_cons_zero, List.set_cons_succ]
        clear p0 p1 p2 p3 HPc
        clear HJ3 HJ2 HJ HK2
        refine wpAnyH_ready (rs := [7]) (by kernel_rfl) (by simp) ?_
        refine AllReadyH.cons rfl (fun K hK => ?_) AllReadyH.nil
        go_simp
        with_reducible refine (joinL_c s (ofF t') _).mono ?_
        rintro e w4 ⟨rfl, hb4⟩
        have HJ5 := Lib.hid (HJ4.out.next hb4)
        have hk4 := hHeld.below hb4 hHeld.lt
        clear hb4 HJ4
        refine hK.out _ _ hk4 (fun hHeld => ?_)
        clear hK K
        try simp only [Act.put, List.setIfInBounds_toArray, List.set_cons_zero, List.set_cons_succ]
        have HP5 := Lib.hid HJ5.out.2.1
        have p0 : w4.cell? ⟨gp, 0, none⟩ = some ((.int .i64 s.f)) := HP5.out.cell 0
        have pf0 : w4.frozen? ⟨gp, 0, none⟩ = false := HP5.out.frozen 0
        have p1 : w4.cell? ⟨gp, 1, none⟩ = some ((.int .i64 s.l)) := HP5.out.cell 1
        have pf1 : w4.frozen? ⟨gp, 1, none⟩ = false := HP5.out.frozen 1
        have p2 : w4.cell? ⟨gp, 2, none⟩ = some ((.int .i64 s.r)) := HP5.out.cell 2
        have pf2 : w4.frozen? ⟨gp, 2, none⟩ = false := HP5.out.frozen 2
        have p3 : w4.cell? ⟨gp, 3, none⟩ = some ((.int .i64 s.t)) := HP5.out.cell 3
        have pf3 : w4.frozen? ⟨gp, 3, none⟩ = false := HP5.out.frozen 3
        refine wpAnyH_ready (rs := [8]) (by kernel_rfl) (by simp) ?_
        refine AllReadyH.cons rfl (fun K hK => ?_) AllReadyH.nil
        go_simp
        refine hK.out _ _ (far4 hHeld (by omega)) (fun hHeld => ?_)
        clear hK K
        try simp only [Act.put, List.setIfInBounds_toArray, List.set_cons_zero, List.set_cons_succ]
        refine wpAnyH_done (by kernel_rfl) ?_ _
        refine NoPanic.normal ?_
        have HJ6 := Lib.hid (HJ5.out.put hgp (by omega) (joinL s (ofF t')))
        go_wp2
        exact ⟨⟨k + 1, joinL s (ofF t'), by omega, rfl, HD, HJ6⟩, by simp [intOf]; omega⟩
    · obtain rfl : n = k := by omega
      have HE := Lib.hid (show foldL ks Sp.empty = s from by rw [← HS.out, List.drop_of_length_le (by rw [HN.out]; exact Nat.le_refl _)]; unfold foldL; rfl)
      have HP := Lib.hid HJ.out.2.1
      have HR := Lib.hid HJ.out.1
      have p0 : wr.cell? ⟨gp, 0, none⟩ = some ((.int .i64 s.f)) := HP.out.cell 0
      have p1 : wr.cell? ⟨gp, 1, none⟩ = some ((.int .i64 s.l)) := HP.out.cell 1
      have p2 : wr.cell? ⟨gp, 2, none⟩ = some ((.int .i64 s.r)) := HP.out.cell 2
      have p3 : wr.cell? ⟨gp, 3, none⟩ = some ((.int .i64 s.t)) := HP.out.cell 3
      have z0 : wr.cell? ⟨W.heap.size, 0, none⟩ = some ((.int .i64 0)) := HR.out.cell 0
      have zf0 : wr.frozen? ⟨W.heap.size, 0, none⟩ = false := HR.out.frozen 0
      have z1 : wr.cell? ⟨W.heap.size, 1, none⟩ = some ((.int .i64 0)) := HR.out.cell 1
      have zf1 : wr.frozen? ⟨W.heap.size, 1, none⟩ = false := HR.out.frozen 1
      have z2 : wr.cell? ⟨W.heap.size, 2, none⟩ = some ((.int .i64 0)) := HR.out.cell 2
      have zf2 : wr.frozen? ⟨W.heap.size, 2, none⟩ = false := HR.out.frozen 2
      have z3 : wr.cell? ⟨W.heap.size, 3, none⟩ = some ((.int .i64 0)) := HR.out.cell 3
      have zf3 : wr.frozen? ⟨W.heap.size, 3, none⟩ = false := HR.out.frozen 3
      go_wp2
      exact bodyPost_ret (joined_res (put4 HR.out) _ rfl) rfl ⟨by rw [HE.out], put4_below HJ.out.2.2 (Nat.le_refl _)⟩
end Go.Proofs.Ytgbcgkhcmellfaa
