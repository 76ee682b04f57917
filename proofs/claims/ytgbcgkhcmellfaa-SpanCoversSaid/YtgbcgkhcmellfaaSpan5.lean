/- The contract of the reference's Of. -/
import Derived.Test.YtgbcgkhcmellfaaSpan4
import Derived.StillTailTactics
namespace Go.Proofs.Ytgbcgkhcmellfaa
set_option linter.unusedVariables false
open Go.RowKit Go.ChangeShapes

theorem rOf_res {W : World} {g : Nat} {x0 x1 x2 x3 : Value} (h : Blk W g 28 #[x0, x1, x2, x3]) (tmps : Array Value) (ht : tmps[2]?.getD undef = .pointer (some ⟨g, 0, none⟩)) : (results Try.f10 tmps).run Try.prog W = .ok (.agg #[x0, x1, x2, x3]) W := by
  have c0 : W.cell? ⟨g, 0, none⟩ = some x0 := h.cell 0
  have c1 : W.cell? ⟨g, 1, none⟩ = some x1 := h.cell 1
  have c2 : W.cell? ⟨g, 2, none⟩ = some x2 := h.cell 2
  have c3 : W.cell? ⟨g, 3, none⟩ = some x3 := h.cell 3
  simp [results, Try.results10, go_sem, ht, c0, c1, c2, c3]

theorem more_q (a b : Int) (w : World) : Calls Try.prog 20 #[.int .i64 a, .int .i64 b] w fun e w'' => e = .returned (.int .i64 (max a b)) ∧ w'' = w := (more_c a b w).mono fun _ _ h => ⟨h.1, h.2.symm⟩
theorem less_q (a b : Int) (w : World) : Calls Try.prog 21 #[.int .i64 a, .int .i64 b] w fun e w'' => e = .returned (.int .i64 (min a b)) ∧ w'' = w := (less_c a b w).mono fun _ _ h => ⟨h.1, h.2.symm⟩
/-- what a walk keeps between two kids. -/
def RSt (W wr : World) (cs : Array Value) (s : Sp) : Prop := Blk wr W.heap.size 24 cs ∧ Blk wr (W.heap.size + 1) 28 #[.int .i64 0, .int .i64 0, .int .i64 0, .int .i64 0] ∧ Blk wr (W.heap.size + 2) 28 (spc s) ∧ Below W.heap.size W wr
theorem RSt.next {W wr w' : World} {cs : Array Value} {s : Sp} (h : RSt W wr cs s) (hb : Below wr.heap.size wr w') : RSt W w' cs s := ⟨h.1.below hb h.1.lt, h.2.1.below hb h.2.1.lt, h.2.2.1.below hb h.2.2.1.lt, h.2.2.2.trans (hb.mono h.2.2.2.size)⟩
theorem RSt.put {W wr : World} {cs : Array Value} {s : Sp} (h : RSt W wr cs s) (s' : Sp) : RSt W ((((wr.setCell ⟨W.heap.size + 2, 0, none⟩ (.int .i64 s'.f)).setCell ⟨W.heap.size + 2, 1, none⟩ (.int .i64 s'.l)).setCell ⟨W.heap.size + 2, 2, none⟩ (.int .i64 s'.r)).setCell ⟨W.heap.size + 2, 3, none⟩ (.int .i64 s'.t)) cs s' := ⟨far4 h.1 (by omega), far4 h.2.1 (by omega), put4 h.2.2.1, put4_below h.2.2.2 (by omega)⟩
theorem RSt.new (W : World) (cs : Array Value) (s : Sp) : RSt W (((W.alloc (.cells cs 24)).alloc (.cells #[.int .i64 0, .int .i64 0, .int .i64 0, .int .i64 0] 28)).alloc (.cells (spc s) 28)) cs s :=
  ⟨((Blk.new W _ _).alloc _).alloc _, (blk_at (W.alloc (.cells cs 24)) _ _ _ (by simp)).alloc _, blk_at ((W.alloc (.cells cs 24)).alloc (.cells #[.int .i64 0, .int .i64 0, .int .i64 0, .int .i64 0] 28)) _ _ _ (by simp), (((Below.refl _ _).alloc (Nat.le_refl _) _).alloc (by simp) _).alloc (by simp; omega) _⟩

set_option maxHeartbeats 4000000 in
theorem rOf_c {w : World} {B : Nat} {cs : List Value} {t : FT} (h : FTr w B cs t) : ∀ W, Below B w W → B ≤ W.heap.size → Calls Try.prog 10 #[.agg cs.toArray] W (OfOk t W) := by
  induction h with
  | mk op a b name A n c vs ks hop ha hb hnm hn hv hnc hcm hr hk ih =>
    intro W hB hBW
    have HN := Lib.hid hn
    have HKI := Lib.hid (fun (wr : World) (hw : Below B w wr) (i : Nat) (hi : i < n) => kid_in hn hv hr hk hw hi)
    have IH := Lib.hid ih
    have HB := Lib.hid hB
    have o1 := bounds_i64 hop
    have a1 := bounds_i64 ha
    have b1 := bounds_i64 hb
    unfold maxLen at hcm hnm
    clear hr hk ih hB hn hv hop ha hb
    unfold OfOk
    go_enter Try.func10, Try.ntmps10
    obtain ⟨o1, o2⟩ := o1
    obtain ⟨a1, a2⟩ := a1
    obtain ⟨b1, b2⟩ := b1
    by_cases h2 : op = 2
    · subst h2
      go_wp2_with fail
      have HS := Lib.hid (RSt.new W #[.int .i64 2, .int .i64 a, .int .i64 b, .string name, .slice A n c] ⟨0, 4294967296, a, b⟩)
      with_reducible refine (none_c ⟨0, 4294967296, a, b⟩ _).mono ?_
      rintro e w4 ⟨rfl, hb4⟩
      have HF := Lib.hid (HS.out.next hb4)
      clear hb4 HS
      have HP4 := Lib.hid HF.out.2.2.1
      have HR4 := Lib.hid HF.out.2.1
      have HW4 := Lib.hid HF.out.2.2.2
      clear HF
      have z0 : w4.cell? ⟨W.heap.size + 1, 0, none⟩ = some ((.int .i64 0)) := HR4.out.cell 0
      have zf0 : w4.frozen? ⟨W.heap.size + 1, 0, none⟩ = false := HR4.out.frozen 0
      have z1 : w4.cell? ⟨W.heap.size + 1, 1, none⟩ = some ((.int .i64 0)) := HR4.out.cell 1
      have zf1 : w4.frozen? ⟨W.heap.size + 1, 1, none⟩ = false := HR4.out.frozen 1
      have z2 : w4.cell? ⟨W.heap.size + 1, 2, none⟩ = some ((.int .i64 0)) := HR4.out.cell 2
      have zf2 : w4.frozen? ⟨W.heap.size + 1, 2, none⟩ = false := HR4.out.frozen 2
      have z3 : w4.cell? ⟨W.heap.size + 1, 3, none⟩ = some ((.int .i64 0)) := HR4.out.cell 3
      have zf3 : w4.frozen? ⟨W.heap.size + 1, 3, none⟩ = false := HR4.out.frozen 3
      cases hvd : Sp.void ⟨0, 4294967296, a, b⟩
      · have HE := Lib.hid (show ofF (.mk 2 a b name ks) = ⟨0, 4294967296, a, b⟩ from by unfold ofF; rw [if_pos rfl]; unfold Sp.norm; rw [hvd]; rfl)
        clear hvd
        have HP5 := Lib.hid (show Blk w4 (W.heap.size + 2) 28 (spc ⟨0, 4294967296, a, b⟩) from HP4.out)
        have p0 : w4.cell? ⟨W.heap.size + 1 + 1, 0, none⟩ = some ((.int .i64 (⟨0, 4294967296, a, b⟩ : Sp).f)) := HP5.out.cell 0
        have p1 : w4.cell? ⟨W.heap.size + 1 + 1, 1, none⟩ = some ((.int .i64 (⟨0, 4294967296, a, b⟩ : Sp).l)) := HP5.out.cell 1
        have p2 : w4.cell? ⟨W.heap.size + 1 + 1, 2, none⟩ = some ((.int .i64 (⟨0, 4294967296, a, b⟩ : Sp).r)) := HP5.out.cell 2
        have p3 : w4.cell? ⟨W.heap.size + 1 + 1, 3, none⟩ = some ((.int .i64 (⟨0, 4294967296, a, b⟩ : Sp).t)) := HP5.out.cell 3
        go_wp2
        exact bodyPost_ret (rOf_res (put4 HR4.out) _ rfl) rfl ⟨by rw [HE.out], put4_below HW4.out (by omega)⟩
      · have HE := Lib.hid (show ofF (.mk 2 a b name ks) = .empty from by unfold ofF; rw [if_pos rfl]; unfold Sp.norm; rw [hvd]; rfl)
        clear hvd
        go_wp2
        exact bodyPost_ret (rOf_res (put4 HR4.out) _ rfl) rfl ⟨by rw [HE.out]; rfl, put4_below HW4.out (by omega)⟩
    by_cases h3 : op = 3
    · subst h3
      go_wp2_with fail
      have HS := Lib.hid (RSt.new W #[.int .i64 3, .int .i64 a, .int .i64 b, .string name, .slice A n c] ⟨a, b, 0, 1099511627776⟩)
      with_reducible refine (none_c ⟨a, b, 0, 1099511627776⟩ _).mono ?_
      rintro e w4 ⟨rfl, hb4⟩
      have HF := Lib.hid (HS.out.next hb4)
      clear hb4 HS
      have HP4 := Lib.hid HF.out.2.2.1
      have HR4 := Lib.hid HF.out.2.1
      have HW4 := Lib.hid HF.out.2.2.2
      clear HF
      have z0 : w4.cell? ⟨W.heap.size + 1, 0, none⟩ = some ((.int .i64 0)) := HR4.out.cell 0
      have zf0 : w4.frozen? ⟨W.heap.size + 1, 0, none⟩ = false := HR4.out.frozen 0
      have z1 : w4.cell? ⟨W.heap.size + 1, 1, none⟩ = some ((.int .i64 0)) := HR4.out.cell 1
      have zf1 : w4.frozen? ⟨W.heap.size + 1, 1, none⟩ = false := HR4.out.frozen 1
      have z2 : w4.cell? ⟨W.heap.size + 1, 2, none⟩ = some ((.int .i64 0)) := HR4.out.cell 2
      have zf2 : w4.frozen? ⟨W.heap.size + 1, 2, none⟩ = false := HR4.out.frozen 2
      have z3 : w4.cell? ⟨W.heap.size + 1, 3, none⟩ = some ((.int .i64 0)) := HR4.out.cell 3
      have zf3 : w4.frozen? ⟨W.heap.size + 1, 3, none⟩ = false := HR4.out.frozen 3
      cases hvd : Sp.void ⟨a, b, 0, 1099511627776⟩
      · have HE := Lib.hid (show ofF (.mk 3 a b name ks) = ⟨a, b, 0, 1099511627776⟩ from by unfold ofF; rw [if_neg (by decide), if_pos rfl]; unfold Sp.norm; rw [hvd]; rfl)
        clear hvd
        have HP5 := Lib.hid (show Blk w4 (W.heap.size + 2) 28 (spc ⟨a, b, 0, 1099511627776⟩) from HP4.out)
        have p0 : w4.cell? ⟨W.heap.size + 1 + 1, 0, none⟩ = some ((.int .i64 (⟨a, b, 0, 1099511627776⟩ : Sp).f)) := HP5.out.cell 0
        have p1 : w4.cell? ⟨W.heap.size + 1 + 1, 1, none⟩ = some ((.int .i64 (⟨a, b, 0, 1099511627776⟩ : Sp).l)) := HP5.out.cell 1
        have p2 : w4.cell? ⟨W.heap.size + 1 + 1, 2, none⟩ = some ((.int .i64 (⟨a, b, 0, 1099511627776⟩ : Sp).r)) := HP5.out.cell 2
        have p3 : w4.cell? ⟨W.heap.size + 1 + 1, 3, none⟩ = some ((.int .i64 (⟨a, b, 0, 1099511627776⟩ : Sp).t)) := HP5.out.cell 3
        go_wp2
        exact bodyPost_ret (rOf_res (put4 HR4.out) _ rfl) rfl ⟨by rw [HE.out], put4_below HW4.out (by omega)⟩
      · have HE := Lib.hid (show ofF (.mk 3 a b name ks) = .empty from by unfold ofF; rw [if_neg (by decide), if_pos rfl]; unfold Sp.norm; rw [hvd]; rfl)
        clear hvd
        go_wp2
        exact bodyPost_ret (rOf_res (put4 HR4.out) _ rfl) rfl ⟨by rw [HE.out]; rfl, put4_below HW4.out (by omega)⟩
    by_cases h6 : op = 6
    · subst h6
      go_wp2
      have HS := Lib.hid (RSt.new W #[.int .i64 6, .int .i64 a, .int .i64 b, .string name, .slice A n c] Sp.whole)
      go_loopw [4] (fun i wr => ∃ (k : Nat) (s : Sp), k ≤ n ∧ i = .int .i64 k ∧ Hid (foldM (ks.drop k) s = foldM ks Sp.whole) ∧ Hid (RSt W wr #[.int .i64 6, .int .i64 a, .int .i64 b, .string name, .slice A n c] s)) (fun i _ => n - (intOf i).toNat)
      case atStart => exact ⟨0, Sp.whole, Nat.zero_le _, rfl, Lib.hid rfl, HS⟩
      case round =>
        clear HS
        obtain ⟨k, s, hk, rfl, HS, HJ⟩ := hrel
        have r4 : wr.cell? ⟨W.heap.size, 4, none⟩ = some (.slice A n c) := HJ.out.1.cell 4
        have hz := HJ.out.2.2.2.size
        by_cases hlt : k < n
        · obtain ⟨ad, op', a', b', name', A', n', c', t', v', rfl, hkt, hvt, hve, hft, d0, d1, d2, d3, d4⟩ := HKI.out wr (HB.out.trans (HJ.out.2.2.2.mono hBW)) k hlt
          have ihk := IH.out k v' t' hvt hkt
          subst hve
          have HIK := Lib.hid ihk
          have HKT := Lib.hid hkt
          have i1 : (0 : Int) ≤ (k : Int) := by omega
          have i2 : (k : Int) < (n : Int) := by omega
          clear hkt hvt ihk
          have HD := Lib.hid (show foldM (ks.drop (k + 1)) (joinM s (ofF t')) = foldM ks Sp.whole from by rw [← HS.out, drop_cons_of ks k t' HKT.out]; conv => rhs; unfold foldM)
          have hjb := HB.out.trans (HJ.out.2.2.2.mono hBW)
          have hjz : B ≤ wr.heap.size := by omega
          go_wp2_with fail
          with_reducible refine (HIK.out _ hjb hjz).mono ?_
          rintro e w2 ⟨rfl, hb2⟩
          clear hjb hjz d0 d1 d2 d3 d4 r4
          generalize ofF t' = q at HD ⊢
          have HJ3 := Lib.hid ((HJ.out.next hb2).next ((Below.refl w2.heap.size w2).alloc (Nat.le_refl _) (.cells (spc q) 28)))
          have HQ3 := Lib.hid (Blk.new w2 28 (spc q))
          clear hb2 HJ
          have HP3 := Lib.hid HJ3.out.2.2.1
          go_wp2_with fail
          generalize w2.alloc (.cells (spc q) 28) = w3 at HJ3 HQ3 HP3 ⊢
          generalize w2.heap.size = gq at HQ3 ⊢
          have p0 : w3.cell? ⟨W.heap.size + 1 + 1, 0, none⟩ = some ((.int .i64 s.f)) := HP3.out.cell 0
          have pf0 : w3.frozen? ⟨W.heap.size + 1 + 1, 0, none⟩ = false := HP3.out.frozen 0
          have p1 : w3.cell? ⟨W.heap.size + 1 + 1, 1, none⟩ = some ((.int .i64 s.l)) := HP3.out.cell 1
          have pf1 : w3.frozen? ⟨W.heap.size + 1 + 1, 1, none⟩ = false := HP3.out.frozen 1
          have p2 : w3.cell? ⟨W.heap.size + 1 + 1, 2, none⟩ = some ((.int .i64 s.r)) := HP3.out.cell 2
          have pf2 : w3.frozen? ⟨W.heap.size + 1 + 1, 2, none⟩ = false := HP3.out.frozen 2
          have p3 : w3.cell? ⟨W.heap.size + 1 + 1, 3, none⟩ = some ((.int .i64 s.t)) := HP3.out.cell 3
          have pf3 : w3.frozen? ⟨W.heap.size + 1 + 1, 3, none⟩ = false := HP3.out.frozen 3
          have q0 : w3.cell? ⟨gq, 0, none⟩ = some ((.int .i64 q.f)) := HQ3.out.cell 0
          have q1 : w3.cell? ⟨gq, 1, none⟩ = some ((.int .i64 q.l)) := HQ3.out.cell 1
          have q2 : w3.cell? ⟨gq, 2, none⟩ = some ((.int .i64 q.r)) := HQ3.out.cell 2
          have q3 : w3.cell? ⟨gq, 3, none⟩ = some ((.int .i64 q.t)) := HQ3.out.cell 3
          refine wp_region_still_tail 21 (by kernel_rfl) (by kernel_rfl) ?_
          simp only [List.take_succ_cons, List.take_zero, List.drop_succ_cons, List.drop_zero]
          still_step
          still_step
          still_step
          still_step
          still_call (more_q _ _ _)
          still_step
          still_step
          still_step
          still_step
          still_call (less_q _ _ _)
          still_step
          still_step
          still_step
          still_step
          still_call (more_q _ _ _)
          still_step
          still_step
          still_step
          still_step
          still_call (less_q _ _ _)
          still_step
          try refine wpStill_nil ?_
          have HJd := Lib.hid (show RSt W w3.drew _ s from ⟨HJ3.out.1.drew, HJ3.out.2.1.drew, HJ3.out.2.2.1.drew, HJ3.out.2.2.2.drew⟩)
          change wpList _ _ _ _ _ w3.drew
          go_wp2
          exact ⟨⟨k + 1, joinM s q, by omega, by go_num, HD, Lib.hid (HJd.out.put (joinM s q))⟩, by simp [intOf]; omega⟩
        · obtain rfl : n = k := by omega
          have HE := Lib.hid (show foldM ks Sp.whole = s from by rw [← HS.out, List.drop_of_length_le (by rw [HN.out]; exact Nat.le_refl _)]; unfold foldM; rfl)
          have HP := Lib.hid HJ.out.2.2.1
          have hs := HE.out
          clear HE
          have p0 : wr.cell? ⟨W.heap.size + 1 + 1, 0, none⟩ = some ((.int .i64 s.f)) := HP.out.cell 0
          have p1 : wr.cell? ⟨W.heap.size + 1 + 1, 1, none⟩ = some ((.int .i64 s.l)) := HP.out.cell 1
          have p2 : wr.cell? ⟨W.heap.size + 1 + 1, 2, none⟩ = some ((.int .i64 s.r)) := HP.out.cell 2
          have p3 : wr.cell? ⟨W.heap.size + 1 + 1, 3, none⟩ = some ((.int .i64 s.t)) := HP.out.cell 3
          go_wp2_with fail
          with_reducible refine (none_c s _).mono ?_
          rintro e w4 ⟨rfl, hb4⟩
          have HF := Lib.hid (HJ.out.next hb4)
          clear hb4 HJ
          have HP4 := Lib.hid HF.out.2.2.1
          have HR4 := Lib.hid HF.out.2.1
          have HW4 := Lib.hid HF.out.2.2.2
          clear HF
          have z0 : w4.cell? ⟨W.heap.size + 1, 0, none⟩ = some ((.int .i64 0)) := HR4.out.cell 0
          have zf0 : w4.frozen? ⟨W.heap.size + 1, 0, none⟩ = false := HR4.out.frozen 0
          have z1 : w4.cell? ⟨W.heap.size + 1, 1, none⟩ = some ((.int .i64 0)) := HR4.out.cell 1
          have zf1 : w4.frozen? ⟨W.heap.size + 1, 1, none⟩ = false := HR4.out.frozen 1
          have z2 : w4.cell? ⟨W.heap.size + 1, 2, none⟩ = some ((.int .i64 0)) := HR4.out.cell 2
          have zf2 : w4.frozen? ⟨W.heap.size + 1, 2, none⟩ = false := HR4.out.frozen 2
          have z3 : w4.cell? ⟨W.heap.size + 1, 3, none⟩ = some ((.int .i64 0)) := HR4.out.cell 3
          have zf3 : w4.frozen? ⟨W.heap.size + 1, 3, none⟩ = false := HR4.out.frozen 3
          cases hvd : Sp.void s
          · have HE := Lib.hid (show ofF (.mk 6 a b name ks) = s from by unfold ofF; rw [if_neg (by decide), if_neg (by decide), if_pos rfl, hs]; unfold Sp.norm; rw [hvd]; rfl)
            clear hvd
            have HP5 := Lib.hid (show Blk w4 (W.heap.size + 2) 28 (spc s) from HP4.out)
            have p0 : w4.cell? ⟨W.heap.size + 1 + 1, 0, none⟩ = some ((.int .i64 (s : Sp).f)) := HP5.out.cell 0
            have p1 : w4.cell? ⟨W.heap.size + 1 + 1, 1, none⟩ = some ((.int .i64 (s : Sp).l)) := HP5.out.cell 1
            have p2 : w4.cell? ⟨W.heap.size + 1 + 1, 2, none⟩ = some ((.int .i64 (s : Sp).r)) := HP5.out.cell 2
            have p3 : w4.cell? ⟨W.heap.size + 1 + 1, 3, none⟩ = some ((.int .i64 (s : Sp).t)) := HP5.out.cell 3
            go_wp2
            exact bodyPost_ret (rOf_res (put4 HR4.out) _ rfl) rfl ⟨by rw [HE.out], put4_below HW4.out (by omega)⟩
          · have HE := Lib.hid (show ofF (.mk 6 a b name ks) = .empty from by unfold ofF; rw [if_neg (by decide), if_neg (by decide), if_pos rfl, hs]; unfold Sp.norm; rw [hvd]; rfl)
            clear hvd
            go_wp2
            exact bodyPost_ret (rOf_res (put4 HR4.out) _ rfl) rfl ⟨by rw [HE.out]; rfl, put4_below HW4.out (by omega)⟩
    by_cases h7 : op = 7
    · subst h7
      go_wp2
      have HS := Lib.hid (RSt.new W #[.int .i64 7, .int .i64 a, .int .i64 b, .string name, .slice A n c] Sp.empty)
      go_loopw [6] (fun i wr => ∃ (k : Nat) (s : Sp), k ≤ n ∧ i = .int .i64 k ∧ Hid (foldL (ks.drop k) s = foldL ks Sp.empty) ∧ Hid (RSt W wr #[.int .i64 7, .int .i64 a, .int .i64 b, .string name, .slice A n c] s)) (fun i _ => n - (intOf i).toNat)
      case atStart => exact ⟨0, Sp.empty, Nat.zero_le _, rfl, Lib.hid rfl, HS⟩
      case round =>
        clear HS
        obtain ⟨k, s, hk, rfl, HS, HJ⟩ := hrel
        have r4 : wr.cell? ⟨W.heap.size, 4, none⟩ = some (.slice A n c) := HJ.out.1.cell 4
        have hz := HJ.out.2.2.2.size
        by_cases hlt : k < n
        · obtain ⟨ad, op', a', b', name', A', n', c', t', v', rfl, hkt, hvt, hve, hft, d0, d1, d2, d3, d4⟩ := HKI.out wr (HB.out.trans (HJ.out.2.2.2.mono hBW)) k hlt
          have ihk := IH.out k v' t' hvt hkt
          subst hve
          have HIK := Lib.hid ihk
          have HKT := Lib.hid hkt
          have i1 : (0 : Int) ≤ (k : Int) := by omega
          have i2 : (k : Int) < (n : Int) := by omega
          clear hkt hvt ihk
          have HD := Lib.hid (show foldL (ks.drop (k + 1)) (joinL s (ofF t')) = foldL ks Sp.empty from by rw [← HS.out, drop_cons_of ks k t' HKT.out]; conv => rhs; unfold foldL)
          have hjb := HB.out.trans (HJ.out.2.2.2.mono hBW)
          have hjz : B ≤ wr.heap.size := by omega
          go_wp2_with fail
          with_reducible refine (HIK.out _ hjb hjz).mono ?_
          rintro e w2 ⟨rfl, hb2⟩
          clear hjb hjz d0 d1 d2 d3 d4 r4
          generalize ofF t' = q at HD ⊢
          have HJ3 := Lib.hid ((HJ.out.next hb2).next ((Below.refl w2.heap.size w2).alloc (Nat.le_refl _) (.cells (spc q) 28)))
          have HQ3 := Lib.hid (Blk.new w2 28 (spc q))
          clear hb2 HJ
          have HP3 := Lib.hid HJ3.out.2.2.1
          have p0 : (w2.alloc (.cells (spc q) 28)).cell? ⟨W.heap.size + 1 + 1, 0, none⟩ = some ((.int .i64 s.f)) := HP3.out.cell 0
          have p1 : (w2.alloc (.cells (spc q) 28)).cell? ⟨W.heap.size + 1 + 1, 1, none⟩ = some ((.int .i64 s.l)) := HP3.out.cell 1
          have p2 : (w2.alloc (.cells (spc q) 28)).cell? ⟨W.heap.size + 1 + 1, 2, none⟩ = some ((.int .i64 s.r)) := HP3.out.cell 2
          have p3 : (w2.alloc (.cells (spc q) 28)).cell? ⟨W.heap.size + 1 + 1, 3, none⟩ = some ((.int .i64 s.t)) := HP3.out.cell 3
          go_wp2_with fail
          with_reducible refine (none_c s _).mono ?_
          rintro e w4 ⟨rfl, hb4⟩
          have HJ4 := Lib.hid (HJ3.out.next hb4)
          have HQ4 := Lib.hid (HQ3.out.below hb4 HQ3.out.lt)
          have HP4 := Lib.hid HJ4.out.2.2.1
          clear hb4 HJ3 HQ3 HP3 p0 p1 p2 p3
          generalize w2.heap.size = gq at HQ4 ⊢
          have p0 : w4.cell? ⟨W.heap.size + 1 + 1, 0, none⟩ = some ((.int .i64 s.f)) := HP4.out.cell 0
          have pf0 : w4.frozen? ⟨W.heap.size + 1 + 1, 0, none⟩ = false := HP4.out.frozen 0
          have p1 : w4.cell? ⟨W.heap.size + 1 + 1, 1, none⟩ = some ((.int .i64 s.l)) := HP4.out.cell 1
          have pf1 : w4.frozen? ⟨W.heap.size + 1 + 1, 1, none⟩ = false := HP4.out.frozen 1
          have p2 : w4.cell? ⟨W.heap.size + 1 + 1, 2, none⟩ = some ((.int .i64 s.r)) := HP4.out.cell 2
          have pf2 : w4.frozen? ⟨W.heap.size + 1 + 1, 2, none⟩ = false := HP4.out.frozen 2
          have p3 : w4.cell? ⟨W.heap.size + 1 + 1, 3, none⟩ = some ((.int .i64 s.t)) := HP4.out.cell 3
          have pf3 : w4.frozen? ⟨W.heap.size + 1 + 1, 3, none⟩ = false := HP4.out.frozen 3
          have q0 : w4.cell? ⟨gq, 0, none⟩ = some ((.int .i64 q.f)) := HQ4.out.cell 0
          have q1 : w4.cell? ⟨gq, 1, none⟩ = some ((.int .i64 q.l)) := HQ4.out.cell 1
          have q2 : w4.cell? ⟨gq, 2, none⟩ = some ((.int .i64 q.r)) := HQ4.out.cell 2
          have q3 : w4.cell? ⟨gq, 3, none⟩ = some ((.int .i64 q.t)) := HQ4.out.cell 3
          cases hvs : s.void
          · have HD2 := Lib.hid (show foldL (ks.drop (k + 1)) (if q.void = true then s else joinW s q) = foldL ks Sp.empty from by rw [← HD.out]; unfold joinL; rw [hvs]; rfl)
            go_wp2_with fail
            with_reducible refine (none_c q _).mono ?_
            rintro e w5 ⟨rfl, hb5⟩
            have HJ5 := Lib.hid (HJ4.out.next hb5)
            have HQ5 := Lib.hid (HQ4.out.below hb5 HQ4.out.lt)
            have HP5 := Lib.hid HJ5.out.2.2.1
            clear hb5 HJ4 HQ4 HP4 p0 p1 p2 p3 pf0 pf1 pf2 pf3 q0 q1 q2 q3 HD
            have p0 : w5.cell? ⟨W.heap.size + 1 + 1, 0, none⟩ = some ((.int .i64 s.f)) := HP5.out.cell 0
            have pf0 : w5.frozen? ⟨W.heap.size + 1 + 1, 0, none⟩ = false := HP5.out.frozen 0
            have p1 : w5.cell? ⟨W.heap.size + 1 + 1, 1, none⟩ = some ((.int .i64 s.l)) := HP5.out.cell 1
            have pf1 : w5.frozen? ⟨W.heap.size + 1 + 1, 1, none⟩ = false := HP5.out.frozen 1
            have p2 : w5.cell? ⟨W.heap.size + 1 + 1, 2, none⟩ = some ((.int .i64 s.r)) := HP5.out.cell 2
            have pf2 : w5.frozen? ⟨W.heap.size + 1 + 1, 2, none⟩ = false := HP5.out.frozen 2
            have p3 : w5.cell? ⟨W.heap.size + 1 + 1, 3, none⟩ = some ((.int .i64 s.t)) := HP5.out.cell 3
            have pf3 : w5.frozen? ⟨W.heap.size + 1 + 1, 3, none⟩ = false := HP5.out.frozen 3
            have q0 : w5.cell? ⟨gq, 0, none⟩ = some ((.int .i64 q.f)) := HQ5.out.cell 0
            have q1 : w5.cell? ⟨gq, 1, none⟩ = some ((.int .i64 q.l)) := HQ5.out.cell 1
            have q2 : w5.cell? ⟨gq, 2, none⟩ = some ((.int .i64 q.r)) := HQ5.out.cell 2
            have q3 : w5.cell? ⟨gq, 3, none⟩ = some ((.int .i64 q.t)) := HQ5.out.cell 3
            cases hvq : q.void
            · have HD3 := Lib.hid (show foldL (ks.drop (k + 1)) (joinW s q) = foldL ks Sp.empty from by rw [← HD2.out, hvq]; rfl)
              clear HD2
              go_wp2_with fail
              refine wp_region_still_tail 21 (by kernel_rfl) (by kernel_rfl) ?_
              simp only [List.take_succ_cons, List.take_zero, List.drop_succ_cons, List.drop_zero]
              still_step
              still_step
              still_step
              still_step
              still_call (less_q _ _ _)
              still_step
              still_step
              still_step
              still_step
              still_call (more_q _ _ _)
              still_step
              still_step
              still_step
              still_step
              still_call (less_q _ _ _)
              still_step
              still_step
              still_step
              still_step
              still_call (more_q _ _ _)
              still_step
              try refine wpStill_nil ?_
              have HJd := Lib.hid (show RSt W w5.drew _ s from ⟨HJ5.out.1.drew, HJ5.out.2.1.drew, HJ5.out.2.2.1.drew, HJ5.out.2.2.2.drew⟩)
              change wpList _ _ _ _ _ w5.drew
              go_wp2
              exact ⟨⟨k + 1, joinW s q, by omega, by go_num, HD3, Lib.hid (HJd.out.put (joinW s q))⟩, by simp [intOf]; omega⟩
            · have HD3 := Lib.hid (show foldL (ks.drop (k + 1)) s = foldL ks Sp.empty from by rw [← HD2.out, hvq]; rfl)
              clear HD2
              go_wp2
              exact ⟨⟨k + 1, s, by omega, by go_num, HD3, HJ5⟩, by simp [intOf]; omega⟩
          · have HD3 := Lib.hid (show foldL (ks.drop (k + 1)) q = foldL ks Sp.empty from by rw [← HD.out]; unfold joinL; rw [hvs]; rfl)
            go_wp2
            exact ⟨⟨k + 1, q, by omega, by go_num, HD3, Lib.hid (HJ4.out.put q)⟩, by simp [intOf]; omega⟩
        · obtain rfl : n = k := by omega
          have HE := Lib.hid (show foldL ks Sp.empty = s from by rw [← HS.out, List.drop_of_length_le (by rw [HN.out]; exact Nat.le_refl _)]; unfold foldL; rfl)
          have HP := Lib.hid HJ.out.2.2.1
          have hs := HE.out
          clear HE
          have p0 : wr.cell? ⟨W.heap.size + 1 + 1, 0, none⟩ = some ((.int .i64 s.f)) := HP.out.cell 0
          have p1 : wr.cell? ⟨W.heap.size + 1 + 1, 1, none⟩ = some ((.int .i64 s.l)) := HP.out.cell 1
          have p2 : wr.cell? ⟨W.heap.size + 1 + 1, 2, none⟩ = some ((.int .i64 s.r)) := HP.out.cell 2
          have p3 : wr.cell? ⟨W.heap.size + 1 + 1, 3, none⟩ = some ((.int .i64 s.t)) := HP.out.cell 3
          go_wp2_with fail
          with_reducible refine (none_c s _).mono ?_
          rintro e w4 ⟨rfl, hb4⟩
          have HF := Lib.hid (HJ.out.next hb4)
          clear hb4 HJ
          have HP4 := Lib.hid HF.out.2.2.1
          have HR4 := Lib.hid HF.out.2.1
          have HW4 := Lib.hid HF.out.2.2.2
          clear HF
          have z0 : w4.cell? ⟨W.heap.size + 1, 0, none⟩ = some ((.int .i64 0)) := HR4.out.cell 0
          have zf0 : w4.frozen? ⟨W.heap.size + 1, 0, none⟩ = false := HR4.out.frozen 0
          have z1 : w4.cell? ⟨W.heap.size + 1, 1, none⟩ = some ((.int .i64 0)) := HR4.out.cell 1
          have zf1 : w4.frozen? ⟨W.heap.size + 1, 1, none⟩ = false := HR4.out.frozen 1
          have z2 : w4.cell? ⟨W.heap.size + 1, 2, none⟩ = some ((.int .i64 0)) := HR4.out.cell 2
          have zf2 : w4.frozen? ⟨W.heap.size + 1, 2, none⟩ = false := HR4.out.frozen 2
          have z3 : w4.cell? ⟨W.heap.size + 1, 3, none⟩ = some ((.int .i64 0)) := HR4.out.cell 3
          have zf3 : w4.frozen? ⟨W.heap.size + 1, 3, none⟩ = false := HR4.out.frozen 3
          cases hvd : Sp.void s
          · have HE := Lib.hid (show ofF (.mk 7 a b name ks) = s from by unfold ofF; rw [if_neg (by decide), if_neg (by decide), if_neg (by decide), if_pos rfl, hs]; unfold Sp.norm; rw [hvd]; rfl)
            clear hvd
            have HP5 := Lib.hid (show Blk w4 (W.heap.size + 2) 28 (spc s) from HP4.out)
            have p0 : w4.cell? ⟨W.heap.size + 1 + 1, 0, none⟩ = some ((.int .i64 (s : Sp).f)) := HP5.out.cell 0
            have p1 : w4.cell? ⟨W.heap.size + 1 + 1, 1, none⟩ = some ((.int .i64 (s : Sp).l)) := HP5.out.cell 1
            have p2 : w4.cell? ⟨W.heap.size + 1 + 1, 2, none⟩ = some ((.int .i64 (s : Sp).r)) := HP5.out.cell 2
            have p3 : w4.cell? ⟨W.heap.size + 1 + 1, 3, none⟩ = some ((.int .i64 (s : Sp).t)) := HP5.out.cell 3
            go_wp2
            exact bodyPost_ret (rOf_res (put4 HR4.out) _ rfl) rfl ⟨by rw [HE.out], put4_below HW4.out (by omega)⟩
          · have HE := Lib.hid (show ofF (.mk 7 a b name ks) = .empty from by unfold ofF; rw [if_neg (by decide), if_neg (by decide), if_neg (by decide), if_pos rfl, hs]; unfold Sp.norm; rw [hvd]; rfl)
            clear hvd
            go_wp2
            exact bodyPost_ret (rOf_res (put4 HR4.out) _ rfl) rfl ⟨by rw [HE.out]; rfl, put4_below HW4.out (by omega)⟩
    go_wp2_with fail
    have HS := Lib.hid (RSt.new W #[.int .i64 op, .int .i64 a, .int .i64 b, .string name, .slice A n c] .whole)
    with_reducible refine (none_c ⟨0, 4294967296, 0, 1099511627776⟩ _).mono ?_
    rintro e w4 ⟨rfl, hb4⟩
    have HF := Lib.hid (HS.out.next hb4)
    clear hb4 HS
    have HP4 := Lib.hid HF.out.2.2.1
    have HR4 := Lib.hid HF.out.2.1
    have HW4 := Lib.hid HF.out.2.2.2
    clear HF
    have z0 : w4.cell? ⟨W.heap.size + 1, 0, none⟩ = some ((.int .i64 0)) := HR4.out.cell 0
    have zf0 : w4.frozen? ⟨W.heap.size + 1, 0, none⟩ = false := HR4.out.frozen 0
    have z1 : w4.cell? ⟨W.heap.size + 1, 1, none⟩ = some ((.int .i64 0)) := HR4.out.cell 1
    have zf1 : w4.frozen? ⟨W.heap.size + 1, 1, none⟩ = false := HR4.out.frozen 1
    have z2 : w4.cell? ⟨W.heap.size + 1, 2, none⟩ = some ((.int .i64 0)) := HR4.out.cell 2
    have zf2 : w4.frozen? ⟨W.heap.size + 1, 2, none⟩ = false := HR4.out.frozen 2
    have z3 : w4.cell? ⟨W.heap.size + 1, 3, none⟩ = some ((.int .i64 0)) := HR4.out.cell 3
    have zf3 : w4.frozen? ⟨W.heap.size + 1, 3, none⟩ = false := HR4.out.frozen 3
    cases hvd : Sp.void ⟨0, 4294967296, 0, 1099511627776⟩
    · have HE := Lib.hid (show ofF (.mk op a b name ks) = ⟨0, 4294967296, 0, 1099511627776⟩ from by unfold ofF; rw [if_neg h2, if_neg h3, if_neg h6, if_neg h7]; unfold Sp.norm; rw [show Sp.whole = ⟨0, 4294967296, 0, 1099511627776⟩ from rfl, hvd]; rfl)
      clear hvd
      have HP5 := Lib.hid (show Blk w4 (W.heap.size + 2) 28 (spc ⟨0, 4294967296, 0, 1099511627776⟩) from HP4.out)
      have p0 : w4.cell? ⟨W.heap.size + 1 + 1, 0, none⟩ = some ((.int .i64 (⟨0, 4294967296, 0, 1099511627776⟩ : Sp).f)) := HP5.out.cell 0
      have p1 : w4.cell? ⟨W.heap.size + 1 + 1, 1, none⟩ = some ((.int .i64 (⟨0, 4294967296, 0, 1099511627776⟩ : Sp).l)) := HP5.out.cell 1
      have p2 : w4.cell? ⟨W.heap.size + 1 + 1, 2, none⟩ = some ((.int .i64 (⟨0, 4294967296, 0, 1099511627776⟩ : Sp).r)) := HP5.out.cell 2
      have p3 : w4.cell? ⟨W.heap.size + 1 + 1, 3, none⟩ = some ((.int .i64 (⟨0, 4294967296, 0, 1099511627776⟩ : Sp).t)) := HP5.out.cell 3
      go_wp2
      exact bodyPost_ret (rOf_res (put4 HR4.out) _ rfl) rfl ⟨by rw [HE.out], put4_below HW4.out (by omega)⟩
    · have HE := Lib.hid (show ofF (.mk op a b name ks) = .empty from by unfold ofF; rw [if_neg h2, if_neg h3, if_neg h6, if_neg h7]; unfold Sp.norm; rw [show Sp.whole = ⟨0, 4294967296, 0, 1099511627776⟩ from rfl, hvd]; rfl)
      clear hvd
      go_wp2
      exact bodyPost_ret (rOf_res (put4 HR4.out) _ rfl) rfl ⟨by rw [HE.out]; rfl, put4_below HW4.out (by omega)⟩
end Go.Proofs.Ytgbcgkhcmellfaa
