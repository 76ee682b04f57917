/- The walk of the law NamesPlaces. -/
import Derived.Test.YtmdclaahfndhdaaLawNames
namespace Go.Proofs.Ytmdclaahfndhdaa
set_option linter.unusedVariables false
open Go.RowKit Go.Maps Go.WideMaps

theorem rightB_len {l : List (List UInt8)} (h : rightB l = true) : l.length ≤ 32 := by
  unfold rightB at h; rw [decide_eq_true_eq] at h; exact h.1
theorem rightB_snoc {l : List (List UInt8)} {s : List UInt8} (h : rightB l = true) (hn : namedB s = true) (hp : placeOf l s = 0) (hl : l.length ≠ 32) : rightB (l ++ [s]) = true := by
  have h1 := rightB_len h
  unfold rightB at h ⊢
  rw [decide_eq_true_eq] at h ⊢
  refine ⟨by simp; omega, (nodup_snoc l s).2 ⟨h.2.1, (placeOf_zero l s).1 hp⟩, fun x hx => ?_⟩
  rcases List.mem_append.1 hx with h' | h'
  · exact h.2.2 x h'
  · simp at h'; subst h'; exact hn
theorem placeOf_unnamed {l : List (List UInt8)} {s : List UInt8} (h : rightB l = true) (hn : namedB s = false) : placeOf l s = 0 := by
  unfold rightB at h
  rw [decide_eq_true_eq] at h
  rw [placeOf_zero]
  intro hm
  have := h.2.2 s hm
  rw [hn] at this
  cases this
theorem bytes_ext {a b : ByteArray} (h : a.data.toList = b.data.toList) : a = b := by
  cases a; cases b
  simp only [ByteArray.mk.injEq] at *
  exact Array.toList_inj.1 h
theorem Reads.preS {w : World} {B n k : Nat} {A : Option Addr} {zs : List ByteArray} (h : Reads w B 1 A n (zs.map Value.string)) (hk : k ≤ n) : Reads w B 1 A k ((zs.take k).map Value.string) := by
  have hl : zs.length = n := by simpa using h.1
  refine ⟨by simp; omega, fun hk0 => ?_⟩
  obtain ⟨ad, rfl, hb, hc⟩ := h.2 (by omega)
  refine ⟨ad, rfl, hb, fun j u hu => hc j u ?_⟩
  simp only [List.getElem?_map, Option.map_eq_some_iff, List.getElem?_take] at hu ⊢
  obtain ⟨z, hz, rfl⟩ := hu
  split at hz
  · exact ⟨z, hz, rfl⟩
  · cases hz

def LRel (w : World) (n : Nat) (l i : Value) (wr : World) : Prop :=
  ∃ (k : Nat) (tt : List ByteArray) (Al : Option Addr) (n2 cl : Nat), k ≤ n ∧ i = .int .i64 k ∧ l = .slice Al n2 cl ∧ Reads wr wr.heap.size 1 Al n2 (tt.map Value.string) ∧ n2 ≤ cl ∧ rightB (lists tt) = true ∧ (∀ x ∈ tt, x.size ≤ maxLen) ∧ Below w.heap.size w wr

set_option maxRecDepth 100000 in
set_option maxHeartbeats 4000000 in
theorem NamesPlaces_walk (A : Option Addr) (n c : Nat) (ss : List ByteArray) (w : World) (hz : StrArg w A n c ss) :
    Calls Try.prog 7 #[.slice A n c] w fun e w' => e = .returned (.bool true) ∧ Below w.heap.size w w' := by
  obtain ⟨hr, hnc, hcm, hnil, hsz⟩ := hz
  have hcm' := hcm; unfold maxLen at hcm'
  have hl : ss.length = n := by simpa using hr.1
  have HL := Lib.hid hl; clear hl
  have HR := Lib.hid hr; clear hr
  have HS := Lib.hid hsz; clear hsz
  by_cases hsh : (decide (n ≤ 60) && decide (∀ s ∈ ss, s.size ≤ 100)) = true
  · have HSH := Lib.hid hsh; clear hsh
    have hn60 : n ≤ 60 := by have := HSH.out; simp only [Bool.and_eq_true, decide_eq_true_eq] at this; exact this.1
    have HS1 : Hid (∀ s ∈ ss, s.size ≤ 100) := by have := HSH.out; simp only [Bool.and_eq_true, decide_eq_true_eq] at this; exact this.2
    go_enter Try.func7, Try.ntmps7
    go_wp2_with fail
    refine (Names_awake _).mono ?_
    rintro e w1 ⟨rfl, hb1⟩
    have hw1 := hb1.size
    have HR1 := Lib.hid ((HR.out.below hb1).more hb1.size)
    go_wp2_with fail
    refine (Short_no _ _ _ _ ss _ HR1.out (by omega) HS.out).mono ?_
    rintro e w1' ⟨rfl, rfl⟩
    rw [HSH.out]
    go_wp2
    go_loopw [3, 4] (fun l i wr => LRel w n l i wr) (fun _ i _ => n - (intOf i).toNat)
    case atStart => exact ⟨0, [], none, 0, 0, Nat.zero_le _, rfl, rfl, Reads.none_, Nat.le_refl _, by decide, by simp, hb1⟩
    case round =>
      obtain ⟨k, tt, Al, n2, cl, hk, rfl, rfl, hrl, hcl, hrt, hst, hbr⟩ := hrel
      have hwr := hbr.size
      by_cases hlt : k < n
      · have hl2 : tt.length = n2 := by simpa using hrl.1
        have HL2 := Lib.hid ((lists_length tt).trans hl2)
        have HRT := Lib.hid hrt
        have hn32 : n2 ≤ 32 := by have := rightB_len hrt; rw [HL2.out] at this; exact this
        have HRL := Lib.hid hrl
        have HST := Lib.hid hst
        have HRA := Lib.hid ((HR.out.below hbr).more hwr)
        obtain ⟨ad, s, rfl, hb, hx, hc⟩ := HRA.out.str_at hlt
        have hs100 := HS1.out s (List.mem_of_getElem? hx)
        have hsM : s.size ≤ maxLen := by unfold maxLen; omega
        have HX := Lib.hid hx
        have hxx : (s.toList == s.toList) = true := by simp
        clear hrl hst hx hrt hl2 hb hnil hcm
        by_cases hN : namedB s.data.toList = true
        · by_cases hP : placeOf (lists tt) s.data.toList = 0
          · by_cases h32 : n2 = 32
            · subst h32
              have HE := Lib.hid (show putErr (lists tt) s.data.toList = 9 from by unfold putErr; rw [HRT.out, hN, hP, HL2.out]; rfl)
              have HPL := Lib.hid (show putL tt s = tt from by unfold putL; rw [HE.out, if_neg (by decide)])
              have HPP := Lib.hid hP
              clear hP
              go_wp2_with fail
              refine (Put_c _ _ _ _ tt s _ HRL.out (Nat.le_refl _) (by omega) HST.out hsM).mono ?_
              intro e w2 hp
              obtain ⟨A2, c2, rfl, hr2, hc2, hb2⟩ := put_u HRL.out (Nat.le_refl _) hcl hp
              have hlen : (putL tt s).length = 32 := by rw [HPL.out]; rw [← lists_length, HL2.out]
              rw [HE.out, hlen]
              rw [hlen] at hc2 hr2
              rw [HPL.out] at hr2
              have HP2 := Lib.hid hr2
              have HRA2 := Lib.hid ((HRA.out.below hb2).more hb2.size)
              have HRL2 := Lib.hid ((HRL.out.below hb2).more hb2.size)
              have hb2' := hbr.trans (hb2.mono hwr)
              have hw2 := hb2.size
              obtain ⟨_, s2, e2, _, hx2, hc2'⟩ := HRA2.out.str_at hlt
              obtain rfl : s = s2 := by rw [HX.out] at hx2; injection hx2
              cases e2
              have HST2 := Lib.hid (show ∀ x ∈ tt, x.size ≤ maxLen from by have := putL_size HST.out hsM; rw [HPL.out] at this; exact this)
              clear hp hr2 hb2 hlen hx2 hc
              go_wp2_with fail
              refine (Place_c _ _ _ _ tt s _ HP2.out (Nat.le_refl _) (by omega) HST2.out hsM).mono ?_
              rintro e w3 ⟨rfl, hb3⟩
              rw [HPP.out]
              have HP3 := Lib.hid ((HP2.out.below hb3).more hb3.size)
              have HRA3 := Lib.hid ((HRA2.out.below hb3).more hb3.size)
              have HRL3 := Lib.hid ((HRL2.out.below hb3).more hb3.size)
              have hb3' := hb2'.trans (hb3.mono (by omega))
              have hw3 := hb3.size
              clear hb3
              go_wp2_with fail
              refine (Right_c _ _ _ _ tt _ HP3.out (Nat.le_refl _) (by omega) HST2.out).mono ?_
              rintro e w4 ⟨rfl, hb4⟩
              rw [HRT.out]
              have HP4 := Lib.hid ((HP3.out.below hb4).more hb4.size)
              have HRA4 := Lib.hid ((HRA3.out.below hb4).more hb4.size)
              have HRL4 := Lib.hid ((HRL3.out.below hb4).more hb4.size)
              have hb4' := hb3'.trans (hb4.mono (by omega))
              have hw4 := hb4.size
              clear hb4
              have hn2c : 32 ≤ c2 := by omega
              have hn2m : 32 ≤ 32 := by omega
              go_wp2_with fail
              have HPP4 := Lib.hid (show Reads w4 w4.heap.size 1 A2 32 (tt.map Value.string) from by have := HP4.out.preS (k := 32) (by omega); rw [show (tt).take 32 = tt from List.take_of_length_le (by rw [← lists_length, HL2.out]; exact Nat.le_refl _)] at this; exact this)
              refine (Same_c _ _ _ _ _ _ _ tt tt _ HPP4.out HRL4.out (by omega) (by omega) (Nat.le_refl _)).mono ?_
              rintro e w5 ⟨rfl, hb5⟩
              rw [show decide (lists tt = lists tt) = true by simp]
              have HP5 := Lib.hid ((HP4.out.below hb5).more hb5.size)
              have HRA5 := Lib.hid ((HRA4.out.below hb5).more hb5.size)
              have hb5' := hb4'.trans (hb5.mono (by omega))
              have hw5 := hb5.size
              obtain ⟨_, s5, e5, _, hx5, hc5⟩ := HRA5.out.str_at hlt
              obtain rfl : s = s5 := by rw [HX.out] at hx5; injection hx5
              cases e5
              clear hb5 hx5 hc2'
              go_wp2_with fail
              refine (At_no _ _ _ _ _ (by omega) (by omega)).mono ?_
              rintro e w5' ⟨rfl, rfl⟩
              go_wp2
              go_roundw
              case rel => exact ⟨k + 1, tt, _, 32, c2, by omega, by go_num, rfl, HP5.out, by omega, HRT.out, HST2.out, hb5'⟩
              case measure => simp [intOf]; omega
            · have HE := Lib.hid (show putErr (lists tt) s.data.toList = 0 from by unfold putErr; rw [HRT.out, hN, hP, HL2.out]; simp [h32])
              have HPL := Lib.hid (show putL tt s = tt ++ [s] from by unfold putL; rw [HE.out, if_pos rfl])
              have HPP := Lib.hid (show placeOf (lists (tt ++ [s])) s.data.toList = n2 + 1 from by rw [lists_snoc, placeOf_snoc_hit _ _ hP, HL2.out])
              have HRT2 := Lib.hid (show rightB (lists (tt ++ [s])) = true from by rw [lists_snoc]; exact rightB_snoc HRT.out hN hP (by rw [HL2.out]; exact h32))
              clear hP h32
              go_wp2_with fail
              refine (Put_c _ _ _ _ tt s _ HRL.out (Nat.le_refl _) (by omega) HST.out hsM).mono ?_
              intro e w2 hp
              obtain ⟨A2, c2, rfl, hr2, hc2, hb2⟩ := put_u HRL.out (Nat.le_refl _) hcl hp
              have hlen : (putL tt s).length = n2 + 1 := by rw [HPL.out]; rw [List.length_append, ← lists_length, HL2.out]; rfl
              rw [HE.out, hlen]
              rw [hlen] at hc2 hr2
              rw [HPL.out] at hr2
              have HP2 := Lib.hid hr2
              have HRA2 := Lib.hid ((HRA.out.below hb2).more hb2.size)
              have HRL2 := Lib.hid ((HRL.out.below hb2).more hb2.size)
              have hb2' := hbr.trans (hb2.mono hwr)
              have hw2 := hb2.size
              obtain ⟨_, s2, e2, _, hx2, hc2'⟩ := HRA2.out.str_at hlt
              obtain rfl : s = s2 := by rw [HX.out] at hx2; injection hx2
              cases e2
              have HST2 := Lib.hid (show ∀ x ∈ (tt ++ [s]), x.size ≤ maxLen from by have := putL_size HST.out hsM; rw [HPL.out] at this; exact this)
              clear hp hr2 hb2 hlen hx2 hc
              go_wp2_with fail
              refine (Place_c _ _ _ _ (tt ++ [s]) s _ HP2.out (Nat.le_refl _) (by omega) HST2.out hsM).mono ?_
              rintro e w3 ⟨rfl, hb3⟩
              rw [HPP.out, show ((n2 + 1 : Nat) : Int) = (n2 : Int) + 1 from by omega]
              have HP3 := Lib.hid ((HP2.out.below hb3).more hb3.size)
              have HRA3 := Lib.hid ((HRA2.out.below hb3).more hb3.size)
              have HRL3 := Lib.hid ((HRL2.out.below hb3).more hb3.size)
              have hb3' := hb2'.trans (hb3.mono (by omega))
              have hw3 := hb3.size
              clear hb3
              go_wp2_with fail
              refine (Right_c _ _ _ _ (tt ++ [s]) _ HP3.out (Nat.le_refl _) (by omega) HST2.out).mono ?_
              rintro e w4 ⟨rfl, hb4⟩
              rw [HRT2.out]
              have HP4 := Lib.hid ((HP3.out.below hb4).more hb4.size)
              have HRA4 := Lib.hid ((HRA3.out.below hb4).more hb4.size)
              have HRL4 := Lib.hid ((HRL3.out.below hb4).more hb4.size)
              have hb4' := hb3'.trans (hb4.mono (by omega))
              have hw4 := hb4.size
              clear hb4
              have hn2c : n2 ≤ c2 := by omega
              have hn2m : n2 ≤ n2 + 1 := by omega
              go_wp2_with fail
              have HPP4 := Lib.hid (show Reads w4 w4.heap.size 1 A2 n2 (tt.map Value.string) from by have := HP4.out.preS (k := n2) (by omega); rw [show ((tt ++ [s])).take n2 = tt from by rw [List.take_append_of_le_length (by rw [← lists_length, HL2.out]; exact Nat.le_refl _)]; exact List.take_of_length_le (by rw [← lists_length, HL2.out]; exact Nat.le_refl _)] at this; exact this)
              refine (Same_c _ _ _ _ _ _ _ tt tt _ HPP4.out HRL4.out (by omega) (by omega) (Nat.le_refl _)).mono ?_
              rintro e w5 ⟨rfl, hb5⟩
              rw [show decide (lists tt = lists tt) = true by simp]
              have HP5 := Lib.hid ((HP4.out.below hb5).more hb5.size)
              have HRA5 := Lib.hid ((HRA4.out.below hb5).more hb5.size)
              have hb5' := hb4'.trans (hb5.mono (by omega))
              have hw5 := hb5.size
              obtain ⟨_, s5, e5, _, hx5, hc5⟩ := HRA5.out.str_at hlt
              obtain rfl : s = s5 := by rw [HX.out] at hx5; injection hx5
              cases e5
              clear hb5 hx5 hc2'
              go_wp2_with fail
              refine (At_yes _ _ _ _ n2 _ s _ HP5.out (by omega) (by rw [List.getElem?_append_right (by rw [← lists_length, HL2.out]; exact Nat.le_refl _), ← lists_length, HL2.out]; simp)).mono ?_
              rintro e w5' ⟨rfl, rfl⟩
              go_wp2
              go_roundw
              case rel => exact ⟨k + 1, (tt ++ [s]), _, n2 + 1, c2, by omega, by go_num, rfl, HP5.out, by omega, HRT2.out, HST2.out, hb5'⟩
              case measure => simp [intOf]; omega
          · have HE := Lib.hid (show putErr (lists tt) s.data.toList = 7 from by unfold putErr; rw [HRT.out, hN]; simp [hP])
            have HPL := Lib.hid (show putL tt s = tt from by unfold putL; rw [HE.out, if_neg (by decide)])
            obtain ⟨q, hq⟩ : ∃ q, placeOf (lists tt) s.data.toList = q + 1 := ⟨_, (Nat.succ_pred hP).symm⟩
            have HPP := Lib.hid hq
            have hqn : q < n2 := by have := placeOf_le (lists tt) s.data.toList; rw [HL2.out] at this; omega
            have HAT := Lib.hid (show (lists tt)[q]? = some s.data.toList from by have := placeOf_at (lists tt) s.data.toList hP; rw [hq] at this; exact this)
            clear hP hq
            go_wp2_with fail
            refine (Put_c _ _ _ _ tt s _ HRL.out (Nat.le_refl _) (by omega) HST.out hsM).mono ?_
            intro e w2 hp
            obtain ⟨A2, c2, rfl, hr2, hc2, hb2⟩ := put_u HRL.out (Nat.le_refl _) hcl hp
            have hlen : (putL tt s).length = n2 := by rw [HPL.out]; rw [← lists_length, HL2.out]
            rw [HE.out, hlen]
            rw [hlen] at hc2 hr2
            rw [HPL.out] at hr2
            have HP2 := Lib.hid hr2
            have HRA2 := Lib.hid ((HRA.out.below hb2).more hb2.size)
            have HRL2 := Lib.hid ((HRL.out.below hb2).more hb2.size)
            have hb2' := hbr.trans (hb2.mono hwr)
            have hw2 := hb2.size
            obtain ⟨_, s2, e2, _, hx2, hc2'⟩ := HRA2.out.str_at hlt
            obtain rfl : s = s2 := by rw [HX.out] at hx2; injection hx2
            cases e2
            have HST2 := Lib.hid (show ∀ x ∈ tt, x.size ≤ maxLen from by have := putL_size HST.out hsM; rw [HPL.out] at this; exact this)
            clear hp hr2 hb2 hlen hx2 hc
            go_wp2_with fail
            refine (Place_c _ _ _ _ tt s _ HP2.out (Nat.le_refl _) (by omega) HST2.out hsM).mono ?_
            rintro e w3 ⟨rfl, hb3⟩
            rw [HPP.out, show ((q + 1 : Nat) : Int) = (q : Int) + 1 from by omega]
            have HP3 := Lib.hid ((HP2.out.below hb3).more hb3.size)
            have HRA3 := Lib.hid ((HRA2.out.below hb3).more hb3.size)
            have HRL3 := Lib.hid ((HRL2.out.below hb3).more hb3.size)
            have hb3' := hb2'.trans (hb3.mono (by omega))
            have hw3 := hb3.size
            clear hb3
            go_wp2_with fail
            refine (Right_c _ _ _ _ tt _ HP3.out (Nat.le_refl _) (by omega) HST2.out).mono ?_
            rintro e w4 ⟨rfl, hb4⟩
            rw [HRT.out]
            have HP4 := Lib.hid ((HP3.out.below hb4).more hb4.size)
            have HRA4 := Lib.hid ((HRA3.out.below hb4).more hb4.size)
            have HRL4 := Lib.hid ((HRL3.out.below hb4).more hb4.size)
            have hb4' := hb3'.trans (hb4.mono (by omega))
            have hw4 := hb4.size
            clear hb4
            have hn2c : n2 ≤ c2 := by omega
            have hn2m : n2 ≤ n2 := by omega
            go_wp2_with fail
            have HPP4 := Lib.hid (show Reads w4 w4.heap.size 1 A2 n2 (tt.map Value.string) from by have := HP4.out.preS (k := n2) (by omega); rw [show (tt).take n2 = tt from List.take_of_length_le (by rw [← lists_length, HL2.out]; exact Nat.le_refl _)] at this; exact this)
            refine (Same_c _ _ _ _ _ _ _ tt tt _ HPP4.out HRL4.out (by omega) (by omega) (Nat.le_refl _)).mono ?_
            rintro e w5 ⟨rfl, hb5⟩
            rw [show decide (lists tt = lists tt) = true by simp]
            have HP5 := Lib.hid ((HP4.out.below hb5).more hb5.size)
            have HRA5 := Lib.hid ((HRA4.out.below hb5).more hb5.size)
            have hb5' := hb4'.trans (hb5.mono (by omega))
            have hw5 := hb5.size
            obtain ⟨_, s5, e5, _, hx5, hc5⟩ := HRA5.out.str_at hlt
            obtain rfl : s = s5 := by rw [HX.out] at hx5; injection hx5
            cases e5
            clear hb5 hx5 hc2'
            go_wp2_with fail
            obtain ⟨adq, xq, rfl, _, hxq, _⟩ := HP5.out.str_at hqn
            obtain rfl : s = xq := by have h := lists_get _ _ _ hxq; rw [HAT.out] at h; injection h with h; exact bytes_ext h
            refine (At_yes _ _ _ _ q _ _ _ HP5.out (by omega) hxq).mono ?_
            clear hxq
            rintro e w5' ⟨rfl, rfl⟩
            go_wp2
            go_roundw
            case rel => exact ⟨k + 1, tt, _, n2, c2, by omega, by go_num, rfl, HP5.out, by omega, HRT.out, HST2.out, hb5'⟩
            case measure => simp [intOf]; omega
        · have hN' : namedB s.data.toList = false := by simpa using hN
          have HE := Lib.hid (show putErr (lists tt) s.data.toList = 3 from by unfold putErr; rw [HRT.out, hN']; rfl)
          have HPL := Lib.hid (show putL tt s = tt from by unfold putL; rw [HE.out, if_neg (by decide)])
          have HPP := Lib.hid (placeOf_unnamed HRT.out hN')
          have hnl : ¬ (1 ≤ s.size ∧ s.size ≤ 24) := fun h => hN (by unfold namedB; rw [decide_eq_true_eq]; exact h)
          go_wp2_with fail
          refine (Put_c _ _ _ _ tt s _ HRL.out (Nat.le_refl _) (by omega) HST.out hsM).mono ?_
          intro e w2 hp
          obtain ⟨A2, c2, rfl, hr2, hc2, hb2⟩ := put_u HRL.out (Nat.le_refl _) hcl hp
          have hlen : (putL tt s).length = n2 := by rw [HPL.out]; rw [← lists_length, HL2.out]
          rw [HE.out, hlen]
          rw [hlen] at hc2 hr2
          rw [HPL.out] at hr2
          have HP2 := Lib.hid hr2
          have HRA2 := Lib.hid ((HRA.out.below hb2).more hb2.size)
          have HRL2 := Lib.hid ((HRL.out.below hb2).more hb2.size)
          have hb2' := hbr.trans (hb2.mono hwr)
          have hw2 := hb2.size
          obtain ⟨_, s2, e2, _, hx2, hc2'⟩ := HRA2.out.str_at hlt
          obtain rfl : s = s2 := by rw [HX.out] at hx2; injection hx2
          cases e2
          have HST2 := Lib.hid (show ∀ x ∈ tt, x.size ≤ maxLen from by have := putL_size HST.out hsM; rw [HPL.out] at this; exact this)
          clear hp hr2 hb2 hlen hx2 hc
          go_wp2_with fail
          refine (Place_c _ _ _ _ tt s _ HP2.out (Nat.le_refl _) (by omega) HST2.out hsM).mono ?_
          rintro e w3 ⟨rfl, hb3⟩
          rw [HPP.out]
          have HP3 := Lib.hid ((HP2.out.below hb3).more hb3.size)
          have HRA3 := Lib.hid ((HRA2.out.below hb3).more hb3.size)
          have HRL3 := Lib.hid ((HRL2.out.below hb3).more hb3.size)
          have hb3' := hb2'.trans (hb3.mono (by omega))
          have hw3 := hb3.size
          clear hb3
          go_wp2_with fail
          refine (Right_c _ _ _ _ tt _ HP3.out (Nat.le_refl _) (by omega) HST2.out).mono ?_
          rintro e w4 ⟨rfl, hb4⟩
          rw [HRT.out]
          have HP4 := Lib.hid ((HP3.out.below hb4).more hb4.size)
          have HRA4 := Lib.hid ((HRA3.out.below hb4).more hb4.size)
          have HRL4 := Lib.hid ((HRL3.out.below hb4).more hb4.size)
          have hb4' := hb3'.trans (hb4.mono (by omega))
          have hw4 := hb4.size
          clear hb4
          have hn2c : n2 ≤ c2 := by omega
          have hn2m : n2 ≤ n2 := by omega
          go_wp2_with fail
          have HPP4 := Lib.hid (show Reads w4 w4.heap.size 1 A2 n2 (tt.map Value.string) from by have := HP4.out.preS (k := n2) (by omega); rw [show (tt).take n2 = tt from List.take_of_length_le (by rw [← lists_length, HL2.out]; exact Nat.le_refl _)] at this; exact this)
          refine (Same_c _ _ _ _ _ _ _ tt tt _ HPP4.out HRL4.out (by omega) (by omega) (Nat.le_refl _)).mono ?_
          rintro e w5 ⟨rfl, hb5⟩
          rw [show decide (lists tt = lists tt) = true by simp]
          have HP5 := Lib.hid ((HP4.out.below hb5).more hb5.size)
          have HRA5 := Lib.hid ((HRA4.out.below hb5).more hb5.size)
          have hb5' := hb4'.trans (hb5.mono (by omega))
          have hw5 := hb5.size
          obtain ⟨_, s5, e5, _, hx5, hc5⟩ := HRA5.out.str_at hlt
          obtain rfl : s = s5 := by rw [HX.out] at hx5; injection hx5
          cases e5
          clear hb5 hx5 hc2'
          by_cases h1s : 1 ≤ s.size
          · have h24 : ¬ s.size ≤ 24 := fun h => hnl ⟨h1s, h⟩
            clear hnl
            go_wp2_with fail
            refine (At_no _ _ _ _ _ (by omega) (by omega)).mono ?_
            rintro e w5' ⟨rfl, rfl⟩
            go_wp2
            go_roundw
            case rel => exact ⟨k + 1, tt, _, n2, c2, by omega, by go_num, rfl, HP5.out, by omega, HRT.out, HST2.out, hb5'⟩
            case measure => simp [intOf]; omega
          · clear hnl
            go_wp2_with fail
            refine (At_no _ _ _ _ _ (by omega) (by omega)).mono ?_
            rintro e w5' ⟨rfl, rfl⟩
            go_wp2
            go_roundw
            case rel => exact ⟨k + 1, tt, _, n2, c2, by omega, by go_num, rfl, HP5.out, by omega, HRT.out, HST2.out, hb5'⟩
            case measure => simp [intOf]; omega
      · go_wp2
        go_ret
        exact ⟨rfl, hbr⟩
  · have hsh' : (decide (n ≤ 60) && decide (∀ s ∈ ss, s.size ≤ 100)) = false := by simpa using hsh
    have HSH := Lib.hid hsh'; clear hsh hsh'
    go_enter Try.func7, Try.ntmps7
    go_wp2_with fail
    refine (Names_awake _).mono ?_
    rintro e w1 ⟨rfl, hb1⟩
    have HR1 := Lib.hid ((HR.out.below hb1).more hb1.size)
    go_wp2_with fail
    refine (Short_no _ _ _ _ ss _ HR1.out (by omega) HS.out).mono ?_
    rintro e w1' ⟨rfl, rfl⟩
    rw [HSH.out]
    go_wp2
    go_ret
    exact ⟨rfl, hb1⟩
end Go.Proofs.Ytmdclaahfndhdaa
