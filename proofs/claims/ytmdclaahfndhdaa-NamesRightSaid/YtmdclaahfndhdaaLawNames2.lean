/- The walk of the law NamesRight. -/
import Derived.Test.YtmdclaahfndhdaaLawNames
namespace Go.Proofs.Ytmdclaahfndhdaa
set_option linter.unusedVariables false
open Go.RowKit Go.Maps Go.WideMaps

theorem lists_putL_beq (ss : List ByteArray) (s : ByteArray) : decide (lists (putL ss s) = lists (putL ss s)) = true := by simp

set_option maxRecDepth 100000 in
set_option maxHeartbeats 1000000 in
theorem NamesRight_walk (A : Option Addr) (n c : Nat) (ss : List ByteArray) (s : ByteArray) (place : Int) (w : World) (hz : StrArg w A n c ss) (hs : s.size ≤ maxLen) (hpl : (Lit.int .i64 place).wf = true) :
    Calls Try.prog 6 #[.slice A n c, .string s, .int .i64 place] w fun e w' => e = .returned (.bool true) ∧ Below w.heap.size w w' := by
  obtain ⟨hr, hnc, hcm, hnil, hsz⟩ := hz
  have hcm' := hcm; unfold maxLen at hcm'
  have hs' := hs; unfold maxLen at hs'
  have hl : ss.length = n := by simpa using hr.1
  have HL := Lib.hid hl; clear hl
  have HR := Lib.hid hr; clear hr
  have HS := Lib.hid hsz; clear hsz
  by_cases hsh : (decide (n ≤ 60) && decide (∀ s ∈ ss, s.size ≤ 100)) = true
  · have HSH := Lib.hid hsh; clear hsh
    have hn60 : n ≤ 60 := by have := HSH.out; simp only [Bool.and_eq_true, decide_eq_true_eq] at this; exact this.1
    by_cases hs100 : s.size ≤ 100
    · go_enter Try.func6, Try.ntmps6
      go_wp2_with fail
      refine (Names_awake _).mono ?_
      rintro e w1 ⟨rfl, hb1⟩
      have hw1 := hb1.size
      have HR1 := Lib.hid ((HR.out.below hb1).more hb1.size)
      go_wp2_with fail
      refine (Short_no _ _ _ _ ss _ HR1.out (by omega) HS.out).mono ?_
      rintro e w1' ⟨rfl, rfl⟩
      rw [HSH.out]
      go_wp2_with fail
      refine (Put_c _ _ _ _ ss s _ HR1.out (Nat.le_refl _) (by omega) HS.out hs).mono ?_
      intro e w2 hp
      obtain ⟨A2, c2, rfl, hr2, hc2, hb2⟩ := put_u HR1.out (Nat.le_refl _) hnc hp
      have HP2 := Lib.hid hr2
      have HR2 := Lib.hid ((HR1.out.below hb2).more hb2.size)
      have hb2' := hb1.trans (hb2.mono hw1)
      have hw2 := hb2.size
      clear hp hr2 hb2
      have hln : (putL ss s).length ≤ 61 := by have := putL_len ss s; rw [HL.out] at this; omega
      obtain ⟨m, hm⟩ : ∃ m, (putL ss s).length = m := ⟨_, rfl⟩
      rw [hm] at HP2 hc2 hln ⊢
      have HM := Lib.hid hm; clear hm
      go_wp2_with fail
      refine (rPut_c _ _ _ _ ss s _ HR2.out (Nat.le_refl _) (by omega) HS.out hs).mono ?_
      intro e w3 hp
      obtain ⟨A3, c3, rfl, hr3, hc3, hb3⟩ := put_u HR2.out (Nat.le_refl _) hnc hp
      rw [HM.out] at hr3 hc3 ⊢
      have HP3 := Lib.hid hr3
      have HP2' := Lib.hid ((HP2.out.below hb3).more hb3.size)
      have HR3 := Lib.hid ((HR2.out.below hb3).more hb3.size)
      have hb3' := hb2'.trans (hb3.mono (by have := hb1.size; omega))
      have hw3 := hb3.size
      clear hp hr3 hb3
      go_wp2_with fail
      refine (Right_c _ _ _ _ ss _ HR3.out (Nat.le_refl _) (by omega) HS.out).mono ?_
      rintro e w4 ⟨rfl, hb4⟩
      have HR4 := Lib.hid ((HR3.out.below hb4).more hb4.size)
      have HP24 := Lib.hid ((HP2'.out.below hb4).more hb4.size)
      have HP34 := Lib.hid ((HP3.out.below hb4).more hb4.size)
      have hb4' := hb3'.trans (hb4.mono (by omega))
      have hw4 := hb4.size
      clear hb4
      have hbb : (rightB (lists ss) != rightB (lists ss)) = false := by simp
      have hpp : ((placeOf (lists ss) s.data.toList : Int) != (placeOf (lists ss) s.data.toList : Int)) = false := by simp
      have hee : (putErr (lists ss) s.data.toList != putErr (lists ss) s.data.toList) = false := by simp
      go_wp2_with fail
      refine (rRight_c _ _ _ _ ss _ HR4.out (by omega) HS.out).mono ?_
      rintro e w4' ⟨rfl, rfl⟩
      go_wp2_with fail
      refine (Place_c _ _ _ _ ss s _ HR4.out (Nat.le_refl _) (by omega) HS.out hs).mono ?_
      rintro e w5 ⟨rfl, hb5⟩
      have HR5 := Lib.hid ((HR4.out.below hb5).more hb5.size)
      have HP25 := Lib.hid ((HP24.out.below hb5).more hb5.size)
      have HP35 := Lib.hid ((HP34.out.below hb5).more hb5.size)
      have hb5' := hb4'.trans (hb5.mono (by omega))
      have hw5 := hb5.size
      clear hb5
      go_wp2_with fail
      refine (rPlace_c _ _ _ _ ss s _ HR5.out (by omega)).mono ?_
      rintro e w5' ⟨rfl, rfl⟩
      go_wp2_with fail
      refine (Same_c _ _ _ _ _ _ _ (putL ss s) (putL ss s) _ HP25.out HP35.out (by omega) (by omega) (Nat.le_refl _)).mono ?_
      rintro e w6 ⟨rfl, hb6⟩
      rw [lists_putL_beq]
      have HR6 := Lib.hid ((HR5.out.below hb6).more hb6.size)
      have hb6' := hb5'.trans (hb6.mono (by omega))
      have hw6 := hb6.size
      clear hb6
      go_wp2_with fail
      by_cases hp : place < 1 ∨ (n : Int) < place
      · refine (At_no _ _ _ _ _ (by omega) hp).mono ?_
        rintro e w6' ⟨rfl, rfl⟩
        rcases hp with hp | hp
        · go_wp2
          go_ret
          exact ⟨rfl, hb6'⟩
        · have hp1 : ¬ place < 1 := by omega
          go_wp2
          go_ret
          exact ⟨rfl, hb6'⟩
      · obtain ⟨k, rfl⟩ : ∃ k : Nat, place = (k : Int) + 1 := ⟨(place - 1).toNat, by omega⟩
        have hkn : k < n := by omega
        obtain ⟨ad, x, rfl, hb, hx, hc⟩ := HR6.out.str_at hkn
        refine (At_yes _ _ _ _ k ss x _ HR6.out (by omega) hx).mono ?_
        rintro e w6' ⟨rfl, rfl⟩
        have hxx : (x.toList == x.toList) = true := by simp
        clear hx hp hpl hcm hbb hpp hee HS
        go_wp2
        go_ret
        exact ⟨rfl, hb6'⟩
    · go_enter Try.func6, Try.ntmps6
      go_wp2_with fail
      refine (Names_awake _).mono ?_
      rintro e w1 ⟨rfl, hb1⟩
      have HR1 := Lib.hid ((HR.out.below hb1).more hb1.size)
      go_wp2_with fail
      refine (Short_no _ _ _ _ ss _ HR1.out (by omega) HS.out).mono ?_
      rintro e w1' ⟨rfl, rfl⟩
      rw [HSH.out]
      go_wp2
      go_ret
      exact ⟨rfl, hb1⟩
  · have hsh' : (decide (n ≤ 60) && decide (∀ s ∈ ss, s.size ≤ 100)) = false := by simpa using hsh
    have HSH := Lib.hid hsh'; clear hsh hsh'
    go_enter Try.func6, Try.ntmps6
    go_wp2_with fail
    refine (Names_awake _).mono ?_
    rintro e w1 ⟨rfl, hb1⟩
    have HR1 := Lib.hid ((HR.out.below hb1).more hb1.size)
    go_wp2_with fail
    refine (Short_no _ _ _ _ ss _ HR1.out (by omega) HS.out).mono ?_
    rintro e w1' ⟨rfl, rfl⟩
    rw [HSH.out]
    go_wp2
    go_ret
    exact ⟨rfl, hb1⟩
end Go.Proofs.Ytmdclaahfndhdaa
