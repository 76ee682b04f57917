/- Contracts of the package names (Right, At, Put) and of its reference. -/
import Derived.Test.YtmdclaahfndhdaaNames2
import Derived.BigQuiet
namespace Go.Proofs.Ytmdclaahfndhdaa
set_option linter.unusedVariables false
open Go.RowKit Go.Maps Go.WideMaps

theorem Right1_c (s : ByteArray) (w : World) (hs : s.size ≤ maxLen) : Calls Try.prog 61 #[.string s] w fun e w' => e = .returned (.bool (!namedB s.data.toList)) ∧ w = w' := by
  go_enter Try.func61, Try.ntmps61
  go_wp2_with (go_at_call 56; refine (Named_c _ _ hs).mono ?_; rintro e w' ⟨rfl, rfl⟩)
  go_ret
  exact ⟨rfl, rfl⟩

theorem IndexFunc_c (A : Option Addr) (n c B : Nat) (ss : List ByteArray) (w : World) (hr : Reads w B 1 A n (ss.map Value.string)) (hn : n ≤ 1000000) (hsz : ∀ s ∈ ss, s.size ≤ maxLen) :
    Calls Try.prog 66 #[.slice A n c, .func (.func 61) #[] #[]] w fun e w' => e = .returned (.int .i64 (firstIdx (fun s => !namedB s) (lists ss))) ∧ w = w' := by
  have hl : ss.length = n := by simpa using hr.1
  have HL := Lib.hid hl; clear hl
  go_enter Try.func66, Try.ntmps66
  go_wp2
  go_loop [8] (fun i => ∃ k : Nat, k ≤ n ∧ i = .int .i64 k ∧ Hid (∀ (j : Nat) y, j < k → (lists ss)[j]? = some y → (!namedB y) = false)) (fun i => n - (intOf i).toNat)
  case atStart => exact ⟨0, Nat.zero_le _, rfl, fun j y hj => by omega⟩
  case round =>
    obtain ⟨k, hk, rfl, H0⟩ := hrel
    by_cases hlt : k < n
    · obtain ⟨ad, x, rfl, hb, hx, hc⟩ := hr.str_at hlt
      have hxs := hsz x (List.mem_of_getElem? hx)
      have HX := Lib.hid (lists_get ss k x hx)
      clear hx hr
      by_cases he : namedB x.data.toList = true
      · go_wp2_with (go_at_call 61; refine (Right1_c _ _ hxs).mono ?_; rintro e w' ⟨rfl, rfl⟩)
        go_round
        case rel =>
          refine ⟨k + 1, by omega, by go_num, fun j y hj hy => ?_⟩
          rcases Nat.lt_or_ge j k with h | h
          · exact H0.out j y h hy
          · obtain rfl : j = k := by omega
            rw [HX.out] at hy
            cases hy
            rw [he]; rfl
        case measure => simp [intOf]; omega
      · have he' : namedB x.data.toList = false := by simpa using he
        go_wp2_with (go_at_call 61; refine (Right1_c _ _ hxs).mono ?_; rintro e w' ⟨rfl, rfl⟩)
        go_ret
        exact ⟨ret_i (firstIdx_hit _ _ k _ H0.out HX.out (by rw [he']; rfl)).symm, rfl⟩
    · go_wp2
      go_ret
      refine ⟨ret_i (firstIdx_none _ _ (fun j y hy => H0.out j y ?_ hy)).symm, rfl⟩
      have : j < (lists ss).length := (List.getElem?_eq_some_iff.1 hy).1
      rw [lists_length, HL.out] at this
      omega

theorem ContainsFunc_c (A : Option Addr) (n c B : Nat) (ss : List ByteArray) (w : World) (hr : Reads w B 1 A n (ss.map Value.string)) (hn : n ≤ 1000000) (hsz : ∀ s ∈ ss, s.size ≤ maxLen) :
    Calls Try.prog 60 #[.slice A n c, .func (.func 61) #[] #[]] w fun e w' => e = .returned (.bool ((lists ss).any (fun s => !namedB s))) ∧ w = w' := by
  have HI := fun W => Lib.hid (IndexFunc_c A n c B ss W)
  go_enter Try.func60, Try.ntmps60
  go_wp2_with fail
  refine ((HI _).out hr hn hsz).mono ?_
  rintro e w1 ⟨rfl, rfl⟩
  go_wp2
  go_ret
  exact ⟨ret_b (firstIdx_any _ _), rfl⟩

theorem Right_c (A : Option Addr) (n c B : Nat) (ss : List ByteArray) (w : World) (hr : Reads w B 1 A n (ss.map Value.string)) (hB : B ≤ w.heap.size) (hn : n ≤ 1000000) (hsz : ∀ s ∈ ss, s.size ≤ maxLen) :
    Calls Try.prog 27 #[.slice A n c] w fun e w' => e = .returned (.bool (rightB (lists ss))) ∧ Below w.heap.size w w' := by
  have hl : ss.length = n := by simpa using hr.1
  have HL := Lib.hid ((lists_length ss).trans hl); clear hl
  have HP := fun W => Lib.hid (places_c A n c B ss W)
  have HC := fun W => Lib.hid (ContainsFunc_c A n c B ss W)
  by_cases h32 : n ≤ 32
  · go_enter Try.func27, Try.ntmps27
    go_wp2_with fail
    refine ((HP _).out hr hB hn hsz).mono ?_
    rintro e w1 ⟨rfl, hm, hb⟩
    obtain ⟨D, h1, _, _, h4, h5⟩ := hm
    have hlen := fun ty => h1.len (P := Try.prog) Try.underlying75 ty
    rw [HL.out] at h4
    have H5 := Lib.hid h5
    have hr1 := hr.keep (w' := w1) (fun p hp => hb.cell (by omega))
    clear h1 h5
    by_cases hsz2 : Maps.size D < n
    · go_wp2
      go_ret
      refine ⟨ret_b ?_, hb⟩
      have hnn : ¬ (lists ss).Nodup := fun h => by have := H5.out.2 h; rw [HL.out] at this; omega
      unfold rightB
      simp [hnn]
    · go_wp2_with fail
      refine ((HC _).out hr1 hn hsz).mono ?_
      rintro e w2 ⟨rfl, rfl⟩
      go_wp2
      go_ret
      refine ⟨ret_b ?_, hb⟩
      have hnn : (lists ss).Nodup := H5.out.1 (by rw [HL.out]; omega)
      unfold rightB
      rw [Bool.eq_iff_iff]
      simp [hnn]
      intro _
      rw [HL.out]; exact h32
  · go_enter Try.func27, Try.ntmps27
    go_wp2_with fail
    go_ret
    refine ⟨ret_b ?_, Below.refl _ _⟩
    unfold rightB
    simp
    intro h
    rw [HL.out] at h
    omega

theorem rRight_c (A : Option Addr) (n c B : Nat) (ss : List ByteArray) (w : World) (hr : Reads w B 1 A n (ss.map Value.string)) (hn : n ≤ 1000000) (hsz : ∀ s ∈ ss, s.size ≤ maxLen) :
    Calls Try.prog 28 #[.slice A n c] w fun e w' => e = .returned (.bool (rightB (lists ss))) ∧ w = w' := by
  have hl : ss.length = n := by simpa using hr.1
  have HL := Lib.hid ((lists_length ss).trans hl); clear hl
  have HP := fun s W => Lib.hid (rPlace_c A n c B ss s W)
  have HR := Lib.hid hr
  go_enter Try.func28, Try.ntmps28
  go_wp2
  go_loop [3] (fun i => ∃ k : Nat, k ≤ n ∧ i = .int .i64 k ∧ Hid (∀ (j : Nat) s, j < k → (lists ss)[j]? = some s → j ≤ 31 ∧ namedB s = true ∧ placeOf (lists ss) s = j + 1)) (fun i => n - (intOf i).toNat)
  case atStart => exact ⟨0, Nat.zero_le _, rfl, fun j y hj => by omega⟩
  case round =>
    obtain ⟨k, hk, rfl, H0⟩ := hrel
    by_cases hlt : k < n
    · obtain ⟨ad, x, rfl, hb, hx, hc⟩ := hr.str_at hlt
      have hxs := hsz x (List.mem_of_getElem? hx)
      have HX := Lib.hid (lists_get ss k x hx)
      clear hx hr
      have hfalse : ∀ (_ : ¬ (k ≤ 31 ∧ namedB x.data.toList = true ∧ placeOf (lists ss) x.data.toList = k + 1)), false = rightB (lists ss) := fun h => by
        cases hR : rightB (lists ss)
        · rfl
        · exact absurd ((right_iff _).1 hR k _ HX.out) h
      have HF := Lib.hid hfalse; clear hfalse
      by_cases h31 : k ≤ 31
      · by_cases he : namedB x.data.toList = true
        · by_cases hp : placeOf (lists ss) x.data.toList = k + 1
          · have hne : ((placeOf (lists ss) x.data.toList : Int) != (k : Int) + 1) = false := by rw [hp]; simp
            have HPP := Lib.hid hp; clear hp
            go_wp2_with (first | (go_at_call 58; refine (rNamed_c _ _ hxs).mono ?_; rintro e w' ⟨rfl, rfl⟩) | (go_at_call 30; refine ((HP _ _).out HR.out hn).mono ?_; rintro e w' ⟨rfl, rfl⟩))
            go_round
            case rel =>
              refine ⟨k + 1, by omega, by go_num, fun j y hj hy => ?_⟩
              rcases Nat.lt_or_ge j k with h | h
              · exact H0.out j y h hy
              · obtain rfl : j = k := by omega
                rw [HX.out] at hy
                cases hy
                exact ⟨h31, he, HPP.out⟩
            case measure => simp [intOf]; omega
          · have hne : ((placeOf (lists ss) x.data.toList : Int) != (k : Int) + 1) = true := by rw [bne_iff_ne]; omega
            have HPP := Lib.hid hp; clear hp
            go_wp2_with (first | (go_at_call 58; refine (rNamed_c _ _ hxs).mono ?_; rintro e w' ⟨rfl, rfl⟩) | (go_at_call 30; refine ((HP _ _).out HR.out hn).mono ?_; rintro e w' ⟨rfl, rfl⟩))
            go_ret
            exact ⟨ret_b (HF.out fun h => HPP.out h.2.2), rfl⟩
        · have he' : namedB x.data.toList = false := by simpa using he
          go_wp2_with (first | (go_at_call 58; refine (rNamed_c _ _ hxs).mono ?_; rintro e w' ⟨rfl, rfl⟩))
          go_ret
          exact ⟨ret_b (HF.out fun h => he h.2.1), rfl⟩
      · go_wp2
        go_ret
        exact ⟨ret_b (HF.out fun h => h31 h.1), rfl⟩
    · go_wp2
      go_ret
      refine ⟨ret_b ((right_iff _).2 (fun j y hy => H0.out j y ?_ hy)).symm, rfl⟩
      have : j < (lists ss).length := (List.getElem?_eq_some_iff.1 hy).1
      rw [HL.out] at this
      omega

theorem At_no (A : Option Addr) (n c : Nat) (p : Int) (w : World) (hn : n ≤ 1000000) (h : p < 1 ∨ (n : Int) < p) :
    Calls Try.prog 32 #[.slice A n c, .int .i64 p] w fun e w' => e = .returned (.tuple #[.string ⟨#[]⟩, .int .i64 14]) ∧ w = w' := by
  by_cases h1 : p < 1
  · go_enter Try.func32, Try.ntmps32
    go_wp2
    go_ret2
    exact ⟨rfl, rfl⟩
  · have h2 : (n : Int) < p := by omega
    go_enter Try.func32, Try.ntmps32
    go_wp2
    go_ret2
    exact ⟨rfl, rfl⟩

theorem At_yes (A : Option Addr) (n c B k : Nat) (ss : List ByteArray) (s : ByteArray) (w : World) (hr : Reads w B 1 A n (ss.map Value.string)) (hn : n ≤ 1000000) (hk : ss[k]? = some s) :
    Calls Try.prog 32 #[.slice A n c, .int .i64 ((k : Int) + 1)] w fun e w' => e = .returned (.tuple #[.string s, .int .i64 0]) ∧ w = w' := by
  have hl : ss.length = n := by simpa using hr.1
  have hkn : k < n := by rw [← hl]; exact (List.getElem?_eq_some_iff.1 hk).1
  obtain ⟨ad, x, rfl, hb, hx, hc⟩ := hr.str_at hkn
  obtain rfl : x = s := by rw [hk] at hx; injection hx with h; exact h.symm
  clear hl hx hk hr
  go_enter Try.func32, Try.ntmps32
  go_wp2
  go_ret2
  exact ⟨rfl, rfl⟩
end Go.Proofs.Ytmdclaahfndhdaa
